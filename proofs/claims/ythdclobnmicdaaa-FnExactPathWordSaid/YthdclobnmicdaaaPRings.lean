/- Graphs told into rings: points that lead to each other bear one number. -/
import Derived.Test.YthdclobnmicdaaaDAutoLive
import Derived.Test.YthdclobnmicdaaaPGraph
namespace Go.Proofs.Ythdclobnmicdaaa
open Go Go.RowKit E
set_option linter.unusedVariables false

theorem reverse_eq (xs : List Int) (h : xs.length ≤ 1000000) : slices_Reverse_int_int xs = some xs.reverse := by
  unfold slices_Reverse_int_int
  have key := loop_inv (body := fun s : List Int × Int × Int => slices_Reverse_int_int.b0 s.1 s.2.1 s.2.2) (fun s => ∃ (y : List Int) (k : Nat), s = (y, (k : Int), (xs.length : Int) - 1 - k) ∧ y.length = xs.length ∧ 2 * k ≤ xs.length + 1 ∧
      ∀ j, j < xs.length → y.getD j default = if j < k ∨ xs.length ≤ j + k then xs.getD (xs.length - 1 - j) default else xs.getD j default) (fun s => xs.length - s.2.1.toNat) (fun r => r = xs.reverse) ?_ (s := (xs, 0, W ((xs.length : Int) - 1))) ⟨xs, 0, by rw [WE (by omega) (by omega)]; simp, rfl, by omega, fun j hj => by rw [if_neg (by omega)]⟩
  · obtain ⟨r, h1, rfl⟩ := key
    rw [h1]; rfl
  · rintro _ ⟨y, k, rfl, hy, hk, hg⟩
    dsimp only
    unfold slices_Reverse_int_int.b0
    by_cases c : (k : Int) < (xs.length : Int) - 1 - k
    · right
      have e : (xs.length : Int) - 1 - k = ((xs.length - 1 - k : Nat) : Int) := by omega
      rw [if_pos c, e, ix_nat (by omega), Option.bind_some, ix_nat (by omega), Option.bind_some, ck_nat (by omega), Option.bind_some, ck_nat (by simp; omega), Option.bind_some, WE (by omega) (by omega), WE (by omega) (by omega)]
      refine ⟨((y.set k (y.getD (xs.length - 1 - k) default)).set (xs.length - 1 - k) (y.getD k default), ((k + 1 : Nat) : Int), (xs.length : Int) - 1 - ((k + 1 : Nat) : Int)), ?_, ⟨_, k + 1, rfl, by simpa using hy, by omega, fun j hj => ?_⟩, by dsimp only; omega⟩
      · rw [show (((xs.length - 1 - k : Nat) : Int) - 1) = (xs.length : Int) - 1 - ((k + 1 : Nat) : Int) by omega]; rfl
      · rw [getD_set (by simp; omega), getD_set (by omega)]
        by_cases e1 : xs.length - 1 - k = j
        · rw [if_pos e1, hg k (by omega), if_neg (by omega), if_pos (by omega)]
          congr 1; omega
        · rw [if_neg e1]
          by_cases e2 : k = j
          · rw [if_pos e2, hg _ (by omega), if_neg (by omega), if_pos (by omega)]
            congr 1; omega
          · rw [if_neg e2, hg j hj]
            by_cases c2 : j < k ∨ xs.length ≤ j + k
            · rw [if_pos c2, if_pos (by omega)]
            · rw [if_neg c2, if_neg (by omega)]
    · left
      refine ⟨y, by rw [if_neg c], ?_⟩
      refine List.ext_getElem (by simp [hy]) fun j h1 h2 => ?_
      have := hg j (by omega)
      have e1 : y.getD j default = y[j] := by simp [List.getD_eq_getElem?_getD, h1]
      rw [e1] at this
      rw [this, List.getElem_reverse]
      have hj : xs.length - 1 - j < xs.length := by omega
      by_cases c2 : j < k ∨ xs.length ≤ j + k
      · rw [if_pos c2]; simp [List.getD_eq_getElem?_getD, hj]
      · rw [if_neg c2]
        have : xs.length - 1 - j = j := by omega
        simp [List.getD_eq_getElem?_getD, show j < xs.length by omega, this]

/-- The order of a search down. -/
abbrev places (rs : List (Nat × Nat)) : List Tplace := (rs.map fun x => Tplace.mk (x.1 : Int) (x.2 : Int)).reverse
theorem places_cons (x : Nat × Nat) (rs : List (Nat × Nat)) : places (x :: rs) = places rs ++ [Tplace.mk (x.1 : Int) (x.2 : Int)] := by simp
theorem places_len (rs : List (Nat × Nat)) : (places rs).length = rs.length := by simp
theorem finished_eq {g : List (List Tstep)} (h : GOk g) : ∃ order, impl_graph_finished ⟨g⟩ = some (ints order) ∧ Fins (adjG g) g.length order := by
  have hlen := h.len
  unfold impl_graph_finished
  dsimp only
  rw [mk_ok (by omega) (by omega), Option.bind_some, Int.toNat_natCast]
  have key := loop_inv (body := fun s : List Int × List Bool × Int => impl_graph_finished.b0 ⟨g⟩ s.1 s.2.1 s.2.2) (fun s => ∃ order seen k, s = (ints order, seen, ((k : Nat) : Int)) ∧ Dfs (adjG g) g.length order [] seen ∧ k ≤ g.length ∧ ∀ v, v < k → seen.getD v default = true) (fun s => g.length - s.2.2.toNat)
    (fun r => ∃ order, r = ints order ∧ Fins (adjG g) g.length order) ?_ (s := ([], List.replicate g.length false, 0)) ⟨[], _, 0, rfl, Dfs.start, Nat.zero_le _, fun v hv => absurd hv (by omega)⟩
  · obtain ⟨r, h1, order, rfl, h2⟩ := key
    rw [h1]
    exact ⟨order, rfl, h2⟩
  · rintro _ ⟨order, seen, k, rfl, hD, hk, hs⟩
    dsimp only
    have hsl : seen.length = g.length := hD.len
    by_cases c : k < g.length
    · right
      unfold impl_graph_finished.b0
      rw [if_pos (by dsimp only; omega), ix_nat (by omega), Option.bind_some]
      by_cases c2 : seen.getD k default = true
      · rw [if_pos c2]
        unfold impl_graph_finished.k1
        rw [WS (by omega)]
        refine ⟨_, rfl, ⟨order, seen, k + 1, rfl, hD, by omega, fun v hv => ?_⟩, by dsimp only; omega⟩
        by_cases e : v = k
        · subst e; exact c2
        · exact hs v (by omega)
      · rw [if_neg c2, ck_nat (by omega), Option.bind_some]
        rw [Bool.not_eq_true] at c2
        have hD1 := hD.root c c2
        have key2 := loop_inv (body := fun s : List Int × List Bool × List Tplace => impl_graph_finished.b1 ⟨g⟩ s.1 s.2.1 s.2.2) (fun s => ∃ order rs seen', s = (ints order, seen', places rs) ∧ Dfs (adjG g) g.length order rs seen' ∧ (∀ v, v < g.length → seen.getD v default = true → seen'.getD v default = true) ∧ seen'.getD k default = true)
          (fun s => unseen s.2.1 * (2 * 1000000 + 3) + (s.2.2.map fun x => 2 * ((adjG g x.point.toNat).length - x.at_.toNat) + 1).sum)
          (fun r => ∃ order seen', r = (ints order, seen') ∧ Dfs (adjG g) g.length order [] seen' ∧ (∀ v, v < g.length → seen.getD v default = true → seen'.getD v default = true) ∧ seen'.getD k default = true) ?_ (s := (ints order, seen.set k true, [Tplace.mk (k : Int) 0])) ⟨order, [(k, 0)], _, rfl, hD1, fun v hv g' => by rw [seen_set (by omega)]; exact .inr g', by rw [seen_set (by omega)]; exact .inl rfl⟩
        · obtain ⟨_, h1, order', seen', rfl, h2, h3, h4⟩ := key2
          rw [h1, Option.bind_some]
          unfold impl_graph_finished.k1
          rw [WS (by omega)]
          refine ⟨_, rfl, ⟨order', seen', k + 1, rfl, h2, by omega, fun v hv => ?_⟩, by dsimp only; omega⟩
          by_cases e : v = k
          · subst e; exact h4
          · exact h3 v (by omega) (hs v (by omega))
        · rintro _ ⟨order, rs, seen', rfl, hD, hm, hkk⟩
          dsimp only
          have hsl' : seen'.length = g.length := hD.len
          have hmu : ∀ rs : List (Nat × Nat), ((places rs).map fun x => 2 * ((adjG g x.point.toNat).length - x.at_.toNat) + 1).sum = (rs.map fun x => 2 * ((adjG g x.1).length - x.2) + 1).sum := fun rs => by
            simp only [places, List.map_reverse, List.sum_reverse, List.map_map, Function.comp_def, Int.toNat_natCast]
          rw [hmu]
          unfold impl_graph_finished.b1
          cases rs with
          | nil =>
            left
            refine ⟨(ints order, seen'), by rw [if_neg (by simp)], order, seen', rfl, hD, hm, hkk⟩
          | cons x rs =>
            right
            obtain ⟨p, at_⟩ := x
            have hnd := nodup_le hD.nd hD.lt
            have hpn : p < g.length := hD.lt p (by simp)
            have hord : order.length + (rs.length + 1) ≤ g.length := by simpa using hnd
            have hpl : (places ((p, at_) :: rs)).length = rs.length + 1 := by simp
            have htop : (places ((p, at_) :: rs)).getD rs.length default = Tplace.mk (p : Int) (at_ : Int) := by
              rw [places_cons, List.getD_eq_getElem?_getD, List.getElem?_append_right (by simp)]; simp
            have hset : ∀ t, (places ((p, at_) :: rs)).set rs.length t = places rs ++ [t] := fun t => by
              rw [places_cons, List.set_append_right _ _ (by simp)]; simp
            have hat := (hD.at_ (p, at_) List.mem_cons_self).1
            have hrp := h.row p hpn
            have hadl : (adjG g p).length = (g.getD p default).length := by simp [adjG]
            dsimp only at hat
            rw [hpl, if_pos (by omega), show (((rs.length + 1 : Nat) : Int) - 1) = (rs.length : Int) by omega, WE (by omega) (by omega), ck_nat (by omega), Option.bind_some, htop]
            dsimp only
            rw [ix_nat hpn, Option.bind_some]
            by_cases c3 : at_ = (g.getD p default).length
            · rw [if_pos (by rw [c3]), app_small (by simp; omega) (by decide), Option.bind_some]
              have hcut : cut (places ((p, at_) :: rs)) 0 (rs.length : Int) = some (places rs) := by
                unfold cut
                rw [if_pos ⟨by omega, by omega, by rw [hpl]; omega⟩, places_cons]; simp
              rw [hcut, Option.bind_some]
              refine ⟨_, rfl, ⟨order ++ [p], rs, seen', by rw [ints_snoc], hD.pop (by omega) h.adj, hm, hkk⟩, ?_⟩
              dsimp only
              rw [hmu]
              exact dfsMu_pop (D := 1000000) (adj := adjG g)
            · rw [if_neg (by omega)]
              have hlt : at_ < (g.getD p default).length := by omega
              have hmem := getD_memL hlt
              have hto := h.to_ p hpn _ hmem
              have hval : (adjG g p).getD at_ 0 = ((g.getD p default).getD at_ default).to_.toNat := by
                have : ∀ (L : List Tstep) (i : Nat), i < L.length → (L.map fun s => s.to_.toNat).getD i 0 = (L.getD i default).to_.toNat := fun L i hi => by simp [List.getD_eq_getElem?_getD, hi]
                exact this _ _ hlt
              rw [Option.bind_some, ix_nat hlt, Option.bind_some, ix_ok hto.1 (by omega), Option.bind_some, hset, WS (by omega)]
              by_cases c4 : seen'.getD ((g.getD p default).getD at_ default).to_.toNat default = true
              · rw [if_neg (by rw [c4]; simp)]
                refine ⟨_, rfl, ⟨order, (p, at_ + 1) :: rs, seen', by rw [places_cons], hD.next (by omega) (by rw [hval]; exact c4), hm, hkk⟩, ?_⟩
                dsimp only
                rw [← places_cons (p, at_ + 1), hmu]
                exact dfsMu_next (D := 1000000) (adj := adjG g) (by omega)
              · rw [Bool.not_eq_true] at c4
                rw [if_pos (by rw [c4]; rfl), ck_ok hto.1 (by omega), Option.bind_some, app_small (by simp; omega) (by decide), Option.bind_some]
                refine ⟨_, rfl, ⟨order, (((g.getD p default).getD at_ default).to_.toNat, 0) :: (p, at_ + 1) :: rs, _, ?_, hD.push (by omega) hval (by omega) c4, fun v hv gv => ?_, ?_⟩, ?_⟩
                · rw [places_cons, places_cons, Int.toNat_of_nonneg hto.1]; rfl
                · rw [seen_set (by omega)]; exact .inr (hm v hv gv)
                · rw [seen_set (by omega)]; exact .inr hkk
                · dsimp only
                  have e : places rs ++ [{ point := (p : Int), at_ := ((at_ + 1 : Nat) : Int) }] ++ [{ point := ((g.getD p default).getD at_ default).to_, at_ := 0 }] = places ((((g.getD p default).getD at_ default).to_.toNat, 0) :: (p, at_ + 1) :: rs) := by
                    rw [places_cons, places_cons, Int.toNat_of_nonneg hto.1]; rfl
                  rw [e, hmu]
                  have hrow := h.row _ (show ((g.getD p default).getD at_ default).to_.toNat < g.length by omega)
                  exact dfsMu_push (D := 1000000) (adj := adjG g) (by omega) (by simpa [adjG] using hrow) (by omega) c4
    · left
      refine ⟨ints order, ?_, order, rfl, hD.fins fun v hv => hs v (by omega)⟩
      unfold impl_graph_finished.b0
      rw [if_neg (by dsimp only; omega)]
/-- All points told into rings. -/
structure IsRings (g : List (List Tstep)) (out : List Int) : Prop where
  len : out.length = g.length
  pos : ∀ v, v < g.length → 0 ≤ out.getD v default ∧ out.getD v default < g.length
  iff : ∀ u v, u < g.length → v < g.length → (out.getD u default = out.getD v default ↔ Mut (adjG g) u v)
theorem rings_eq {g gt : List (List Tstep)} (h : GOk g) (ht : impl_graph_back ⟨g⟩ = some ⟨gt⟩) (hgt : GOk gt) (hl : gt.length = g.length) (hrad : ∀ p u, p < g.length → u < g.length → (u ∈ adjG gt p ↔ p ∈ adjG g u)) : ∃ out, impl_graph_rings ⟨g⟩ = some out ∧ IsRings g out := by
  have hlen := h.len
  obtain ⟨order, ho, hF⟩ := finished_eq h
  have hol : order.length = g.length := by
    have h1 := nodup_le hF.nd hF.lt
    have h2 : (List.range g.length).length ≤ order.length := by
      refine List.Nodup.length_le_of_subset List.nodup_range fun v hv => hF.all v (List.mem_range.mp hv)
    simp at h2; omega
  unfold impl_graph_rings
  rw [ho, Option.bind_some, ht, Option.bind_some]
  dsimp only
  rw [mk_ok (by omega) (by omega), Option.bind_some, Int.toNat_natCast, fill_loop (0 : Int) (-1) g.length (fun k y hk hy => by
    unfold impl_graph_rings.b3
    rw [if_pos (by simp; omega)]
    dsimp only
    rw [ck_nat (by omega), Option.bind_some, WS (by omega)]) (fun y hy => by unfold impl_graph_rings.b3; rw [if_neg (by simp)]), Option.bind_some]
  unfold impl_graph_rings.k0
  have hrev : (ints order).reverse = ints order.reverse := by simp [List.map_reverse]
  rw [reverse_eq _ (by simp; omega), Option.bind_some, hrev]
  have hrl : order.reverse.length = g.length := by simp [hol]
  have hrn : ∀ k, k < g.length → order.reverse.getD k 0 < g.length := fun k hk => hF.lt _ (by
    have : order.reverse.getD k 0 ∈ order.reverse := getD_mem (by omega)
    simpa using this)
  have key := loop_inv (body := fun s : List Int × Int => impl_graph_rings.b0 (ints order.reverse) ⟨gt⟩ s.1 s.2) (fun s => ∃ out k, s = (out, ((k : Nat) : Int)) ∧ Rings (adjG g) g.length order.reverse k out ∧ k ≤ g.length) (fun s => g.length - s.2.toNat) (fun r => IsRings g r) ?_ (s := (List.replicate g.length (-1), 0)) ⟨_, 0, rfl, Rings.start, Nat.zero_le _⟩
  · obtain ⟨r, h1, h2⟩ := key
    rw [h1]
    exact ⟨r, rfl, h2⟩
  · rintro _ ⟨out, k, rfl, hR, hk⟩
    have hlo := hR.len
    dsimp only
    by_cases c : k < g.length
    · right
      have hr := hrn k c
      unfold impl_graph_rings.b0
      rw [if_pos (by simp; omega), ints_get (by omega), Option.bind_some, ix_nat (by omega), Option.bind_some]
      by_cases c2 : out.getD (order.reverse.getD k 0) default ≥ 0
      · rw [if_pos c2]
        unfold impl_graph_rings.k2
        rw [WS (by omega)]
        exact ⟨_, rfl, ⟨out, k + 1, rfl, hR.skip hr c2, by omega⟩, by dsimp only; omega⟩
      · rw [if_neg c2, ck_nat (by omega), Option.bind_some]
        have hfl0 := Flood.start (adj := adjG g) (radj := adjG gt) (ring := (k : Int)) hr hlo (by omega) (by omega)
        have key2 := loop_inv (body := fun s : List Int × List Int => impl_graph_rings.b1 ⟨gt⟩ (k : Int) s.1 s.2) (fun s => ∃ o q, s = (o, ints q) ∧ Flood (adjG g) (adjG gt) g.length (order.reverse.getD k 0) (k : Int) out (fun _ => False) (o, q) ∧ 2 * unset o + q.length ≤ 2 * g.length + 1) (fun s => 2 * unset s.1 + s.2.length)
          (fun r => Flood (adjG g) (adjG gt) g.length (order.reverse.getD k 0) (k : Int) out (fun _ => False) (r, [])) ?_ (s := (out.set (order.reverse.getD k 0) (k : Int), [((order.reverse.getD k 0 : Nat) : Int)])) ⟨_, [order.reverse.getD k 0], rfl, hfl0, by
          have h1 := unset_set (d := (k : Int)) (by omega) (s := out) (v := order.reverse.getD k 0) (by omega) (by omega)
          have h2 : unset out ≤ out.length := by unfold unset; exact List.countP_le_length
          simp only [List.length_singleton]; omega⟩
        · obtain ⟨r, h1, h2⟩ := key2
          rw [h1, Option.bind_some]
          unfold impl_graph_rings.k2
          rw [WS (by omega)]
          exact ⟨_, rfl, ⟨r, k + 1, rfl, hR.flood hF h.adj (fun p u hp hu hm => (hrad p u hp hu).mpr hm) (by omega) (by omega) h2, by omega⟩, by dsimp only; omega⟩
        · rintro _ ⟨o, q, rfl, hfl, hq⟩
          dsimp only
          unfold impl_graph_rings.b1
          rcases List.eq_nil_or_concat q with rfl | ⟨q, p, rfl⟩
          · left
            exact ⟨o, by rw [if_neg (by simp)], hfl⟩
          · right
            rw [List.concat_eq_append] at hfl hq ⊢
            have hpn : p < g.length := (hfl.stk p (by simp)).1
            have hlo' : o.length = g.length := hfl.len
            have hql : (ints (q ++ [p])).length = q.length + 1 := by simp
            have hq' : 2 * unset o + (q.length + 1) ≤ 2 * g.length + 1 := by simpa using hq
            rw [hql, if_pos (by omega), show (((q.length + 1 : Nat) : Int) - 1) = (q.length : Int) by omega, WE (by omega) (by omega)]
            have hix : ix (ints (q ++ [p])) (q.length : Int) = some (p : Int) := by rw [ints_get (by simp)]; simp [List.getD_eq_getElem?_getD]
            have hcut : cut (ints (q ++ [p])) 0 (q.length : Int) = some (ints q) := by
              unfold cut
              rw [if_pos ⟨by omega, by omega, by rw [hql]; omega⟩]; simp
            rw [hix, Option.bind_some, hcut, Option.bind_some]
            have hpg : p < gt.length := by omega
            rw [show ix gt (p : Int) = some (gt.getD p default) from ix_nat hpg, Option.bind_some]
            have hrow := hgt.row p hpg
            have hst := hfl.step (by omega) (fun p hp u hu => ⟨by have := hgt.adj p (by omega) u hu; omega, (hrad p u hp (by have := hgt.adj p (by omega) u hu; omega)).mp hu⟩)
            have hme := pour_meas (d := (k : Int)) (by omega) (l := adjG gt p) (s := (o, q)) (fun u hu => by dsimp only; have := hgt.adj p hpg u hu; omega)
            have e2 := pour_loop (body := fun s : List Int × List Int × Int => impl_graph_rings.b2 (gt.getD p default) (k : Int) s.1 s.2.1 s.2.2) (gt.getD p default) (fun s => s.to_.toNat) (k : Int) 3000000 (fun o => o.length = g.length)
              (fun o u h1 hu hneg => by simpa using h1) (fun o h1 a ha => by have := hgt.to_ p hpg a ha; rw [h1]; omega) (fun j o q' hj h1 hq => ?_) (fun o q h1 => by unfold impl_graph_rings.b2; rw [if_neg (by simp)]) o q hlo' (by omega)
            · rw [e2, Option.bind_some]
              have hme' : 2 * unset (pour (k : Int) (adjG gt p) (o, q)).1 + (pour (k : Int) (adjG gt p) (o, q)).2.length ≤ 2 * unset o + q.length := hme
              clear hme e2
              have hP : pour (k : Int) ((gt.getD p default).map fun s => s.to_.toNat) (o, q) = pour (k : Int) (adjG gt p) (o, q) := rfl
              rw [hP]
              generalize pour (k : Int) (adjG gt p) (o, q) = P at hst hme'
              refine ⟨(P.1, ints P.2), rfl, ⟨P.1, P.2, rfl, hst, by omega⟩, ?_⟩
              show 2 * unset P.1 + (ints P.2).length < 2 * unset o + (q.length + 1)
              rw [List.length_map]
              omega
            · have h1a : o.length = g.length := h1
              have hto := hgt.to_ p hpg _ (getD_memL hj)
              unfold impl_graph_rings.b2
              rw [if_pos (by dsimp only; omega)]
              dsimp only
              rw [ix_nat hj, Option.bind_some, ix_ok hto.1 (by omega), Option.bind_some]
              by_cases c4 : o.getD ((gt.getD p default).getD j default).to_.toNat default < 0
              · rw [if_pos c4, if_pos c4, ck_ok hto.1 (by omega), Option.bind_some, app_small (by simp; omega) (by decide), Option.bind_some, WS (by omega), ints_snoc, Int.toNat_of_nonneg hto.1]
              · rw [if_neg c4, if_neg c4, WS (by omega)]
    · left
      have hkn : k = g.length := by omega
      refine ⟨out, ?_, hlo, fun v hv => ?_, fun u v hu hv => ?_⟩
      · unfold impl_graph_rings.b0
        rw [if_neg (by simp; omega)]
      · have hin := hF.all v hv
        obtain ⟨j, hj, e⟩ := List.getElem_of_mem (List.mem_reverse.mpr hin)
        have : order.reverse.getD j 0 = v := by rw [List.getD_eq_getElem?_getD, List.getElem?_eq_getElem hj, e]; rfl
        have h2 := hR.lt v hv
        exact ⟨(hR.dom v hv).mpr ⟨j, by omega, by rw [this]; exact .refl v⟩, by omega⟩
      · have pos : ∀ v, v < g.length → 0 ≤ out.getD v default := fun v hv => by
          obtain ⟨j, hj, e⟩ := List.getElem_of_mem (List.mem_reverse.mpr (hF.all v hv))
          have : order.reverse.getD j 0 = v := by rw [List.getD_eq_getElem?_getD, List.getElem?_eq_getElem hj, e]; rfl
          exact (hR.dom v hv).mpr ⟨j, by omega, by rw [this]; exact .refl v⟩
        exact hR.eq u v hu hv (pos u hu) (pos v hv)
end Go.Proofs.Ythdclobnmicdaaa
