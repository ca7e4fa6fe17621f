/- slices.SortFunc of a row of the call's own comes to sortBy. -/
import Derived.Test.YthdoebgikbfndaaF8
import Derived.Test.YthdoebgikbfndaaSO0
import Derived.Shelf.SlSortCmp.NoneTotal
namespace Go.Proofs.Ythdoebgikbfndaa.E
open Go Go.RowKit
set_option linter.unusedVariables false

theorem Bel.grown {w w' : World} (h : Bel w.heap.size w w') : ∃ q os', w' = Go.Sort.grow (w.drewN q) os' := by
  refine ⟨w'.drawn - w.drawn, w'.heap.extract w.heap.size w'.heap.size, ?_⟩
  have e1 : w.drawn + (w'.drawn - w.drawn) = w'.drawn := by have := h.drw; omega
  have e2 : w.heap ++ w'.heap.extract w.heap.size w'.heap.size = w'.heap := by
    have hs := h.size
    apply Array.ext
    · simp; omega
    · intro i h1 h2
      by_cases hi : i < w.heap.size
      · rw [Array.getElem_append_left hi]
        have := h.block i hi
        rw [Array.getElem?_eq_getElem hi, Array.getElem?_eq_getElem h2] at this
        exact (Option.some.inj this).symm
      · rw [Array.getElem_append_right (by omega)]
        simp only [Array.getElem_extract]
        congr 1; omega
  obtain ⟨hp', tp', dr', os', out'⟩ := w'
  obtain ⟨hp, tp, dr, os, out⟩ := w
  have a1 := h.os; have a2 := h.tape; have a3 := h.output
  simp only at a1 a2 a3 e1 e2
  subst a1 a2 a3
  unfold Go.Sort.grow World.drewN
  simp only [e1, e2]

section
variable {α : Type} [Inhabited α] {k : Nat} {av : α → AV} {enc : α → List Value}
/-- How a struct of plain cells stands to its value. -/
structure Enc (k : Nat) (av : α → AV) (enc : α → List Value) : Prop where
  agg : ∀ x, av x = .agg (cells (av x))
  len : ∀ x, (cells (av x)).length = k
  elen : ∀ x, (enc x).length = k
  one : ∀ x, ∀ v ∈ enc x, v.oneCell' = true
  to : ∀ x p, p < k → ∀ ι v, V ι ((cells (av x)).getD p .undef) v → v = (enc x).getD p Go.undef
  of : ∀ x p, p < k → ∀ ι, V ι ((cells (av x)).getD p .undef) ((enc x).getD p Go.undef)
variable (E : Enc k av enc)
include E

omit [Inhabited α] in
theorem Enc.flat_len (l : List α) : (flat (l.map av)).length = l.length * k := by
  induction l with
  | nil => simp [flat]
  | cons a l ih =>
    have : flat ((a :: l).map av) = cells (av a) ++ flat (l.map av) := rfl
    rw [this, List.length_append, ih, E.len, List.length_cons, Nat.add_mul]; omega
theorem Enc.flat_get (l : List α) (t : Nat) (ht : t < l.length * k) : (flat (l.map av)).getD t .undef = (cells (av (l.getD (t / k) default))).getD (t % k) .undef := by
  induction l generalizing t with
  | nil => simp at ht
  | cons a l ih =>
    have he : flat ((a :: l).map av) = cells (av a) ++ flat (l.map av) := rfl
    have hk : 0 < k := by rcases Nat.eq_zero_or_pos k with h | h; · subst h; simp at ht
                          · exact h
    by_cases h1 : t < k
    · rw [he, Nat.div_eq_of_lt h1, Nat.mod_eq_of_lt h1]
      simp only [List.getD_eq_getElem?_getD]
      rw [List.getElem?_append_left (by rw [E.len]; exact h1)]
      simp
    · rw [List.length_cons, Nat.add_mul, Nat.one_mul] at ht
      obtain ⟨u, rfl⟩ : ∃ u, t = u + k := ⟨t - k, by omega⟩
      have := ih u (by omega)
      rw [he, Nat.add_div_right _ hk, Nat.add_mod_right]
      simp only [List.getD_eq_getElem?_getD] at this ⊢
      rw [List.getElem?_append_right (by rw [E.len]; omega), E.len, Nat.add_sub_cancel, this]
      simp
theorem Enc.flatK_get (l : List α) (t : Nat) (ht : t < l.length * k) : (Go.Sort.flatK enc k l.toArray)[t]! = (enc (l.getD (t / k) default)).getD (t % k) Go.undef := by
  have hk : 0 < k := by rcases Nat.eq_zero_or_pos k with h | h; · subst h; simp at ht
                        · exact h
  have h1 : t / k < l.length := Nat.div_lt_of_lt_mul (by rw [Nat.mul_comm]; exact ht)
  have h2 : t % k < k := Nat.mod_lt _ hk
  have e1 : l.toArray[t / k]! = l.getD (t / k) default := by
    rw [getElem!_pos _ _ (by simpa using h1)]
    simp [List.getD_eq_getElem?_getD, h1]
  rw [Go.Sort.get_flatK _ _ _ _ (by simpa using ht), e1]
  have h3 : t % k < (enc (l.getD (t / k) default)).length := by rw [E.elen]; exact h2
  generalize enc (l.getD (t / k) default) = ys at h3
  rw [getElem!_pos ys (t % k) h3]
  simp [List.getD_eq_getElem?_getD, h3]
end

/-- Where a row of the call's own was written anew, and draws and blocks came on. -/
theorem Rel.sorted {B : Base} {ι : Imm} {H : Heap} {w : World} (hr : Rel B ι H w) {b : Nat} {x : Blk} (hb : H b = some x) {F0 F : Array Value} (h0 : Go.Sort.Holds id w b x.lo F0) (hs : F.size = F0.size) {cs : List AV}
    (hl : cs.length = F.size) (hx : x.lo + F.size ≤ x.hi) (hV : ∀ p (h : p < cs.length), V ι cs[p] F[p]!) (m : Nat) (os : Array Obj) :
    Rel B ι (H.set b ⟨x.lo, cs, x.hi, none⟩) (Go.Sort.grow (Go.Sort.putRow id (Go.Sort.ahead w m) b x.lo F) os) := by
  have hlb := hr.lo b x hb
  have hsz : (Go.Sort.putRow id (Go.Sort.ahead w m) b x.lo F).heap.size = w.heap.size := by simp
  have heapO : ∀ c, c ≠ b → c < w.heap.size → (Go.Sort.grow (Go.Sort.putRow id (Go.Sort.ahead w m) b x.lo F) os).heap[c]? = w.heap[c]? := fun c hc hlt => by
    rw [Go.Sort.heap_grow_old _ _ (by rw [hsz]; exact hlt)]
    show ((Go.Sort.ahead w m).heap.modify b _)[c]? = _
    rw [Array.getElem?_modify, if_neg (fun h => hc h.symm)]; rfl
  have frz : ∀ c o, c < w.heap.size → (Go.Sort.grow (Go.Sort.putRow id (Go.Sort.ahead w m) b x.lo F) os).frozen? ⟨c, o, none⟩ = w.frozen? ⟨c, o, none⟩ := fun c o hlt => by
    rw [Go.Sort.frozen?_grow _ _ _ (by rw [hsz]; exact hlt), Go.Sort.frozen?_putRow]; rfl
  have cel : ∀ c o, c < w.heap.size → (c ≠ b ∨ o < x.lo ∨ x.lo + F.size ≤ o) → (Go.Sort.grow (Go.Sort.putRow id (Go.Sort.ahead w m) b x.lo F) os).cell? ⟨c, o, none⟩ = w.cell? ⟨c, o, none⟩ := fun c o hlt h => by
    rw [Go.Sort.cell?_grow _ _ _ (by rw [hsz]; exact hlt), Go.Sort.cell?_putRow_other _ _ _ _ _ _ h]; rfl
  have new : ∀ p, p < F.size → (Go.Sort.grow (Go.Sort.putRow id (Go.Sort.ahead w m) b x.lo F) os).cell? ⟨b, x.lo + p, none⟩ = some F[p]! := fun p hp => by
    rw [Go.Sort.cell?_grow _ _ _ (by rw [hsz]; exact hlb.2.1)]
    exact Go.Sort.cell?_putRow id (Go.Sort.ahead w m) b x.lo F0 F (Go.Sort.holds_ahead id w m b x.lo F0 h0) hs p hp
  have size' : (Go.Sort.grow (Go.Sort.putRow id (Go.Sort.ahead w m) b x.lo F) os).heap.size = w.heap.size + os.size := by rw [Go.Sort.size_grow, hsz]
  refine ⟨hr.below.trans ⟨⟨rfl, rfl, rfl, by rw [size']; omega, fun c hc => heapO c (by have := hlb.1; omega) (by have := hr.size; omega)⟩, Nat.le_add_right _ _⟩, by rw [size']; have := hr.size; omega, fun c o v h => ?_, hr.iold, fun c y h => ?_, fun c y h p hp => ?_, fun c y h o h1 h2 => ?_, fun c y h q hq => ?_⟩
  · have h1 := hr.imm c o v h
    rw [cel c o (blt h1)]
    · exact h1
    · by_cases hc : c = b
      · subst hc
        rcases Nat.lt_or_ge o x.lo with h2 | h2
        · exact .inr (.inl h2)
        · rcases Nat.lt_or_ge o x.hi with h3 | h3
          · rw [(hr.room c x hb o h2 h3).2.2] at h; cases h
          · exact .inr (.inr (by omega))
      · exact .inl hc
  · rw [size']
    by_cases hc : c = b
    · subst hc; rw [Heap.set_same] at h; cases h
      exact ⟨hlb.1, by have := hlb.2.1; omega, by rw [hl]; exact hx⟩
    · rw [Heap.set_ne _ _ hc] at h
      obtain ⟨h1, h2, h3⟩ := hr.lo c y h
      exact ⟨h1, by omega, h3⟩
  · by_cases hc : c = b
    · subst hc; rw [Heap.set_same] at h; cases h
      exact ⟨_, new p (by rw [← hl]; exact hp), hV p hp⟩
    · rw [Heap.set_ne _ _ hc] at h
      obtain ⟨v, h1, h2⟩ := hr.cell c y h p hp
      exact ⟨v, by rw [cel c _ (blt h1) (.inl hc)]; exact h1, h2⟩
  · by_cases hc : c = b
    · subst hc; rw [Heap.set_same] at h; cases h
      obtain ⟨⟨v, g1⟩, g2, g3⟩ := hr.room c x hb o h1 h2
      refine ⟨?_, by rw [frz c o hlb.2.1]; exact g2, g3⟩
      by_cases h3 : o < x.lo + F.size
      · obtain ⟨p, rfl⟩ : ∃ p, o = x.lo + p := ⟨o - x.lo, by simp only at h1; omega⟩
        exact ⟨_, new p (by omega)⟩
      · exact ⟨v, by rw [cel c o hlb.2.1 (.inr (.inr (by omega)))]; exact g1⟩
    · rw [Heap.set_ne _ _ hc] at h
      obtain ⟨⟨v, g1⟩, g2, g3⟩ := hr.room c y h o h1 h2
      exact ⟨⟨v, by rw [cel c o (blt g1) (.inl hc)]; exact g1⟩, by rw [frz c o (blt g1)]; exact g2, g3⟩
  · by_cases hc : c = b
    · subst hc; rw [Heap.set_same] at h; cases h; cases hq
    · rw [Heap.set_ne _ _ hc] at h
      exact ⟨(hr.obj c y h q hq).1, by rw [heapO c hc (hr.lo c y h).2.1]; exact (hr.obj c y h q hq).2⟩

theorem enters_callable {P : Program} {f : FuncId} (hc : callable P f = true) (args : Array Value) (w : World) : (callFunc f args).run P w = .ok (.enter f args) w := by
  unfold callable at hc
  split at hc
  · rename_i fn hfn
    simp only [Bool.and_eq_true, Bool.not_eq_true'] at hc
    exact run_callFunc hfn hc.1 hc.2
  · simp at hc
theorem V.fn0_inv {ι : Imm} {f : Fn} {v : Value} (h : V ι (.fn f [] []) v) : v = .func f #[] #[] := by
  obtain ⟨cs, ds, rfl, hl, hm, _, _⟩ := h.fn_inv
  rw [Array.eq_empty_of_size_eq_zero hl, Array.eq_empty_of_size_eq_zero hm]

/-- slices.SortFunc. -/
theorem HS.sort {P : Program} {ρ : Go.Shelf.Ren} {α : Type} [Inhabited α] (L : SlLaysF0.n6 P ρ) {k : Nat} {av : α → AV} {enc : α → List Value} (E : Enc k av enc)
    (aE : ∀ w, (isAgg (ρ.t 24)).run P w = .ok true w) (zE : ∀ w, (Go.sizeOf (ρ.t 24)).run P w = .ok k w) {l r : List α} {g : α → α → Option Int} (hF : sortBy l g = some r) {v : AV} {c : FuncId} (hc : callable P c = true)
    (hg : ∀ x y z, g x y = some z → PC P c [av x, av y] fun u => u = .int .i64 z) :
    HS P (ρ.f 6) [v, .fn (.func c) [] []] [.row k v (l.map av)] fun u L' => u = .tup [] ∧ L' = [.row k v (r.map av)] := by
  have hperm := (sortBy_spec hF).1
  unfold sortBy at hF
  split at hF
  case isFalse => cases hF
  rename_i hcond
  obtain ⟨htot, hswo, hlen⟩ := hcond
  have hF := Option.some.inj hF
  intro H S hS B ι w vs hr hv
  have hS1 : Own k H v (l.map av) := hS.1
  obtain ⟨hv1, hv2⟩ := hv
  have v0 : V ι v (vs.getD 0 Go.undef) := hv2 0 (by simp)
  have v1 : V ι (.fn (.func c) [] []) (vs.getD 1 Go.undef) := hv2 1 (by simp)
  have v1 := v1.fn0_inv
  have hvs : vs = #[vs.getD 0 Go.undef, vs.getD 1 Go.undef] := by
    have h1 : vs.size = 2 := hv1
    apply Array.ext
    · simpa using h1
    · intro i hi hj
      have : i = 0 ∨ i = 1 := by omega
      rcases this with rfl | rfl <;> simp [Array.getD, hi]
  rw [hvs, v1]
  have none_ : l = [] → ∀ p cap, vs.getD 0 Go.undef = .slice p 0 cap → Calls P (ρ.f 6) #[vs.getD 0 Go.undef, .func (.func c) #[] #[]] w fun x w' => ∃ v' r' κ G, x = .returned r' ∧ (∃ L', (v' = .tup [] ∧ L' = [Res.row k v (r.map av)]) ∧ Sep G (L' ++ [.snap S])) ∧ V κ v' r' ∧ ι.le κ ∧ Rel B κ G w' := fun he p cap ha => by
    subst he
    have hr0 : r = [] := by have := hperm.length_eq; exact List.eq_nil_of_length_eq_zero (by simpa using this)
    subst hr0
    rw [ha]
    refine (Go.Proofs.AnyF.slices_SortFunc_none L p cap _ w).mono ?_
    rintro e w' ⟨rfl, rfl⟩
    exact ⟨.tup [], _, ι, H, rfl, ⟨_, ⟨rfl, rfl⟩, hS⟩, .tup #[] rfl (fun p h => by simp at h), Imm.le_refl _, hr⟩
  obtain ⟨hs1, hs2⟩ := hS1
  rcases hs2 with ⟨rfl, hx⟩ | ⟨b, o, rfl, hx⟩ | ⟨b, o, cap, hi, rfl, g1, g2, g3, g4⟩
  · exact none_ (by simpa using hx) _ _ v0.nil_inv
  · exact none_ (by simpa using hx) _ _ v0.slc_inv
  · have hfl := E.flat_len l
    have hfr := E.flat_len r
    have hlr : r.length = l.length := hperm.length_eq
    have hlo := hr.lo b _ g1
    simp only [List.length_map] at g3
    have hH : Go.Sort.HoldsK enc k w b o l.toArray := fun j hj => by
      have hj : j < l.length * k := by simpa using hj
      have hj' : j < (flat (l.map av)).length := by rw [hfl]; exact hj
      have hk : 0 < k := by rcases Nat.eq_zero_or_pos k with h | h; · subst h; simp at hj
                            · exact h
      obtain ⟨u, u1, u2⟩ := hr.cell b _ g1 j hj'
      have e1 : (flat (l.map av))[j] = (cells (av (l.getD (j / k) default))).getD (j % k) .undef := by
        rw [← E.flat_get l j hj, List.getD_eq_getElem?_getD, List.getElem?_eq_getElem hj']; rfl
      rw [e1] at u2
      have e2 := E.to _ _ (Nat.mod_lt _ hk) _ _ u2
      refine ⟨?_, ?_⟩
      · rw [u1, e2, E.flatK_get l j hj]; rfl
      · have h3 : (flat (l.map av)).length ≤ hi - o := by have := hlo.2.2; simp only at this; omega
        exact (hr.room b _ g1 (o + j) (Nat.le_add_right _ _) (by simp only; omega)).2.1
    have hcmp : Go.Proofs.CmpLays P c #[] enc k (fun x y => (g x y).getD 0) b o l.toArray.size w := fun m os dk _ x y => by
      obtain ⟨z, hz⟩ : ∃ z, g x y = some z := by
        cases h : g x y with
        | none => exact absurd h (htot x y)
        | some z => exact ⟨z, rfl⟩
      have hE : ∀ x, V (fun _ _ => none) (av x) (.agg (enc x).toArray) := fun x => by
        rw [E.agg x]
        refine .agg _ (by simp [E.len, E.elen]) fun p hp => ?_
        have hp' : p < k := by rw [E.len] at hp; exact hp
        have := E.of x p hp' (fun _ _ => none)
        rw [List.getD_eq_getElem?_getD, List.getElem?_eq_getElem hp] at this
        have e3 : (enc x).toArray.getD p Go.undef = (enc x).getD p Go.undef := by
          rw [Array.getD_eq_getD_getElem?, List.getElem?_toArray, List.getD_eq_getElem?_getD]
        rw [e3]; exact this
      refine (hg x y z hz (fun _ _ => none) (Go.Proofs.sortWorldK enc k w b o m dk os) _ (fun _ _ _ h => by cases h) (Vs2 (hE x) (hE y))).mono ?_
      rintro e w' ⟨u, r', κ, rfl, rfl, q1, _, _, q2, _⟩
      refine ⟨by rw [q1.int_inv]; show _ = Ending.returned (.int .i64 ((g x y).getD 0)); rw [hz]; rfl, q2.grown⟩
    have hcon := Go.Proofs.AnyQ.slices_SortFunc_eq L k aE zE enc E.elen E.one (fun x y => (g x y).getD 0) hswo c #[] b o cap l.toArray w (enters_callable hc) hcmp hH hlo.2.1 (by simpa using hlen)
    have ha : vs.getD 0 Go.undef = .slice (some ⟨b, o, none⟩) l.toArray.size cap := by
      have := v0.slc_inv
      simpa using this
    rw [ha]
    refine hcon.mono ?_
    rintro e w' ⟨rfl, n, os, rfl⟩
    have hr' : Go.Sort.pdq (Go.Proofs.ltOf fun x y => (g x y).getD 0) l.toArray 0 l.toArray.size (Go.Lib.bitLen l.toArray.size) true true = r.toArray := by
      rw [← hF]; rfl
    rw [hr']
    have hRel := hr.sorted g1 hH (F := Go.Sort.flatK enc k r.toArray) (by simp [hlr]) (cs := flat (r.map av)) (by rw [hfr]; simp) (by have := hlo.2.2; simp only at this ⊢; rw [hfl] at this; rw [Go.Sort.size_flatK]; simp only [List.size_toArray]; rw [hlr]; omega) (fun p hp => by
      have hp1 : p < r.length * k := by rw [hfr] at hp; exact hp
      have hk : 0 < k := by rcases Nat.eq_zero_or_pos k with h | h; · subst h; simp at hp1
                            · exact h
      have e1 : (flat (r.map av))[p] = (cells (av (r.getD (p / k) default))).getD (p % k) .undef := by
        rw [← E.flat_get r p hp1, List.getD_eq_getElem?_getD, List.getElem?_eq_getElem hp]; rfl
      rw [e1, E.flatK_get r p hp1]
      exact E.of _ _ (Nat.mod_lt _ hk) _) n os
    refine ⟨.tup [], _, ι, _, rfl, ⟨_, ⟨rfl, rfl⟩, ?_⟩, .tup #[] rfl (fun p h => by simp at h), Imm.le_refl _, hRel⟩
    have hown : Own k (H.set b ⟨o, flat (r.map av), hi, none⟩) (.slc b o (l.map av).length cap) (r.map av) :=
      ⟨fun x hx => by obtain ⟨y, _, rfl⟩ := List.mem_map.mp hx; exact E.len y, .inr (.inr ⟨b, o, cap, hi, by simp [hlr], Heap.set_same _ _ _, g2, by simpa [hlr] using g3, g4⟩)⟩
    exact hS.upd (k := 0) rfl (r' := .row k _ (r.map av)) hown (fun c' x' hc' hx' => by
      rw [Heap.set_ne _ _ (fun h => hc' (by subst h; simp only [Res.blks, rowB]; rw [if_neg (by omega)]; simp))]; exact hx') (fun c' hc' => .inl hc')
end Go.Proofs.Ythdoebgikbfndaa.E
