/- Rows that a call owns, element by element; fresh rows as results. -/
import Derived.Test.YthdoebgikbfndaaE8
namespace Go.Proofs.Ythdoebgikbfndaa.E
open Go Go.RowKit
set_option linter.unusedVariables false

/-- Handed back: a row of memory of its own; all that was there stands as it stood. -/
def Fresh (s : Nat) (H : Heap) (v : AV) (G : Heap) (xs : List AV) : Prop := Own s G v xs ∧ (∀ c x, H c = some x → G c = some x) ∧ ∀ c ∈ rowB v, H c = none

theorem V.own {B : Base} {κ : Imm} {G : Heap} {w : World} {s : Nat} {v : AV} {xs : List AV} {r : Value} (hr : Rel B κ G w) (ho : Own s G v xs) (hv : V κ v r) : ∃ μ, κ.le μ ∧ V μ (.list s xs) r ∧ Rel B μ (fun c => if c ∈ rowB v then none else G c) w := by
  obtain ⟨h1, h2⟩ := ho
  have less : Rel B κ (fun c => if c ∈ rowB v then none else G c) w := hr.less fun c x h => by
    split at h
    · exact absurd h (by simp)
    · exact h
  rcases h2 with ⟨rfl, rfl⟩ | ⟨b, o, rfl, rfl⟩ | ⟨b, o, cap, hi, rfl, g1, g2, g3, g4⟩
  · exact ⟨κ, Imm.le_refl _, by rw [hv.nil_inv]; exact .listNil _ _ _, less⟩
  · exact ⟨κ, Imm.le_refl _, by rw [hv.slc_inv]; exact .listNil _ _ _, less⟩
  · obtain ⟨μ, k1, k2, k3⟩ := hr.freeze g1
    refine ⟨μ, k1, Fz.V k3 (.row rfl g3 h1 rfl) (hv.mono k1), k2.less fun c x h => ?_⟩
    split at h
    · exact absurd h (by simp)
    · rename_i hc
      have : c ≠ b := fun e => hc (by subst e; simp [rowB]; omega)
      rw [Heap.del_ne _ this]; exact h

/-- A fresh row that nobody writes. -/
theorem PC.own {P : Program} {f : FuncId} {as : List AV} {s : Nat} {xs : List AV} (h : ∀ H, HC P f as H fun v G => Fresh s H v G xs) : PC P f as fun v => v = .list s xs := by
  refine PC.of ?_
  intro B ι w vs hr hv
  refine (h _ B ι w vs hr hv).mono ?_
  rintro x w' ⟨v, r, κ, G, h1, h2, h3, h4, h5⟩
  obtain ⟨μ, k1, k2, k3⟩ := V.own h5 h2.1 h3
  exact ⟨.list s xs, r, μ, _, h1, rfl, k2, Imm.le_trans h4 k1, k3⟩

section
variable {P : Program} {o : Oper} {e : Env} {H : Heap} {K : AV → Heap → Prop}

theorem opIndexAddrN {t el s b q l c : Nat} {x y : Operand} {k : IntKind} {i : Nat} (ho : o.op = .indexAddr t x y) (hx : ev e x = .slc b q l c) (hy : ev e y = .int k (i : Int))
    (ht : elemA P t = some el) (hs : sizeA P el = some s) (h1 : i < l) : Light P o e H (.ptr b (q + i * s)) [] :=
  opIndexAddr ho hx hy ht hs (by omega) (by omega) rfl

theorem Own.blk {s b o n cap : Nat} {xs : List AV} (h : Own s H (.slc b o n cap) xs) (hn : 0 < xs.length) : n = xs.length ∧ ∃ hi, H b = some ⟨o, flat xs, hi, none⟩ ∧ o + cap * s ≤ hi ∧ xs.length ≤ cap ∧ (∀ x ∈ xs, (cells x).length = s) ∧ 0 < cap := by
  obtain ⟨h1, h2⟩ := h
  rcases h2 with ⟨h, _⟩ | ⟨_, _, _, h⟩ | ⟨b', o', cap', hi, h, g1, g2, g3, g4⟩
  · exact absurd h (by simp)
  · rw [h] at hn; simp at hn
  · simp only [AV.slc.injEq] at h
    obtain ⟨rfl, rfl, rfl, rfl⟩ := h
    exact ⟨rfl, hi, g1, g2, g3, h1, g4⟩

theorem Own.alive {s b q l c : Nat} {xs : List AV} (h : Own s H (.slc b q l c) xs) (hn : 0 < xs.length) : H b ≠ none := by
  obtain ⟨_, hh, g1, _⟩ := h.blk hn
  rw [g1]; simp

theorem opLoadOwnC {t b q l c s i j : Nat} {x : Operand} {u v : AV} {xs : List AV} (ho : o.op = .load t x) (ht : aggA P t = some false) (hx : ev e x = .ptr b (q + i * s + j)) (hO : Own s H (.slc b q l c) xs) (hv : xs[i]? = some v) (hu : (cells v)[j]? = some u) : Light P o e H u [b] := by
  obtain ⟨hi, hq⟩ := List.getElem?_eq_some_iff.mp hv
  obtain ⟨_, hh, g1, _, _, g4, _⟩ := hO.blk (by omega)
  obtain ⟨hj, _⟩ := List.getElem?_eq_some_iff.mp hu
  rw [g4 v (List.mem_of_getElem? hv)] at hj
  refine opLoad ho ht hx g1 (p := i * s + j) (by simp; omega) ?_
  rw [flat_get g4 i v hv j hj]; exact hu
theorem opLoadOwn {t b q l c i : Nat} {x : Operand} {v : AV} {xs : List AV} (ho : o.op = .load t x) (ht : aggA P t = some false) (hx : ev e x = .ptr b (q + i * 1)) (hO : Own 1 H (.slc b q l c) xs) (hv : xs[i]? = some v) (hu : cells v = [v]) : Light P o e H v [b] :=
  opLoadOwnC ho ht (j := 0) (by rw [hx]; rfl) hO hv (by rw [hu]; rfl)
/-- An element of a row of whole numbers, or of other things of one kind. -/
theorem opLoadOwnM {α : Type} [Inhabited α] {f : α → AV} {t b q l c i : Nat} {x : Operand} {zs : List α} (ho : o.op = .load t x) (ht : aggA P t = some false) (hx : ev e x = .ptr b (q + i * 1)) (hO : Own 1 H (.slc b q l c) (zs.map f)) (hi : i < zs.length) (hu : ∀ a, cells (f a) = [f a]) : Light P o e H (f (zs.getD i default)) [b] :=
  opLoadOwn ho ht hx hO (by simp [hi]) (hu _)
theorem opLoadOwnI {k : IntKind} {t b q l c i : Nat} {x : Operand} {zs : List Int} (ho : o.op = .load t x) (ht : aggA P t = some false) (hx : ev e x = .ptr b (q + i * 1)) (hO : Own 1 H (.slc b q l c) (zs.map (AV.int k))) (hi : i < zs.length) : Light P o e H (.int k (zs.getD i 0)) [b] :=
  opLoadOwnM ho ht hx hO hi (fun _ => rfl)
theorem opLoadOwnA {t b q l c s i : Nat} {x : Operand} {ys : List AV} {xs : List AV} (ho : o.op = .load t x) (ht : aggA P t = some true) (hs : sizeA P t = some s) (hx : ev e x = .ptr b (q + i * s)) (hO : Own s H (.slc b q l c) xs) (hv : xs[i]? = some (.agg ys)) : Light P o e H (.agg ys) [b] := by
  obtain ⟨hi, hq⟩ := List.getElem?_eq_some_iff.mp hv
  obtain ⟨_, hh, g1, _, _, g4, _⟩ := hO.blk (by omega)
  have hl := flat_length g4
  have hys : ys.length = s := g4 _ (List.mem_of_getElem? hv)
  have hle : i * s + s ≤ (flat xs).length := by
    rw [hl]
    have : (i + 1) * s ≤ xs.length * s := Nat.mul_le_mul_right _ hi
    rw [Nat.add_mul] at this; omega
  refine opLoadA ho ht hs hx g1 (p := i * s) (by simp) hle ?_
  congr 1
  apply List.ext_getElem?
  intro j
  by_cases hj : j < s
  · rw [List.getElem?_take_of_lt hj, List.getElem?_drop, flat_get g4 i _ hv j hj]; rfl
  · rw [List.getElem?_eq_none (by omega), List.getElem?_eq_none (by simp; omega)]

theorem setAll_get : ∀ (l cs : List AV) (p j : Nat), (setAll cs p l)[j]? = if p ≤ j ∧ j < p + l.length ∧ j < cs.length then l[j - p]? else cs[j]?
  | [], cs, p, j => by simp [setAll]; intro h1 h2; omega
  | v :: r, cs, p, j => by
    simp only [setAll]
    rw [setAll_get r]
    simp only [List.length_set, List.length_cons]
    by_cases h : j = p
    · subst h
      rw [if_neg (by omega)]
      by_cases hj : j < cs.length
      · rw [if_pos (by omega)]; simp [hj]
      · rw [if_neg (by omega), List.getElem?_eq_none (by simp; omega), List.getElem?_eq_none (by omega)]
    · by_cases h2 : p + 1 ≤ j ∧ j < p + 1 + r.length ∧ j < cs.length
      · rw [if_pos h2, if_pos (by omega)]
        rw [show j - p = (j - (p + 1)) + 1 by omega]; simp
      · rw [if_neg h2, List.getElem?_set_ne (fun k => h k.symm)]
        by_cases h3 : p ≤ j ∧ j < p + (r.length + 1) ∧ j < cs.length
        · omega
        · rw [if_neg h3]

theorem flat_set {s : Nat} {xs : List AV} (hs : ∀ x ∈ xs, (cells x).length = s) {i : Nat} (hi : i < xs.length) {u : AV} (hu : (cells u).length = s) : setAll (flat xs) (i * s) (cells u) = flat (xs.set i u) := by
  have hs' : ∀ x ∈ xs.set i u, (cells x).length = s := by
    intro x hx
    rcases List.mem_or_eq_of_mem_set hx with h | h
    · exact hs x h
    · rw [h]; exact hu
  have hl := flat_length hs
  have hl' := flat_length hs'
  simp at hl'
  apply List.ext_getElem?
  intro j
  rw [setAll_get, hu]
  by_cases hj : j < xs.length * s
  · obtain ⟨k, q, hk, hq, rfl, h1⟩ := flat_split hs (p := j) (by omega)
    obtain ⟨k', q', hk', hq', he, h2⟩ := flat_split hs' (p := k * s + q) (by omega)
    have hkk : k = k' := by
      have e1 : (k * s + q) / s = k := by rw [Nat.mul_comm, Nat.mul_add_div (by omega), Nat.div_eq_of_lt hq]; omega
      have e2 : (k' * s + q') / s = k' := by rw [Nat.mul_comm, Nat.mul_add_div (by omega), Nat.div_eq_of_lt hq']; omega
      rw [← e1, he, e2]
    subst hkk
    have hqq : q = q' := by omega
    subst hqq
    rw [h2, List.getElem_set]
    by_cases hki : i = k
    · subst hki
      rw [if_pos rfl, if_pos (by omega)]
      congr 1; omega
    · rw [if_neg hki, ← h1, if_neg]
      rintro ⟨g1, g2, _⟩
      rcases Nat.lt_or_ge i k with h | h
      · have : (i + 1) * s ≤ k * s := Nat.mul_le_mul_right _ h
        rw [Nat.add_mul] at this; omega
      · have : (k + 1) * s ≤ i * s := Nat.mul_le_mul_right _ (by omega)
        rw [Nat.add_mul] at this; omega
  · rw [if_neg (by omega), List.getElem?_eq_none (by omega), List.getElem?_eq_none (by omega)]

theorem Own.set {s b q n c hi : Nat} {xs : List AV} (hb : H b = some ⟨q, flat xs, hi, none⟩) (g2 : q + c * s ≤ hi) (g3 : xs.length ≤ c) (g4 : ∀ x ∈ xs, (cells x).length = s) (g5 : 0 < c) (hn : n = xs.length) {i : Nat} (hi' : i < xs.length) {u : AV} (hu : (cells u).length = s) :
    Own s (H.set b ⟨q, setAll (flat xs) (i * s) (cells u), hi, none⟩) (.slc b q n c) (xs.set i u) := by
  refine ⟨fun x hx => ?_, .inr (.inr ⟨b, q, c, hi, by simp [hn], ?_, g2, by simpa using g3, g5⟩)⟩
  · rcases List.mem_or_eq_of_mem_set hx with h | h
    · exact g4 x h
    · rw [h]; exact hu
  · rw [Heap.set_same, flat_set g4 hi' hu]

/-- An element is written. -/
theorem opStoreOwn {t b q l c s i : Nat} {x y : Operand} {u : AV} {xs : List AV} (ho : o.op = .store t x y) (hs : sizeA P t = some s) (hx : ev e x = .ptr b (q + i * s)) (hy : ev e y = u) (hO : Own s H (.slc b q l c) xs) (hi : i < xs.length)
    (hu : u.told = true) (hl : (cells u).length = s) (h1 : (cells u).all AV.one = true) (h : ∀ G, Own s G (.slc b q l c) (xs.set i u) → Beside (.slc b q l c) H G → K .undef G) : Heavy P o e H K := by
  obtain ⟨hn, hh, g1, g2, g3, g4, g5⟩ := hO.blk (by omega)
  have hle : i * s + s ≤ (flat xs).length := by
    rw [flat_length g4]
    have : (i + 1) * s ≤ xs.length * s := Nat.mul_le_mul_right _ hi
    rw [Nat.add_mul] at this; omega
  refine opStore ho hs hx hy g1 (p := i * s) (by simp) hu hl h1 hle (h _ (Own.set g1 g2 g3 g4 g5 hn hi hl) ?_)
  intro d y hd hy
  exact Heap.keepNe (fun k => by subst k; exact hd (by simp [rowB]; omega)) hy

theorem opStoreOwnI {k : IntKind} {t b q l c i : Nat} {x y : Operand} {m : Int} {zs : List Int} (ho : o.op = .store t x y) (hs : sizeA P t = some 1) (hx : ev e x = .ptr b (q + i * 1)) (hy : ev e y = .int k m) (hO : Own 1 H (.slc b q l c) (zs.map (AV.int k))) (hi : i < zs.length)
    (h : ∀ G, Own 1 G (.slc b q l c) ((zs.set i m).map (AV.int k)) → Beside (.slc b q l c) H G → K .undef G) : Heavy P o e H K :=
  opStoreOwn ho hs hx hy hO (by simpa using hi) rfl rfl rfl fun G hG => by rw [List.map_set] at h; exact h G hG
theorem opStoreOwnB {t b q l c i : Nat} {x y : Operand} {m : Bool} {zs : List Bool} (ho : o.op = .store t x y) (hs : sizeA P t = some 1) (hx : ev e x = .ptr b (q + i * 1)) (hy : ev e y = .bool m) (hO : Own 1 H (.slc b q l c) (zs.map AV.bool)) (hi : i < zs.length)
    (h : ∀ G, Own 1 G (.slc b q l c) ((zs.set i m).map AV.bool) → Beside (.slc b q l c) H G → K .undef G) : Heavy P o e H K :=
  opStoreOwn ho hs hx hy hO (by simpa using hi) rfl rfl rfl fun G hG => by rw [List.map_set] at h; exact h G hG

theorem replicate_map {α : Type} (f : α → AV) (n : Nat) (a : α) : List.replicate n (f a) = (List.replicate n a).map f := by simp

theorem opMakeM {α : Type} {f : α → AV} {z0 : α} {t el s yb : Nat} {z : Value} {l c : Operand} {k k' : IntKind} {m : Int} (ho : o.op = .makeSlice t l c) (ht : elemA P t = some el) (hs : sizeA P el = some s) (hb : bytesA P el = some yb) (hz : zeroA P el = some z)
    (hzv : avOf z = f z0) (hzs : z.cells.size = s) (hpos : 0 < s) (hl : ev e l = .int k m) (hc : ev e c = .int k' m) (h0 : 0 ≤ m) (hfit : (yb : Int) * m ≤ 281474976710656) (h63 : m ≤ 9223372036854775807)
    (h : ∀ b c G, Own s G (.slc b 0 m.toNat c) ((List.replicate m.toNat z0).map f) → (∀ c x, H c = some x → G c = some x) → (∀ d ∈ rowB (.slc b 0 m.toNat c), H d = none) → K (.slc b 0 m.toNat c) G) : Heavy P o e H K :=
  opMake ho ht hs hb hz hzv hzs hpos hl hc h0 hfit h63 fun v G hO hK hN ⟨b, c, hv⟩ => by subst hv; rw [replicate_map] at hO; exact h b c G hO hK hN
theorem opMakeN {α : Type} {f : α → AV} {z0 : α} {t el s yb : Nat} {z : Value} {l c : Operand} {k k' : IntKind} {m : Nat} (ho : o.op = .makeSlice t l c) (ht : elemA P t = some el) (hs : sizeA P el = some s) (hb : bytesA P el = some yb) (hz : zeroA P el = some z)
    (hzv : avOf z = f z0) (hzs : z.cells.size = s) (hpos : 0 < s) (hl : ev e l = .int k (m : Int)) (hc : ev e c = .int k' (m : Int)) (hfit : yb * m ≤ 281474976710656) (h63 : m ≤ 9223372036854775807)
    (h : ∀ b c G, Own s G (.slc b 0 m c) ((List.replicate m z0).map f) → (∀ c x, H c = some x → G c = some x) → (∀ d ∈ rowB (.slc b 0 m c), H d = none) → K (.slc b 0 m c) G) : Heavy P o e H K :=
  opMakeM ho ht hs hb hz hzv hzs hpos hl hc (by omega) (by omega) (by omega) h

end
end Go.Proofs.Ythdoebgikbfndaa.E
