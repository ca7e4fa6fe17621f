/- Boxes as tables of steps: what BoxTakes computes, told by ways. -/
import Derived.Test.YtcmbbpdepobnlaaPTk
import Derived.Test.YtcmbbpdepobnlaaPBoxV
namespace Go.Proofs.Ytcmbbpdepobnlaa
open Takes
set_option linter.unusedVariables false
def mxL (x y : List Int) : List Int := List.zipWith max x y
def ent (m : Nat) (z : List Int) (p q : Nat) : Int := z.getD (p * m + q) 0
def Bx (m : Nat) (z : List Int) : Prop := z.length = m * m ∧ ∀ i, 0 ≤ z.getD i 0 ∧ z.getD i 0 ≤ 2
def Rl (m : Nat) (z : List Int) (P T : R) : Prop := ∀ p q, p < m → q < m → (0 < ent m z p q ↔ P p q) ∧ (ent m z p q = 2 ↔ T p q)
theorem mulC_iff (x y : List Int) (m p q : Nat) : ∀ k, 0 < mulC x y m p q k ↔ ∃ r, r < k ∧ 0 < x.getD (p * m + r) 0 ∧ 0 < y.getD (r * m + q) 0
  | 0 => ⟨fun h => absurd h (by simp [mulC]), fun ⟨r, h, _⟩ => absurd h (by omega)⟩
  | k + 1 => by
    have ih := mulC_iff x y m p q k
    rw [mulC]
    split
    · rename_i h
      exact ⟨fun _ => ⟨k, by omega, h.1, h.2⟩, fun _ => by omega⟩
    · rename_i h
      rw [ih]
      constructor
      · rintro ⟨r, hr, g⟩; exact ⟨r, by omega, g⟩
      · rintro ⟨r, hr, g⟩
        by_cases e : r = k
        · subst e; exact absurd g h
        · exact ⟨r, by omega, g⟩
theorem mulC_le {x y : List Int} (hx : ∀ i, x.getD i 0 ≤ 2) (hy : ∀ i, y.getD i 0 ≤ 2) (m p q : Nat) : ∀ k, 0 ≤ mulC x y m p q k ∧ mulC x y m p q k ≤ 2
  | 0 => by simp [mulC]
  | k + 1 => by
    have ih := mulC_le hx hy m p q k
    have h1 := hx (p * m + k)
    have h2 := hy (k * m + q)
    rw [mulC]
    split <;> omega
theorem mulC_two {x y : List Int} (hx : ∀ i, x.getD i 0 ≤ 2) (hy : ∀ i, y.getD i 0 ≤ 2) (m p q : Nat) : ∀ k, mulC x y m p q k = 2 ↔ ∃ r, r < k ∧ (0 < x.getD (p * m + r) 0 ∧ 0 < y.getD (r * m + q) 0) ∧ (x.getD (p * m + r) 0 = 2 ∨ y.getD (r * m + q) 0 = 2)
  | 0 => ⟨fun h => absurd h (by simp [mulC]), fun ⟨r, h, _⟩ => absurd h (by omega)⟩
  | k + 1 => by
    have ih := mulC_two hx hy m p q k
    have hle := mulC_le hx hy m p q k
    have h1 := hx (p * m + k)
    have h2 := hy (k * m + q)
    rw [mulC]
    split
    · rename_i h
      constructor
      · intro e
        by_cases e' : mulC x y m p q k = 2
        · obtain ⟨r, hr, g⟩ := ih.mp e'; exact ⟨r, by omega, g⟩
        · exact ⟨k, by omega, h, by omega⟩
      · rintro ⟨r, hr, g1, g2⟩
        by_cases e' : r = k
        · subst e'; omega
        · have := ih.mpr ⟨r, by omega, g1, g2⟩; omega
    · rename_i h
      rw [ih]
      constructor
      · rintro ⟨r, hr, g⟩; exact ⟨r, by omega, g⟩
      · rintro ⟨r, hr, g⟩
        by_cases e : r = k
        · subst e; exact absurd g.1 h
        · exact ⟨r, by omega, g⟩
theorem mx_len {x y : List Int} (h : x.length = y.length) : (mxL x y).length = x.length := by simp [mxL, h]
theorem mx_get {x y : List Int} (h : x.length = y.length) (i : Nat) : (mxL x y).getD i 0 = max (x.getD i 0) (y.getD i 0) := by
  by_cases hi : i < x.length
  · have hi' : i < y.length := by omega
    simp [mxL, List.getD, List.getElem?_zipWith, hi, hi']
  · have hi' : ¬ i < y.length := by omega
    simp [List.getD, List.getElem?_eq_none (by rw [mx_len h]; omega : (mxL x y).length ≤ i), List.getElem?_eq_none (by omega : x.length ≤ i), List.getElem?_eq_none (by omega : y.length ≤ i)]
theorem mul_ent (m : Nat) (x y : List Int) {p q : Nat} (hp : p < m) (hq : q < m) : ent m (boxMulL m x y) p q = mulC x y m p q m := (TabL.mul m x y).2 p q hp hq
theorem mul_bx {m : Nat} {x y : List Int} (hx : Bx m x) (hy : Bx m y) : Bx m (boxMulL m x y) := by
  refine ⟨boxMulL_len m x y, fun i => ?_⟩
  unfold boxMulL
  by_cases h : i < m * m
  · simp only [List.getD, List.getElem?_map, List.getElem?_range h, Option.map_some, Option.getD_some]
    exact mulC_le (fun i => (hx.2 i).2) (fun i => (hy.2 i).2) _ _ _ _
  · simp [List.getD, h]
theorem mx_bx {m : Nat} {x y : List Int} (hx : Bx m x) (hy : Bx m y) : Bx m (mxL x y) := by
  have e : x.length = y.length := by rw [hx.1, hy.1]
  refine ⟨by rw [mx_len e, hx.1], fun i => ?_⟩
  rw [mx_get e]
  have h1 := hx.2 i
  have h2 := hy.2 i
  omega
theorem Rl.step {m : Nat} {z y : List Int} {P T A B : R} (hz : Bx m z) (hy : Bx m y) (h : Rl m z P T) (k : Rl m y A B) :
    Rl m (mxL z (boxMulL m z y)) (fun p q => P p q ∨ comp m P A p q) (fun p q => T p q ∨ comp m T A p q ∨ comp m P B p q) := by
  intro p q hp hq
  have hb := mul_bx hz hy
  have e : ent m (mxL z (boxMulL m z y)) p q = max (ent m z p q) (mulC z y m p q m) := by
    rw [← mul_ent m z y hp hq]; exact mx_get (by rw [hz.1, hb.1]) _
  have h0 := h p q hp hq
  have g1 := hz.2 (p * m + q)
  have g2 := mulC_le (fun i => (hz.2 i).2) (fun i => (hy.2 i).2) m p q m
  have e1 : 0 < mulC z y m p q m ↔ comp m P A p q := by
    rw [mulC_iff]
    exact ⟨fun ⟨r, hr, a, b⟩ => ⟨r, hr, (h p r hp hr).1.mp a, (k r q hr hq).1.mp b⟩, fun ⟨r, hr, a, b⟩ => ⟨r, hr, (h p r hp hr).1.mpr a, (k r q hr hq).1.mpr b⟩⟩
  have e2 : mulC z y m p q m = 2 ↔ comp m T A p q ∨ comp m P B p q := by
    rw [mulC_two (fun i => (hz.2 i).2) (fun i => (hy.2 i).2)]
    constructor
    · rintro ⟨r, hr, ⟨a, b⟩, c | c⟩
      · exact .inl ⟨r, hr, (h p r hp hr).2.mp c, (k r q hr hq).1.mp b⟩
      · exact .inr ⟨r, hr, (h p r hp hr).1.mp a, (k r q hr hq).2.mp c⟩
    · rintro (⟨r, hr, a, b⟩ | ⟨r, hr, a, b⟩)
      · have a' := (h p r hp hr).2.mpr a
        unfold ent at a'
        exact ⟨r, hr, ⟨by omega, (k r q hr hq).1.mpr b⟩, .inl a'⟩
      · have b' := (k r q hr hq).2.mpr b
        unfold ent at b'
        exact ⟨r, hr, ⟨(h p r hp hr).1.mpr a, by omega⟩, .inr b'⟩
  rw [e]
  unfold ent at h0 ⊢
  constructor
  · show _ ↔ (P p q ∨ comp m P A p q)
    rw [← h0.1, ← e1]; omega
  · show _ ↔ (T p q ∨ comp m T A p q ∨ comp m P B p q)
    rw [← h0.2, ← e2]; omega
def iterL (m : Nat) (y : List Int) : Nat → List Int
  | 0 => y
  | k + 1 => mxL (iterL m y k) (boxMulL m (iterL m y k) y)
theorem iter_bx {m : Nat} {y : List Int} (hy : Bx m y) : ∀ k, Bx m (iterL m y k)
  | 0 => hy
  | k + 1 => mx_bx (iter_bx hy k) (mul_bx (iter_bx hy k) hy)
def ARel (m : Nat) (y : List Int) : R := fun p q => 0 < ent m y p q
def BRel (m : Nat) (y : List Int) : R := fun p q => ent m y p q = 2
theorem iter_rl {m : Nat} {y : List Int} (hy : Bx m y) : ∀ k, Rl m (iterL m y k) (PP m (ARel m y) k) (TT m (ARel m y) (BRel m y) k)
  | 0 => fun p q _ _ => ⟨Iff.rfl, Iff.rfl⟩
  | k + 1 => Rl.step (iter_bx hy k) hy (iter_rl hy k) (fun p q _ _ => ⟨Iff.rfl, Iff.rfl⟩)
/-- The reference's loops. -/
def loop1 (m : Nat) (y : List Int) : List Int := mxL (iterL m y m) (boxMulL m (iterL m y m) (iterL m y m))
def loop2 (m : Nat) (y : List Int) : List Int := mxL (loop1 m y) (boxMulL m (loop1 m y) (iterL m y m))
theorem loop1_bx {m : Nat} {y : List Int} (hy : Bx m y) : Bx m (loop1 m y) := mx_bx (iter_bx hy m) (mul_bx (iter_bx hy m) (iter_bx hy m))
theorem loop2_bx {m : Nat} {y : List Int} (hy : Bx m y) : Bx m (loop2 m y) := mx_bx (loop1_bx hy) (mul_bx (loop1_bx hy) (iter_bx hy m))
theorem loop1_rl {m : Nat} {y : List Int} (hy : Bx m y) : Rl m (loop1 m y) (LP m (ARel m y)) (LT1 m (ARel m y) (BRel m y)) := Rl.step (iter_bx hy m) (iter_bx hy m) (iter_rl hy m) (iter_rl hy m)
theorem loop2_rl {m : Nat} {y : List Int} (hy : Bx m y) : Rl m (loop2 m y) (fun p q => LP m (ARel m y) p q ∨ comp m (LP m (ARel m y)) (PP m (ARel m y) m) p q) (LT2 m (ARel m y) (BRel m y)) :=
  Rl.step (loop1_bx hy) (iter_bx hy m) (loop1_rl hy) (iter_rl hy m)
/-- At rest: the same places are reached, the same loops are marked. -/
theorem rest_iff {m K : Nat} {y : List Int} (hy : Bx m y) (h : iterL m y (K + 1) = iterL m y K) {p q : Nat} (hp : p < m) (hq : q < m) :
    (0 < ent m (iterL m y K) p q ↔ 0 < ent m (iterL m y m) p q) ∧ (ent m (iterL m y K) q q = 2 ↔ ent m (loop2 m y) q q = 2) := by
  have hP : ∀ p q, p < m → q < m → PP m (ARel m y) (K + 1) p q → PP m (ARel m y) K p q := fun p q hp hq g => by
    have := (iter_rl hy (K + 1) p q hp hq).1.mpr g
    rw [h] at this; exact (iter_rl hy K p q hp hq).1.mp this
  have hT : ∀ p q, p < m → q < m → TT m (ARel m y) (BRel m y) (K + 1) p q → TT m (ARel m y) (BRel m y) K p q := fun p q hp hq g => by
    have := (iter_rl hy (K + 1) p q hp hq).2.mpr g
    rw [h] at this; exact (iter_rl hy K p q hp hq).2.mp this
  constructor
  · rw [(iter_rl hy K p q hp hq).1, (iter_rl hy m p q hp hq).1]; exact reach_iff hP hT hp hq
  · rw [(iter_rl hy K q q hq hq).2, (loop2_rl hy q q hq hq).2]; exact loop_iff hP hT hq
/-- What a round adds is counted. -/
def sumL (z : List Int) : Int := z.foldr (· + ·) 0
theorem mx_sum : ∀ {x y : List Int}, x.length = y.length → sumL x ≤ sumL (mxL x y) ∧ (mxL x y ≠ x → sumL x < sumL (mxL x y))
  | [], [], _ => ⟨Int.le_refl _, fun h => absurd rfl h⟩
  | [], _ :: _, h => by simp at h
  | _ :: _, [], h => by simp at h
  | a :: x, b :: y, h => by
    have ih := mx_sum (x := x) (y := y) (by simpa using h)
    have e : mxL (a :: x) (b :: y) = max a b :: mxL x y := rfl
    rw [e]
    have s1 : sumL (a :: x) = a + sumL x := rfl
    have s2 : sumL (max a b :: mxL x y) = max a b + sumL (mxL x y) := rfl
    rw [s1, s2]
    refine ⟨by omega, fun hne => ?_⟩
    by_cases ha : max a b = a
    · have : mxL x y ≠ x := fun k => hne (by rw [ha, k])
      have := ih.2 this
      omega
    · omega
theorem sum_le : ∀ {z : List Int}, (∀ i, z.getD i 0 ≤ 2) → sumL z ≤ 2 * (z.length : Int)
  | [], _ => by simp [sumL]
  | a :: z, h => by
    have h0 := h 0
    have ih := sum_le (z := z) fun i => by simpa using h (i + 1)
    have s1 : sumL (a :: z) = a + sumL z := rfl
    simp at h0
    rw [s1]
    simp only [List.length_cons]
    omega
theorem sum_pos : ∀ {z : List Int}, (∀ i, 0 ≤ z.getD i 0) → 0 ≤ sumL z
  | [], _ => by simp [sumL]
  | a :: z, h => by
    have h0 := h 0
    have ih := sum_pos (z := z) fun i => by simpa using h (i + 1)
    have s1 : sumL (a :: z) = a + sumL z := rfl
    simp at h0
    rw [s1]; omega
end Go.Proofs.Ytcmbbpdepobnlaa
