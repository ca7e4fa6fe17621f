/- Boxes put together, told cell by cell. -/
import Derived.Test.YtcmbbpdepobnlaaQ1
namespace Go.Proofs.Ytcmbbpdepobnlaa
open Go Go.RowKit E
set_option linter.unusedVariables false
def mulC (x y : List Int) (m p q : Nat) : Nat → Int
  | 0 => 0
  | r + 1 => if 0 < x.getD (p * m + r) 0 ∧ 0 < y.getD (r * m + q) 0 then max (mulC x y m p q r) (max (x.getD (p * m + r) 0) (y.getD (r * m + q) 0)) else mulC x y m p q r
def boxMulL (m : Nat) (x y : List Int) : List Int := (List.range (m * m)).map fun i => mulC x y m (i / m) (i % m) m
theorem boxMulL_len (m : Nat) (x y : List Int) : (boxMulL m x y).length = m * m := by simp [boxMulL]
/-- A table of m rows of m, told cell by cell. -/
def TabL (zs : List Int) (m : Nat) (g : Nat → Nat → Int) : Prop := zs.length = m * m ∧ ∀ a b, a < m → b < m → zs.getD (a * m + b) 0 = g a b
theorem cell_inj {m a b p q : Nat} (hb : b < m) (hq : q < m) : a * m + b = p * m + q ↔ a = p ∧ b = q := by
  constructor
  · intro h
    have h1 : (a * m + b) / m = a := by rw [Nat.mul_comm, Nat.mul_add_div (by omega), Nat.div_eq_of_lt hb, Nat.add_zero]
    have h2 : (p * m + q) / m = p := by rw [Nat.mul_comm, Nat.mul_add_div (by omega), Nat.div_eq_of_lt hq, Nat.add_zero]
    have : a = p := by rw [← h1, ← h2, h]
    subst this; exact ⟨rfl, by omega⟩
  · rintro ⟨rfl, rfl⟩; rfl
theorem cell_lt {m p q : Nat} (hp : p < m) (hq : q < m) : p * m + q < m * m := by
  have : p * m + m ≤ m * m := by rw [← Nat.succ_mul]; exact Nat.mul_le_mul_right m hp
  omega
theorem TabL.zero (m : Nat) {n : Nat} (h : n = m * m) (g : Nat → Nat → Int) (hg : ∀ a b, a < m → b < m → g a b = 0) : TabL (List.replicate n 0) m g := by
  subst h
  refine ⟨by simp, fun a b ha hb => ?_⟩
  rw [hg a b ha hb]
  have := cell_lt ha hb
  simp [this]
theorem TabL.set {zs : List Int} {m p q : Nat} {g : Nat → Nat → Int} {v : Int} (h : TabL zs m g) (hp : p < m) (hq : q < m) : TabL (zs.set (p * m + q) v) m (fun a b => if a = p ∧ b = q then v else g a b) := by
  obtain ⟨h1, h2⟩ := h
  refine ⟨by simp [h1], fun a b ha hb => ?_⟩
  have hl := cell_lt hp hq
  by_cases e : a = p ∧ b = q
  · show _ = if a = p ∧ b = q then v else g a b
    obtain ⟨rfl, rfl⟩ := e
    simp [h1, hl]
  · show _ = if a = p ∧ b = q then v else g a b
    rw [if_neg e, ← h2 a b ha hb]
    have : p * m + q ≠ a * m + b := fun k => e ((cell_inj hb hq).mp k.symm)
    simp [List.getD, List.getElem?_set_ne this]
theorem TabL.congr {zs : List Int} {m : Nat} {g g' : Nat → Nat → Int} (h : TabL zs m g) (k : ∀ a b, a < m → b < m → g a b = g' a b) : TabL zs m g' := ⟨h.1, fun a b ha hb => by rw [h.2 a b ha hb, k a b ha hb]⟩
theorem TabL.ext {zs ys : List Int} {m : Nat} {g : Nat → Nat → Int} (h : TabL zs m g) (k : TabL ys m g) : zs = ys := by
  apply List.ext_getElem (by rw [h.1, k.1])
  intro j g1 g2
  have hm : 0 < m := by
    rcases Nat.eq_zero_or_pos m with rfl | hm
    · rw [h.1] at g1; simp at g1
    · exact hm
  have hj : j / m < m := Nat.div_lt_of_lt_mul (by rw [← h.1]; exact g1)
  have e := h.2 (j / m) (j % m) hj (Nat.mod_lt _ hm)
  rw [← k.2 (j / m) (j % m) hj (Nat.mod_lt _ hm), show j / m * m + j % m = j from by rw [Nat.mul_comm]; exact Nat.div_add_mod j m] at e
  simpa [g1, g2] using e
theorem TabL.mul (m : Nat) (x y : List Int) : TabL (boxMulL m x y) m (fun a b => mulC x y m a b m) := by
  refine ⟨by simp [boxMulL], fun a b ha hb => ?_⟩
  have hl := cell_lt ha hb
  have h1 : (a * m + b) / m = a := by rw [Nat.mul_comm, Nat.mul_add_div (by omega), Nat.div_eq_of_lt hb, Nat.add_zero]
  have h2 : (a * m + b) % m = b := by rw [Nat.mul_comm, Nat.mul_add_mod, Nat.mod_eq_of_lt hb]
  simp [boxMulL, hl, h1, h2]
def valS (x y : List Int) (m p q r a b : Nat) : Int := if a < p ∨ a = p ∧ b < q then mulC x y m a b m else if a = p ∧ b = q then mulC x y m a b r else 0
def valI (x y : List Int) (m p r q a b : Nat) : Int := if a < p then mulC x y m a b m else if a = p then (if b < q then mulC x y m a b (r + 1) else mulC x y m a b r) else 0
theorem pq4 {m p q : Nat} (h : 1 ≤ m ∧ m ≤ 4) (hp : p < m) (hq : q < m) : ((p : Int) * m + q) = ((p * m + q : Nat) : Int) ∧ p * m + q < m * m ∧ 0 ≤ (p : Int) * m ∧ (p : Int) * m ≤ 16 := by
  refine ⟨by simp, cell_lt hp hq, ?_⟩
  have : m = 1 ∨ m = 2 ∨ m = 3 ∨ m = 4 := by omega
  rcases this with rfl | rfl | rfl | rfl <;> omega
section
variable {x y zs : List Int} {m p q r : Nat}
theorem valS_0 : ∀ a b, a < m → b < m → valS x y m 0 0 0 a b = 0 := by
  intro a b _ _; unfold valS; split
  · omega
  · split <;> rfl
theorem valS_q (h : TabL zs m (valS x y m p q r)) (hr : r = m) : TabL zs m (valS x y m p (q + 1) 0) := h.congr fun a b ha hb => by
  subst hr; unfold valS
  by_cases h1 : a < p ∨ a = p ∧ b < q
  · rw [if_pos h1, if_pos (by omega)]
  · rw [if_neg h1]
    by_cases h2 : a = p ∧ b = q
    · rw [if_pos h2, if_pos (by omega)]
    · rw [if_neg h2, if_neg (by omega)]; split <;> rfl
theorem valS_p (h : TabL zs m (valS x y m p q 0)) (hq : q = m) : TabL zs m (valS x y m (p + 1) 0 0) := h.congr fun a b ha hb => by
  subst hq; unfold valS
  by_cases h1 : a < p ∨ a = p ∧ b < q
  · rw [if_pos h1, if_pos (by omega)]
  · rw [if_neg h1, if_neg (by omega), if_neg (by omega)]; split <;> rfl
theorem valS_end (h : TabL zs m (valS x y m p 0 0)) (hp : p = m) : zs = boxMulL m x y := by
  refine TabL.ext (h.congr fun a b ha hb => ?_) (TabL.mul m x y)
  unfold valS; rw [if_pos (by omega)]
theorem valS_get (h : TabL zs m (valS x y m p q r)) (hp : p < m) (hq : q < m) : zs.getD (p * m + q) 0 = mulC x y m p q r := by
  rw [h.2 p q hp hq]; unfold valS; rw [if_neg (by omega), if_pos ⟨rfl, rfl⟩]
theorem valS_yes (h : TabL zs m (valS x y m p q r)) (hp : p < m) (hq : q < m) (h1 : x.getD (p * m + r) 0 > 0) (h2 : y.getD (r * m + q) 0 > 0) :
    TabL (zs.set (p * m + q) (max (zs.getD (p * m + q) 0) (max (x.getD (p * m + r) 0) (y.getD (r * m + q) 0)))) m (valS x y m p q (r + 1)) := (h.set hp hq).congr fun a b ha hb => by
  rw [valS_get h hp hq]
  by_cases e : a = p ∧ b = q
  · obtain ⟨rfl, rfl⟩ := e
    rw [if_pos ⟨rfl, rfl⟩]; unfold valS; rw [if_neg (by omega), if_pos ⟨rfl, rfl⟩, mulC, if_pos ⟨h1, h2⟩]
  · rw [if_neg e]; unfold valS; rw [if_neg e, if_neg e]
theorem valS_no (h : TabL zs m (valS x y m p q r)) (hn : ¬ (x.getD (p * m + r) 0 > 0 ∧ y.getD (r * m + q) 0 > 0)) : TabL zs m (valS x y m p q (r + 1)) := h.congr fun a b ha hb => by
  unfold valS
  by_cases e : a = p ∧ b = q
  · obtain ⟨rfl, rfl⟩ := e
    rw [if_neg (by omega), if_pos ⟨rfl, rfl⟩, if_neg (by omega), if_pos ⟨rfl, rfl⟩, mulC, if_neg (fun k => hn k)]
  · rw [if_neg e, if_neg e]
theorem valI_0 : ∀ a b, a < m → b < m → valI x y m 0 0 0 a b = 0 := by
  intro a b _ _; unfold valI; simp [mulC]
theorem valI_r (h : TabL zs m (valI x y m p r q)) (hq : q = m) : TabL zs m (valI x y m p (r + 1) 0) := h.congr fun a b ha hb => by
  subst hq; unfold valI; simp [hb]
theorem valI_p (h : TabL zs m (valI x y m p r 0)) (hr : r = m) : TabL zs m (valI x y m (p + 1) 0 0) := h.congr fun a b ha hb => by
  subst hr; unfold valI
  by_cases h1 : a < p
  · rw [if_pos h1, if_pos (by omega)]
  · rw [if_neg h1]
    by_cases h2 : a = p
    · rw [if_pos h2, if_neg (by omega), if_pos (by omega)]
    · rw [if_neg h2, if_neg (by omega)]; simp [mulC]
theorem valI_end (h : TabL zs m (valI x y m p 0 0)) (hp : p = m) : zs = boxMulL m x y := by
  refine TabL.ext (h.congr fun a b ha hb => ?_) (TabL.mul m x y)
  unfold valI; rw [if_pos (by omega)]
theorem valI_get (h : TabL zs m (valI x y m p r q)) (hp : p < m) (hq : q < m) : zs.getD (p * m + q) 0 = mulC x y m p q r := by
  rw [h.2 p q hp hq]; unfold valI; rw [if_neg (by omega), if_pos rfl, if_neg (by omega)]
theorem valI_skip (h : TabL zs m (valI x y m p r 0)) (h1 : x.getD (p * m + r) 0 = 0) : TabL zs m (valI x y m p (r + 1) 0) := h.congr fun a b ha hb => by
  unfold valI
  by_cases e : a = p
  · subst e
    have hm : mulC x y m a b (r + 1) = mulC x y m a b r := by rw [mulC, if_neg (by omega)]
    simp only [Nat.lt_irrefl, if_false, if_true, Nat.not_lt_zero, hm]
  · simp only [e, if_false]
theorem valI_no (h : TabL zs m (valI x y m p r q)) (h2 : ¬ y.getD (r * m + q) 0 ≠ 0) : TabL zs m (valI x y m p r (q + 1)) := h.congr fun a b ha hb => by
  have h2 : y.getD (r * m + q) 0 = 0 := by omega
  unfold valI
  by_cases e : a = p
  · subst e
    by_cases e2 : b = q
    · subst e2
      have hm : mulC x y m a b (r + 1) = mulC x y m a b r := by rw [mulC, if_neg (by omega)]
      simp only [Nat.lt_irrefl, if_false, if_true, Nat.lt_succ_self, hm]
    · by_cases e3 : b < q
      · rw [if_neg (by omega), if_pos rfl, if_pos e3, if_neg (by omega), if_pos rfl, if_pos (by omega)]
      · rw [if_neg (by omega), if_pos rfl, if_neg e3, if_neg (by omega), if_pos rfl, if_neg (by omega)]
  · simp [e]
theorem max3 (a b c : Int) : (if c > (if b > a then b else a) then c else (if b > a then b else a)) = max a (max b c) := by
  split <;> split <;> omega
theorem valI_yes {v : Int} (h : TabL zs m (valI x y m p r q)) (hp : p < m) (hq : q < m) (h1 : 0 < x.getD (p * m + r) 0) (h2 : 0 < y.getD (r * m + q) 0)
    (hv : v = max (zs.getD (p * m + q) 0) (max (x.getD (p * m + r) 0) (y.getD (r * m + q) 0))) : TabL (zs.set (p * m + q) v) m (valI x y m p r (q + 1)) := (h.set hp hq).congr fun a b ha hb => by
  subst hv
  rw [valI_get h hp hq]
  by_cases e : a = p ∧ b = q
  · obtain ⟨rfl, rfl⟩ := e
    rw [if_pos ⟨rfl, rfl⟩]; unfold valI; rw [if_neg (by omega), if_pos rfl, if_pos (by omega), mulC, if_pos ⟨h1, h2⟩]
  · rw [if_neg e]; unfold valI
    by_cases e1 : a = p
    · subst e1
      by_cases e3 : b < q
      · rw [if_neg (by omega), if_pos rfl, if_pos e3, if_neg (by omega), if_pos rfl, if_pos (by omega)]
      · rw [if_neg (by omega), if_pos rfl, if_neg e3, if_neg (by omega), if_pos rfl, if_neg (by omega)]
    · simp [e1]
end
end Go.Proofs.Ytcmbbpdepobnlaa
