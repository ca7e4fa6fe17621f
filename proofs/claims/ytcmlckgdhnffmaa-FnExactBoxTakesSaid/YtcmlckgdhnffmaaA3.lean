/- The contracts of some of the program's functions: A3. -/
import Derived.Test.YtcmlckgdhnffmaaA2
import Derived.Test.YtcmlckgdhnffmaaE11
import Derived.Test.YtcmlckgdhnffmaaProg
namespace Go.Proofs.Ytcmlckgdhnffmaa
open Go Go.RowKit E
set_option linter.unusedVariables false

def mulC (x y : List Int) (m p q : Nat) : Nat → Int
  | 0 => 0
  | r + 1 => if 0 < x.getD (p * m + r) 0 ∧ 0 < y.getD (r * m + q) 0 then max (mulC x y m p q r) (max (x.getD (p * m + r) 0) (y.getD (r * m + q) 0)) else mulC x y m p q r
def boxMulL (m : Nat) (x y : List Int) : List Int := (List.range (m * m)).map fun i => mulC x y m (i / m) (i % m) m
theorem boxMulL_len (m : Nat) (x y : List Int) : (boxMulL m x y).length = m * m := by simp [boxMulL]
/-- A table of m rows of m, told cell by cell. -/
def TabL (zs : List Int) (m : Nat) (g : Nat → Nat → Int) : Prop := zs.length = m * m ∧ ∀ a b, a < m → b < m → zs.getD (a * m + b) 0 = g a b
theorem cell_inj {m a b p q : Nat} (hb : b < m) (hq : q < m) : a * m + b = p * m + q ↔ a = p ∧ b = q := by
  constructor
  · intro h
    have h1 : (a * m + b) / m = a := by rw [Nat.mul_comm, Nat.mul_add_div (by omega), Nat.div_eq_of_lt hb, Nat.add_zero]
    have h2 : (p * m + q) / m = p := by rw [Nat.mul_comm, Nat.mul_add_div (by omega), Nat.div_eq_of_lt hq, Nat.add_zero]
    have : a = p := by rw [← h1, ← h2, h]
    subst this; exact ⟨rfl, by omega⟩
  · rintro ⟨rfl, rfl⟩; rfl
theorem cell_lt {m p q : Nat} (hp : p < m) (hq : q < m) : p * m + q < m * m := by
  have : p * m + m ≤ m * m := by rw [← Nat.succ_mul]; exact Nat.mul_le_mul_right m hp
  omega
theorem TabL.zero (m : Nat) {n : Nat} (h : n = m * m) (g : Nat → Nat → Int) (hg : ∀ a b, a < m → b < m → g a b = 0) : TabL (List.replicate n 0) m g := by
  subst h
  refine ⟨by simp, fun a b ha hb => ?_⟩
  rw [hg a b ha hb]
  have := cell_lt ha hb
  simp [this]
theorem TabL.set {zs : List Int} {m p q : Nat} {g : Nat → Nat → Int} {v : Int} (h : TabL zs m g) (hp : p < m) (hq : q < m) : TabL (zs.set (p * m + q) v) m (fun a b => if a = p ∧ b = q then v else g a b) := by
  obtain ⟨h1, h2⟩ := h
  refine ⟨by simp [h1], fun a b ha hb => ?_⟩
  have hl := cell_lt hp hq
  by_cases e : a = p ∧ b = q
  · show _ = if a = p ∧ b = q then v else g a b
    obtain ⟨rfl, rfl⟩ := e
    simp [h1, hl]
  · show _ = if a = p ∧ b = q then v else g a b
    rw [if_neg e, ← h2 a b ha hb]
    have : p * m + q ≠ a * m + b := fun k => e ((cell_inj hb hq).mp k.symm)
    simp [List.getD, List.getElem?_set_ne this]
theorem TabL.congr {zs : List Int} {m : Nat} {g g' : Nat → Nat → Int} (h : TabL zs m g) (k : ∀ a b, a < m → b < m → g a b = g' a b) : TabL zs m g' := ⟨h.1, fun a b ha hb => by rw [h.2 a b ha hb, k a b ha hb]⟩
theorem TabL.ext {zs ys : List Int} {m : Nat} {g : Nat → Nat → Int} (h : TabL zs m g) (k : TabL ys m g) : zs = ys := by
  apply List.ext_getElem (by rw [h.1, k.1])
  intro j g1 g2
  have hm : 0 < m := by
    rcases Nat.eq_zero_or_pos m with rfl | hm
    · rw [h.1] at g1; simp at g1
    · exact hm
  have hj : j / m < m := Nat.div_lt_of_lt_mul (by rw [← h.1]; exact g1)
  have e := h.2 (j / m) (j % m) hj (Nat.mod_lt _ hm)
  rw [← k.2 (j / m) (j % m) hj (Nat.mod_lt _ hm), show j / m * m + j % m = j from by rw [Nat.mul_comm]; exact Nat.div_add_mod j m] at e
  simpa [g1, g2] using e
theorem TabL.mul (m : Nat) (x y : List Int) : TabL (boxMulL m x y) m (fun a b => mulC x y m a b m) := by
  refine ⟨by simp [boxMulL], fun a b ha hb => ?_⟩
  have hl := cell_lt ha hb
  have h1 : (a * m + b) / m = a := by rw [Nat.mul_comm, Nat.mul_add_div (by omega), Nat.div_eq_of_lt hb, Nat.add_zero]
  have h2 : (a * m + b) % m = b := by rw [Nat.mul_comm, Nat.mul_add_mod, Nat.mod_eq_of_lt hb]
  simp [boxMulL, hl, h1, h2]
def valS (x y : List Int) (m p q r a b : Nat) : Int := if a < p ∨ a = p ∧ b < q then mulC x y m a b m else if a = p ∧ b = q then mulC x y m a b r else 0
def valI (x y : List Int) (m p r q a b : Nat) : Int := if a < p then mulC x y m a b m else if a = p then (if b < q then mulC x y m a b (r + 1) else mulC x y m a b r) else 0
theorem pq4 {m p q : Nat} (h : 1 ≤ m ∧ m ≤ 4) (hp : p < m) (hq : q < m) : ((p : Int) * m + q) = ((p * m + q : Nat) : Int) ∧ p * m + q < m * m ∧ 0 ≤ (p : Int) * m ∧ (p : Int) * m ≤ 16 := by
  refine ⟨by simp, cell_lt hp hq, ?_⟩
  have : m = 1 ∨ m = 2 ∨ m = 3 ∨ m = 4 := by omega
  rcases this with rfl | rfl | rfl | rfl <;> omega
section
variable {x y zs : List Int} {m p q r : Nat}
theorem valS_0 : ∀ a b, a < m → b < m → valS x y m 0 0 0 a b = 0 := by
  intro a b _ _; unfold valS; split
  · omega
  · split <;> rfl
theorem valS_q (h : TabL zs m (valS x y m p q r)) (hr : r = m) : TabL zs m (valS x y m p (q + 1) 0) := h.congr fun a b ha hb => by
  subst hr; unfold valS
  by_cases h1 : a < p ∨ a = p ∧ b < q
  · rw [if_pos h1, if_pos (by omega)]
  · rw [if_neg h1]
    by_cases h2 : a = p ∧ b = q
    · rw [if_pos h2, if_pos (by omega)]
    · rw [if_neg h2, if_neg (by omega)]; split <;> rfl
theorem valS_p (h : TabL zs m (valS x y m p q 0)) (hq : q = m) : TabL zs m (valS x y m (p + 1) 0 0) := h.congr fun a b ha hb => by
  subst hq; unfold valS
  by_cases h1 : a < p ∨ a = p ∧ b < q
  · rw [if_pos h1, if_pos (by omega)]
  · rw [if_neg h1, if_neg (by omega), if_neg (by omega)]; split <;> rfl
theorem valS_end (h : TabL zs m (valS x y m p 0 0)) (hp : p = m) : zs = boxMulL m x y := by
  refine TabL.ext (h.congr fun a b ha hb => ?_) (TabL.mul m x y)
  unfold valS; rw [if_pos (by omega)]
theorem valS_get (h : TabL zs m (valS x y m p q r)) (hp : p < m) (hq : q < m) : zs.getD (p * m + q) 0 = mulC x y m p q r := by
  rw [h.2 p q hp hq]; unfold valS; rw [if_neg (by omega), if_pos ⟨rfl, rfl⟩]
theorem valS_yes (h : TabL zs m (valS x y m p q r)) (hp : p < m) (hq : q < m) (h1 : x.getD (p * m + r) 0 > 0) (h2 : y.getD (r * m + q) 0 > 0) :
    TabL (zs.set (p * m + q) (max (zs.getD (p * m + q) 0) (max (x.getD (p * m + r) 0) (y.getD (r * m + q) 0)))) m (valS x y m p q (r + 1)) := (h.set hp hq).congr fun a b ha hb => by
  rw [valS_get h hp hq]
  by_cases e : a = p ∧ b = q
  · obtain ⟨rfl, rfl⟩ := e
    rw [if_pos ⟨rfl, rfl⟩]; unfold valS; rw [if_neg (by omega), if_pos ⟨rfl, rfl⟩, mulC, if_pos ⟨h1, h2⟩]
  · rw [if_neg e]; unfold valS; rw [if_neg e, if_neg e]
theorem valS_no (h : TabL zs m (valS x y m p q r)) (hn : ¬ (x.getD (p * m + r) 0 > 0 ∧ y.getD (r * m + q) 0 > 0)) : TabL zs m (valS x y m p q (r + 1)) := h.congr fun a b ha hb => by
  unfold valS
  by_cases e : a = p ∧ b = q
  · obtain ⟨rfl, rfl⟩ := e
    rw [if_neg (by omega), if_pos ⟨rfl, rfl⟩, if_neg (by omega), if_pos ⟨rfl, rfl⟩, mulC, if_neg (fun k => hn k)]
  · rw [if_neg e, if_neg e]
theorem valI_0 : ∀ a b, a < m → b < m → valI x y m 0 0 0 a b = 0 := by
  intro a b _ _; unfold valI; simp [mulC]
theorem valI_r (h : TabL zs m (valI x y m p r q)) (hq : q = m) : TabL zs m (valI x y m p (r + 1) 0) := h.congr fun a b ha hb => by
  subst hq; unfold valI; simp [hb]
theorem valI_p (h : TabL zs m (valI x y m p r 0)) (hr : r = m) : TabL zs m (valI x y m (p + 1) 0 0) := h.congr fun a b ha hb => by
  subst hr; unfold valI
  by_cases h1 : a < p
  · rw [if_pos h1, if_pos (by omega)]
  · rw [if_neg h1]
    by_cases h2 : a = p
    · rw [if_pos h2, if_neg (by omega), if_pos (by omega)]
    · rw [if_neg h2, if_neg (by omega)]; simp [mulC]
theorem valI_end (h : TabL zs m (valI x y m p 0 0)) (hp : p = m) : zs = boxMulL m x y := by
  refine TabL.ext (h.congr fun a b ha hb => ?_) (TabL.mul m x y)
  unfold valI; rw [if_pos (by omega)]
theorem valI_get (h : TabL zs m (valI x y m p r q)) (hp : p < m) (hq : q < m) : zs.getD (p * m + q) 0 = mulC x y m p q r := by
  rw [h.2 p q hp hq]; unfold valI; rw [if_neg (by omega), if_pos rfl, if_neg (by omega)]
theorem valI_skip (h : TabL zs m (valI x y m p r 0)) (h1 : x.getD (p * m + r) 0 = 0) : TabL zs m (valI x y m p (r + 1) 0) := h.congr fun a b ha hb => by
  unfold valI
  by_cases e : a = p
  · subst e
    have hm : mulC x y m a b (r + 1) = mulC x y m a b r := by rw [mulC, if_neg (by omega)]
    simp only [Nat.lt_irrefl, if_false, if_true, Nat.not_lt_zero, hm]
  · simp only [e, if_false]
theorem valI_no (h : TabL zs m (valI x y m p r q)) (h2 : ¬ y.getD (r * m + q) 0 ≠ 0) : TabL zs m (valI x y m p r (q + 1)) := h.congr fun a b ha hb => by
  have h2 : y.getD (r * m + q) 0 = 0 := by omega
  unfold valI
  by_cases e : a = p
  · subst e
    by_cases e2 : b = q
    · subst e2
      have hm : mulC x y m a b (r + 1) = mulC x y m a b r := by rw [mulC, if_neg (by omega)]
      simp only [Nat.lt_irrefl, if_false, if_true, Nat.lt_succ_self, hm]
    · by_cases e3 : b < q
      · rw [if_neg (by omega), if_pos rfl, if_pos e3, if_neg (by omega), if_pos rfl, if_pos (by omega)]
      · rw [if_neg (by omega), if_pos rfl, if_neg e3, if_neg (by omega), if_pos rfl, if_neg (by omega)]
  · simp [e]
theorem max3 (a b c : Int) : (if c > (if b > a then b else a) then c else (if b > a then b else a)) = max a (max b c) := by
  split <;> split <;> omega
theorem valI_yes {v : Int} (h : TabL zs m (valI x y m p r q)) (hp : p < m) (hq : q < m) (h1 : 0 < x.getD (p * m + r) 0) (h2 : 0 < y.getD (r * m + q) 0)
    (hv : v = max (zs.getD (p * m + q) 0) (max (x.getD (p * m + r) 0) (y.getD (r * m + q) 0))) : TabL (zs.set (p * m + q) v) m (valI x y m p r (q + 1)) := (h.set hp hq).congr fun a b ha hb => by
  subst hv
  rw [valI_get h hp hq]
  by_cases e : a = p ∧ b = q
  · obtain ⟨rfl, rfl⟩ := e
    rw [if_pos ⟨rfl, rfl⟩]; unfold valI; rw [if_neg (by omega), if_pos rfl, if_pos (by omega), mulC, if_pos ⟨h1, h2⟩]
  · rw [if_neg e]; unfold valI
    by_cases e1 : a = p
    · subst e1
      by_cases e3 : b < q
      · rw [if_neg (by omega), if_pos rfl, if_pos e3, if_neg (by omega), if_pos rfl, if_pos (by omega)]
      · rw [if_neg (by omega), if_pos rfl, if_neg e3, if_neg (by omega), if_pos rfl, if_neg (by omega)]
    · simp [e1]
end

def boxMulF (n : Int) (x y : List Int) : List Int := if boxOk n x = true ∧ boxOk n y = true then boxMulL n.toNat x y else []
theorem boxOk_inv {n : Int} {x : List Int} (h : boxOk n x = true) : ∃ m : Nat, n = m ∧ (1 ≤ m ∧ m ≤ 4) ∧ x.length = m * m ∧ ∀ i, 0 ≤ x.getD i 0 := by
  unfold boxOk at h
  simp only [Bool.and_eq_true, decide_eq_true_eq] at h
  obtain ⟨⟨h1, h2⟩, h3⟩ := h
  obtain ⟨m, rfl, hm⟩ := one4 h1
  refine ⟨m, rfl, hm, by have := (mm4 hm).1; omega, fun i => ?_⟩
  by_cases hi : i < x.length
  · have := all_getD.mp h3 i hi
    simp only [decide_eq_true_eq] at this; exact this.1
  · simp [List.getD, List.getElem?_eq_none (by omega : x.length ≤ i)]
theorem boxMulF_no {n : Int} {x y : List Int} (h : ¬ (boxOk n x = true ∧ boxOk n y = true)) : boxMulF n x y = [] := by unfold boxMulF; rw [if_neg h]
theorem boxMulF_yes {m : Nat} {x y : List Int} (h1 : boxOk m x = true) (h2 : boxOk m y = true) : boxMulF m x y = boxMulL m x y := by unfold boxMulF; rw [if_pos ⟨h1, h2⟩]; rfl
theorem boxMulF_len (n : Int) (x y : List Int) : (boxMulF n x y).length ≤ 16 := by
  by_cases h : boxOk n x = true ∧ boxOk n y = true
  · obtain ⟨m, rfl, hm, _⟩ := boxOk_inv h.1
    rw [boxMulF_yes h.1 h.2, boxMulL_len]; exact (mm4 hm).2.2.1
  · rw [boxMulF_no h]; simp

theorem call_106 : callable Try.prog 106 = true := by kernel_rfl
theorem call_67 : callable Try.prog 67 = true := by kernel_rfl
theorem call_68 : callable Try.prog 68 = true := by kernel_rfl
theorem call_23 : callable Try.prog 23 = true := by kernel_rfl
theorem call_24 : callable Try.prog 24 = true := by kernel_rfl
set_option maxRecDepth 10000 in
theorem spec_l1Max (a b : Int) : PC Try.prog 106 [.int .i64 a, .int .i64 b] (fun v => v = .int .i64 (max a b)) := by
  refine PC.enter Try.func106 rfl Try.ntmps106 (by simp) ?_
  all_goals (refine AWP.seqR rfl ?_)
  all_goals (refine ASL.light rfl rfl (opAssign (v := .int _ _) rfl rfl) ?_)
  all_goals (refine ASL.done ?_)
  all_goals (refine AWP.seq ?_)
  all_goals (refine AWP.seqR rfl ?_)
  all_goals (refine ASL.light rfl rfl (opMove (v := .int _ _) rfl rfl) ?_)
  all_goals (refine ASL.light rfl rfl (opMove (v := .int _ _) rfl rfl) ?_)
  all_goals (refine ASL.dec rfl rfl (opInt rfl rfl rfl rfl) ?_ ?_ <;> intro h7)
  all_goals (refine ASL.done ?_)
  all_goals (first
    | (
      refine AWP.condT rfl ?_
      all_goals (refine AWP.seqR rfl ?_)
      all_goals (refine ASL.light rfl rfl (opMove (v := .int _ _) rfl rfl) ?_)
      all_goals (refine ASL.light rfl rfl (opAssign (v := .int _ _) rfl rfl) ?_)
      all_goals (refine ASL.done ?_)
      all_goals (refine AWP.ret ?_)
      all_goals (repeat with_reducible refine QThen.ret1 ?_)
      all_goals (first | exact QRet.int rfl rfl rfl (by omega) | exact QRet.int rfl rfl rfl (by rw [Int.max_def]; split <;> omega)))
    | (
      refine AWP.condF rfl ?_
      all_goals (refine AWP.skip ?_)
      all_goals (refine AWP.seqR rfl ?_)
      all_goals (refine ASL.light rfl rfl (opMove (v := .int _ _) rfl rfl) ?_)
      all_goals (refine ASL.light rfl rfl (opAssign (v := .int _ _) rfl rfl) ?_)
      all_goals (refine ASL.done ?_)
      all_goals (refine AWP.ret ?_)
      all_goals (repeat with_reducible refine QThen.ret1 ?_)
      all_goals (first | exact QRet.int rfl rfl rfl (by omega) | exact QRet.int rfl rfl rfl (by rw [Int.max_def]; split <;> omega))))

set_option maxRecDepth 10000 in
theorem spec_l14Mul (m : Nat) (x y : List Int) (hm : 1 ≤ m ∧ m ≤ 4) (hx : x.length = m * m) (hy : y.length = m * m) : PO Try.prog 67 [.int .i64 m, ints x, ints y] 1 ((boxMulL m x y).map (AV.int .i64)) := by
  refine HC.enter Try.func67 rfl Try.ntmps67 (by simp) ?_
  obtain ⟨hm1, hm2, hm3, hm4, hm5⟩ := mm4 hm
  all_goals (refine AWP.seqR rfl ?_)
  all_goals (first | (refine ASL.light rfl rfl (opAssign (v := .list _ _) rfl rfl) ?_) | (refine ASL.light rfl rfl (opAssign (v := .slc _ _ _ _) rfl rfl) ?_) | (refine ASL.light rfl rfl (opAssign (v := .nil) rfl rfl) ?_))
  all_goals (refine ASL.done ?_)
  all_goals (refine AWP.seqR rfl ?_)
  all_goals (refine ASL.light rfl rfl (opMove (v := .int _ _) rfl rfl) ?_)
  all_goals (refine ASL.light rfl rfl (opMove (v := .int _ _) rfl rfl) ?_)
  all_goals (first | (refine ASL.light rfl rfl (opMul rfl rfl rfl (by first | omega | (simp; omega))) ?_) | (refine ASL.light rfl rfl (opInt rfl rfl rfl rfl) ?_))
  all_goals (refine ASL.heavy1 rfl rfl (opMakeM (f := AV.int .i64) (z0 := 0) rfl elemA_22 sizeA_3 bytesA_3 zeroA_3 rfl rfl (by decide) rfl rfl (by omega) (by omega) (by omega) ?_); rintro b14 c14 G14 hO14 hK14 hN14)
  all_goals (first | (refine ASL.light rfl rfl (opAssign (v := .list _ _) rfl rfl) ?_) | (refine ASL.light rfl rfl (opAssign (v := .slc _ _ _ _) rfl rfl) ?_) | (refine ASL.light rfl rfl (opAssign (v := .nil) rfl rfl) ?_))
  all_goals (refine ASL.done ?_)
  all_goals (refine AWP.seq ?_)
  all_goals (refine AWP.seqR rfl ?_)
  all_goals (refine ASL.light rfl rfl (opAssign (v := .int _ _) rfl rfl) ?_)
  all_goals (refine ASL.done ?_)
  all_goals (refine AWP.block ?_)
  rw [hm1, Int.toNat_natCast] at *
  all_goals (refine AWP.loopL (α := Nat × List Int) (fun s => [(0, .int .i64 m), (1, ints x), (2, ints y), (7, .slc b14 0 (m * m) c14), (8, .int .i64 s.1)]) (fun s G => Own 1 G (.slc b14 0 (m * m) c14) (s.2.map (AV.int .i64))) (fun s => m - s.1) (fun s => s.1 ≤ m ∧ TabL s.2 m (valS x y m s.1 0 0)) (0, List.replicate (m * m) 0) ⟨by simp, TabL.zero m rfl _ valS_0⟩ ⟨rfl, rfl, rfl, rfl, rfl, trivial⟩ (by assumption) ?_)
  rintro ⟨p, zs0⟩ G0 ⟨hl0, hT0⟩ hO0; dsimp only at hl0 hT0 hO0 ⊢
  have hz0 := hT0.1
  all_goals (refine AWP.seq ?_)
  all_goals (refine AWP.seqR rfl ?_)
  all_goals (refine ASL.light rfl rfl (opMove (v := .int _ _) rfl rfl) ?_)
  all_goals (refine ASL.light rfl rfl (opMove (v := .int _ _) rfl rfl) ?_)
  all_goals (refine ASL.dec rfl rfl (opInt rfl rfl rfl rfl) ?_ ?_ <;> intro h17)
  all_goals (refine ASL.done ?_)
  all_goals (first
    | (
      refine AWP.condF rfl ?_
      all_goals (refine AWP.exit ?_))
    | (
      refine AWP.condT rfl ?_
      all_goals (refine AWP.skip ?_)
      all_goals (refine AWP.seq ?_)
      all_goals (refine AWP.block ?_)
      all_goals (refine AWP.seqR rfl ?_)
      all_goals (refine ASL.light rfl rfl (opAssign (v := .int _ _) rfl rfl) ?_)
      all_goals (refine ASL.done ?_)
      all_goals (refine AWP.block ?_)
      all_goals (refine AWP.loopL (α := Nat × List Int) (fun s => [(0, .int .i64 m), (1, ints x), (2, ints y), (7, .slc b14 0 (m * m) c14), (8, .int .i64 p), (9, .int .i64 s.1)]) (fun s G => Own 1 G (.slc b14 0 (m * m) c14) (s.2.map (AV.int .i64))) (fun s => m - s.1) (fun s => s.1 ≤ m ∧ TabL s.2 m (valS x y m p s.1 0)) (0, zs0) ⟨by simp, hT0⟩ ⟨rfl, rfl, rfl, rfl, rfl, rfl, trivial⟩ (by assumption) ?_)
      rintro ⟨q, zs1⟩ G1 ⟨hl1, hT1⟩ hO1; dsimp only at hl1 hT1 hO1 ⊢
      have hz1 := hT1.1
      all_goals (refine AWP.seq ?_)
      all_goals (refine AWP.seqR rfl ?_)
      all_goals (refine ASL.light rfl rfl (opMove (v := .int _ _) rfl rfl) ?_)
      all_goals (refine ASL.light rfl rfl (opMove (v := .int _ _) rfl rfl) ?_)
      all_goals (refine ASL.dec rfl rfl (opInt rfl rfl rfl rfl) ?_ ?_ <;> intro h22)
      all_goals (refine ASL.done ?_)
      all_goals (first
        | (
          refine AWP.condF rfl ?_
          all_goals (refine AWP.exit ?_))
        | (
          refine AWP.condT rfl ?_
          all_goals (refine AWP.skip ?_)
          all_goals (refine AWP.seq ?_)
          all_goals (refine AWP.block ?_)
          all_goals (refine AWP.seqR rfl ?_)
          all_goals (refine ASL.light rfl rfl (opAssign (v := .int _ _) rfl rfl) ?_)
          all_goals (refine ASL.done ?_)
          all_goals (refine AWP.block ?_)
          all_goals (refine AWP.loopL (α := Nat × List Int) (fun s => [(0, .int .i64 m), (1, ints x), (2, ints y), (7, .slc b14 0 (m * m) c14), (8, .int .i64 p), (9, .int .i64 q), (10, .int .i64 s.1)]) (fun s G => Own 1 G (.slc b14 0 (m * m) c14) (s.2.map (AV.int .i64))) (fun s => m - s.1) (fun s => s.1 ≤ m ∧ TabL s.2 m (valS x y m p q s.1)) (0, zs1) ⟨by simp, hT1⟩ ⟨rfl, rfl, rfl, rfl, rfl, rfl, rfl, trivial⟩ (by assumption) ?_)
          rintro ⟨r, zs2⟩ G2 ⟨hl2, hT2⟩ hO2; dsimp only at hl2 hT2 hO2 ⊢
          have hz2 := hT2.1
          all_goals (refine AWP.seq ?_)
          all_goals (refine AWP.seqR rfl ?_)
          all_goals (refine ASL.light rfl rfl (opMove (v := .int _ _) rfl rfl) ?_)
          all_goals (refine ASL.light rfl rfl (opMove (v := .int _ _) rfl rfl) ?_)
          all_goals (refine ASL.dec rfl rfl (opInt rfl rfl rfl rfl) ?_ ?_ <;> intro h27)
          all_goals (refine ASL.done ?_)
          all_goals (first
            | (
              refine AWP.condF rfl ?_
              all_goals (refine AWP.exit ?_))
            | (
              refine AWP.condT rfl ?_
              all_goals (refine AWP.skip ?_)
              all_goals (refine AWP.seq ?_)
              all_goals (refine AWP.block ?_)
              all_goals (refine AWP.seqR rfl ?_)
              all_goals (first | (refine ASL.light rfl rfl (opMove (v := .list _ _) rfl rfl) ?_) | (refine ASL.light rfl rfl (opMove (v := .slc _ _ _ _) rfl rfl) ?_) | (refine ASL.light rfl rfl (opMove (v := .nil) rfl rfl) ?_))
              all_goals (refine ASL.light rfl rfl (opMove (v := .int _ _) rfl rfl) ?_)
              all_goals (refine ASL.light rfl rfl (opMove (v := .int _ _) rfl rfl) ?_)
              all_goals (have hqpr := pq4 hm (show p < m by omega) (show r < m by omega); refine ASL.light rfl rfl (opMul rfl rfl rfl (by omega)) ?_)
              all_goals (refine ASL.light rfl rfl (opMove (v := .int _ _) rfl rfl) ?_)
              all_goals (first | (refine ASL.light rfl rfl (opAdd rfl rfl rfl (by first | omega | (simp; omega))) ?_) | (refine ASL.light rfl rfl (opInt rfl rfl rfl rfl) ?_))
              all_goals (first | (refine ASL.light rfl rfl (opIndexIN rfl rfl rfl elemA_22 sizeA_3 (by first | omega | (simp; omega))) ?_) | (refine ASL.light rfl rfl (opIndexI rfl rfl rfl elemA_22 sizeA_3 (by first | omega | (simp; omega)) (by first | omega | (simp; omega))) ?_) | (refine ASL.light rfl rfl (opIndexN rfl rfl rfl elemA_22 sizeA_3 (by first | omega | (simp; omega)) rfl) ?_) | (refine ASL.light rfl rfl (opIndexMap rfl rfl rfl elemA_22 sizeA_3 (by first | omega | (simp; omega)) (by first | omega | (simp; omega)) rfl) ?_) | (refine ASL.light rfl rfl (opIndexAddrN rfl rfl rfl elemA_22 sizeA_3 (by first | omega | (simp; omega))) ?_) | (refine ASL.light rfl rfl (opIndexAddr rfl rfl rfl elemA_22 sizeA_3 (by first | omega | (simp; omega)) (by first | omega | (simp; omega)) rfl) ?_))
              all_goals (first | (refine ASL.light rfl rfl (opLoadR (v := .int _ _) rfl aggA_3 rfl rfl) ?_) | (refine ASL.light rfl rfl (opLoadOwnI rfl aggA_3 rfl (by assumption) (by first | first | omega | (simp; omega) | (simp; first | omega | (simp; omega)))) ?_))
              all_goals (refine ASL.dec rfl rfl (opInt rfl rfl rfl rfl) ?_ ?_ <;> intro h38)
              all_goals (refine ASL.light rfl rfl (opMove (v := .bool _) rfl rfl) ?_)
              all_goals (first | (refine ASL.off rfl rfl ?_) | (refine ASL.light rfl rfl (opMove (v := .list _ _) rfl rfl) ?_) | (refine ASL.light rfl rfl (opMove (v := .slc _ _ _ _) rfl rfl) ?_) | (refine ASL.light rfl rfl (opMove (v := .nil) rfl rfl) ?_))
              all_goals (first | (refine ASL.off rfl rfl ?_) | (refine ASL.light rfl rfl (opMove (v := .int _ _) rfl rfl) ?_))
              all_goals (first | (refine ASL.off rfl rfl ?_) | (refine ASL.light rfl rfl (opMove (v := .int _ _) rfl rfl) ?_))
              all_goals (first | (refine ASL.off rfl rfl ?_) | (have hqrq := pq4 hm (show r < m by omega) (show q < m by omega); refine ASL.light rfl rfl (opMul rfl rfl rfl (by omega)) ?_))
              all_goals (first | (refine ASL.off rfl rfl ?_) | (refine ASL.light rfl rfl (opMove (v := .int _ _) rfl rfl) ?_))
              all_goals (first | (refine ASL.off rfl rfl ?_) | (refine ASL.light rfl rfl (opAdd rfl rfl rfl (by first | omega | (simp; omega))) ?_) | (refine ASL.light rfl rfl (opInt rfl rfl rfl rfl) ?_))
              all_goals (first | (refine ASL.off rfl rfl ?_) | (refine ASL.light rfl rfl (opIndexIN rfl rfl rfl elemA_22 sizeA_3 (by first | omega | (simp; omega))) ?_) | (refine ASL.light rfl rfl (opIndexI rfl rfl rfl elemA_22 sizeA_3 (by first | omega | (simp; omega)) (by first | omega | (simp; omega))) ?_) | (refine ASL.light rfl rfl (opIndexN rfl rfl rfl elemA_22 sizeA_3 (by first | omega | (simp; omega)) rfl) ?_) | (refine ASL.light rfl rfl (opIndexMap rfl rfl rfl elemA_22 sizeA_3 (by first | omega | (simp; omega)) (by first | omega | (simp; omega)) rfl) ?_) | (refine ASL.light rfl rfl (opIndexAddrN rfl rfl rfl elemA_22 sizeA_3 (by first | omega | (simp; omega))) ?_) | (refine ASL.light rfl rfl (opIndexAddr rfl rfl rfl elemA_22 sizeA_3 (by first | omega | (simp; omega)) (by first | omega | (simp; omega)) rfl) ?_))
              all_goals (first | (refine ASL.off rfl rfl ?_) | (refine ASL.light rfl rfl (opLoadR (v := .int _ _) rfl aggA_3 rfl rfl) ?_) | (refine ASL.light rfl rfl (opLoadOwnI rfl aggA_3 rfl (by assumption) (by first | first | omega | (simp; omega) | (simp; first | omega | (simp; omega)))) ?_))
              all_goals (first | (refine ASL.off rfl rfl ?_) | (refine ASL.dec rfl rfl (opInt rfl rfl rfl rfl) ?_ ?_ <;> intro h48))
              all_goals (refine ASL.light rfl rfl (opPick (v := .bool _) rfl rfl rfl) ?_)
              all_goals (refine ASL.done ?_)
              all_goals (first
                | (
                  refine AWP.condF rfl ?_
                  all_goals (refine AWP.skip ?_))
                | (
                  refine AWP.condT rfl ?_
                  all_goals (refine AWP.lastD [(0, false), (1, false), (2, false), (3, false), (4, false), (5, false), (6, false), (7, false), (8, false), (9, false), (10, false), (11, false), (12, false), (13, false), (14, false), (15, false), (16, false), (17, false), (18, false), (19, false), (20, false), (21, false), (22, false), (23, false), (24, false), (25, false), (26, false), (27, false), (28, false), (29, false), (30, false), (31, false), (32, false), (33, true)] mixed (by kernel_rfl) rfl ?_)
                  all_goals (first | (refine ARL.light0 rfl rfl rfl (opMove (v := .list _ _) rfl rfl) ?_) | (refine ARL.light0 rfl rfl rfl (opMove (v := .slc _ _ _ _) rfl rfl) ?_) | (refine ARL.light0 rfl rfl rfl (opMove (v := .nil) rfl rfl) ?_))
                  all_goals (refine ARL.light0 rfl rfl rfl (opMove (v := .int _ _) rfl rfl) ?_)
                  all_goals (refine ARL.light0 rfl rfl rfl (opMove (v := .int _ _) rfl rfl) ?_)
                  all_goals (have hqpq := pq4 hm (show p < m by omega) (show q < m by omega); refine ARL.light0 rfl rfl rfl (opMul rfl rfl rfl (by omega)) ?_)
                  all_goals (refine ARL.light0 rfl rfl rfl (opMove (v := .int _ _) rfl rfl) ?_)
                  all_goals (first | (refine ARL.light0 rfl rfl rfl (opAdd rfl rfl rfl (by first | omega | (simp; omega))) ?_) | (refine ARL.light0 rfl rfl rfl (opInt rfl rfl rfl rfl) ?_))
                  all_goals (first | (refine ARL.light0 rfl rfl rfl (opMove (v := .list _ _) rfl rfl) ?_) | (refine ARL.light0 rfl rfl rfl (opMove (v := .slc _ _ _ _) rfl rfl) ?_) | (refine ARL.light0 rfl rfl rfl (opMove (v := .nil) rfl rfl) ?_))
                  all_goals (refine ARL.light0 rfl rfl rfl (opMove (v := .int _ _) rfl rfl) ?_)
                  all_goals (refine ARL.light0 rfl rfl rfl (opMove (v := .int _ _) rfl rfl) ?_)
                  all_goals (refine ARL.light0 rfl rfl rfl (opMul rfl rfl rfl (by omega)) ?_)
                  all_goals (refine ARL.light0 rfl rfl rfl (opMove (v := .int _ _) rfl rfl) ?_)
                  all_goals (first | (refine ARL.light0 rfl rfl rfl (opAdd rfl rfl rfl (by first | omega | (simp; omega))) ?_) | (refine ARL.light0 rfl rfl rfl (opInt rfl rfl rfl rfl) ?_))
                  all_goals (first | (refine ARL.light0 rfl rfl rfl (opIndexIN rfl rfl rfl elemA_22 sizeA_3 (by first | omega | (simp; omega))) ?_) | (refine ARL.light0 rfl rfl rfl (opIndexI rfl rfl rfl elemA_22 sizeA_3 (by first | omega | (simp; omega)) (by first | omega | (simp; omega))) ?_) | (refine ARL.light0 rfl rfl rfl (opIndexN rfl rfl rfl elemA_22 sizeA_3 (by first | omega | (simp; omega)) rfl) ?_) | (refine ARL.light0 rfl rfl rfl (opIndexMap rfl rfl rfl elemA_22 sizeA_3 (by first | omega | (simp; omega)) (by first | omega | (simp; omega)) rfl) ?_) | (refine ARL.light0 rfl rfl rfl (opIndexAddrN rfl rfl rfl elemA_22 sizeA_3 (by first | omega | (simp; omega))) ?_) | (refine ARL.light0 rfl rfl rfl (opIndexAddr rfl rfl rfl elemA_22 sizeA_3 (by first | omega | (simp; omega)) (by first | omega | (simp; omega)) rfl) ?_))
                  all_goals (first | (refine ARL.light0 rfl rfl rfl (opLoadR (v := .int _ _) rfl aggA_3 rfl rfl) ?_) | (refine ARL.light rfl rfl rfl (opLoadOwnI rfl aggA_3 rfl (by assumption) (by first | first | omega | (simp; omega) | (simp; first | omega | (simp; omega)))) (by intro b_ hb_; rw [List.mem_singleton.mp hb_]; exact Own.alive (by assumption) (by first | omega | (simp; omega))) ?_))
                  all_goals (first | (refine ARL.light0 rfl rfl rfl (opMove (v := .list _ _) rfl rfl) ?_) | (refine ARL.light0 rfl rfl rfl (opMove (v := .slc _ _ _ _) rfl rfl) ?_) | (refine ARL.light0 rfl rfl rfl (opMove (v := .nil) rfl rfl) ?_))
                  all_goals (refine ARL.light0 rfl rfl rfl (opMove (v := .int _ _) rfl rfl) ?_)
                  all_goals (refine ARL.light0 rfl rfl rfl (opMove (v := .int _ _) rfl rfl) ?_)
                  all_goals (refine ARL.light0 rfl rfl rfl (opMul rfl rfl rfl (by omega)) ?_)
                  all_goals (refine ARL.light0 rfl rfl rfl (opMove (v := .int _ _) rfl rfl) ?_)
                  all_goals (first | (refine ARL.light0 rfl rfl rfl (opAdd rfl rfl rfl (by first | omega | (simp; omega))) ?_) | (refine ARL.light0 rfl rfl rfl (opInt rfl rfl rfl rfl) ?_))
                  all_goals (first | (refine ARL.light0 rfl rfl rfl (opIndexIN rfl rfl rfl elemA_22 sizeA_3 (by first | omega | (simp; omega))) ?_) | (refine ARL.light0 rfl rfl rfl (opIndexI rfl rfl rfl elemA_22 sizeA_3 (by first | omega | (simp; omega)) (by first | omega | (simp; omega))) ?_) | (refine ARL.light0 rfl rfl rfl (opIndexN rfl rfl rfl elemA_22 sizeA_3 (by first | omega | (simp; omega)) rfl) ?_) | (refine ARL.light0 rfl rfl rfl (opIndexMap rfl rfl rfl elemA_22 sizeA_3 (by first | omega | (simp; omega)) (by first | omega | (simp; omega)) rfl) ?_) | (refine ARL.light0 rfl rfl rfl (opIndexAddrN rfl rfl rfl elemA_22 sizeA_3 (by first | omega | (simp; omega))) ?_) | (refine ARL.light0 rfl rfl rfl (opIndexAddr rfl rfl rfl elemA_22 sizeA_3 (by first | omega | (simp; omega)) (by first | omega | (simp; omega)) rfl) ?_))
                  all_goals (first | (refine ARL.light0 rfl rfl rfl (opLoadR (v := .int _ _) rfl aggA_3 rfl rfl) ?_) | (refine ARL.light rfl rfl rfl (opLoadOwnI rfl aggA_3 rfl (by assumption) (by first | first | omega | (simp; omega) | (simp; first | omega | (simp; omega)))) (by intro b_ hb_; rw [List.mem_singleton.mp hb_]; exact Own.alive (by assumption) (by first | omega | (simp; omega))) ?_))
                  all_goals (first | (refine ARL.light0 rfl rfl rfl (opMove (v := .list _ _) rfl rfl) ?_) | (refine ARL.light0 rfl rfl rfl (opMove (v := .slc _ _ _ _) rfl rfl) ?_) | (refine ARL.light0 rfl rfl rfl (opMove (v := .nil) rfl rfl) ?_))
                  all_goals (refine ARL.light0 rfl rfl rfl (opMove (v := .int _ _) rfl rfl) ?_)
                  all_goals (refine ARL.light0 rfl rfl rfl (opMove (v := .int _ _) rfl rfl) ?_)
                  all_goals (refine ARL.light0 rfl rfl rfl (opMul rfl rfl rfl (by omega)) ?_)
                  all_goals (refine ARL.light0 rfl rfl rfl (opMove (v := .int _ _) rfl rfl) ?_)
                  all_goals (first | (refine ARL.light0 rfl rfl rfl (opAdd rfl rfl rfl (by first | omega | (simp; omega))) ?_) | (refine ARL.light0 rfl rfl rfl (opInt rfl rfl rfl rfl) ?_))
                  all_goals (first | (refine ARL.light0 rfl rfl rfl (opIndexIN rfl rfl rfl elemA_22 sizeA_3 (by first | omega | (simp; omega))) ?_) | (refine ARL.light0 rfl rfl rfl (opIndexI rfl rfl rfl elemA_22 sizeA_3 (by first | omega | (simp; omega)) (by first | omega | (simp; omega))) ?_) | (refine ARL.light0 rfl rfl rfl (opIndexN rfl rfl rfl elemA_22 sizeA_3 (by first | omega | (simp; omega)) rfl) ?_) | (refine ARL.light0 rfl rfl rfl (opIndexMap rfl rfl rfl elemA_22 sizeA_3 (by first | omega | (simp; omega)) (by first | omega | (simp; omega)) rfl) ?_) | (refine ARL.light0 rfl rfl rfl (opIndexAddrN rfl rfl rfl elemA_22 sizeA_3 (by first | omega | (simp; omega))) ?_) | (refine ARL.light0 rfl rfl rfl (opIndexAddr rfl rfl rfl elemA_22 sizeA_3 (by first | omega | (simp; omega)) (by first | omega | (simp; omega)) rfl) ?_))
                  all_goals (first | (refine ARL.light0 rfl rfl rfl (opLoadR (v := .int _ _) rfl aggA_3 rfl rfl) ?_) | (refine ARL.light rfl rfl rfl (opLoadOwnI rfl aggA_3 rfl (by assumption) (by first | first | omega | (simp; omega) | (simp; first | omega | (simp; omega)))) (by intro b_ hb_; rw [List.mem_singleton.mp hb_]; exact Own.alive (by assumption) (by first | omega | (simp; omega))) ?_))
                  all_goals (refine ARL.callP rfl rfl rfl rfl call_106 (spec_l1Max _ _) rfl ?_; rintro _ rfl)
                  all_goals (refine ARL.callP rfl rfl rfl rfl call_106 (spec_l1Max _ _) rfl ?_; rintro _ rfl)
                  all_goals (first | (refine ARL.light0 rfl rfl rfl (opIndexIN rfl rfl rfl elemA_22 sizeA_3 (by first | omega | (simp; omega))) ?_) | (refine ARL.light0 rfl rfl rfl (opIndexI rfl rfl rfl elemA_22 sizeA_3 (by first | omega | (simp; omega)) (by first | omega | (simp; omega))) ?_) | (refine ARL.light0 rfl rfl rfl (opIndexN rfl rfl rfl elemA_22 sizeA_3 (by first | omega | (simp; omega)) rfl) ?_) | (refine ARL.light0 rfl rfl rfl (opIndexMap rfl rfl rfl elemA_22 sizeA_3 (by first | omega | (simp; omega)) (by first | omega | (simp; omega)) rfl) ?_) | (refine ARL.light0 rfl rfl rfl (opIndexAddrN rfl rfl rfl elemA_22 sizeA_3 (by first | omega | (simp; omega))) ?_) | (refine ARL.light0 rfl rfl rfl (opIndexAddr rfl rfl rfl elemA_22 sizeA_3 (by first | omega | (simp; omega)) (by first | omega | (simp; omega)) rfl) ?_))
                  all_goals (refine ARL.store rfl rfl rfl rfl (opStoreOwnI rfl sizeA_3 rfl rfl (by assumption) (by first | first | omega | (simp; omega) | (simp; first | omega | (simp; omega))) ?_); rintro Gs1 hOs1 hBs1)
                  all_goals (refine ARL.done ?_)))
              all_goals (refine AWP.lastR rfl ?_)
              all_goals (refine ASL.light rfl rfl (opMove (v := .int _ _) rfl rfl) ?_)
              all_goals (first | (refine ASL.light rfl rfl (opAdd rfl rfl rfl (by first | omega | (simp; omega))) ?_) | (refine ASL.light rfl rfl (opInt rfl rfl rfl rfl) ?_))
              all_goals (refine ASL.light rfl rfl (opAssign (v := .int _ _) rfl rfl) ?_)
              all_goals (refine ASL.done ?_)
              all_goals (first | exact ⟨(r + 1, _), ⟨by dsimp only; omega, valS_yes hT2 (by omega) (by omega) (by assumption) (by assumption)⟩, by dsimp only; omega, ⟨rfl, rfl, rfl, rfl, rfl, rfl, rfl, trivial⟩, hOs1⟩ | exact ⟨(r + 1, zs2), ⟨by dsimp only; omega, valS_no hT2 (fun k => by first | exact absurd k.1 (by assumption) | exact absurd k.2 (by assumption))⟩, by dsimp only; omega, ⟨rfl, rfl, rfl, rfl, rfl, rfl, rfl, trivial⟩, hO2⟩)))
          all_goals (refine AWP.lastR rfl ?_)
          all_goals (refine ASL.light rfl rfl (opMove (v := .int _ _) rfl rfl) ?_)
          all_goals (first | (refine ASL.light rfl rfl (opAdd rfl rfl rfl (by first | omega | (simp; omega))) ?_) | (refine ASL.light rfl rfl (opInt rfl rfl rfl rfl) ?_))
          all_goals (refine ASL.light rfl rfl (opAssign (v := .int _ _) rfl rfl) ?_)
          all_goals (refine ASL.done ?_)
          all_goals (exact ⟨(q + 1, zs2), ⟨by dsimp only; omega, valS_q hT2 (by omega)⟩, by dsimp only; omega, ⟨rfl, rfl, rfl, rfl, rfl, rfl, trivial⟩, hO2⟩)))
      all_goals (refine AWP.lastR rfl ?_)
      all_goals (refine ASL.light rfl rfl (opMove (v := .int _ _) rfl rfl) ?_)
      all_goals (first | (refine ASL.light rfl rfl (opAdd rfl rfl rfl (by first | omega | (simp; omega))) ?_) | (refine ASL.light rfl rfl (opInt rfl rfl rfl rfl) ?_))
      all_goals (refine ASL.light rfl rfl (opAssign (v := .int _ _) rfl rfl) ?_)
      all_goals (refine ASL.done ?_)
      all_goals (exact ⟨(p + 1, zs1), ⟨by dsimp only; omega, valS_p hT1 (by omega)⟩, by dsimp only; omega, ⟨rfl, rfl, rfl, rfl, rfl, trivial⟩, hO1⟩)))
  all_goals (refine AWP.seqR rfl ?_)
  all_goals (first | (refine ASL.light rfl rfl (opMove (v := .list _ _) rfl rfl) ?_) | (refine ASL.light rfl rfl (opMove (v := .slc _ _ _ _) rfl rfl) ?_) | (refine ASL.light rfl rfl (opMove (v := .nil) rfl rfl) ?_))
  all_goals (first | (refine ASL.light rfl rfl (opAssign (v := .list _ _) rfl rfl) ?_) | (refine ASL.light rfl rfl (opAssign (v := .slc _ _ _ _) rfl rfl) ?_) | (refine ASL.light rfl rfl (opAssign (v := .nil) rfl rfl) ?_))
  all_goals (refine ASL.done ?_)
  all_goals (refine AWP.ret ?_)
  all_goals (repeat with_reducible refine QThen.ret1 ?_)
  all_goals (refine QRet.one rfl rfl ?_; rw [← valS_end hT0 (by omega)]; exact hO0)

set_option maxRecDepth 10000 in
theorem impl_boxMul (m : Nat) (x y : List Int) (hm : 1 ≤ m ∧ m ≤ 4) (hx : x.length = m * m) (hy : y.length = m * m) (hxp : ∀ i, 0 ≤ x.getD i 0) (hyp : ∀ i, 0 ≤ y.getD i 0) : PO Try.prog 68 [.int .i64 m, ints x, ints y] 1 ((boxMulL m x y).map (AV.int .i64)) := by
  refine HC.enter Try.func68 rfl Try.ntmps68 (by simp) ?_
  obtain ⟨hm1, hm2, hm3, hm4, hm5⟩ := mm4 hm
  all_goals (refine AWP.seqR rfl ?_)
  all_goals (first | (refine ASL.light rfl rfl (opAssign (v := .list _ _) rfl rfl) ?_) | (refine ASL.light rfl rfl (opAssign (v := .slc _ _ _ _) rfl rfl) ?_) | (refine ASL.light rfl rfl (opAssign (v := .nil) rfl rfl) ?_))
  all_goals (refine ASL.done ?_)
  all_goals (refine AWP.seqR rfl ?_)
  all_goals (refine ASL.light rfl rfl (opMove (v := .int _ _) rfl rfl) ?_)
  all_goals (refine ASL.light rfl rfl (opMove (v := .int _ _) rfl rfl) ?_)
  all_goals (first | (refine ASL.light rfl rfl (opMul rfl rfl rfl (by first | omega | (simp; omega))) ?_) | (refine ASL.light rfl rfl (opInt rfl rfl rfl rfl) ?_))
  all_goals (refine ASL.heavy1 rfl rfl (opMakeM (f := AV.int .i64) (z0 := 0) rfl elemA_22 sizeA_3 bytesA_3 zeroA_3 rfl rfl (by decide) rfl rfl (by omega) (by omega) (by omega) ?_); rintro b14 c14 G14 hO14 hK14 hN14)
  all_goals (first | (refine ASL.light rfl rfl (opAssign (v := .list _ _) rfl rfl) ?_) | (refine ASL.light rfl rfl (opAssign (v := .slc _ _ _ _) rfl rfl) ?_) | (refine ASL.light rfl rfl (opAssign (v := .nil) rfl rfl) ?_))
  all_goals (refine ASL.done ?_)
  all_goals (refine AWP.seq ?_)
  all_goals (refine AWP.seqR rfl ?_)
  all_goals (refine ASL.light rfl rfl (opMove (v := .int _ _) rfl rfl) ?_)
  all_goals (refine ASL.light rfl rfl (opMove (v := .int _ _) rfl rfl) ?_)
  all_goals (refine ASL.done ?_)
  all_goals (refine AWP.block ?_)
  rw [hm1, Int.toNat_natCast] at *
  all_goals (refine AWP.loopL (α := Nat × List Int) (fun s => [(0, .int .i64 m), (1, ints x), (2, ints y), (7, .slc b14 0 (m * m) c14), (15, .int .i64 m), (16, .int .i64 s.1)]) (fun s G => Own 1 G (.slc b14 0 (m * m) c14) (s.2.map (AV.int .i64))) (fun s => m - s.1) (fun s => s.1 ≤ m ∧ TabL s.2 m (valI x y m s.1 0 0)) (0, List.replicate (m * m) 0) ⟨by simp, TabL.zero m rfl _ valI_0⟩ ⟨rfl, rfl, rfl, rfl, rfl, rfl, trivial⟩ (by assumption) ?_)
  rintro ⟨p, zs0⟩ G0 ⟨hl0, hT0⟩ hO0; dsimp only at hl0 hT0 hO0 ⊢
  have hz0 := hT0.1
  all_goals (refine AWP.seqR rfl ?_)
  all_goals (refine ASL.dec rfl rfl (opInt rfl rfl rfl rfl) ?_ ?_ <;> intro h17)
  all_goals (refine ASL.done ?_)
  all_goals (refine AWP.seq ?_)
  all_goals (first
    | (
      refine AWP.condF rfl ?_
      all_goals (refine AWP.exit ?_))
    | (
      refine AWP.condT rfl ?_
      all_goals (refine AWP.skip ?_)
      all_goals (refine AWP.seq ?_)
      all_goals (refine AWP.block ?_)
      all_goals (refine AWP.seqR rfl ?_)
      all_goals (refine ASL.light rfl rfl (opMove (v := .int _ _) rfl rfl) ?_)
      all_goals (refine ASL.light rfl rfl (opAssign (v := .int _ _) rfl rfl) ?_)
      all_goals (refine ASL.done ?_)
      all_goals (refine AWP.seqR rfl ?_)
      all_goals (refine ASL.light rfl rfl (opMove (v := .int _ _) rfl rfl) ?_)
      all_goals (refine ASL.light rfl rfl (opMove (v := .int _ _) rfl rfl) ?_)
      all_goals (refine ASL.done ?_)
      all_goals (refine AWP.block ?_)
      all_goals (refine AWP.loopL (α := Nat × List Int) (fun s => [(0, .int .i64 m), (1, ints x), (2, ints y), (7, .slc b14 0 (m * m) c14), (15, .int .i64 m), (16, .int .i64 p), (8, .int .i64 p), (19, .int .i64 m), (20, .int .i64 s.1)]) (fun s G => Own 1 G (.slc b14 0 (m * m) c14) (s.2.map (AV.int .i64))) (fun s => m - s.1) (fun s => s.1 ≤ m ∧ TabL s.2 m (valI x y m p s.1 0)) (0, zs0) ⟨by simp, hT0⟩ ⟨rfl, rfl, rfl, rfl, rfl, rfl, rfl, rfl, rfl, trivial⟩ (by assumption) ?_)
      rintro ⟨r, zs1⟩ G1 ⟨hl1, hT1⟩ hO1; dsimp only at hl1 hT1 hO1 ⊢
      have hz1 := hT1.1
      all_goals (refine AWP.seqR rfl ?_)
      all_goals (refine ASL.dec rfl rfl (opInt rfl rfl rfl rfl) ?_ ?_ <;> intro h21)
      all_goals (refine ASL.done ?_)
      all_goals (refine AWP.seq ?_)
      all_goals (first
        | (
          refine AWP.condF rfl ?_
          all_goals (refine AWP.exit ?_))
        | (
          refine AWP.condT rfl ?_
          all_goals (refine AWP.skip ?_)
          all_goals (refine AWP.seq ?_)
          all_goals (refine AWP.block ?_)
          all_goals (refine AWP.seqR rfl ?_)
          all_goals (refine ASL.light rfl rfl (opMove (v := .int _ _) rfl rfl) ?_)
          all_goals (refine ASL.light rfl rfl (opAssign (v := .int _ _) rfl rfl) ?_)
          all_goals (refine ASL.done ?_)
          all_goals (refine AWP.seq ?_)
          all_goals (refine AWP.seqR rfl ?_)
          all_goals (first | (refine ASL.light rfl rfl (opMove (v := .list _ _) rfl rfl) ?_) | (refine ASL.light rfl rfl (opMove (v := .slc _ _ _ _) rfl rfl) ?_) | (refine ASL.light rfl rfl (opMove (v := .nil) rfl rfl) ?_))
          all_goals (refine ASL.light rfl rfl (opMove (v := .int _ _) rfl rfl) ?_)
          all_goals (refine ASL.light rfl rfl (opMove (v := .int _ _) rfl rfl) ?_)
          all_goals (have hqpr := pq4 hm (show p < m by omega) (show r < m by omega); refine ASL.light rfl rfl (opMul rfl rfl rfl (by omega)) ?_)
          all_goals (refine ASL.light rfl rfl (opMove (v := .int _ _) rfl rfl) ?_)
          all_goals (first | (refine ASL.light rfl rfl (opAdd rfl rfl rfl (by first | omega | (simp; omega))) ?_) | (refine ASL.light rfl rfl (opInt rfl rfl rfl rfl) ?_))
          all_goals (first | (refine ASL.light rfl rfl (opIndexIN rfl rfl rfl elemA_22 sizeA_3 (by first | omega | (simp; omega))) ?_) | (refine ASL.light rfl rfl (opIndexI rfl rfl rfl elemA_22 sizeA_3 (by first | omega | (simp; omega)) (by first | omega | (simp; omega))) ?_) | (refine ASL.light rfl rfl (opIndexN rfl rfl rfl elemA_22 sizeA_3 (by first | omega | (simp; omega)) rfl) ?_) | (refine ASL.light rfl rfl (opIndexMap rfl rfl rfl elemA_22 sizeA_3 (by first | omega | (simp; omega)) (by first | omega | (simp; omega)) rfl) ?_) | (refine ASL.light rfl rfl (opIndexAddrN rfl rfl rfl elemA_22 sizeA_3 (by first | omega | (simp; omega))) ?_) | (refine ASL.light rfl rfl (opIndexAddr rfl rfl rfl elemA_22 sizeA_3 (by first | omega | (simp; omega)) (by first | omega | (simp; omega)) rfl) ?_))
          all_goals (first | (refine ASL.light rfl rfl (opLoadR (v := .int _ _) rfl aggA_3 rfl rfl) ?_) | (refine ASL.light rfl rfl (opLoadOwnI rfl aggA_3 rfl (by assumption) (by first | first | omega | (simp; omega) | (simp; first | omega | (simp; omega)))) ?_))
          all_goals (refine ASL.dec rfl rfl (opInt rfl rfl rfl rfl) ?_ ?_ <;> intro h31)
          all_goals (refine ASL.done ?_)
          all_goals (first
            | (
              refine AWP.condT rfl ?_
              all_goals (refine AWP.exit ?_))
            | (
              refine AWP.condF rfl ?_
              all_goals (refine AWP.skip ?_)
              all_goals (refine AWP.seqR rfl ?_)
              all_goals (refine ASL.light rfl rfl (opMove (v := .int _ _) rfl rfl) ?_)
              all_goals (refine ASL.light rfl rfl (opMove (v := .int _ _) rfl rfl) ?_)
              all_goals (refine ASL.done ?_)
              all_goals (refine AWP.block ?_)
              all_goals (refine AWP.loopL (α := Nat × List Int) (fun s => [(0, .int .i64 m), (1, ints x), (2, ints y), (7, .slc b14 0 (m * m) c14), (15, .int .i64 m), (16, .int .i64 p), (8, .int .i64 p), (19, .int .i64 m), (20, .int .i64 r), (9, .int .i64 r), (32, .int .i64 m), (33, .int .i64 s.1)]) (fun s G => Own 1 G (.slc b14 0 (m * m) c14) (s.2.map (AV.int .i64))) (fun s => m - s.1) (fun s => s.1 ≤ m ∧ TabL s.2 m (valI x y m p r s.1)) (0, zs1) ⟨by simp, hT1⟩ ⟨rfl, rfl, rfl, rfl, rfl, rfl, rfl, rfl, rfl, rfl, rfl, rfl, trivial⟩ (by assumption) ?_)
              rintro ⟨q, zs2⟩ G2 ⟨hl2, hT2⟩ hO2; dsimp only at hl2 hT2 hO2 ⊢
              have hz2 := hT2.1
              all_goals (refine AWP.seqR rfl ?_)
              all_goals (refine ASL.dec rfl rfl (opInt rfl rfl rfl rfl) ?_ ?_ <;> intro h34)
              all_goals (refine ASL.done ?_)
              all_goals (refine AWP.seq ?_)
              all_goals (first
                | (
                  refine AWP.condF rfl ?_
                  all_goals (refine AWP.exit ?_))
                | (
                  refine AWP.condT rfl ?_
                  all_goals (refine AWP.skip ?_)
                  all_goals (refine AWP.seq ?_)
                  all_goals (refine AWP.block ?_)
                  all_goals (refine AWP.seqR rfl ?_)
                  all_goals (refine ASL.light rfl rfl (opMove (v := .int _ _) rfl rfl) ?_)
                  all_goals (refine ASL.light rfl rfl (opAssign (v := .int _ _) rfl rfl) ?_)
                  all_goals (refine ASL.done ?_)
                  all_goals (refine AWP.seqR rfl ?_)
                  all_goals (first | (refine ASL.light rfl rfl (opMove (v := .list _ _) rfl rfl) ?_) | (refine ASL.light rfl rfl (opMove (v := .slc _ _ _ _) rfl rfl) ?_) | (refine ASL.light rfl rfl (opMove (v := .nil) rfl rfl) ?_))
                  all_goals (refine ASL.light rfl rfl (opMove (v := .int _ _) rfl rfl) ?_)
                  all_goals (refine ASL.light rfl rfl (opMove (v := .int _ _) rfl rfl) ?_)
                  all_goals (have hqrq := pq4 hm (show r < m by omega) (show q < m by omega); refine ASL.light rfl rfl (opMul rfl rfl rfl (by omega)) ?_)
                  all_goals (refine ASL.light rfl rfl (opMove (v := .int _ _) rfl rfl) ?_)
                  all_goals (first | (refine ASL.light rfl rfl (opAdd rfl rfl rfl (by first | omega | (simp; omega))) ?_) | (refine ASL.light rfl rfl (opInt rfl rfl rfl rfl) ?_))
                  all_goals (first | (refine ASL.light rfl rfl (opIndexIN rfl rfl rfl elemA_22 sizeA_3 (by first | omega | (simp; omega))) ?_) | (refine ASL.light rfl rfl (opIndexI rfl rfl rfl elemA_22 sizeA_3 (by first | omega | (simp; omega)) (by first | omega | (simp; omega))) ?_) | (refine ASL.light rfl rfl (opIndexN rfl rfl rfl elemA_22 sizeA_3 (by first | omega | (simp; omega)) rfl) ?_) | (refine ASL.light rfl rfl (opIndexMap rfl rfl rfl elemA_22 sizeA_3 (by first | omega | (simp; omega)) (by first | omega | (simp; omega)) rfl) ?_) | (refine ASL.light rfl rfl (opIndexAddrN rfl rfl rfl elemA_22 sizeA_3 (by first | omega | (simp; omega))) ?_) | (refine ASL.light rfl rfl (opIndexAddr rfl rfl rfl elemA_22 sizeA_3 (by first | omega | (simp; omega)) (by first | omega | (simp; omega)) rfl) ?_))
                  all_goals (first | (refine ASL.light rfl rfl (opLoadR (v := .int _ _) rfl aggA_3 rfl rfl) ?_) | (refine ASL.light rfl rfl (opLoadOwnI rfl aggA_3 rfl (by assumption) (by first | first | omega | (simp; omega) | (simp; first | omega | (simp; omega)))) ?_))
                  all_goals (refine ASL.dec rfl rfl (opInt rfl rfl rfl rfl) ?_ ?_ <;> intro h44)
                  all_goals (refine ASL.done ?_)
                  all_goals (first
                    | (
                      refine AWP.condF rfl ?_
                      all_goals (refine AWP.skip ?_))
                    | (
                      refine AWP.condT rfl ?_
                      all_goals (refine AWP.lastD [(0, false), (1, false), (2, false), (3, false), (4, false), (5, false), (6, false), (7, false), (8, false), (9, false), (10, false), (11, false), (12, false), (13, false), (14, false), (15, false), (16, false), (17, false), (18, false), (19, false), (20, false), (21, false), (22, false), (23, false), (24, false), (25, false), (26, false), (27, false), (28, false), (29, false), (30, false), (31, false), (32, true)] mixed (by kernel_rfl) rfl ?_)
                      all_goals (first | (refine ARL.light0 rfl rfl rfl (opMove (v := .list _ _) rfl rfl) ?_) | (refine ARL.light0 rfl rfl rfl (opMove (v := .slc _ _ _ _) rfl rfl) ?_) | (refine ARL.light0 rfl rfl rfl (opMove (v := .nil) rfl rfl) ?_))
                      all_goals (refine ARL.light0 rfl rfl rfl (opMove (v := .int _ _) rfl rfl) ?_)
                      all_goals (refine ARL.light0 rfl rfl rfl (opMove (v := .int _ _) rfl rfl) ?_)
                      all_goals (have hqpq := pq4 hm (show p < m by omega) (show q < m by omega); refine ARL.light0 rfl rfl rfl (opMul rfl rfl rfl (by omega)) ?_)
                      all_goals (refine ARL.light0 rfl rfl rfl (opMove (v := .int _ _) rfl rfl) ?_)
                      all_goals (first | (refine ARL.light0 rfl rfl rfl (opAdd rfl rfl rfl (by first | omega | (simp; omega))) ?_) | (refine ARL.light0 rfl rfl rfl (opInt rfl rfl rfl rfl) ?_))
                      all_goals (first | (refine ARL.light0 rfl rfl rfl (opMove (v := .list _ _) rfl rfl) ?_) | (refine ARL.light0 rfl rfl rfl (opMove (v := .slc _ _ _ _) rfl rfl) ?_) | (refine ARL.light0 rfl rfl rfl (opMove (v := .nil) rfl rfl) ?_))
                      all_goals (refine ARL.light0 rfl rfl rfl (opMove (v := .int _ _) rfl rfl) ?_)
                      all_goals (refine ARL.light0 rfl rfl rfl (opMove (v := .int _ _) rfl rfl) ?_)
                      all_goals (refine ARL.light0 rfl rfl rfl (opMul rfl rfl rfl (by omega)) ?_)
                      all_goals (refine ARL.light0 rfl rfl rfl (opMove (v := .int _ _) rfl rfl) ?_)
                      all_goals (first | (refine ARL.light0 rfl rfl rfl (opAdd rfl rfl rfl (by first | omega | (simp; omega))) ?_) | (refine ARL.light0 rfl rfl rfl (opInt rfl rfl rfl rfl) ?_))
                      all_goals (first | (refine ARL.light0 rfl rfl rfl (opIndexIN rfl rfl rfl elemA_22 sizeA_3 (by first | omega | (simp; omega))) ?_) | (refine ARL.light0 rfl rfl rfl (opIndexI rfl rfl rfl elemA_22 sizeA_3 (by first | omega | (simp; omega)) (by first | omega | (simp; omega))) ?_) | (refine ARL.light0 rfl rfl rfl (opIndexN rfl rfl rfl elemA_22 sizeA_3 (by first | omega | (simp; omega)) rfl) ?_) | (refine ARL.light0 rfl rfl rfl (opIndexMap rfl rfl rfl elemA_22 sizeA_3 (by first | omega | (simp; omega)) (by first | omega | (simp; omega)) rfl) ?_) | (refine ARL.light0 rfl rfl rfl (opIndexAddrN rfl rfl rfl elemA_22 sizeA_3 (by first | omega | (simp; omega))) ?_) | (refine ARL.light0 rfl rfl rfl (opIndexAddr rfl rfl rfl elemA_22 sizeA_3 (by first | omega | (simp; omega)) (by first | omega | (simp; omega)) rfl) ?_))
                      all_goals (first | (refine ARL.light0 rfl rfl rfl (opLoadR (v := .int _ _) rfl aggA_3 rfl rfl) ?_) | (refine ARL.light rfl rfl rfl (opLoadOwnI rfl aggA_3 rfl (by assumption) (by first | first | omega | (simp; omega) | (simp; first | omega | (simp; omega)))) (by intro b_ hb_; rw [List.mem_singleton.mp hb_]; exact Own.alive (by assumption) (by first | omega | (simp; omega))) ?_))
                      all_goals (first | (refine ARL.light0 rfl rfl rfl (opMove (v := .list _ _) rfl rfl) ?_) | (refine ARL.light0 rfl rfl rfl (opMove (v := .slc _ _ _ _) rfl rfl) ?_) | (refine ARL.light0 rfl rfl rfl (opMove (v := .nil) rfl rfl) ?_))
                      all_goals (refine ARL.light0 rfl rfl rfl (opMove (v := .int _ _) rfl rfl) ?_)
                      all_goals (refine ARL.light0 rfl rfl rfl (opMove (v := .int _ _) rfl rfl) ?_)
                      all_goals (refine ARL.light0 rfl rfl rfl (opMul rfl rfl rfl (by omega)) ?_)
                      all_goals (refine ARL.light0 rfl rfl rfl (opMove (v := .int _ _) rfl rfl) ?_)
                      all_goals (first | (refine ARL.light0 rfl rfl rfl (opAdd rfl rfl rfl (by first | omega | (simp; omega))) ?_) | (refine ARL.light0 rfl rfl rfl (opInt rfl rfl rfl rfl) ?_))
                      all_goals (first | (refine ARL.light0 rfl rfl rfl (opIndexIN rfl rfl rfl elemA_22 sizeA_3 (by first | omega | (simp; omega))) ?_) | (refine ARL.light0 rfl rfl rfl (opIndexI rfl rfl rfl elemA_22 sizeA_3 (by first | omega | (simp; omega)) (by first | omega | (simp; omega))) ?_) | (refine ARL.light0 rfl rfl rfl (opIndexN rfl rfl rfl elemA_22 sizeA_3 (by first | omega | (simp; omega)) rfl) ?_) | (refine ARL.light0 rfl rfl rfl (opIndexMap rfl rfl rfl elemA_22 sizeA_3 (by first | omega | (simp; omega)) (by first | omega | (simp; omega)) rfl) ?_) | (refine ARL.light0 rfl rfl rfl (opIndexAddrN rfl rfl rfl elemA_22 sizeA_3 (by first | omega | (simp; omega))) ?_) | (refine ARL.light0 rfl rfl rfl (opIndexAddr rfl rfl rfl elemA_22 sizeA_3 (by first | omega | (simp; omega)) (by first | omega | (simp; omega)) rfl) ?_))
                      all_goals (first | (refine ARL.light0 rfl rfl rfl (opLoadR (v := .int _ _) rfl aggA_3 rfl rfl) ?_) | (refine ARL.light rfl rfl rfl (opLoadOwnI rfl aggA_3 rfl (by assumption) (by first | first | omega | (simp; omega) | (simp; first | omega | (simp; omega)))) (by intro b_ hb_; rw [List.mem_singleton.mp hb_]; exact Own.alive (by assumption) (by first | omega | (simp; omega))) ?_))
                      all_goals (first | (refine ARL.light0 rfl rfl rfl (opMove (v := .list _ _) rfl rfl) ?_) | (refine ARL.light0 rfl rfl rfl (opMove (v := .slc _ _ _ _) rfl rfl) ?_) | (refine ARL.light0 rfl rfl rfl (opMove (v := .nil) rfl rfl) ?_))
                      all_goals (refine ARL.light0 rfl rfl rfl (opMove (v := .int _ _) rfl rfl) ?_)
                      all_goals (refine ARL.light0 rfl rfl rfl (opMove (v := .int _ _) rfl rfl) ?_)
                      all_goals (refine ARL.light0 rfl rfl rfl (opMul rfl rfl rfl (by omega)) ?_)
                      all_goals (refine ARL.light0 rfl rfl rfl (opMove (v := .int _ _) rfl rfl) ?_)
                      all_goals (first | (refine ARL.light0 rfl rfl rfl (opAdd rfl rfl rfl (by first | omega | (simp; omega))) ?_) | (refine ARL.light0 rfl rfl rfl (opInt rfl rfl rfl rfl) ?_))
                      all_goals (first | (refine ARL.light0 rfl rfl rfl (opIndexIN rfl rfl rfl elemA_22 sizeA_3 (by first | omega | (simp; omega))) ?_) | (refine ARL.light0 rfl rfl rfl (opIndexI rfl rfl rfl elemA_22 sizeA_3 (by first | omega | (simp; omega)) (by first | omega | (simp; omega))) ?_) | (refine ARL.light0 rfl rfl rfl (opIndexN rfl rfl rfl elemA_22 sizeA_3 (by first | omega | (simp; omega)) rfl) ?_) | (refine ARL.light0 rfl rfl rfl (opIndexMap rfl rfl rfl elemA_22 sizeA_3 (by first | omega | (simp; omega)) (by first | omega | (simp; omega)) rfl) ?_) | (refine ARL.light0 rfl rfl rfl (opIndexAddrN rfl rfl rfl elemA_22 sizeA_3 (by first | omega | (simp; omega))) ?_) | (refine ARL.light0 rfl rfl rfl (opIndexAddr rfl rfl rfl elemA_22 sizeA_3 (by first | omega | (simp; omega)) (by first | omega | (simp; omega)) rfl) ?_))
                      all_goals (first | (refine ARL.light0 rfl rfl rfl (opLoadR (v := .int _ _) rfl aggA_3 rfl rfl) ?_) | (refine ARL.light rfl rfl rfl (opLoadOwnI rfl aggA_3 rfl (by assumption) (by first | first | omega | (simp; omega) | (simp; first | omega | (simp; omega)))) (by intro b_ hb_; rw [List.mem_singleton.mp hb_]; exact Own.alive (by assumption) (by first | omega | (simp; omega))) ?_))
                      all_goals (refine ARL.light0 rfl rfl rfl (opMax (k := .i64) (ns := [_, _, _]) rfl rfl rfl rfl) ?_)
                      all_goals (first | (refine ARL.light0 rfl rfl rfl (opIndexIN rfl rfl rfl elemA_22 sizeA_3 (by first | omega | (simp; omega))) ?_) | (refine ARL.light0 rfl rfl rfl (opIndexI rfl rfl rfl elemA_22 sizeA_3 (by first | omega | (simp; omega)) (by first | omega | (simp; omega))) ?_) | (refine ARL.light0 rfl rfl rfl (opIndexN rfl rfl rfl elemA_22 sizeA_3 (by first | omega | (simp; omega)) rfl) ?_) | (refine ARL.light0 rfl rfl rfl (opIndexMap rfl rfl rfl elemA_22 sizeA_3 (by first | omega | (simp; omega)) (by first | omega | (simp; omega)) rfl) ?_) | (refine ARL.light0 rfl rfl rfl (opIndexAddrN rfl rfl rfl elemA_22 sizeA_3 (by first | omega | (simp; omega))) ?_) | (refine ARL.light0 rfl rfl rfl (opIndexAddr rfl rfl rfl elemA_22 sizeA_3 (by first | omega | (simp; omega)) (by first | omega | (simp; omega)) rfl) ?_))
                      all_goals (refine ARL.store rfl rfl rfl rfl (opStoreOwnI rfl sizeA_3 rfl rfl (by assumption) (by first | first | omega | (simp; omega) | (simp; first | omega | (simp; omega))) ?_); rintro Gs1 hOs1 hBs1)
                      all_goals (refine ARL.done ?_)))
                  all_goals (refine AWP.lastR rfl ?_)
                  all_goals (first | (refine ASL.light rfl rfl (opAdd rfl rfl rfl (by first | omega | (simp; omega))) ?_) | (refine ASL.light rfl rfl (opInt rfl rfl rfl rfl) ?_))
                  all_goals (refine ASL.light rfl rfl (opMove (v := .int _ _) rfl rfl) ?_)
                  all_goals (refine ASL.done ?_)
                  all_goals (first | exact ⟨(q + 1, _), ⟨by dsimp only; omega, valI_yes hT2 (by omega) (by omega) (by have := hxp (p * m + r); omega) (by have := hyp (r * m + q); omega) (max3 _ _ _)⟩, by dsimp only; omega, ⟨rfl, rfl, rfl, rfl, rfl, rfl, rfl, rfl, rfl, rfl, rfl, rfl, trivial⟩, hOs1⟩ | exact ⟨(q + 1, zs2), ⟨by dsimp only; omega, valI_no hT2 (by assumption)⟩, by dsimp only; omega, ⟨rfl, rfl, rfl, rfl, rfl, rfl, rfl, rfl, rfl, rfl, rfl, rfl, trivial⟩, hO2⟩)))))
          all_goals (refine AWP.lastR rfl ?_)
          all_goals (first | (refine ASL.light rfl rfl (opAdd rfl rfl rfl (by first | omega | (simp; omega))) ?_) | (refine ASL.light rfl rfl (opInt rfl rfl rfl rfl) ?_))
          all_goals (refine ASL.light rfl rfl (opMove (v := .int _ _) rfl rfl) ?_)
          all_goals (refine ASL.done ?_)
          all_goals (first | exact ⟨(r + 1, zs1), ⟨by dsimp only; omega, valI_skip hT1 (by assumption)⟩, by dsimp only; omega, ⟨rfl, rfl, rfl, rfl, rfl, rfl, rfl, rfl, rfl, trivial⟩, hO1⟩ | exact ⟨(r + 1, zs2), ⟨by dsimp only; omega, valI_r hT2 (by omega)⟩, by dsimp only; omega, ⟨rfl, rfl, rfl, rfl, rfl, rfl, rfl, rfl, rfl, trivial⟩, hO2⟩)))
      all_goals (refine AWP.lastR rfl ?_)
      all_goals (first | (refine ASL.light rfl rfl (opAdd rfl rfl rfl (by first | omega | (simp; omega))) ?_) | (refine ASL.light rfl rfl (opInt rfl rfl rfl rfl) ?_))
      all_goals (refine ASL.light rfl rfl (opMove (v := .int _ _) rfl rfl) ?_)
      all_goals (refine ASL.done ?_)
      all_goals (exact ⟨(p + 1, zs1), ⟨by dsimp only; omega, valI_p hT1 (by omega)⟩, by dsimp only; omega, ⟨rfl, rfl, rfl, rfl, rfl, rfl, trivial⟩, hO1⟩)))
  all_goals (refine AWP.seqR rfl ?_)
  all_goals (first | (refine ASL.light rfl rfl (opMove (v := .list _ _) rfl rfl) ?_) | (refine ASL.light rfl rfl (opMove (v := .slc _ _ _ _) rfl rfl) ?_) | (refine ASL.light rfl rfl (opMove (v := .nil) rfl rfl) ?_))
  all_goals (first | (refine ASL.light rfl rfl (opAssign (v := .list _ _) rfl rfl) ?_) | (refine ASL.light rfl rfl (opAssign (v := .slc _ _ _ _) rfl rfl) ?_) | (refine ASL.light rfl rfl (opAssign (v := .nil) rfl rfl) ?_))
  all_goals (refine ASL.done ?_)
  all_goals (refine AWP.ret ?_)
  all_goals (repeat with_reducible refine QThen.ret1 ?_)
  all_goals (refine QRet.one rfl rfl ?_; rw [← valI_end hT0 (by omega)]; exact hO0)

set_option maxRecDepth 10000 in
theorem spec_BoxMul (n : Int) (x y : List Int) (hxl : x.length ≤ 1048576) (hyl : y.length ≤ 1048576) : PO Try.prog 23 [.int .i64 n, ints x, ints y] 1 ((boxMulF n x y).map (AV.int .i64)) := by
  refine HC.enter Try.func23 rfl Try.ntmps23 (by simp) ?_
  all_goals (refine AWP.seqR rfl ?_)
  all_goals (first | (refine ASL.light rfl rfl (opAssign (v := v21) rfl rfl) ?_) | (refine ASL.light rfl rfl (opAssign (v := .list _ _) rfl rfl) ?_) | (refine ASL.light rfl rfl (opAssign (v := .slc _ _ _ _) rfl rfl) ?_) | (refine ASL.light rfl rfl (opAssign (v := .nil) rfl rfl) ?_))
  all_goals (refine ASL.done ?_)
  all_goals (refine AWP.seq ?_)
  all_goals (refine AWP.seqR rfl ?_)
  all_goals (refine ASL.light rfl rfl (opMove (v := .int _ _) rfl rfl) ?_)
  all_goals (first | (refine ASL.light rfl rfl (opMove (v := v21) rfl rfl) ?_) | (refine ASL.light rfl rfl (opMove (v := .list _ _) rfl rfl) ?_) | (refine ASL.light rfl rfl (opMove (v := .slc _ _ _ _) rfl rfl) ?_) | (refine ASL.light rfl rfl (opMove (v := .nil) rfl rfl) ?_))
  all_goals (first | (refine ASL.callB rfl rfl rfl rfl call_15 (spec_BoxOk _ _ (by omega)) rfl ?_ ?_ <;> intro h9) | (refine ASL.callRB rfl rfl rfl rfl call_15 (by exact ⟨by first | exact RA.same _ | exact RA.own (by assumption), by first | exact RA.same _ | exact RA.own (by assumption), trivial⟩) (spec_BoxOk _ _ (by omega)) ?_ ?_ <;> intro h9))
  all_goals (refine ASL.light rfl rfl (opNot rfl rfl) ?_)
  all_goals (refine ASL.light rfl rfl (opMove (v := .bool _) rfl rfl) ?_)
  all_goals (first | (refine ASL.off rfl rfl ?_) | (refine ASL.light rfl rfl (opMove (v := .int _ _) rfl rfl) ?_))
  all_goals (first | (refine ASL.off rfl rfl ?_) | (refine ASL.light rfl rfl (opMove (v := v21) rfl rfl) ?_) | (refine ASL.light rfl rfl (opMove (v := .list _ _) rfl rfl) ?_) | (refine ASL.light rfl rfl (opMove (v := .slc _ _ _ _) rfl rfl) ?_) | (refine ASL.light rfl rfl (opMove (v := .nil) rfl rfl) ?_))
  all_goals (first | (refine ASL.off rfl rfl ?_) | (refine ASL.callB rfl rfl rfl rfl call_15 (spec_BoxOk _ _ (by omega)) rfl ?_ ?_ <;> intro h14) | (refine ASL.callRB rfl rfl rfl rfl call_15 (by exact ⟨by first | exact RA.same _ | exact RA.own (by assumption), by first | exact RA.same _ | exact RA.own (by assumption), trivial⟩) (spec_BoxOk _ _ (by omega)) ?_ ?_ <;> intro h14))
  all_goals (first | (refine ASL.off rfl rfl ?_) | (refine ASL.light rfl rfl (opNot rfl rfl) ?_))
  all_goals (refine ASL.light rfl rfl (opPick (v := .bool _) rfl rfl rfl) ?_)
  all_goals (refine ASL.done ?_)
  all_goals (first
    | (
      refine AWP.condT rfl ?_
      all_goals (refine AWP.seqR rfl ?_)
      all_goals (refine ASL.heavy1 rfl rfl (opBuildSlice (xs := []) rfl elemA_22 sizeA_3 zeroA_3 rfl rfl rfl rfl (by simp [cells]) (by decide) ?_); rintro v17 G17 hO17 hK17 hN17 -)
      all_goals (first | (refine ASL.light rfl rfl (opAssign (v := v17) rfl rfl) ?_) | (refine ASL.light rfl rfl (opAssign (v := v21) rfl rfl) ?_) | (refine ASL.light rfl rfl (opAssign (v := .list _ _) rfl rfl) ?_) | (refine ASL.light rfl rfl (opAssign (v := .slc _ _ _ _) rfl rfl) ?_) | (refine ASL.light rfl rfl (opAssign (v := .nil) rfl rfl) ?_))
      all_goals (refine ASL.done ?_)
      all_goals (refine AWP.ret ?_)
      all_goals (repeat with_reducible refine QThen.ret1 ?_)
      all_goals (refine QRet.one rfl rfl ?_; first | (rw [boxMulF_yes (by assumption) (by assumption)]; exact hO21) | (rw [boxMulF_no (by intro k; have k1 := k.1; have k2 := k.2; simp_all)]; first | exact Own.nil _ _ | exact hO17)))
    | (
      refine AWP.condF rfl ?_
      all_goals (refine AWP.skip ?_)
      all_goals (refine AWP.seqR rfl ?_)
      all_goals (refine ASL.light rfl rfl (opMove (v := .int _ _) rfl rfl) ?_)
      all_goals (first | (refine ASL.light rfl rfl (opMove (v := v17) rfl rfl) ?_) | (refine ASL.light rfl rfl (opMove (v := v21) rfl rfl) ?_) | (refine ASL.light rfl rfl (opMove (v := .list _ _) rfl rfl) ?_) | (refine ASL.light rfl rfl (opMove (v := .slc _ _ _ _) rfl rfl) ?_) | (refine ASL.light rfl rfl (opMove (v := .nil) rfl rfl) ?_))
      all_goals (first | (refine ASL.light rfl rfl (opMove (v := v17) rfl rfl) ?_) | (refine ASL.light rfl rfl (opMove (v := v21) rfl rfl) ?_) | (refine ASL.light rfl rfl (opMove (v := .list _ _) rfl rfl) ?_) | (refine ASL.light rfl rfl (opMove (v := .slc _ _ _ _) rfl rfl) ?_) | (refine ASL.light rfl rfl (opMove (v := .nil) rfl rfl) ?_))
      all_goals (obtain ⟨m, rfl, hm, hx, hxp⟩ := boxOk_inv (x := x) (by assumption); obtain ⟨_, he, _, hy, hyp⟩ := boxOk_inv (x := y) (by assumption); obtain rfl := Int.ofNat.inj he; refine ASL.callO rfl rfl rfl rfl call_67 (spec_l14Mul m x y hm hx hy) rfl ?_; rintro v21 G21 hO21 hK21 hN21)
      all_goals (first | (refine ASL.light rfl rfl (opAssign (v := v17) rfl rfl) ?_) | (refine ASL.light rfl rfl (opAssign (v := v21) rfl rfl) ?_) | (refine ASL.light rfl rfl (opAssign (v := .list _ _) rfl rfl) ?_) | (refine ASL.light rfl rfl (opAssign (v := .slc _ _ _ _) rfl rfl) ?_) | (refine ASL.light rfl rfl (opAssign (v := .nil) rfl rfl) ?_))
      all_goals (refine ASL.done ?_)
      all_goals (refine AWP.ret ?_)
      all_goals (repeat with_reducible refine QThen.ret1 ?_)
      all_goals (refine QRet.one rfl rfl ?_; first | (rw [boxMulF_yes (by assumption) (by assumption)]; exact hO21) | (rw [boxMulF_no (by intro k; have k1 := k.1; have k2 := k.2; simp_all)]; first | exact Own.nil _ _ | exact hO17))))

set_option maxRecDepth 10000 in
theorem impl_BoxMul (n : Int) (x y : List Int) (hxl : x.length ≤ 1048576) (hyl : y.length ≤ 1048576) : PO Try.prog 24 [.int .i64 n, ints x, ints y] 1 ((boxMulF n x y).map (AV.int .i64)) := by
  refine HC.enter Try.func24 rfl Try.ntmps24 (by simp) ?_
  all_goals (refine AWP.seqR rfl ?_)
  all_goals (first | (refine ASL.light rfl rfl (opAssign (v := v20) rfl rfl) ?_) | (refine ASL.light rfl rfl (opAssign (v := .list _ _) rfl rfl) ?_) | (refine ASL.light rfl rfl (opAssign (v := .slc _ _ _ _) rfl rfl) ?_) | (refine ASL.light rfl rfl (opAssign (v := .nil) rfl rfl) ?_))
  all_goals (refine ASL.done ?_)
  all_goals (refine AWP.seq ?_)
  all_goals (refine AWP.seqR rfl ?_)
  all_goals (refine ASL.light rfl rfl (opMove (v := .int _ _) rfl rfl) ?_)
  all_goals (first | (refine ASL.light rfl rfl (opMove (v := v20) rfl rfl) ?_) | (refine ASL.light rfl rfl (opMove (v := .list _ _) rfl rfl) ?_) | (refine ASL.light rfl rfl (opMove (v := .slc _ _ _ _) rfl rfl) ?_) | (refine ASL.light rfl rfl (opMove (v := .nil) rfl rfl) ?_))
  all_goals (first | (refine ASL.callB rfl rfl rfl rfl call_17 (impl_BoxOk _ _ (by omega)) rfl ?_ ?_ <;> intro h9) | (refine ASL.callRB rfl rfl rfl rfl call_17 (by exact ⟨by first | exact RA.same _ | exact RA.own (by assumption), by first | exact RA.same _ | exact RA.own (by assumption), trivial⟩) (impl_BoxOk _ _ (by omega)) ?_ ?_ <;> intro h9))
  all_goals (refine ASL.light rfl rfl (opNot rfl rfl) ?_)
  all_goals (refine ASL.light rfl rfl (opMove (v := .bool _) rfl rfl) ?_)
  all_goals (first | (refine ASL.off rfl rfl ?_) | (refine ASL.light rfl rfl (opMove (v := .int _ _) rfl rfl) ?_))
  all_goals (first | (refine ASL.off rfl rfl ?_) | (refine ASL.light rfl rfl (opMove (v := v20) rfl rfl) ?_) | (refine ASL.light rfl rfl (opMove (v := .list _ _) rfl rfl) ?_) | (refine ASL.light rfl rfl (opMove (v := .slc _ _ _ _) rfl rfl) ?_) | (refine ASL.light rfl rfl (opMove (v := .nil) rfl rfl) ?_))
  all_goals (first | (refine ASL.off rfl rfl ?_) | (refine ASL.callB rfl rfl rfl rfl call_17 (impl_BoxOk _ _ (by omega)) rfl ?_ ?_ <;> intro h14) | (refine ASL.callRB rfl rfl rfl rfl call_17 (by exact ⟨by first | exact RA.same _ | exact RA.own (by assumption), by first | exact RA.same _ | exact RA.own (by assumption), trivial⟩) (impl_BoxOk _ _ (by omega)) ?_ ?_ <;> intro h14))
  all_goals (first | (refine ASL.off rfl rfl ?_) | (refine ASL.light rfl rfl (opNot rfl rfl) ?_))
  all_goals (refine ASL.light rfl rfl (opPick (v := .bool _) rfl rfl rfl) ?_)
  all_goals (refine ASL.done ?_)
  all_goals (first
    | (
      refine AWP.condT rfl ?_
      all_goals (refine AWP.seqR rfl ?_)
      all_goals (first | (refine ASL.light rfl rfl (opAssign (v := v20) rfl rfl) ?_) | (refine ASL.light rfl rfl (opAssign (v := .list _ _) rfl rfl) ?_) | (refine ASL.light rfl rfl (opAssign (v := .slc _ _ _ _) rfl rfl) ?_) | (refine ASL.light rfl rfl (opAssign (v := .nil) rfl rfl) ?_))
      all_goals (refine ASL.done ?_)
      all_goals (refine AWP.ret ?_)
      all_goals (repeat with_reducible refine QThen.ret1 ?_)
      all_goals (refine QRet.one rfl rfl ?_; first | (rw [boxMulF_yes (by assumption) (by assumption)]; exact hO20) | (rw [boxMulF_no (by intro k; have k1 := k.1; have k2 := k.2; simp_all)]; first | exact Own.nil _ _ | exact hO17)))
    | (
      refine AWP.condF rfl ?_
      all_goals (refine AWP.skip ?_)
      all_goals (refine AWP.seqR rfl ?_)
      all_goals (refine ASL.light rfl rfl (opMove (v := .int _ _) rfl rfl) ?_)
      all_goals (first | (refine ASL.light rfl rfl (opMove (v := v20) rfl rfl) ?_) | (refine ASL.light rfl rfl (opMove (v := .list _ _) rfl rfl) ?_) | (refine ASL.light rfl rfl (opMove (v := .slc _ _ _ _) rfl rfl) ?_) | (refine ASL.light rfl rfl (opMove (v := .nil) rfl rfl) ?_))
      all_goals (first | (refine ASL.light rfl rfl (opMove (v := v20) rfl rfl) ?_) | (refine ASL.light rfl rfl (opMove (v := .list _ _) rfl rfl) ?_) | (refine ASL.light rfl rfl (opMove (v := .slc _ _ _ _) rfl rfl) ?_) | (refine ASL.light rfl rfl (opMove (v := .nil) rfl rfl) ?_))
      all_goals (obtain ⟨m, rfl, hm, hx, hxp⟩ := boxOk_inv (x := x) (by assumption); obtain ⟨_, he, _, hy, hyp⟩ := boxOk_inv (x := y) (by assumption); obtain rfl := Int.ofNat.inj he; refine ASL.callO rfl rfl rfl rfl call_68 (impl_boxMul m x y hm hx hy hxp hyp) rfl ?_; rintro v20 G20 hO20 hK20 hN20)
      all_goals (first | (refine ASL.light rfl rfl (opAssign (v := v20) rfl rfl) ?_) | (refine ASL.light rfl rfl (opAssign (v := .list _ _) rfl rfl) ?_) | (refine ASL.light rfl rfl (opAssign (v := .slc _ _ _ _) rfl rfl) ?_) | (refine ASL.light rfl rfl (opAssign (v := .nil) rfl rfl) ?_))
      all_goals (refine ASL.done ?_)
      all_goals (refine AWP.ret ?_)
      all_goals (repeat with_reducible refine QThen.ret1 ?_)
      all_goals (refine QRet.one rfl rfl ?_; first | (rw [boxMulF_yes (by assumption) (by assumption)]; exact hO20) | (rw [boxMulF_no (by intro k; have k1 := k.1; have k2 := k.2; simp_all)]; first | exact Own.nil _ _ | exact hO17))))

set_option maxRecDepth 10000 in
theorem laws_FnExactBoxMul (n : Int) (x y : List Int) : PC Try.prog 5 [.int .i64 n, ints x, ints y] (fun v => v = .bool true) := by
  refine PC.enter Try.func5 rfl Try.ntmps5 (by simp) ?_
  have hl := boxMulF_len n x y
  all_goals (refine AWP.seqR rfl ?_)
  all_goals (refine ASL.light rfl rfl (opAssign (v := .bool _) rfl rfl) ?_)
  all_goals (refine ASL.done ?_)
  all_goals (refine AWP.seq ?_)
  all_goals (refine AWP.seqR rfl ?_)
  all_goals (first | (refine ASL.light rfl rfl (opMove (v := .list _ _) rfl rfl) ?_) | (refine ASL.light rfl rfl (opMove (v := .slc _ _ _ _) rfl rfl) ?_) | (refine ASL.light rfl rfl (opMove (v := .nil) rfl rfl) ?_))
  all_goals (first | (refine ASL.light rfl rfl (opLenMap rfl rfl rfl lenT_22 rfl) ?_) | (refine ASL.light rfl rfl (opLenOf rfl rfl rfl lenT_22 rfl rfl) ?_))
  all_goals (refine ASL.dec rfl rfl (opInt rfl rfl rfl rfl) ?_ ?_ <;> intro h17)
  all_goals (refine ASL.done ?_)
  all_goals (first
    | (
      refine AWP.condT rfl ?_
      all_goals (refine AWP.seqR rfl ?_)
      all_goals (refine ASL.light rfl rfl (opAssign (v := .bool _) rfl rfl) ?_)
      all_goals (refine ASL.done ?_)
      all_goals (refine AWP.ret ?_)
      all_goals (repeat with_reducible refine QThen.ret1 ?_)
      all_goals (exact QRet.bool rfl rfl rfl (by first | rfl | (exfalso; first | omega | contradiction))))
    | (
      refine AWP.condF rfl ?_
      all_goals (refine AWP.skip ?_)
      all_goals (refine AWP.seq ?_)
      all_goals (refine AWP.seqR rfl ?_)
      all_goals (first | (refine ASL.light rfl rfl (opMove (v := .list _ _) rfl rfl) ?_) | (refine ASL.light rfl rfl (opMove (v := .slc _ _ _ _) rfl rfl) ?_) | (refine ASL.light rfl rfl (opMove (v := .nil) rfl rfl) ?_))
      all_goals (first | (refine ASL.light rfl rfl (opLenMap rfl rfl rfl lenT_22 rfl) ?_) | (refine ASL.light rfl rfl (opLenOf rfl rfl rfl lenT_22 rfl rfl) ?_))
      all_goals (refine ASL.dec rfl rfl (opInt rfl rfl rfl rfl) ?_ ?_ <;> intro h20)
      all_goals (refine ASL.done ?_)
      all_goals (first
        | (
          refine AWP.condT rfl ?_
          all_goals (refine AWP.seqR rfl ?_)
          all_goals (refine ASL.light rfl rfl (opAssign (v := .bool _) rfl rfl) ?_)
          all_goals (refine ASL.done ?_)
          all_goals (refine AWP.ret ?_)
          all_goals (repeat with_reducible refine QThen.ret1 ?_)
          all_goals (exact QRet.bool rfl rfl rfl (by first | rfl | (exfalso; first | omega | contradiction))))
        | (
          refine AWP.condF rfl ?_
          all_goals (refine AWP.skip ?_)
          all_goals (refine AWP.seqR rfl ?_)
          all_goals (refine ASL.light rfl rfl (opMove (v := .int _ _) rfl rfl) ?_)
          all_goals (first | (refine ASL.light rfl rfl (opMove (v := .list _ _) rfl rfl) ?_) | (refine ASL.light rfl rfl (opMove (v := .slc _ _ _ _) rfl rfl) ?_) | (refine ASL.light rfl rfl (opMove (v := .nil) rfl rfl) ?_))
          all_goals (refine ASL.callP rfl rfl rfl rfl call_16 (PO.list (laws_toIntS_o _ (by omega))) rfl ?_; rintro _ rfl)
          all_goals (first | (refine ASL.light rfl rfl (opMove (v := .list _ _) rfl rfl) ?_) | (refine ASL.light rfl rfl (opMove (v := .slc _ _ _ _) rfl rfl) ?_) | (refine ASL.light rfl rfl (opMove (v := .nil) rfl rfl) ?_))
          all_goals (refine ASL.callP rfl rfl rfl rfl call_16 (PO.list (laws_toIntS_o _ (by omega))) rfl ?_; rintro _ rfl)
          all_goals (refine ASL.callP rfl rfl rfl rfl call_23 (PO.list (spec_BoxMul _ _ _ (by omega) (by omega))) rfl ?_; rintro _ rfl)
          all_goals (first | (refine ASL.light rfl rfl (opAssign (v := .list _ _) rfl rfl) ?_) | (refine ASL.light rfl rfl (opAssign (v := .slc _ _ _ _) rfl rfl) ?_) | (refine ASL.light rfl rfl (opAssign (v := .nil) rfl rfl) ?_))
          all_goals (refine ASL.done ?_)
          all_goals (refine AWP.seqR rfl ?_)
          all_goals (first | (refine ASL.light rfl rfl (opMove (v := .list _ _) rfl rfl) ?_) | (refine ASL.light rfl rfl (opMove (v := .slc _ _ _ _) rfl rfl) ?_) | (refine ASL.light rfl rfl (opMove (v := .nil) rfl rfl) ?_))
          all_goals (first | (refine ASL.callO rfl rfl rfl rfl call_16 (laws_toIntS_o _ (by omega)) rfl ?_; rintro v28 G28 hO28 hK28 hN28) | (refine ASL.callOR rfl rfl rfl rfl call_16 (by exact ⟨by first | exact RA.same _ | exact RA.own (by assumption), trivial⟩) (laws_toIntS_o _ (by omega)) (by first | exact Scal.ints _ _ | (simp [flat, cells]; done)) ?_; rintro v28 G28 hO28 hK28 hN28))
          all_goals (first | (refine ASL.light rfl rfl (opAssign (v := v28) rfl rfl) ?_) | (refine ASL.light rfl rfl (opAssign (v := .list _ _) rfl rfl) ?_) | (refine ASL.light rfl rfl (opAssign (v := .slc _ _ _ _) rfl rfl) ?_) | (refine ASL.light rfl rfl (opAssign (v := .nil) rfl rfl) ?_))
          all_goals (refine ASL.done ?_)
          all_goals (refine AWP.seqR rfl ?_)
          all_goals (first | (refine ASL.light rfl rfl (opMove (v := v28) rfl rfl) ?_) | (refine ASL.light rfl rfl (opMove (v := .list _ _) rfl rfl) ?_) | (refine ASL.light rfl rfl (opMove (v := .slc _ _ _ _) rfl rfl) ?_) | (refine ASL.light rfl rfl (opMove (v := .nil) rfl rfl) ?_))
          all_goals (first | (refine ASL.callO rfl rfl rfl rfl call_16 (laws_toIntS_o _ (by omega)) rfl ?_; rintro v30 G30 hO30 hK30 hN30; try (have hA30_28 := Own.apart hO28 hN30); try (have hO28 := Own.grow hO28 hK30)) | (refine ASL.callOR rfl rfl rfl rfl call_16 (by exact ⟨by first | exact RA.same _ | exact RA.own (by assumption), trivial⟩) (laws_toIntS_o _ (by omega)) (by first | exact Scal.ints _ _ | (simp [flat, cells]; done)) ?_; rintro v30 G30 hO30 hK30 hN30; try (have hA30_28 := Own.apart hO28 hN30); try (have hO28 := Own.grow hO28 hK30)))
          all_goals (first | (refine ASL.light rfl rfl (opAssign (v := v30) rfl rfl) ?_) | (refine ASL.light rfl rfl (opAssign (v := v28) rfl rfl) ?_) | (refine ASL.light rfl rfl (opAssign (v := .list _ _) rfl rfl) ?_) | (refine ASL.light rfl rfl (opAssign (v := .slc _ _ _ _) rfl rfl) ?_) | (refine ASL.light rfl rfl (opAssign (v := .nil) rfl rfl) ?_))
          all_goals (refine ASL.done ?_)
          all_goals (refine AWP.seqR rfl ?_)
          all_goals (refine ASL.light rfl rfl (opMove (v := .int _ _) rfl rfl) ?_)
          all_goals (first | (refine ASL.light rfl rfl (opMove (v := v30) rfl rfl) ?_) | (refine ASL.light rfl rfl (opMove (v := v28) rfl rfl) ?_) | (refine ASL.light rfl rfl (opMove (v := .list _ _) rfl rfl) ?_) | (refine ASL.light rfl rfl (opMove (v := .slc _ _ _ _) rfl rfl) ?_) | (refine ASL.light rfl rfl (opMove (v := .nil) rfl rfl) ?_))
          all_goals (first | (refine ASL.light rfl rfl (opMove (v := v30) rfl rfl) ?_) | (refine ASL.light rfl rfl (opMove (v := v28) rfl rfl) ?_) | (refine ASL.light rfl rfl (opMove (v := .list _ _) rfl rfl) ?_) | (refine ASL.light rfl rfl (opMove (v := .slc _ _ _ _) rfl rfl) ?_) | (refine ASL.light rfl rfl (opMove (v := .nil) rfl rfl) ?_))
          all_goals (first | (refine ASL.callO rfl rfl rfl rfl call_24 (impl_BoxMul _ _ _ (by omega) (by omega)) rfl ?_; rintro v34 G34 hO34 hK34 hN34; try (have hA34_28 := Own.apart hO28 hN34); try (have hO28 := Own.grow hO28 hK34); try (have hA34_30 := Own.apart hO30 hN34); try (have hO30 := Own.grow hO30 hK34)) | (refine ASL.callOR rfl rfl rfl rfl call_24 (by exact ⟨by first | exact RA.same _ | exact RA.own (by assumption), by first | exact RA.same _ | exact RA.own (by assumption), by first | exact RA.same _ | exact RA.own (by assumption), trivial⟩) (impl_BoxMul _ _ _ (by omega) (by omega)) (by first | exact Scal.ints _ _ | (simp [flat, cells]; done)) ?_; rintro v34 G34 hO34 hK34 hN34; try (have hA34_28 := Own.apart hO28 hN34); try (have hO28 := Own.grow hO28 hK34); try (have hA34_30 := Own.apart hO30 hN34); try (have hO30 := Own.grow hO30 hK34)))
          all_goals (first | (refine ASL.light rfl rfl (opAssign (v := v34) rfl rfl) ?_) | (refine ASL.light rfl rfl (opAssign (v := v30) rfl rfl) ?_) | (refine ASL.light rfl rfl (opAssign (v := v28) rfl rfl) ?_) | (refine ASL.light rfl rfl (opAssign (v := .list _ _) rfl rfl) ?_) | (refine ASL.light rfl rfl (opAssign (v := .slc _ _ _ _) rfl rfl) ?_) | (refine ASL.light rfl rfl (opAssign (v := .nil) rfl rfl) ?_))
          all_goals (refine ASL.done ?_)
          all_goals (refine AWP.seq ?_)
          all_goals (refine AWP.seqR rfl ?_)
          all_goals (first | (refine ASL.light rfl rfl (opMove (v := v34) rfl rfl) ?_) | (refine ASL.light rfl rfl (opMove (v := v30) rfl rfl) ?_) | (refine ASL.light rfl rfl (opMove (v := v28) rfl rfl) ?_) | (refine ASL.light rfl rfl (opMove (v := .list _ _) rfl rfl) ?_) | (refine ASL.light rfl rfl (opMove (v := .slc _ _ _ _) rfl rfl) ?_) | (refine ASL.light rfl rfl (opMove (v := .nil) rfl rfl) ?_))
          all_goals (first | (refine ASL.light rfl rfl (opMove (v := v34) rfl rfl) ?_) | (refine ASL.light rfl rfl (opMove (v := v30) rfl rfl) ?_) | (refine ASL.light rfl rfl (opMove (v := v28) rfl rfl) ?_) | (refine ASL.light rfl rfl (opMove (v := .list _ _) rfl rfl) ?_) | (refine ASL.light rfl rfl (opMove (v := .slc _ _ _ _) rfl rfl) ?_) | (refine ASL.light rfl rfl (opMove (v := .nil) rfl rfl) ?_))
          all_goals (first | (refine ASL.callD rfl rfl rfl rfl call_18 (laws_eqIntS _ _ (by omega)) rfl ?_ ?_ <;> intro h37) | (refine ASL.callRD rfl rfl rfl rfl call_18 (by exact ⟨by first | exact RA.same _ | exact RA.own (by assumption), by first | exact RA.same _ | exact RA.own (by assumption), trivial⟩) (laws_eqIntS _ _ (by omega)) ?_ ?_ <;> intro h37))
          all_goals (refine ASL.light rfl rfl (opNot rfl rfl) ?_)
          all_goals (refine ASL.done ?_)
          all_goals (first
            | (
              refine AWP.condT rfl ?_
              all_goals (refine AWP.seqR rfl ?_)
              all_goals (refine ASL.light rfl rfl (opAssign (v := .bool _) rfl rfl) ?_)
              all_goals (refine ASL.done ?_)
              all_goals (refine AWP.ret ?_)
              all_goals (repeat with_reducible refine QThen.ret1 ?_)
              all_goals (exact QRet.bool rfl rfl rfl (by first | rfl | (exfalso; first | omega | contradiction))))
            | (
              refine AWP.condF rfl ?_
              all_goals (refine AWP.skip ?_)
              all_goals (refine AWP.seq ?_)
              all_goals (refine AWP.seqR rfl ?_)
              all_goals (first | (refine ASL.light rfl rfl (opMove (v := v34) rfl rfl) ?_) | (refine ASL.light rfl rfl (opMove (v := v30) rfl rfl) ?_) | (refine ASL.light rfl rfl (opMove (v := v28) rfl rfl) ?_) | (refine ASL.light rfl rfl (opMove (v := .list _ _) rfl rfl) ?_) | (refine ASL.light rfl rfl (opMove (v := .slc _ _ _ _) rfl rfl) ?_) | (refine ASL.light rfl rfl (opMove (v := .nil) rfl rfl) ?_))
              all_goals (first | (refine ASL.light rfl rfl (opMove (v := v34) rfl rfl) ?_) | (refine ASL.light rfl rfl (opMove (v := v30) rfl rfl) ?_) | (refine ASL.light rfl rfl (opMove (v := v28) rfl rfl) ?_) | (refine ASL.light rfl rfl (opMove (v := .list _ _) rfl rfl) ?_) | (refine ASL.light rfl rfl (opMove (v := .slc _ _ _ _) rfl rfl) ?_) | (refine ASL.light rfl rfl (opMove (v := .nil) rfl rfl) ?_))
              all_goals (refine ASL.callP rfl rfl rfl rfl call_16 (PO.list (laws_toIntS_o _ (by omega))) rfl ?_; rintro _ rfl)
              all_goals (first | (refine ASL.callD rfl rfl rfl rfl call_18 (laws_eqIntS _ _ (by omega)) rfl ?_ ?_ <;> intro h42) | (refine ASL.callRD rfl rfl rfl rfl call_18 (by exact ⟨by first | exact RA.same _ | exact RA.own (by assumption), by first | exact RA.same _ | exact RA.own (by assumption), trivial⟩) (laws_eqIntS _ _ (by omega)) ?_ ?_ <;> intro h42))
              all_goals (refine ASL.light rfl rfl (opNot rfl rfl) ?_)
              all_goals (refine ASL.done ?_)
              all_goals (first
                | (
                  refine AWP.condT rfl ?_
                  all_goals (refine AWP.seqR rfl ?_)
                  all_goals (refine ASL.light rfl rfl (opAssign (v := .bool _) rfl rfl) ?_)
                  all_goals (refine ASL.done ?_)
                  all_goals (refine AWP.ret ?_)
                  all_goals (repeat with_reducible refine QThen.ret1 ?_)
                  all_goals (exact QRet.bool rfl rfl rfl (by first | rfl | (exfalso; first | omega | contradiction))))
                | (
                  refine AWP.condF rfl ?_
                  all_goals (refine AWP.skip ?_)
                  all_goals (refine AWP.seq ?_)
                  all_goals (refine AWP.seqR rfl ?_)
                  all_goals (first | (refine ASL.light rfl rfl (opMove (v := v34) rfl rfl) ?_) | (refine ASL.light rfl rfl (opMove (v := v30) rfl rfl) ?_) | (refine ASL.light rfl rfl (opMove (v := v28) rfl rfl) ?_) | (refine ASL.light rfl rfl (opMove (v := .list _ _) rfl rfl) ?_) | (refine ASL.light rfl rfl (opMove (v := .slc _ _ _ _) rfl rfl) ?_) | (refine ASL.light rfl rfl (opMove (v := .nil) rfl rfl) ?_))
                  all_goals (first | (refine ASL.light rfl rfl (opMove (v := v34) rfl rfl) ?_) | (refine ASL.light rfl rfl (opMove (v := v30) rfl rfl) ?_) | (refine ASL.light rfl rfl (opMove (v := v28) rfl rfl) ?_) | (refine ASL.light rfl rfl (opMove (v := .list _ _) rfl rfl) ?_) | (refine ASL.light rfl rfl (opMove (v := .slc _ _ _ _) rfl rfl) ?_) | (refine ASL.light rfl rfl (opMove (v := .nil) rfl rfl) ?_))
                  all_goals (refine ASL.callP rfl rfl rfl rfl call_16 (PO.list (laws_toIntS_o _ (by omega))) rfl ?_; rintro _ rfl)
                  all_goals (first | (refine ASL.callD rfl rfl rfl rfl call_18 (laws_eqIntS _ _ (by omega)) rfl ?_ ?_ <;> intro h47) | (refine ASL.callRD rfl rfl rfl rfl call_18 (by exact ⟨by first | exact RA.same _ | exact RA.own (by assumption), by first | exact RA.same _ | exact RA.own (by assumption), trivial⟩) (laws_eqIntS _ _ (by omega)) ?_ ?_ <;> intro h47))
                  all_goals (refine ASL.light rfl rfl (opNot rfl rfl) ?_)
                  all_goals (refine ASL.done ?_)
                  all_goals (first
                    | (
                      refine AWP.condT rfl ?_
                      all_goals (refine AWP.seqR rfl ?_)
                      all_goals (refine ASL.light rfl rfl (opAssign (v := .bool _) rfl rfl) ?_)
                      all_goals (refine ASL.done ?_)
                      all_goals (refine AWP.ret ?_)
                      all_goals (repeat with_reducible refine QThen.ret1 ?_)
                      all_goals (exact QRet.bool rfl rfl rfl (by first | rfl | (exfalso; first | omega | contradiction))))
                    | (
                      refine AWP.condF rfl ?_
                      all_goals (refine AWP.skip ?_)
                      all_goals (refine AWP.seqR rfl ?_)
                      all_goals (refine ASL.light rfl rfl (opAssign (v := .int _ _) rfl rfl) ?_)
                      all_goals (refine ASL.done ?_)
                      all_goals (refine AWP.seqR rfl ?_)
                      all_goals (first | (refine ASL.light rfl rfl (opMove (v := v34) rfl rfl) ?_) | (refine ASL.light rfl rfl (opMove (v := v30) rfl rfl) ?_) | (refine ASL.light rfl rfl (opMove (v := v28) rfl rfl) ?_) | (refine ASL.light rfl rfl (opMove (v := .list _ _) rfl rfl) ?_) | (refine ASL.light rfl rfl (opMove (v := .slc _ _ _ _) rfl rfl) ?_) | (refine ASL.light rfl rfl (opMove (v := .nil) rfl rfl) ?_))
                      all_goals (refine ASL.light rfl rfl (opMove (v := .int _ _) rfl rfl) ?_)
                      all_goals (refine ASL.callH rfl rfl rfl rfl call_21 (laws_markIntS _ _ _ _ (by assumption) (by omega)) rfl ?_; rintro _ G51 ⟨rfl, hO51, hB51⟩; try (first | (have hO28 : Own _ G51 v28 _ := hO51) | (have hO28 := Own.beside hO28 hB51 (by first | assumption | exact Apart.symm (by assumption)))); try (first | (have hO30 : Own _ G51 v30 _ := hO51) | (have hO30 := Own.beside hO30 hB51 (by first | assumption | exact Apart.symm (by assumption)))); try (first | (have hO34 : Own _ G51 v34 _ := hO51) | (have hO34 := Own.beside hO34 hB51 (by first | assumption | exact Apart.symm (by assumption)))))
                      all_goals (refine ASL.light rfl rfl (opAssign (v := .int _ _) rfl rfl) ?_)
                      all_goals (refine ASL.done ?_)
                      all_goals (refine AWP.seqR rfl ?_)
                      all_goals (first | (refine ASL.light rfl rfl (opMove (v := v34) rfl rfl) ?_) | (refine ASL.light rfl rfl (opMove (v := v30) rfl rfl) ?_) | (refine ASL.light rfl rfl (opMove (v := v28) rfl rfl) ?_) | (refine ASL.light rfl rfl (opMove (v := .list _ _) rfl rfl) ?_) | (refine ASL.light rfl rfl (opMove (v := .slc _ _ _ _) rfl rfl) ?_) | (refine ASL.light rfl rfl (opMove (v := .nil) rfl rfl) ?_))
                      all_goals (refine ASL.light rfl rfl (opMove (v := .int _ _) rfl rfl) ?_)
                      all_goals (refine ASL.callH rfl rfl rfl rfl call_21 (laws_markIntS _ _ _ _ (by assumption) (by omega)) rfl ?_; rintro _ G54 ⟨rfl, hO54, hB54⟩; try (first | (have hO28 : Own _ G54 v28 _ := hO54) | (have hO28 := Own.beside hO28 hB54 (by first | assumption | exact Apart.symm (by assumption)))); try (first | (have hO30 : Own _ G54 v30 _ := hO54) | (have hO30 := Own.beside hO30 hB54 (by first | assumption | exact Apart.symm (by assumption)))); try (first | (have hO34 : Own _ G54 v34 _ := hO54) | (have hO34 := Own.beside hO34 hB54 (by first | assumption | exact Apart.symm (by assumption)))))
                      all_goals (refine ASL.light rfl rfl (opAssign (v := .int _ _) rfl rfl) ?_)
                      all_goals (refine ASL.done ?_)
                      all_goals (refine AWP.seq ?_)
                      all_goals (refine AWP.seqR rfl ?_)
                      all_goals (refine ASL.light rfl rfl (opMove (v := .int _ _) rfl rfl) ?_)
                      all_goals (refine ASL.dec rfl rfl (opInt rfl rfl rfl rfl) ?_ ?_ <;> intro h56)
                      all_goals (refine ASL.light rfl rfl (opMove (v := .bool _) rfl rfl) ?_)
                      all_goals (first | (refine ASL.off rfl rfl ?_) | (refine ASL.light rfl rfl (opMove (v := v34) rfl rfl) ?_) | (refine ASL.light rfl rfl (opMove (v := v30) rfl rfl) ?_) | (refine ASL.light rfl rfl (opMove (v := v28) rfl rfl) ?_) | (refine ASL.light rfl rfl (opMove (v := .list _ _) rfl rfl) ?_) | (refine ASL.light rfl rfl (opMove (v := .slc _ _ _ _) rfl rfl) ?_) | (refine ASL.light rfl rfl (opMove (v := .nil) rfl rfl) ?_))
                      all_goals (first | (refine ASL.off rfl rfl ?_) | (refine ASL.light rfl rfl (opMove (v := v34) rfl rfl) ?_) | (refine ASL.light rfl rfl (opMove (v := v30) rfl rfl) ?_) | (refine ASL.light rfl rfl (opMove (v := v28) rfl rfl) ?_) | (refine ASL.light rfl rfl (opMove (v := .list _ _) rfl rfl) ?_) | (refine ASL.light rfl rfl (opMove (v := .slc _ _ _ _) rfl rfl) ?_) | (refine ASL.light rfl rfl (opMove (v := .nil) rfl rfl) ?_))
                      all_goals (first | (refine ASL.off rfl rfl ?_) | (refine ASL.callD rfl rfl rfl rfl call_18 (laws_eqIntS _ _ (by omega)) rfl ?_ ?_ <;> intro h60) | (refine ASL.callRD rfl rfl rfl rfl call_18 (by exact ⟨by first | exact RA.same _ | exact RA.own (by assumption), by first | exact RA.same _ | exact RA.own (by assumption), trivial⟩) (laws_eqIntS _ _ (by omega)) ?_ ?_ <;> intro h60))
                      all_goals (first | (refine ASL.off rfl rfl ?_) | (refine ASL.light rfl rfl (opNot rfl rfl) ?_))
                      all_goals (refine ASL.light rfl rfl (opPick (v := .bool _) rfl rfl rfl) ?_)
                      all_goals (refine ASL.done ?_)
                      all_goals (first
                        | (
                          refine AWP.condT rfl ?_
                          all_goals (refine AWP.seqR rfl ?_)
                          all_goals (refine ASL.light rfl rfl (opAssign (v := .bool _) rfl rfl) ?_)
                          all_goals (refine ASL.done ?_)
                          all_goals (refine AWP.ret ?_)
                          all_goals (repeat with_reducible refine QThen.ret1 ?_)
                          all_goals (exact QRet.bool rfl rfl rfl (by first | rfl | (exfalso; first | omega | contradiction))))
                        | (
                          refine AWP.condF rfl ?_
                          all_goals (refine AWP.skip ?_)
                          all_goals (refine AWP.seqR rfl ?_)
                          all_goals (refine ASL.light rfl rfl (opAssign (v := .int _ _) rfl rfl) ?_)
                          all_goals (refine ASL.done ?_)
                          all_goals (refine AWP.seqR rfl ?_)
                          all_goals (first | (refine ASL.light rfl rfl (opMove (v := v34) rfl rfl) ?_) | (refine ASL.light rfl rfl (opMove (v := v30) rfl rfl) ?_) | (refine ASL.light rfl rfl (opMove (v := v28) rfl rfl) ?_) | (refine ASL.light rfl rfl (opMove (v := .list _ _) rfl rfl) ?_) | (refine ASL.light rfl rfl (opMove (v := .slc _ _ _ _) rfl rfl) ?_) | (refine ASL.light rfl rfl (opMove (v := .nil) rfl rfl) ?_))
                          all_goals (refine ASL.light rfl rfl (opMove (v := .int _ _) rfl rfl) ?_)
                          all_goals (refine ASL.callH rfl rfl rfl rfl call_21 (laws_markIntS _ _ _ _ (by assumption) (by omega)) rfl ?_; rintro _ G65 ⟨rfl, hO65, hB65⟩; try (first | (have hO28 : Own _ G65 v28 _ := hO65) | (have hO28 := Own.beside hO28 hB65 (by first | assumption | exact Apart.symm (by assumption)))); try (first | (have hO30 : Own _ G65 v30 _ := hO65) | (have hO30 := Own.beside hO30 hB65 (by first | assumption | exact Apart.symm (by assumption)))); try (first | (have hO34 : Own _ G65 v34 _ := hO65) | (have hO34 := Own.beside hO34 hB65 (by first | assumption | exact Apart.symm (by assumption)))))
                          all_goals (refine ASL.light rfl rfl (opAssign (v := .int _ _) rfl rfl) ?_)
                          all_goals (refine ASL.done ?_)
                          all_goals (refine AWP.seqR rfl ?_)
                          all_goals (refine ASL.light rfl rfl (opAssign (v := .int _ _) rfl rfl) ?_)
                          all_goals (refine ASL.done ?_)
                          all_goals (refine AWP.seqR rfl ?_)
                          all_goals (first | (refine ASL.light rfl rfl (opMove (v := v34) rfl rfl) ?_) | (refine ASL.light rfl rfl (opMove (v := v30) rfl rfl) ?_) | (refine ASL.light rfl rfl (opMove (v := v28) rfl rfl) ?_) | (refine ASL.light rfl rfl (opMove (v := .list _ _) rfl rfl) ?_) | (refine ASL.light rfl rfl (opMove (v := .slc _ _ _ _) rfl rfl) ?_) | (refine ASL.light rfl rfl (opMove (v := .nil) rfl rfl) ?_))
                          all_goals (refine ASL.light rfl rfl (opMove (v := .int _ _) rfl rfl) ?_)
                          all_goals (first | (refine ASL.callP rfl rfl rfl rfl call_22 (laws_heldIntS _ _ (by omega)) rfl ?_; rintro _ rfl) | (refine ASL.callRP rfl rfl rfl rfl call_22 (by exact ⟨by first | exact RA.same _ | exact RA.own (by assumption), by first | exact RA.same _ | exact RA.own (by assumption), trivial⟩) (laws_heldIntS _ _ (by omega)) (by constructor) ?_))
                          all_goals (refine ASL.light rfl rfl (opAssign (v := .int _ _) rfl rfl) ?_)
                          all_goals (refine ASL.done ?_)
                          all_goals (refine AWP.seq ?_)
                          all_goals (refine AWP.seqR rfl ?_)
                          all_goals (refine ASL.light rfl rfl (opMove (v := .int _ _) rfl rfl) ?_)
                          all_goals (refine ASL.dec rfl rfl (opInt rfl rfl rfl rfl) ?_ ?_ <;> intro h70)
                          all_goals (refine ASL.done ?_)
                          all_goals (first
                            | (
                              refine AWP.condT rfl ?_
                              all_goals (refine AWP.seqR rfl ?_)
                              all_goals (refine ASL.light rfl rfl (opAssign (v := .bool _) rfl rfl) ?_)
                              all_goals (refine ASL.done ?_)
                              all_goals (refine AWP.ret ?_)
                              all_goals (repeat with_reducible refine QThen.ret1 ?_)
                              all_goals (exact QRet.bool rfl rfl rfl (by first | rfl | (exfalso; first | omega | contradiction))))
                            | (
                              refine AWP.condF rfl ?_
                              all_goals (refine AWP.skip ?_)
                              all_goals (refine AWP.seq ?_)
                              all_goals (refine AWP.seqR rfl ?_)
                              all_goals (refine ASL.light rfl rfl (opMove (v := .int _ _) rfl rfl) ?_)
                              all_goals (refine ASL.light rfl rfl (opMove (v := .int _ _) rfl rfl) ?_)
                              all_goals (refine ASL.dec rfl rfl (opInt rfl rfl rfl rfl) ?_ ?_ <;> intro h73)
                              all_goals (refine ASL.done ?_)
                              all_goals (first
                                | (
                                  refine AWP.condT rfl ?_
                                  all_goals (refine AWP.seqR rfl ?_)
                                  all_goals (refine ASL.light rfl rfl (opAssign (v := .bool _) rfl rfl) ?_)
                                  all_goals (refine ASL.done ?_)
                                  all_goals (refine AWP.ret ?_)
                                  all_goals (repeat with_reducible refine QThen.ret1 ?_)
                                  all_goals (exact QRet.bool rfl rfl rfl (by first | rfl | (exfalso; first | omega | contradiction))))
                                | (
                                  refine AWP.condF rfl ?_
                                  all_goals (refine AWP.skip ?_)
                                  all_goals (refine AWP.seqR rfl ?_)
                                  all_goals (refine ASL.light rfl rfl (opMove (v := .int _ _) rfl rfl) ?_)
                                  all_goals (first | (refine ASL.light rfl rfl (opMove (v := v34) rfl rfl) ?_) | (refine ASL.light rfl rfl (opMove (v := v30) rfl rfl) ?_) | (refine ASL.light rfl rfl (opMove (v := v28) rfl rfl) ?_) | (refine ASL.light rfl rfl (opMove (v := .list _ _) rfl rfl) ?_) | (refine ASL.light rfl rfl (opMove (v := .slc _ _ _ _) rfl rfl) ?_) | (refine ASL.light rfl rfl (opMove (v := .nil) rfl rfl) ?_))
                                  all_goals (refine ASL.callP rfl rfl rfl rfl call_16 (PO.list (laws_toIntS_o _ (by omega))) rfl ?_; rintro _ rfl)
                                  all_goals (first | (refine ASL.light rfl rfl (opMove (v := v34) rfl rfl) ?_) | (refine ASL.light rfl rfl (opMove (v := v30) rfl rfl) ?_) | (refine ASL.light rfl rfl (opMove (v := v28) rfl rfl) ?_) | (refine ASL.light rfl rfl (opMove (v := .list _ _) rfl rfl) ?_) | (refine ASL.light rfl rfl (opMove (v := .slc _ _ _ _) rfl rfl) ?_) | (refine ASL.light rfl rfl (opMove (v := .nil) rfl rfl) ?_))
                                  all_goals (refine ASL.callP rfl rfl rfl rfl call_16 (PO.list (laws_toIntS_o _ (by omega))) rfl ?_; rintro _ rfl)
                                  all_goals (refine ASL.callP rfl rfl rfl rfl call_24 (PO.list (impl_BoxMul _ _ _ (by omega) (by omega))) rfl ?_; rintro _ rfl)
                                  all_goals (first | (refine ASL.light rfl rfl (opAssign (v := v34) rfl rfl) ?_) | (refine ASL.light rfl rfl (opAssign (v := v30) rfl rfl) ?_) | (refine ASL.light rfl rfl (opAssign (v := v28) rfl rfl) ?_) | (refine ASL.light rfl rfl (opAssign (v := .list _ _) rfl rfl) ?_) | (refine ASL.light rfl rfl (opAssign (v := .slc _ _ _ _) rfl rfl) ?_) | (refine ASL.light rfl rfl (opAssign (v := .nil) rfl rfl) ?_))
                                  all_goals (refine ASL.done ?_)
                                  all_goals (refine AWP.seq ?_)
                                  all_goals (refine AWP.seqR rfl ?_)
                                  all_goals (first | (refine ASL.light rfl rfl (opMove (v := v34) rfl rfl) ?_) | (refine ASL.light rfl rfl (opMove (v := v30) rfl rfl) ?_) | (refine ASL.light rfl rfl (opMove (v := v28) rfl rfl) ?_) | (refine ASL.light rfl rfl (opMove (v := .list _ _) rfl rfl) ?_) | (refine ASL.light rfl rfl (opMove (v := .slc _ _ _ _) rfl rfl) ?_) | (refine ASL.light rfl rfl (opMove (v := .nil) rfl rfl) ?_))
                                  all_goals (first | (refine ASL.light rfl rfl (opMove (v := v34) rfl rfl) ?_) | (refine ASL.light rfl rfl (opMove (v := v30) rfl rfl) ?_) | (refine ASL.light rfl rfl (opMove (v := v28) rfl rfl) ?_) | (refine ASL.light rfl rfl (opMove (v := .list _ _) rfl rfl) ?_) | (refine ASL.light rfl rfl (opMove (v := .slc _ _ _ _) rfl rfl) ?_) | (refine ASL.light rfl rfl (opMove (v := .nil) rfl rfl) ?_))
                                  all_goals (first | (refine ASL.callD rfl rfl rfl rfl call_18 (laws_eqIntS _ _ (by omega)) rfl ?_ ?_ <;> intro h82) | (refine ASL.callRD rfl rfl rfl rfl call_18 (by exact ⟨by first | exact RA.same _ | exact RA.own (by assumption), by first | exact RA.same _ | exact RA.own (by assumption), trivial⟩) (laws_eqIntS _ _ (by omega)) ?_ ?_ <;> intro h82))
                                  all_goals (refine ASL.light rfl rfl (opNot rfl rfl) ?_)
                                  all_goals (refine ASL.done ?_)
                                  all_goals (first
                                    | (
                                      refine AWP.condT rfl ?_
                                      all_goals (refine AWP.seqR rfl ?_)
                                      all_goals (refine ASL.light rfl rfl (opAssign (v := .bool _) rfl rfl) ?_)
                                      all_goals (refine ASL.done ?_)
                                      all_goals (refine AWP.ret ?_)
                                      all_goals (repeat with_reducible refine QThen.ret1 ?_)
                                      all_goals (exact QRet.bool rfl rfl rfl (by first | rfl | (exfalso; first | omega | contradiction))))
                                    | (
                                      refine AWP.condF rfl ?_
                                      all_goals (refine AWP.skip ?_)
                                      all_goals (refine AWP.seqR rfl ?_)
                                      all_goals (refine ASL.light rfl rfl (opAssign (v := .int _ _) rfl rfl) ?_)
                                      all_goals (refine ASL.done ?_)
                                      all_goals (refine AWP.seqR rfl ?_)
                                      all_goals (first | (refine ASL.light rfl rfl (opMove (v := v34) rfl rfl) ?_) | (refine ASL.light rfl rfl (opMove (v := v30) rfl rfl) ?_) | (refine ASL.light rfl rfl (opMove (v := v28) rfl rfl) ?_) | (refine ASL.light rfl rfl (opMove (v := .list _ _) rfl rfl) ?_) | (refine ASL.light rfl rfl (opMove (v := .slc _ _ _ _) rfl rfl) ?_) | (refine ASL.light rfl rfl (opMove (v := .nil) rfl rfl) ?_))
                                      all_goals (refine ASL.light rfl rfl (opMove (v := .int _ _) rfl rfl) ?_)
                                      all_goals (first | (refine ASL.callP rfl rfl rfl rfl call_22 (laws_heldIntS _ _ (by omega)) rfl ?_; rintro _ rfl) | (refine ASL.callRP rfl rfl rfl rfl call_22 (by exact ⟨by first | exact RA.same _ | exact RA.own (by assumption), by first | exact RA.same _ | exact RA.own (by assumption), trivial⟩) (laws_heldIntS _ _ (by omega)) (by constructor) ?_))
                                      all_goals (refine ASL.light rfl rfl (opAssign (v := .int _ _) rfl rfl) ?_)
                                      all_goals (refine ASL.done ?_)
                                      all_goals (refine AWP.seq ?_)
                                      all_goals (refine AWP.seqR rfl ?_)
                                      all_goals (refine ASL.light rfl rfl (opMove (v := .int _ _) rfl rfl) ?_)
                                      all_goals (refine ASL.dec rfl rfl (opInt rfl rfl rfl rfl) ?_ ?_ <;> intro h88)
                                      all_goals (refine ASL.done ?_)
                                      all_goals (first
                                        | (
                                          refine AWP.condT rfl ?_
                                          all_goals (refine AWP.seqR rfl ?_)
                                          all_goals (refine ASL.light rfl rfl (opAssign (v := .bool _) rfl rfl) ?_)
                                          all_goals (refine ASL.done ?_)
                                          all_goals (refine AWP.ret ?_)
                                          all_goals (repeat with_reducible refine QThen.ret1 ?_)
                                          all_goals (exact QRet.bool rfl rfl rfl (by first | rfl | (exfalso; first | omega | contradiction))))
                                        | (
                                          refine AWP.condF rfl ?_
                                          all_goals (refine AWP.skip ?_)
                                          all_goals (refine AWP.seq ?_)
                                          all_goals (refine AWP.seqR rfl ?_)
                                          all_goals (refine ASL.light rfl rfl (opMove (v := .int _ _) rfl rfl) ?_)
                                          all_goals (refine ASL.light rfl rfl (opMove (v := .int _ _) rfl rfl) ?_)
                                          all_goals (refine ASL.dec rfl rfl (opInt rfl rfl rfl rfl) ?_ ?_ <;> intro h91)
                                          all_goals (refine ASL.done ?_)
                                          all_goals (first
                                            | (
                                              refine AWP.condT rfl ?_
                                              all_goals (refine AWP.seqR rfl ?_)
                                              all_goals (refine ASL.light rfl rfl (opAssign (v := .bool _) rfl rfl) ?_)
                                              all_goals (refine ASL.done ?_)
                                              all_goals (refine AWP.ret ?_)
                                              all_goals (repeat with_reducible refine QThen.ret1 ?_)
                                              all_goals (exact QRet.bool rfl rfl rfl (by first | rfl | (exfalso; first | omega | contradiction))))
                                            | (
                                              refine AWP.condF rfl ?_
                                              all_goals (refine AWP.skip ?_)
                                              all_goals (refine AWP.seqR rfl ?_)
                                              all_goals (refine ASL.light rfl rfl (opAssign (v := .bool _) rfl rfl) ?_)
                                              all_goals (refine ASL.done ?_)
                                              all_goals (refine AWP.ret ?_)
                                              all_goals (repeat with_reducible refine QThen.ret1 ?_)
                                              all_goals (exact QRet.bool rfl rfl rfl (by first | rfl | (exfalso; first | omega | contradiction)))))))))))))))))))))))))

end Go.Proofs.Ytcmlckgdhnffmaa
