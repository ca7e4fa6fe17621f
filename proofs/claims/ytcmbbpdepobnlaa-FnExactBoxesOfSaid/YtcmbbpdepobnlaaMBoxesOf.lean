/- Plain texts of FnExactBoxesOf, put together. -/
import Derived.Test.YtcmbbpdepobnlaaDBoxesOf
import Derived.Test.YtcmbbpdepobnlaaQ1

/- Steps, marked or not, put together: what a few rounds reach is what all rounds reach. -/
section
namespace Go.Proofs.Ytcmbbpdepobnlaa.Takes
abbrev R := Nat → Nat → Prop
def comp (n : Nat) (X Y : R) : R := fun p q => ∃ r, r < n ∧ X p r ∧ Y r q
def PP (n : Nat) (A : R) : Nat → R
  | 0 => A
  | k + 1 => fun p q => PP n A k p q ∨ comp n (PP n A k) A p q
def TT (n : Nat) (A B : R) : Nat → R
  | 0 => B
  | k + 1 => fun p q => TT n A B k p q ∨ comp n (TT n A B k) A p q ∨ comp n (PP n A k) B p q
section
variable {n : Nat} {A B : R}
theorem P_mono {k j : Nat} (h : k ≤ j) {p q : Nat} (g : PP n A k p q) : PP n A j p q := by
  induction h with
  | refl => exact g
  | step _ ih => exact .inl ih
theorem T_mono {k j : Nat} (h : k ≤ j) {p q : Nat} (g : TT n A B k p q) : TT n A B j p q := by
  induction h with
  | refl => exact g
  | step _ ih => exact .inl ih
theorem P_comp (i : Nat) : ∀ (j : Nat) {p q : Nat}, comp n (PP n A i) (PP n A j) p q → PP n A (i + j + 1) p q
  | 0, p, q, h => .inr h
  | j + 1, p, q, ⟨r, hr, h1, h2⟩ => by
    rcases h2 with h2 | ⟨s, hs, h2, h3⟩
    · exact .inl (P_comp i j ⟨r, hr, h1, h2⟩)
    · exact .inr ⟨s, hs, P_comp i j ⟨r, hr, h1, h2⟩, h3⟩
theorem T_compP (i : Nat) : ∀ (j : Nat) {p q : Nat}, comp n (TT n A B i) (PP n A j) p q → TT n A B (i + j + 1) p q
  | 0, p, q, h => .inr (.inl h)
  | j + 1, p, q, ⟨r, hr, h1, h2⟩ => by
    rcases h2 with h2 | ⟨s, hs, h2, h3⟩
    · exact .inl (T_compP i j ⟨r, hr, h1, h2⟩)
    · exact .inr (.inl ⟨s, hs, T_compP i j ⟨r, hr, h1, h2⟩, h3⟩)
theorem P_compT (i : Nat) : ∀ (j : Nat) {p q : Nat}, comp n (PP n A i) (TT n A B j) p q → TT n A B (i + j + 1) p q
  | 0, p, q, h => .inr (.inr h)
  | j + 1, p, q, ⟨r, hr, h1, h2⟩ => by
    rcases h2 with h2 | ⟨s, hs, h2, h3⟩ | ⟨s, hs, h2, h3⟩
    · exact .inl (P_compT i j ⟨r, hr, h1, h2⟩)
    · exact .inr (.inl ⟨s, hs, P_compT i j ⟨r, hr, h1, h2⟩, h3⟩)
    · exact .inr (.inr ⟨s, hs, P_comp i j ⟨r, hr, h1, h2⟩, h3⟩)
/-- A marked way is a way, a marked step, and a way. -/
theorem T_split : ∀ (j : Nat) {p q : Nat}, q < n → TT n A B j p q → ∃ u v, (u = p ∨ u < n ∧ PP n A j p u) ∧ B u v ∧ v < n ∧ (v = q ∨ PP n A j v q)
  | 0, p, q, hq, h => ⟨p, q, .inl rfl, h, hq, .inl rfl⟩
  | j + 1, p, q, hq, h => by
    rcases h with h | ⟨r, hr, h1, h2⟩ | ⟨r, hr, h1, h2⟩
    · obtain ⟨u, v, g1, g2, gv, g3⟩ := T_split j hq h
      exact ⟨u, v, g1.imp id (fun x => ⟨x.1, .inl x.2⟩), g2, gv, g3.imp id .inl⟩
    · obtain ⟨u, v, g1, g2, gv, g3⟩ := T_split j hr h1
      refine ⟨u, v, g1.imp id (fun x => ⟨x.1, .inl x.2⟩), g2, gv, .inr ?_⟩
      rcases g3 with rfl | g3
      · exact P_mono (Nat.zero_le (j + 1)) h2
      · exact .inr ⟨r, hr, g3, h2⟩
    · exact ⟨r, q, .inr ⟨hr, .inl h1⟩, h2, hq, .inl rfl⟩

/-- A row that grows no more never grows again. -/
theorem row_still {p k : Nat} (h : ∀ q, q < n → PP n A (k + 1) p q → PP n A k p q) : ∀ j, ∀ q, q < n → PP n A (k + j) p q → PP n A k p q
  | 0, q, _, g => g
  | j + 1, q, hq, g => by
    rcases g with g | ⟨r, hr, g1, g2⟩
    · exact row_still h j q hq g
    · exact h q hq (.inr ⟨r, hr, row_still h j r hr g1, g2⟩)
open Classical in
noncomputable def size (n : Nat) (A : R) (k p : Nat) : Nat := (List.range n).countP fun q => decide (PP n A k p q)
theorem count_le {l : List Nat} {a b : Nat → Bool} (h : ∀ x ∈ l, a x = true → b x = true) : l.countP a ≤ l.countP b := List.countP_mono_left h
theorem count_eq : ∀ {l : List Nat} {a b : Nat → Bool}, (∀ x ∈ l, a x = true → b x = true) → l.countP b ≤ l.countP a → ∀ x ∈ l, b x = true → a x = true
  | [], _, _, _, _, x, hx, _ => by simp at hx
  | y :: l, a, b, h, hc, x, hx, hb => by
    have ih := count_eq (l := l) (a := a) (b := b) fun z hz => h z (List.mem_cons_of_mem _ hz)
    have hle := count_le (l := l) (a := a) (b := b) fun z hz => h z (List.mem_cons_of_mem _ hz)
    rw [List.countP_cons, List.countP_cons] at hc
    have hy := h y List.mem_cons_self
    cases ha : a y with
    | true =>
      rw [ha, hy ha] at hc
      rcases List.mem_cons.mp hx with rfl | hx
      · exact ha
      · exact ih (by simp at hc; omega) x hx hb
    | false =>
      rw [ha] at hc
      cases hby : b y with
      | true => rw [hby] at hc; simp at hc; omega
      | false =>
        rw [hby] at hc
        rcases List.mem_cons.mp hx with rfl | hx
        · rw [hby] at hb; cases hb
        · exact ih (by simp at hc; omega) x hx hb
theorem size_lt {k p : Nat} (h : ¬ ∀ q, q < n → PP n A (k + 1) p q → PP n A k p q) : size n A k p < size n A (k + 1) p := by
  classical
  refine Nat.lt_of_not_le fun hc => h fun q hq g => ?_
  have := count_eq (l := List.range n) (a := fun q => decide (PP n A k p q)) (b := fun q => decide (PP n A (k + 1) p q))
    (fun x _ hx => by simp only [decide_eq_true_eq] at hx ⊢; exact .inl hx) hc q (List.mem_range.mpr hq) (by simpa using g)
  simpa using this
theorem size_le (k p : Nat) : size n A k p ≤ n := by
  unfold size
  exact Nat.le_trans List.countP_le_length (by simp)
theorem size_grow {p : Nat} : ∀ (k : Nat), (∀ i, i < k → ¬ ∀ q, q < n → PP n A (i + 1) p q → PP n A i p q) → size n A 0 p + k ≤ size n A k p
  | 0, _ => Nat.le_refl _
  | k + 1, h => by
    have := size_grow k fun i hi => h i (by omega)
    have := size_lt (h k (by omega))
    omega
/-- All that is reached is reached in n - 1 more steps. -/
theorem reach {p q j : Nat} (hq : q < n) (h : PP n A j p q) : PP n A (n - 1) p q := by
  classical
  by_cases hs : ∃ i, i < n ∧ ∀ q, q < n → PP n A (i + 1) p q → PP n A i p q
  · obtain ⟨i, hi, hs⟩ := hs
    have : PP n A i p q := by
      by_cases hj : j ≤ i
      · exact P_mono hj h
      · have := row_still hs (j - i) q hq
        rw [show i + (j - i) = j by omega] at this
        exact this h
    exact P_mono (by omega) this
  · have hg := size_grow (n := n) (A := A) (p := p) n fun i hi k => hs ⟨i, hi, k⟩
    have hl := size_le (n := n) (A := A) n p
    have h0 : size n A 0 p = 0 := by omega
    -- nothing at all is reached
    have none : ∀ j, ∀ q, q < n → ¬ PP n A j p q := by
      intro j
      induction j with
      | zero =>
        intro q hq g
        unfold size at h0
        rw [List.countP_eq_zero] at h0
        exact h0 q (List.mem_range.mpr hq) (by simpa using g)
      | succ j ih =>
        intro q hq g
        rcases g with g | ⟨r, hr, g1, _⟩
        · exact ih q hq g
        · exact ih r hr g1
    exact absurd h (none j q hq)

/-- Where nothing changes any more, nothing ever changes. -/
theorem still {K : Nat} (hP : ∀ p q, p < n → q < n → PP n A (K + 1) p q → PP n A K p q) (hT : ∀ p q, p < n → q < n → TT n A B (K + 1) p q → TT n A B K p q) :
    ∀ j p q, p < n → q < n → (PP n A j p q → PP n A K p q) ∧ (TT n A B j p q → TT n A B K p q) := by
  have P : ∀ j p q, p < n → q < n → PP n A j p q → PP n A K p q := by
    intro j p q hp hq h
    by_cases hj : j ≤ K
    · exact P_mono hj h
    · have := row_still (fun q hq => hP p q hp hq) (j - K) q hq
      rw [show K + (j - K) = j by omega] at this
      exact this h
  have T : ∀ j p q, p < n → q < n → TT n A B j p q → TT n A B K p q := by
    intro j
    induction j with
    | zero => intro p q _ _ h; exact T_mono (Nat.zero_le _) h
    | succ j ih =>
      intro p q hp hq h
      rcases h with h | ⟨r, hr, h1, h2⟩ | ⟨r, hr, h1, h2⟩
      · exact ih p q hp hq h
      · exact hT p q hp hq (.inr (.inl ⟨r, hr, ih p r hp hr h1, h2⟩))
      · exact hT p q hp hq (.inr (.inr ⟨r, hr, P j p r hp hr h1, h2⟩))
  exact fun j p q hp hq => ⟨P j p q hp hq, T j p q hp hq⟩

/-- The reference's loops: the table of n rounds, put behind itself twice. -/
def LP (n : Nat) (A : R) : R := fun p q => PP n A n p q ∨ comp n (PP n A n) (PP n A n) p q
def LT1 (n : Nat) (A B : R) : R := fun p q => TT n A B n p q ∨ comp n (TT n A B n) (PP n A n) p q ∨ comp n (PP n A n) (TT n A B n) p q
def LT2 (n : Nat) (A B : R) : R := fun p q => LT1 n A B p q ∨ comp n (LT1 n A B) (PP n A n) p q ∨ comp n (LP n A) (TT n A B n) p q
theorem LP_sound {p q : Nat} (h : LP n A p q) : PP n A (n + n + 1) p q := by
  rcases h with h | h
  · exact P_mono (by omega) h
  · exact P_comp n n h
theorem LT1_sound {p q : Nat} (h : LT1 n A B p q) : TT n A B (n + n + 1) p q := by
  rcases h with h | h | h
  · exact T_mono (by omega) h
  · exact T_compP n n h
  · exact P_compT n n h
theorem LT2_sound {p q : Nat} (h : LT2 n A B p q) : TT n A B (n + n + 1 + n + 1) p q := by
  rcases h with h | ⟨r, hr, h1, h2⟩ | ⟨r, hr, h1, h2⟩
  · exact T_mono (by omega) (LT1_sound h)
  · exact T_compP _ n ⟨r, hr, LT1_sound h1, h2⟩
  · exact P_compT _ n ⟨r, hr, LP_sound h1, h2⟩
theorem reach_iff {K : Nat} (hP : ∀ p q, p < n → q < n → PP n A (K + 1) p q → PP n A K p q) (hT : ∀ p q, p < n → q < n → TT n A B (K + 1) p q → TT n A B K p q) {p q : Nat} (hp : p < n) (hq : q < n) : PP n A K p q ↔ PP n A n p q :=
  ⟨fun h => P_mono (by omega) (reach hq h), fun h => (still hP hT n p q hp hq).1 h⟩
theorem loop_iff {K : Nat} (hP : ∀ p q, p < n → q < n → PP n A (K + 1) p q → PP n A K p q) (hT : ∀ p q, p < n → q < n → TT n A B (K + 1) p q → TT n A B K p q) {q : Nat} (hq : q < n) : TT n A B K q q ↔ LT2 n A B q q := by
  constructor
  · intro h
    obtain ⟨u, v, g1, g2, gv, g3⟩ := T_split K hq h
    have h1 : TT n A B n q v := by
      rcases g1 with rfl | ⟨hu, g1⟩
      · exact T_mono (Nat.zero_le _) g2
      · have := reach hu g1
        have k : TT n A B (n - 1 + 1) q v := .inr (.inr ⟨u, hu, this, g2⟩)
        rw [show n - 1 + 1 = n by omega] at k
        exact k
    rcases g3 with rfl | g3
    · exact .inl (.inl h1)
    · exact .inl (.inr (.inl ⟨v, gv, h1, P_mono (by omega) (reach hq g3)⟩))
  · intro h
    exact (still hP hT _ q q hq hq).2 (LT2_sound h)
end
end Go.Proofs.Ytcmbbpdepobnlaa.Takes
end

/- Boxes put together, told cell by cell. -/
section
namespace Go.Proofs.Ytcmbbpdepobnlaa
open Go Go.RowKit E
set_option linter.unusedVariables false
def mulC (x y : List Int) (m p q : Nat) : Nat → Int
  | 0 => 0
  | r + 1 => if 0 < x.getD (p * m + r) 0 ∧ 0 < y.getD (r * m + q) 0 then max (mulC x y m p q r) (max (x.getD (p * m + r) 0) (y.getD (r * m + q) 0)) else mulC x y m p q r
def boxMulL (m : Nat) (x y : List Int) : List Int := (List.range (m * m)).map fun i => mulC x y m (i / m) (i % m) m
theorem boxMulL_len (m : Nat) (x y : List Int) : (boxMulL m x y).length = m * m := by simp [boxMulL]
/-- A table of m rows of m, told cell by cell. -/
def TabL (zs : List Int) (m : Nat) (g : Nat → Nat → Int) : Prop := zs.length = m * m ∧ ∀ a b, a < m → b < m → zs.getD (a * m + b) 0 = g a b
theorem cell_inj {m a b p q : Nat} (hb : b < m) (hq : q < m) : a * m + b = p * m + q ↔ a = p ∧ b = q := by
  constructor
  · intro h
    have h1 : (a * m + b) / m = a := by rw [Nat.mul_comm, Nat.mul_add_div (by omega), Nat.div_eq_of_lt hb, Nat.add_zero]
    have h2 : (p * m + q) / m = p := by rw [Nat.mul_comm, Nat.mul_add_div (by omega), Nat.div_eq_of_lt hq, Nat.add_zero]
    have : a = p := by rw [← h1, ← h2, h]
    subst this; exact ⟨rfl, by omega⟩
  · rintro ⟨rfl, rfl⟩; rfl
theorem cell_lt {m p q : Nat} (hp : p < m) (hq : q < m) : p * m + q < m * m := by
  have : p * m + m ≤ m * m := by rw [← Nat.succ_mul]; exact Nat.mul_le_mul_right m hp
  omega
theorem TabL.zero (m : Nat) {n : Nat} (h : n = m * m) (g : Nat → Nat → Int) (hg : ∀ a b, a < m → b < m → g a b = 0) : TabL (List.replicate n 0) m g := by
  subst h
  refine ⟨by simp, fun a b ha hb => ?_⟩
  rw [hg a b ha hb]
  have := cell_lt ha hb
  simp [this]
theorem TabL.set {zs : List Int} {m p q : Nat} {g : Nat → Nat → Int} {v : Int} (h : TabL zs m g) (hp : p < m) (hq : q < m) : TabL (zs.set (p * m + q) v) m (fun a b => if a = p ∧ b = q then v else g a b) := by
  obtain ⟨h1, h2⟩ := h
  refine ⟨by simp [h1], fun a b ha hb => ?_⟩
  have hl := cell_lt hp hq
  by_cases e : a = p ∧ b = q
  · show _ = if a = p ∧ b = q then v else g a b
    obtain ⟨rfl, rfl⟩ := e
    simp [h1, hl]
  · show _ = if a = p ∧ b = q then v else g a b
    rw [if_neg e, ← h2 a b ha hb]
    have : p * m + q ≠ a * m + b := fun k => e ((cell_inj hb hq).mp k.symm)
    simp [List.getD, List.getElem?_set_ne this]
theorem TabL.congr {zs : List Int} {m : Nat} {g g' : Nat → Nat → Int} (h : TabL zs m g) (k : ∀ a b, a < m → b < m → g a b = g' a b) : TabL zs m g' := ⟨h.1, fun a b ha hb => by rw [h.2 a b ha hb, k a b ha hb]⟩
theorem TabL.ext {zs ys : List Int} {m : Nat} {g : Nat → Nat → Int} (h : TabL zs m g) (k : TabL ys m g) : zs = ys := by
  apply List.ext_getElem (by rw [h.1, k.1])
  intro j g1 g2
  have hm : 0 < m := by
    rcases Nat.eq_zero_or_pos m with rfl | hm
    · rw [h.1] at g1; simp at g1
    · exact hm
  have hj : j / m < m := Nat.div_lt_of_lt_mul (by rw [← h.1]; exact g1)
  have e := h.2 (j / m) (j % m) hj (Nat.mod_lt _ hm)
  rw [← k.2 (j / m) (j % m) hj (Nat.mod_lt _ hm), show j / m * m + j % m = j from by rw [Nat.mul_comm]; exact Nat.div_add_mod j m] at e
  simpa [g1, g2] using e
theorem TabL.mul (m : Nat) (x y : List Int) : TabL (boxMulL m x y) m (fun a b => mulC x y m a b m) := by
  refine ⟨by simp [boxMulL], fun a b ha hb => ?_⟩
  have hl := cell_lt ha hb
  have h1 : (a * m + b) / m = a := by rw [Nat.mul_comm, Nat.mul_add_div (by omega), Nat.div_eq_of_lt hb, Nat.add_zero]
  have h2 : (a * m + b) % m = b := by rw [Nat.mul_comm, Nat.mul_add_mod, Nat.mod_eq_of_lt hb]
  simp [boxMulL, hl, h1, h2]
def valS (x y : List Int) (m p q r a b : Nat) : Int := if a < p ∨ a = p ∧ b < q then mulC x y m a b m else if a = p ∧ b = q then mulC x y m a b r else 0
def valI (x y : List Int) (m p r q a b : Nat) : Int := if a < p then mulC x y m a b m else if a = p then (if b < q then mulC x y m a b (r + 1) else mulC x y m a b r) else 0
theorem pq4 {m p q : Nat} (h : 1 ≤ m ∧ m ≤ 4) (hp : p < m) (hq : q < m) : ((p : Int) * m + q) = ((p * m + q : Nat) : Int) ∧ p * m + q < m * m ∧ 0 ≤ (p : Int) * m ∧ (p : Int) * m ≤ 16 := by
  refine ⟨by simp, cell_lt hp hq, ?_⟩
  have : m = 1 ∨ m = 2 ∨ m = 3 ∨ m = 4 := by omega
  rcases this with rfl | rfl | rfl | rfl <;> omega
section
variable {x y zs : List Int} {m p q r : Nat}
theorem valS_0 : ∀ a b, a < m → b < m → valS x y m 0 0 0 a b = 0 := by
  intro a b _ _; unfold valS; split
  · omega
  · split <;> rfl
theorem valS_q (h : TabL zs m (valS x y m p q r)) (hr : r = m) : TabL zs m (valS x y m p (q + 1) 0) := h.congr fun a b ha hb => by
  subst hr; unfold valS
  by_cases h1 : a < p ∨ a = p ∧ b < q
  · rw [if_pos h1, if_pos (by omega)]
  · rw [if_neg h1]
    by_cases h2 : a = p ∧ b = q
    · rw [if_pos h2, if_pos (by omega)]
    · rw [if_neg h2, if_neg (by omega)]; split <;> rfl
theorem valS_p (h : TabL zs m (valS x y m p q 0)) (hq : q = m) : TabL zs m (valS x y m (p + 1) 0 0) := h.congr fun a b ha hb => by
  subst hq; unfold valS
  by_cases h1 : a < p ∨ a = p ∧ b < q
  · rw [if_pos h1, if_pos (by omega)]
  · rw [if_neg h1, if_neg (by omega), if_neg (by omega)]; split <;> rfl
theorem valS_end (h : TabL zs m (valS x y m p 0 0)) (hp : p = m) : zs = boxMulL m x y := by
  refine TabL.ext (h.congr fun a b ha hb => ?_) (TabL.mul m x y)
  unfold valS; rw [if_pos (by omega)]
theorem valS_get (h : TabL zs m (valS x y m p q r)) (hp : p < m) (hq : q < m) : zs.getD (p * m + q) 0 = mulC x y m p q r := by
  rw [h.2 p q hp hq]; unfold valS; rw [if_neg (by omega), if_pos ⟨rfl, rfl⟩]
theorem valS_yes (h : TabL zs m (valS x y m p q r)) (hp : p < m) (hq : q < m) (h1 : x.getD (p * m + r) 0 > 0) (h2 : y.getD (r * m + q) 0 > 0) :
    TabL (zs.set (p * m + q) (max (zs.getD (p * m + q) 0) (max (x.getD (p * m + r) 0) (y.getD (r * m + q) 0)))) m (valS x y m p q (r + 1)) := (h.set hp hq).congr fun a b ha hb => by
  rw [valS_get h hp hq]
  by_cases e : a = p ∧ b = q
  · obtain ⟨rfl, rfl⟩ := e
    rw [if_pos ⟨rfl, rfl⟩]; unfold valS; rw [if_neg (by omega), if_pos ⟨rfl, rfl⟩, mulC, if_pos ⟨h1, h2⟩]
  · rw [if_neg e]; unfold valS; rw [if_neg e, if_neg e]
theorem valS_no (h : TabL zs m (valS x y m p q r)) (hn : ¬ (x.getD (p * m + r) 0 > 0 ∧ y.getD (r * m + q) 0 > 0)) : TabL zs m (valS x y m p q (r + 1)) := h.congr fun a b ha hb => by
  unfold valS
  by_cases e : a = p ∧ b = q
  · obtain ⟨rfl, rfl⟩ := e
    rw [if_neg (by omega), if_pos ⟨rfl, rfl⟩, if_neg (by omega), if_pos ⟨rfl, rfl⟩, mulC, if_neg (fun k => hn k)]
  · rw [if_neg e, if_neg e]
theorem valI_0 : ∀ a b, a < m → b < m → valI x y m 0 0 0 a b = 0 := by
  intro a b _ _; unfold valI; simp [mulC]
theorem valI_r (h : TabL zs m (valI x y m p r q)) (hq : q = m) : TabL zs m (valI x y m p (r + 1) 0) := h.congr fun a b ha hb => by
  subst hq; unfold valI; simp [hb]
theorem valI_p (h : TabL zs m (valI x y m p r 0)) (hr : r = m) : TabL zs m (valI x y m (p + 1) 0 0) := h.congr fun a b ha hb => by
  subst hr; unfold valI
  by_cases h1 : a < p
  · rw [if_pos h1, if_pos (by omega)]
  · rw [if_neg h1]
    by_cases h2 : a = p
    · rw [if_pos h2, if_neg (by omega), if_pos (by omega)]
    · rw [if_neg h2, if_neg (by omega)]; simp [mulC]
theorem valI_end (h : TabL zs m (valI x y m p 0 0)) (hp : p = m) : zs = boxMulL m x y := by
  refine TabL.ext (h.congr fun a b ha hb => ?_) (TabL.mul m x y)
  unfold valI; rw [if_pos (by omega)]
theorem valI_get (h : TabL zs m (valI x y m p r q)) (hp : p < m) (hq : q < m) : zs.getD (p * m + q) 0 = mulC x y m p q r := by
  rw [h.2 p q hp hq]; unfold valI; rw [if_neg (by omega), if_pos rfl, if_neg (by omega)]
theorem valI_skip (h : TabL zs m (valI x y m p r 0)) (h1 : x.getD (p * m + r) 0 = 0) : TabL zs m (valI x y m p (r + 1) 0) := h.congr fun a b ha hb => by
  unfold valI
  by_cases e : a = p
  · subst e
    have hm : mulC x y m a b (r + 1) = mulC x y m a b r := by rw [mulC, if_neg (by omega)]
    simp only [Nat.lt_irrefl, if_false, if_true, Nat.not_lt_zero, hm]
  · simp only [e, if_false]
theorem valI_no (h : TabL zs m (valI x y m p r q)) (h2 : ¬ y.getD (r * m + q) 0 ≠ 0) : TabL zs m (valI x y m p r (q + 1)) := h.congr fun a b ha hb => by
  have h2 : y.getD (r * m + q) 0 = 0 := by omega
  unfold valI
  by_cases e : a = p
  · subst e
    by_cases e2 : b = q
    · subst e2
      have hm : mulC x y m a b (r + 1) = mulC x y m a b r := by rw [mulC, if_neg (by omega)]
      simp only [Nat.lt_irrefl, if_false, if_true, Nat.lt_succ_self, hm]
    · by_cases e3 : b < q
      · rw [if_neg (by omega), if_pos rfl, if_pos e3, if_neg (by omega), if_pos rfl, if_pos (by omega)]
      · rw [if_neg (by omega), if_pos rfl, if_neg e3, if_neg (by omega), if_pos rfl, if_neg (by omega)]
  · simp [e]
theorem max3 (a b c : Int) : (if c > (if b > a then b else a) then c else (if b > a then b else a)) = max a (max b c) := by
  split <;> split <;> omega
theorem valI_yes {v : Int} (h : TabL zs m (valI x y m p r q)) (hp : p < m) (hq : q < m) (h1 : 0 < x.getD (p * m + r) 0) (h2 : 0 < y.getD (r * m + q) 0)
    (hv : v = max (zs.getD (p * m + q) 0) (max (x.getD (p * m + r) 0) (y.getD (r * m + q) 0))) : TabL (zs.set (p * m + q) v) m (valI x y m p r (q + 1)) := (h.set hp hq).congr fun a b ha hb => by
  subst hv
  rw [valI_get h hp hq]
  by_cases e : a = p ∧ b = q
  · obtain ⟨rfl, rfl⟩ := e
    rw [if_pos ⟨rfl, rfl⟩]; unfold valI; rw [if_neg (by omega), if_pos rfl, if_pos (by omega), mulC, if_pos ⟨h1, h2⟩]
  · rw [if_neg e]; unfold valI
    by_cases e1 : a = p
    · subst e1
      by_cases e3 : b < q
      · rw [if_neg (by omega), if_pos rfl, if_pos e3, if_neg (by omega), if_pos rfl, if_pos (by omega)]
      · rw [if_neg (by omega), if_pos rfl, if_neg e3, if_neg (by omega), if_pos rfl, if_neg (by omega)]
    · simp [e1]
end
end Go.Proofs.Ytcmbbpdepobnlaa
end

/- Boxes as tables of steps: what BoxTakes computes, told by ways. -/
section
namespace Go.Proofs.Ytcmbbpdepobnlaa
open Takes
set_option linter.unusedVariables false
def mxL (x y : List Int) : List Int := List.zipWith max x y
def ent (m : Nat) (z : List Int) (p q : Nat) : Int := z.getD (p * m + q) 0
def Bx (m : Nat) (z : List Int) : Prop := z.length = m * m ∧ ∀ i, 0 ≤ z.getD i 0 ∧ z.getD i 0 ≤ 2
def Rl (m : Nat) (z : List Int) (P T : R) : Prop := ∀ p q, p < m → q < m → (0 < ent m z p q ↔ P p q) ∧ (ent m z p q = 2 ↔ T p q)
theorem mulC_iff (x y : List Int) (m p q : Nat) : ∀ k, 0 < mulC x y m p q k ↔ ∃ r, r < k ∧ 0 < x.getD (p * m + r) 0 ∧ 0 < y.getD (r * m + q) 0
  | 0 => ⟨fun h => absurd h (by simp [mulC]), fun ⟨r, h, _⟩ => absurd h (by omega)⟩
  | k + 1 => by
    have ih := mulC_iff x y m p q k
    rw [mulC]
    split
    · rename_i h
      exact ⟨fun _ => ⟨k, by omega, h.1, h.2⟩, fun _ => by omega⟩
    · rename_i h
      rw [ih]
      constructor
      · rintro ⟨r, hr, g⟩; exact ⟨r, by omega, g⟩
      · rintro ⟨r, hr, g⟩
        by_cases e : r = k
        · subst e; exact absurd g h
        · exact ⟨r, by omega, g⟩
theorem mulC_le {x y : List Int} (hx : ∀ i, x.getD i 0 ≤ 2) (hy : ∀ i, y.getD i 0 ≤ 2) (m p q : Nat) : ∀ k, 0 ≤ mulC x y m p q k ∧ mulC x y m p q k ≤ 2
  | 0 => by simp [mulC]
  | k + 1 => by
    have ih := mulC_le hx hy m p q k
    have h1 := hx (p * m + k)
    have h2 := hy (k * m + q)
    rw [mulC]
    split <;> omega
theorem mulC_two {x y : List Int} (hx : ∀ i, x.getD i 0 ≤ 2) (hy : ∀ i, y.getD i 0 ≤ 2) (m p q : Nat) : ∀ k, mulC x y m p q k = 2 ↔ ∃ r, r < k ∧ (0 < x.getD (p * m + r) 0 ∧ 0 < y.getD (r * m + q) 0) ∧ (x.getD (p * m + r) 0 = 2 ∨ y.getD (r * m + q) 0 = 2)
  | 0 => ⟨fun h => absurd h (by simp [mulC]), fun ⟨r, h, _⟩ => absurd h (by omega)⟩
  | k + 1 => by
    have ih := mulC_two hx hy m p q k
    have hle := mulC_le hx hy m p q k
    have h1 := hx (p * m + k)
    have h2 := hy (k * m + q)
    rw [mulC]
    split
    · rename_i h
      constructor
      · intro e
        by_cases e' : mulC x y m p q k = 2
        · obtain ⟨r, hr, g⟩ := ih.mp e'; exact ⟨r, by omega, g⟩
        · exact ⟨k, by omega, h, by omega⟩
      · rintro ⟨r, hr, g1, g2⟩
        by_cases e' : r = k
        · subst e'; omega
        · have := ih.mpr ⟨r, by omega, g1, g2⟩; omega
    · rename_i h
      rw [ih]
      constructor
      · rintro ⟨r, hr, g⟩; exact ⟨r, by omega, g⟩
      · rintro ⟨r, hr, g⟩
        by_cases e : r = k
        · subst e; exact absurd g.1 h
        · exact ⟨r, by omega, g⟩
theorem mx_len {x y : List Int} (h : x.length = y.length) : (mxL x y).length = x.length := by simp [mxL, h]
theorem mx_get {x y : List Int} (h : x.length = y.length) (i : Nat) : (mxL x y).getD i 0 = max (x.getD i 0) (y.getD i 0) := by
  by_cases hi : i < x.length
  · have hi' : i < y.length := by omega
    simp [mxL, List.getD, List.getElem?_zipWith, hi, hi']
  · have hi' : ¬ i < y.length := by omega
    simp [List.getD, List.getElem?_eq_none (by rw [mx_len h]; omega : (mxL x y).length ≤ i), List.getElem?_eq_none (by omega : x.length ≤ i), List.getElem?_eq_none (by omega : y.length ≤ i)]
theorem mul_ent (m : Nat) (x y : List Int) {p q : Nat} (hp : p < m) (hq : q < m) : ent m (boxMulL m x y) p q = mulC x y m p q m := (TabL.mul m x y).2 p q hp hq
theorem mul_bx {m : Nat} {x y : List Int} (hx : Bx m x) (hy : Bx m y) : Bx m (boxMulL m x y) := by
  refine ⟨boxMulL_len m x y, fun i => ?_⟩
  unfold boxMulL
  by_cases h : i < m * m
  · simp only [List.getD, List.getElem?_map, List.getElem?_range h, Option.map_some, Option.getD_some]
    exact mulC_le (fun i => (hx.2 i).2) (fun i => (hy.2 i).2) _ _ _ _
  · simp [List.getD, h]
theorem mx_bx {m : Nat} {x y : List Int} (hx : Bx m x) (hy : Bx m y) : Bx m (mxL x y) := by
  have e : x.length = y.length := by rw [hx.1, hy.1]
  refine ⟨by rw [mx_len e, hx.1], fun i => ?_⟩
  rw [mx_get e]
  have h1 := hx.2 i
  have h2 := hy.2 i
  omega
theorem Rl.step {m : Nat} {z y : List Int} {P T A B : R} (hz : Bx m z) (hy : Bx m y) (h : Rl m z P T) (k : Rl m y A B) :
    Rl m (mxL z (boxMulL m z y)) (fun p q => P p q ∨ comp m P A p q) (fun p q => T p q ∨ comp m T A p q ∨ comp m P B p q) := by
  intro p q hp hq
  have hb := mul_bx hz hy
  have e : ent m (mxL z (boxMulL m z y)) p q = max (ent m z p q) (mulC z y m p q m) := by
    rw [← mul_ent m z y hp hq]; exact mx_get (by rw [hz.1, hb.1]) _
  have h0 := h p q hp hq
  have g1 := hz.2 (p * m + q)
  have g2 := mulC_le (fun i => (hz.2 i).2) (fun i => (hy.2 i).2) m p q m
  have e1 : 0 < mulC z y m p q m ↔ comp m P A p q := by
    rw [mulC_iff]
    exact ⟨fun ⟨r, hr, a, b⟩ => ⟨r, hr, (h p r hp hr).1.mp a, (k r q hr hq).1.mp b⟩, fun ⟨r, hr, a, b⟩ => ⟨r, hr, (h p r hp hr).1.mpr a, (k r q hr hq).1.mpr b⟩⟩
  have e2 : mulC z y m p q m = 2 ↔ comp m T A p q ∨ comp m P B p q := by
    rw [mulC_two (fun i => (hz.2 i).2) (fun i => (hy.2 i).2)]
    constructor
    · rintro ⟨r, hr, ⟨a, b⟩, c | c⟩
      · exact .inl ⟨r, hr, (h p r hp hr).2.mp c, (k r q hr hq).1.mp b⟩
      · exact .inr ⟨r, hr, (h p r hp hr).1.mp a, (k r q hr hq).2.mp c⟩
    · rintro (⟨r, hr, a, b⟩ | ⟨r, hr, a, b⟩)
      · have a' := (h p r hp hr).2.mpr a
        unfold ent at a'
        exact ⟨r, hr, ⟨by omega, (k r q hr hq).1.mpr b⟩, .inl a'⟩
      · have b' := (k r q hr hq).2.mpr b
        unfold ent at b'
        exact ⟨r, hr, ⟨(h p r hp hr).1.mpr a, by omega⟩, .inr b'⟩
  rw [e]
  unfold ent at h0 ⊢
  constructor
  · show _ ↔ (P p q ∨ comp m P A p q)
    rw [← h0.1, ← e1]; omega
  · show _ ↔ (T p q ∨ comp m T A p q ∨ comp m P B p q)
    rw [← h0.2, ← e2]; omega
def iterL (m : Nat) (y : List Int) : Nat → List Int
  | 0 => y
  | k + 1 => mxL (iterL m y k) (boxMulL m (iterL m y k) y)
theorem iter_bx {m : Nat} {y : List Int} (hy : Bx m y) : ∀ k, Bx m (iterL m y k)
  | 0 => hy
  | k + 1 => mx_bx (iter_bx hy k) (mul_bx (iter_bx hy k) hy)
def ARel (m : Nat) (y : List Int) : R := fun p q => 0 < ent m y p q
def BRel (m : Nat) (y : List Int) : R := fun p q => ent m y p q = 2
theorem iter_rl {m : Nat} {y : List Int} (hy : Bx m y) : ∀ k, Rl m (iterL m y k) (PP m (ARel m y) k) (TT m (ARel m y) (BRel m y) k)
  | 0 => fun p q _ _ => ⟨Iff.rfl, Iff.rfl⟩
  | k + 1 => Rl.step (iter_bx hy k) hy (iter_rl hy k) (fun p q _ _ => ⟨Iff.rfl, Iff.rfl⟩)
/-- The reference's loops. -/
def loop1 (m : Nat) (y : List Int) : List Int := mxL (iterL m y m) (boxMulL m (iterL m y m) (iterL m y m))
def loop2 (m : Nat) (y : List Int) : List Int := mxL (loop1 m y) (boxMulL m (loop1 m y) (iterL m y m))
theorem loop1_bx {m : Nat} {y : List Int} (hy : Bx m y) : Bx m (loop1 m y) := mx_bx (iter_bx hy m) (mul_bx (iter_bx hy m) (iter_bx hy m))
theorem loop2_bx {m : Nat} {y : List Int} (hy : Bx m y) : Bx m (loop2 m y) := mx_bx (loop1_bx hy) (mul_bx (loop1_bx hy) (iter_bx hy m))
theorem loop1_rl {m : Nat} {y : List Int} (hy : Bx m y) : Rl m (loop1 m y) (LP m (ARel m y)) (LT1 m (ARel m y) (BRel m y)) := Rl.step (iter_bx hy m) (iter_bx hy m) (iter_rl hy m) (iter_rl hy m)
theorem loop2_rl {m : Nat} {y : List Int} (hy : Bx m y) : Rl m (loop2 m y) (fun p q => LP m (ARel m y) p q ∨ comp m (LP m (ARel m y)) (PP m (ARel m y) m) p q) (LT2 m (ARel m y) (BRel m y)) :=
  Rl.step (loop1_bx hy) (iter_bx hy m) (loop1_rl hy) (iter_rl hy m)
/-- At rest: the same places are reached, the same loops are marked. -/
theorem rest_iff {m K : Nat} {y : List Int} (hy : Bx m y) (h : iterL m y (K + 1) = iterL m y K) {p q : Nat} (hp : p < m) (hq : q < m) :
    (0 < ent m (iterL m y K) p q ↔ 0 < ent m (iterL m y m) p q) ∧ (ent m (iterL m y K) q q = 2 ↔ ent m (loop2 m y) q q = 2) := by
  have hP : ∀ p q, p < m → q < m → PP m (ARel m y) (K + 1) p q → PP m (ARel m y) K p q := fun p q hp hq g => by
    have := (iter_rl hy (K + 1) p q hp hq).1.mpr g
    rw [h] at this; exact (iter_rl hy K p q hp hq).1.mp this
  have hT : ∀ p q, p < m → q < m → TT m (ARel m y) (BRel m y) (K + 1) p q → TT m (ARel m y) (BRel m y) K p q := fun p q hp hq g => by
    have := (iter_rl hy (K + 1) p q hp hq).2.mpr g
    rw [h] at this; exact (iter_rl hy K p q hp hq).2.mp this
  constructor
  · rw [(iter_rl hy K p q hp hq).1, (iter_rl hy m p q hp hq).1]; exact reach_iff hP hT hp hq
  · rw [(iter_rl hy K q q hq hq).2, (loop2_rl hy q q hq hq).2]; exact loop_iff hP hT hq
/-- What a round adds is counted. -/
def sumL (z : List Int) : Int := z.foldr (· + ·) 0
theorem mx_sum : ∀ {x y : List Int}, x.length = y.length → sumL x ≤ sumL (mxL x y) ∧ (mxL x y ≠ x → sumL x < sumL (mxL x y))
  | [], [], _ => ⟨Int.le_refl _, fun h => absurd rfl h⟩
  | [], _ :: _, h => by simp at h
  | _ :: _, [], h => by simp at h
  | a :: x, b :: y, h => by
    have ih := mx_sum (x := x) (y := y) (by simpa using h)
    have e : mxL (a :: x) (b :: y) = max a b :: mxL x y := rfl
    rw [e]
    have s1 : sumL (a :: x) = a + sumL x := rfl
    have s2 : sumL (max a b :: mxL x y) = max a b + sumL (mxL x y) := rfl
    rw [s1, s2]
    refine ⟨by omega, fun hne => ?_⟩
    by_cases ha : max a b = a
    · have : mxL x y ≠ x := fun k => hne (by rw [ha, k])
      have := ih.2 this
      omega
    · omega
theorem sum_le : ∀ {z : List Int}, (∀ i, z.getD i 0 ≤ 2) → sumL z ≤ 2 * (z.length : Int)
  | [], _ => by simp [sumL]
  | a :: z, h => by
    have h0 := h 0
    have ih := sum_le (z := z) fun i => by simpa using h (i + 1)
    have s1 : sumL (a :: z) = a + sumL z := rfl
    simp at h0
    rw [s1]
    simp only [List.length_cons]
    omega
theorem sum_pos : ∀ {z : List Int}, (∀ i, 0 ≤ z.getD i 0) → 0 ≤ sumL z
  | [], _ => by simp [sumL]
  | a :: z, h => by
    have h0 := h 0
    have ih := sum_pos (z := z) fun i => by simpa using h (i + 1)
    have s1 : sumL (a :: z) = a + sumL z := rfl
    simp at h0
    rw [s1]; omega
end Go.Proofs.Ytcmbbpdepobnlaa
end

/- The program's product of boxes, cell by cell; right boxes. -/
section
namespace Go.Proofs.Ytcmbbpdepobnlaa
open Go Go.RowKit E
set_option linter.unusedVariables false

theorem cellI {m p r : Nat} (hm : 1 ≤ m ∧ m ≤ 4) (hp : p < m) (hr : r < m) : W (W ((p : Int) * (m : Int)) + (r : Int)) = ((p * m + r : Nat) : Int) := by
  obtain ⟨h1, h2, h3, h4⟩ := pq4 hm hp hr
  have w : W ((p : Int) * (m : Int)) = (p : Int) * (m : Int) := W_eq (by omega) (by omega)
  rw [w, W, W_eq (by omega) (by omega), h1]
theorem mmI {m : Nat} (hm : 1 ≤ m ∧ m ≤ 4) : W ((m : Int) * (m : Int)) = ((m * m : Nat) : Int) ∧ m * m ≤ 16 := by
  have : m = 1 ∨ m = 2 ∨ m = 3 ∨ m = 4 := by omega
  rcases this with rfl | rfl | rfl | rfl <;> decide
theorem mx3 (a b c : Int) : mx (mx a b) c = max a (max b c) := by rw [mx_max, mx_max]; omega
theorem implMul_q {m : Nat} (hm : 1 ≤ m ∧ m ≤ 4) {x y : List Int} (hx : Bx m x) (hy : Bx m y) {p r : Nat} (hp : p < m) (hr : r < m) (h1 : x.getD (p * m + r) 0 ≠ 0) {zs : List Int} (hz : TabL zs m (valI x y m p r 0)) :
    ∃ zs', loop (fun s : List Int × Int => impl_boxMul.b2 (m : Int) y (r : Int) (p : Int) x s.1 s.2) (zs, 0) = some zs' ∧ TabL zs' m (valI x y m p r m) := by
  refine loop_inv (I := fun s : List Int × Int => ∃ q : Nat, s.2 = q ∧ q ≤ m ∧ TabL s.1 m (valI x y m p r q)) (μ := fun s => m - s.2.toNat) (R := fun z => TabL z m (valI x y m p r m)) ?_ (s := (zs, 0)) ⟨0, rfl, Nat.zero_le _, hz⟩
  rintro ⟨z, q'⟩ ⟨q, e, hq, hT⟩
  dsimp only at e hT ⊢
  subst e
  unfold impl_boxMul.b2
  by_cases k : q < m
  · right
    have c1 := cell_lt hr k
    have c2 := cell_lt hp k
    have c3 := cell_lt hp hr
    rw [if_pos (by omega), cellI hm hr k, ix_nat (by rw [hy.1]; exact c1), Option.bind_some, show (default : Int) = 0 from rfl]
    have wq : W ((q : Int) + 1) = ((q + 1 : Nat) : Int) := W_nat (by omega)
    by_cases g : y.getD (r * m + q) 0 ≠ 0
    · have hx0 := hx.2 (p * m + r)
      have hy0 := hy.2 (r * m + q)
      rw [if_pos g, cellI hm hp k, cellI hm hp hr, ix_nat (by rw [hT.1]; exact c2), Option.bind_some, ix_nat (by rw [hx.1]; exact c3), Option.bind_some, Option.bind_some, ck_nat (by rw [hT.1]; exact c2), Option.bind_some, wq]
      refine ⟨_, rfl, ⟨q + 1, rfl, k, ?_⟩, by dsimp only; omega⟩
      exact valI_yes hT hp k (by omega) (by omega) (mx3 _ _ _)
    · rw [if_neg g, wq]
      exact ⟨_, rfl, ⟨q + 1, rfl, k, valI_no hT g⟩, by dsimp only; omega⟩
  · left
    rw [if_neg (by omega)]
    have : q = m := by omega
    subst this
    exact ⟨_, rfl, hT⟩
theorem implMul_r {m : Nat} (hm : 1 ≤ m ∧ m ≤ 4) {x y : List Int} (hx : Bx m x) (hy : Bx m y) {p : Nat} (hp : p < m) {zs : List Int} (hz : TabL zs m (valI x y m p 0 0)) :
    ∃ zs', loop (fun s : List Int × Int => impl_boxMul.b1 (m : Int) x (p : Int) y s.1 s.2) (zs, 0) = some zs' ∧ TabL zs' m (valI x y m p m 0) := by
  refine loop_inv (I := fun s : List Int × Int => ∃ r : Nat, s.2 = r ∧ r ≤ m ∧ TabL s.1 m (valI x y m p r 0)) (μ := fun s => m - s.2.toNat) (R := fun z => TabL z m (valI x y m p m 0)) ?_ (s := (zs, 0)) ⟨0, rfl, Nat.zero_le _, hz⟩
  rintro ⟨z, q'⟩ ⟨r, e, hq, hT⟩
  dsimp only at e hT ⊢
  subst e
  unfold impl_boxMul.b1
  by_cases k : r < m
  · right
    have c3 := cell_lt hp k
    have wq : W ((r : Int) + 1) = ((r + 1 : Nat) : Int) := W_nat (by omega)
    rw [if_pos (by omega), cellI hm hp k, ix_nat (by rw [hx.1]; exact c3), Option.bind_some, show (default : Int) = 0 from rfl]
    unfold impl_boxMul.k2
    by_cases g : x.getD (p * m + r) 0 = 0
    · rw [if_pos g, wq]
      exact ⟨_, rfl, ⟨r + 1, rfl, k, valI_skip hT g⟩, by dsimp only; omega⟩
    · obtain ⟨zs', e1, e2⟩ := implMul_q hm hx hy hp k g hT
      rw [if_neg g, e1, Option.bind_some, wq]
      exact ⟨_, rfl, ⟨r + 1, rfl, k, valI_r e2 rfl⟩, by dsimp only; omega⟩
  · left
    rw [if_neg (by omega)]
    have : r = m := by omega
    subst this
    exact ⟨_, rfl, hT⟩
theorem implMul_eq {m : Nat} (hm : 1 ≤ m ∧ m ≤ 4) {x y : List Int} (hx : Bx m x) (hy : Bx m y) : impl_boxMul (m : Int) x y = some (boxMulL m x y) := by
  obtain ⟨h1, h2⟩ := mmI hm
  unfold impl_boxMul
  rw [h1, mk_ok (by omega) (by omega), Option.bind_some, Int.toNat_natCast]
  obtain ⟨zs, e1, e2⟩ := loop_inv (body := fun s : List Int × Int => impl_boxMul.b0 (m : Int) x y s.1 s.2) (fun s : List Int × Int => ∃ p : Nat, s.2 = p ∧ p ≤ m ∧ TabL s.1 m (valI x y m p 0 0)) (fun s => m - s.2.toNat) (fun z => z = boxMulL m x y) (by
    rintro ⟨z, q'⟩ ⟨p, e, hq, hT⟩
    dsimp only at e hT ⊢
    subst e
    unfold impl_boxMul.b0
    by_cases k : p < m
    · right
      have wq : W ((p : Int) + 1) = ((p + 1 : Nat) : Int) := W_nat (by omega)
      obtain ⟨zs', e1, e2⟩ := implMul_r hm hx hy k hT
      rw [if_pos (by omega), e1, Option.bind_some]
      unfold impl_boxMul.k1
      rw [wq]
      exact ⟨_, rfl, ⟨p + 1, rfl, k, valI_p e2 rfl⟩, by dsimp only; omega⟩
    · left
      rw [if_neg (by omega)]
      exact ⟨_, rfl, valI_end hT (by omega)⟩) (s := (List.replicate (m * m) 0, 0)) ⟨0, rfl, Nat.zero_le _, TabL.zero m rfl _ valI_0⟩
  rw [e1, Option.bind_some, e2]; rfl
noncomputable instance (m : Nat) (x : List Int) : Decidable (Bx m x) := Classical.propDecidable _
/-- Right boxes. -/
theorem bx_iff {m : Nat} {x : List Int} : Bx m x ↔ x.length = m * m ∧ ∀ k ∈ x, 0 ≤ k ∧ k ≤ 2 := by
  constructor
  · rintro ⟨h1, h2⟩
    refine ⟨h1, fun k hk => ?_⟩
    obtain ⟨i, hi, rfl⟩ := List.getElem_of_mem hk
    have := h2 i
    simpa [hi] using this
  · rintro ⟨h1, h2⟩
    refine ⟨h1, fun i => ?_⟩
    by_cases hi : i < x.length
    · have := h2 _ (List.getElem_mem hi)
      simpa [hi] using this
    · simp [List.getD, List.getElem?_eq_none (by omega : x.length ≤ i)]
def oneL (m : Nat) : List Int := (List.range (m * m)).map fun i => if i / m = i % m then 1 else 0
theorem TabL.one (m : Nat) : TabL (oneL m) m (fun a b => if a = b then 1 else 0) := by
  refine ⟨by simp [oneL], fun a b ha hb => ?_⟩
  have hl := cell_lt ha hb
  have h1 : (a * m + b) / m = a := by rw [Nat.mul_comm, Nat.mul_add_div (by omega), Nat.div_eq_of_lt hb, Nat.add_zero]
  have h2 : (a * m + b) % m = b := by rw [Nat.mul_comm, Nat.mul_add_mod, Nat.mod_eq_of_lt hb]
  simp [oneL, hl, h1, h2]
theorem one_bx (m : Nat) : Bx m (oneL m) := by
  rw [bx_iff]
  refine ⟨by simp [oneL], fun k hk => ?_⟩
  unfold oneL at hk
  obtain ⟨i, _, rfl⟩ := List.mem_map.mp hk
  split <;> omega
theorem implOne_eq {m : Nat} (hm : 1 ≤ m ∧ m ≤ 4) : impl_boxOne (m : Int) = some (oneL m) := by
  have : m = 1 ∨ m = 2 ∨ m = 3 ∨ m = 4 := by omega
  unfold impl_boxOne
  obtain ⟨h1, h2⟩ := mmI hm
  rw [h1, mk_ok (by omega) (by omega), Option.bind_some, Int.toNat_natCast]
  obtain ⟨zs, e1, e2⟩ := loop_inv (body := fun s : List Int × Int => impl_boxOne.b0 (m : Int) s.1 s.2) (fun s : List Int × Int => ∃ p : Nat, s.2 = p ∧ p ≤ m ∧ TabL s.1 m (fun a b => if a < p ∧ a = b then 1 else 0)) (fun s => m - s.2.toNat) (fun z => z = oneL m) (by
    rintro ⟨z, q'⟩ ⟨p, e, hq, hT⟩
    dsimp only at e hT ⊢
    subst e
    unfold impl_boxOne.b0
    by_cases k : p < m
    · right
      have wq : W ((p : Int) + 1) = ((p + 1 : Nat) : Int) := W_nat (by omega)
      have c := cell_lt k k
      rw [if_pos (by omega), cellI hm k k, ck_nat (by rw [hT.1]; exact c), Option.bind_some, wq]
      refine ⟨_, rfl, ⟨p + 1, rfl, k, ?_⟩, by dsimp only; omega⟩
      refine (hT.set k k).congr fun a b ha hb => ?_
      by_cases c1 : a = p ∧ b = p
      · rw [if_pos c1, if_pos (by omega)]
      · rw [if_neg c1]
        by_cases c2 : a < p ∧ a = b
        · rw [if_pos c2, if_pos (by omega)]
        · rw [if_neg c2, if_neg (by omega)]
    · left
      rw [if_neg (by omega)]
      refine ⟨_, rfl, TabL.ext (hT.congr fun a b ha hb => ?_) (TabL.one m)⟩
      by_cases c : a = b
      · rw [if_pos (by omega), if_pos c]
      · rw [if_neg (by omega), if_neg c]) (s := (List.replicate (m * m) 0, 0)) ⟨0, rfl, Nat.zero_le _, TabL.zero m rfl _ (fun a b _ _ => by rw [if_neg (by omega)])⟩
  rw [e1, Option.bind_some, e2]; rfl
end Go.Proofs.Ytcmbbpdepobnlaa
end

/- Boxes put together: in any grouping, with one; the box of a word. -/
section
namespace Go.Proofs.Ytcmbbpdepobnlaa
open Go Go.RowKit E
set_option linter.unusedVariables false

theorem bx_ext {m : Nat} {x y : List Int} (hx : Bx m x) (hy : Bx m y) (h : ∀ p q, p < m → q < m → (0 < ent m x p q ↔ 0 < ent m y p q) ∧ (ent m x p q = 2 ↔ ent m y p q = 2)) : x = y := by
  have tx : TabL x m (ent m x) := ⟨hx.1, fun a b _ _ => rfl⟩
  have ty : TabL y m (ent m y) := ⟨hy.1, fun a b _ _ => rfl⟩
  refine TabL.ext (tx.congr fun a b ha hb => ?_) ty
  have h1 := h a b ha hb
  have h2 := hx.2 (a * m + b)
  have h3 := hy.2 (a * m + b)
  unfold ent at h1 ⊢
  omega
theorem mul_pos' {m : Nat} {x y : List Int} (hx : Bx m x) (hy : Bx m y) {p q : Nat} (hp : p < m) (hq : q < m) : 0 < ent m (boxMulL m x y) p q ↔ ∃ r, r < m ∧ 0 < ent m x p r ∧ 0 < ent m y r q := by
  rw [mul_ent m x y hp hq]; exact mulC_iff x y m p q m
theorem mul_two' {m : Nat} {x y : List Int} (hx : Bx m x) (hy : Bx m y) {p q : Nat} (hp : p < m) (hq : q < m) : ent m (boxMulL m x y) p q = 2 ↔ ∃ r, r < m ∧ (0 < ent m x p r ∧ 0 < ent m y r q) ∧ (ent m x p r = 2 ∨ ent m y r q = 2) := by
  rw [mul_ent m x y hp hq]; exact mulC_two (fun i => (hx.2 i).2) (fun i => (hy.2 i).2) m p q m
theorem mul_assoc' {m : Nat} {x y z : List Int} (hx : Bx m x) (hy : Bx m y) (hz : Bx m z) : boxMulL m (boxMulL m x y) z = boxMulL m x (boxMulL m y z) := by
  have hxy := mul_bx hx hy
  have hyz := mul_bx hy hz
  refine bx_ext (mul_bx hxy hz) (mul_bx hx hyz) fun p q hp hq => ⟨?_, ?_⟩
  · rw [mul_pos' hxy hz hp hq, mul_pos' hx hyz hp hq]
    constructor
    · rintro ⟨r, hr, h1, h2⟩
      obtain ⟨s, hs, h3, h4⟩ := (mul_pos' hx hy hp hr).mp h1
      exact ⟨s, hs, h3, (mul_pos' hy hz hs hq).mpr ⟨r, hr, h4, h2⟩⟩
    · rintro ⟨s, hs, h1, h2⟩
      obtain ⟨r, hr, h3, h4⟩ := (mul_pos' hy hz hs hq).mp h2
      exact ⟨r, hr, (mul_pos' hx hy hp hr).mpr ⟨s, hs, h1, h3⟩, h4⟩
  · rw [mul_two' hxy hz hp hq, mul_two' hx hyz hp hq]
    constructor
    · rintro ⟨r, hr, ⟨h1, h2⟩, h5 | h5⟩
      · obtain ⟨s, hs, ⟨h3, h4⟩, h6⟩ := (mul_two' hx hy hp hr).mp h5
        refine ⟨s, hs, ⟨h3, (mul_pos' hy hz hs hq).mpr ⟨r, hr, h4, h2⟩⟩, ?_⟩
        rcases h6 with h6 | h6
        · exact .inl h6
        · exact .inr ((mul_two' hy hz hs hq).mpr ⟨r, hr, ⟨h4, h2⟩, .inl h6⟩)
      · obtain ⟨s, hs, h3, h4⟩ := (mul_pos' hx hy hp hr).mp h1
        exact ⟨s, hs, ⟨h3, (mul_pos' hy hz hs hq).mpr ⟨r, hr, h4, h2⟩⟩, .inr ((mul_two' hy hz hs hq).mpr ⟨r, hr, ⟨h4, h2⟩, .inr h5⟩)⟩
    · rintro ⟨s, hs, ⟨h1, h2⟩, h5 | h5⟩
      · obtain ⟨r, hr, h3, h4⟩ := (mul_pos' hy hz hs hq).mp h2
        exact ⟨r, hr, ⟨(mul_pos' hx hy hp hr).mpr ⟨s, hs, h1, h3⟩, h4⟩, .inl ((mul_two' hx hy hp hr).mpr ⟨s, hs, ⟨h1, h3⟩, .inl h5⟩)⟩
      · obtain ⟨r, hr, ⟨h3, h4⟩, h6⟩ := (mul_two' hy hz hs hq).mp h5
        refine ⟨r, hr, ⟨(mul_pos' hx hy hp hr).mpr ⟨s, hs, h1, h3⟩, h4⟩, ?_⟩
        rcases h6 with h6 | h6
        · exact .inl ((mul_two' hx hy hp hr).mpr ⟨s, hs, ⟨h1, h3⟩, .inr h6⟩)
        · exact .inr h6
theorem one_ent {m p q : Nat} (hp : p < m) (hq : q < m) : ent m (oneL m) p q = if p = q then 1 else 0 := (TabL.one m).2 p q hp hq
theorem one_pos {m p q : Nat} (hp : p < m) (hq : q < m) : 0 < ent m (oneL m) p q ↔ p = q := by
  rw [one_ent hp hq]; split <;> rename_i h <;> simp [h]
theorem one_two {m p q : Nat} (hp : p < m) (hq : q < m) : ¬ ent m (oneL m) p q = 2 := by
  rw [one_ent hp hq]; split <;> decide
theorem mul_one' {m : Nat} {x : List Int} (hx : Bx m x) : boxMulL m x (oneL m) = x := by
  have h1 := one_bx m
  refine bx_ext (mul_bx hx h1) hx fun p q hp hq => ⟨?_, ?_⟩
  · rw [mul_pos' hx h1 hp hq]
    constructor
    · rintro ⟨r, hr, g1, g2⟩
      obtain rfl := (one_pos hr hq).mp g2; exact g1
    · intro g; exact ⟨q, hq, g, (one_pos hq hq).mpr rfl⟩
  · rw [mul_two' hx h1 hp hq]
    constructor
    · rintro ⟨r, hr, ⟨g1, g2⟩, g3⟩
      obtain rfl := (one_pos hr hq).mp g2
      exact g3.resolve_right (one_two hr hr)
    · intro g; exact ⟨q, hq, ⟨by omega, (one_pos hq hq).mpr rfl⟩, .inl g⟩
theorem one_mul' {m : Nat} {x : List Int} (hx : Bx m x) : boxMulL m (oneL m) x = x := by
  have h1 := one_bx m
  refine bx_ext (mul_bx h1 hx) hx fun p q hp hq => ⟨?_, ?_⟩
  · rw [mul_pos' h1 hx hp hq]
    constructor
    · rintro ⟨r, hr, g1, g2⟩
      obtain rfl := (one_pos hp hr).mp g1; exact g2
    · intro g; exact ⟨p, hp, (one_pos hp hp).mpr rfl, g⟩
  · rw [mul_two' h1 hx hp hq]
    constructor
    · rintro ⟨r, hr, ⟨g1, g2⟩, g3⟩
      obtain rfl := (one_pos hp hr).mp g1
      exact g3.resolve_left (one_two hp hp)
    · intro g; exact ⟨p, hp, ⟨(one_pos hp hp).mpr rfl, by omega⟩, .inr g⟩
/-- The box of a letter, of a word. -/
def letStep (m : Nat) (x : Int) (z : List Int) (e : TEdge) : List Int := if e.letter = x then z.set (e.from_.toNat * m + e.to_.toNat) (if e.good = true then 2 else 1) else z
def letL (m : Nat) (x : Int) (es : List TEdge) : List Int := es.foldl (letStep m x) (List.replicate (m * m) 0)
theorem letStep_bx {m : Nat} {x : Int} {z : List Int} (e : TEdge) (h : Bx m z) : Bx m (letStep m x z e) := by
  unfold letStep
  split
  · rw [bx_iff] at h ⊢
    refine ⟨by rw [List.length_set, h.1], fun k hk => ?_⟩
    rcases List.mem_or_eq_of_mem_set hk with hk | rfl
    · exact h.2 k hk
    · split <;> omega
  · exact h
theorem zero_bx (m : Nat) : Bx m (List.replicate (m * m) 0) := by
  rw [bx_iff]
  refine ⟨by simp, fun k hk => ?_⟩
  have := (List.mem_replicate.mp hk).2
  omega
theorem foldl_bx {m : Nat} {x : Int} : ∀ (es : List TEdge) (z : List Int), Bx m z → Bx m (es.foldl (letStep m x) z)
  | [], z, h => h
  | e :: es, z, h => foldl_bx es _ (letStep_bx e h)
theorem let_bx (m : Nat) (x : Int) (es : List TEdge) : Bx m (letL m x es) := foldl_bx es _ (zero_bx m)
def wordL (m : Nat) (es : List TEdge) (w : List Int) : List Int := w.foldl (fun z x => boxMulL m z (letL m x es)) (oneL m)
theorem fold_bx (m : Nat) (es : List TEdge) : ∀ (w : List Int) (z : List Int), Bx m z → Bx m (w.foldl (fun z x => boxMulL m z (letL m x es)) z)
  | [], z, h => h
  | x :: w, z, h => fold_bx m es w _ (mul_bx h (let_bx m x es))
theorem word_bx (m : Nat) (es : List TEdge) (w : List Int) : Bx m (wordL m es w) := fold_bx m es w _ (one_bx m)
theorem fold_mul (m : Nat) (es : List TEdge) : ∀ (w : List Int) (z : List Int), Bx m z → w.foldl (fun z x => boxMulL m z (letL m x es)) z = boxMulL m z (wordL m es w)
  | [], z, h => (mul_one' h).symm
  | x :: w, z, h => by
    have hl := let_bx m x es
    rw [List.foldl_cons, fold_mul m es w _ (mul_bx h hl)]
    have e : wordL m es (x :: w) = boxMulL m (letL m x es) (wordL m es w) := by
      unfold wordL
      rw [List.foldl_cons, one_mul' hl, fold_mul m es w _ hl]; rfl
    rw [e, mul_assoc' h hl (word_bx m es w)]
theorem word_cons (m : Nat) (es : List TEdge) (x : Int) (w : List Int) : wordL m es (x :: w) = boxMulL m (letL m x es) (wordL m es w) := by
  have hl := let_bx m x es
  unfold wordL
  rw [List.foldl_cons, one_mul' hl, fold_mul m es w _ hl]; rfl
theorem word_app (m : Nat) (es : List TEdge) (u v : List Int) : wordL m es (u ++ v) = boxMulL m (wordL m es u) (wordL m es v) := by
  unfold wordL
  rw [List.foldl_append, fold_mul m es v _ (fold_bx m es u _ (one_bx m))]; rfl
end Go.Proofs.Ytcmbbpdepobnlaa
end

/- Loops that ask whether all are so. -/
section
namespace Go.Proofs.Ytcmbbpdepobnlaa
open Go Go.RowKit E
set_option linter.unusedVariables false

theorem inRg (x a b : Int) : impl_inRange x a b = decide (a ≤ x ∧ x ≤ b) := inR
theorem l1Rg (x a b : Int) : spec_l1In x a b = decide (a ≤ x ∧ x ≤ b) := inR
theorem WN {k : Nat} (h : k < 9223372036854775807) : W ((k : Int) + 1) = ((k + 1 : Nat) : Int) := W_nat h
/-- A loop that asks each place. -/
theorem all_loop {body : Int → Option (Int ⊕ (Unit ⊕ Bool))} (n : Nat) (c : Nat → Bool) (go : ∀ k, k < n → body (k : Int) = some (if c k = true then .inl ((k + 1 : Nat) : Int) else .inr (.inr false))) (fin : body (n : Int) = some (.inr (.inl ()))) : loop body 0 = some (if (List.range n).all c = true then .inl () else .inr false) := by
  have key : ∀ d k, k + d = n → (∀ j, j < k → c j = true) → loop body (k : Int) = some (if (List.range n).all c = true then .inl () else .inr false) := by
    intro d
    induction d with
    | zero =>
      intro k hk he
      obtain rfl : k = n := by omega
      rw [if_pos (List.all_eq_true.mpr fun x hx => he x (List.mem_range.mp hx))]
      exact loop_end fin
    | succ d ih =>
      intro k hk he
      by_cases h : c k = true
      · rw [loop_go (s' := ((k + 1 : Nat) : Int)) (by rw [go k (by omega), if_pos h])]
        refine ih (k + 1) (by omega) fun j hj => ?_
        by_cases e : j = k
        · rw [e]; exact h
        · exact he j (by omega)
      · rw [if_neg (fun g => h (List.all_eq_true.mp g k (List.mem_range.mpr (by omega))))]
        exact loop_end (by rw [go k (by omega), if_neg h])
  exact key n 0 (by omega) (fun j hj => absurd hj (by omega))
end Go.Proofs.Ytcmbbpdepobnlaa
end

/- Powers of two. -/
section
namespace Go.Proofs.Ytcmbbpdepobnlaa
open Go Go.RowKit E
set_option linter.unusedVariables false

theorem pow31 {n : Nat} (h : n ≤ 31) : 2 ^ n ≤ 2147483648 ∧ 1 ≤ 2 ^ n := ⟨by
  have : 2 ^ n ≤ 2 ^ 31 := Nat.pow_le_pow_right (by omega) h
  exact this, Nat.two_pow_pos n⟩
theorem lt31 {n s : Nat} (hn : n ≤ 31) (h : s < 2 ^ n) : s < 2 ^ 31 := Nat.lt_of_lt_of_le h (Nat.pow_le_pow_right (by omega) hn)
end Go.Proofs.Ytcmbbpdepobnlaa
end

/- Sets of states, edges in order, numbers compared. -/
section
namespace Go.Proofs.Ytcmbbpdepobnlaa
open Go Go.RowKit E
set_option linter.unusedVariables false

theorem setIn_eq (x : Int) {n : Nat} (h : n ≤ 31) : spec_SetIn x (W (shl .i64 1 (n : Int) - 1)) = decide (0 ≤ x ∧ x < ((2 ^ n : Nat) : Int)) := by
  have hp := pow31 h
  rw [shl1_i (by omega)]
  have e : W (((2 ^ n : Nat) : Int) - 1) = ((2 ^ n - 1 : Nat) : Int) := by
    generalize 2 ^ n = y at hp ⊢
    rw [W, W_eq (by omega) (by omega)]; omega
  rw [e]
  unfold spec_SetIn spec_SetOk
  rw [l1Rg, l1Rg, bnd_eq, bnd_eq]
  by_cases h0 : 0 ≤ x ∧ x ≤ 2147483647
  · obtain ⟨y, rfl⟩ : ∃ y : Nat, x = y := ⟨x.toNat, by omega⟩
    rw [bAnd_i (by omega) (by omega), Nat.and_two_pow_sub_one_eq_mod]
    rw [decide_eq_true h0, decide_eq_true (by omega), Bool.and_self, Bool.true_and]
    rw [decide_eq_decide]
    constructor
    · intro g
      have g : y % 2 ^ n = y := by omega
      have := (Nat.mod_eq_iff_lt (by omega)).mp g
      omega
    · rintro ⟨_, g⟩
      rw [Nat.mod_eq_of_lt (by omega)]
  · rw [decide_eq_false h0, Bool.false_and, Bool.false_and]
    symm; rw [decide_eq_false_iff_not]; omega
theorem only_eq {n : Nat} (h : n ≤ 31) : impl_only (n : Int) = ((2 ^ n : Nat) : Int) := by
  unfold impl_only
  rw [u64_nat (by omega), shl1_i (by omega)]

/-- Edges in order. -/
def edgeLt (a b : TEdge) : Bool := decide (a.from_ < b.from_ ∨ (a.from_ = b.from_ ∧ (a.letter < b.letter ∨ (a.letter = b.letter ∧ a.to_ < b.to_))))
theorem l4Less_eq (a b : TEdge) : spec_l4Less a b = edgeLt a b := by
  unfold spec_l4Less edgeLt
  split
  · rw [decide_eq_decide]; omega
  · split
    · rw [decide_eq_decide]; omega
    · rw [decide_eq_decide]; omega
theorem cmpInt_eq (x y : Int) : cmp_Compare_int x y = if x < y then -1 else if x > y then 1 else 0 := by
  unfold cmp_Compare_int cmp_isNaN_int
  rw [if_neg (by simp), if_neg (by simp)]
theorem cmpOr_eq (x y z : Int) : cmp_Or_int [x, y, z] = some (if x ≠ 0 then x else if y ≠ 0 then y else z) := by
  unfold cmp_Or_int
  have i0 : ix [x, y, z] (0 : Int) = some x := rfl
  have i1 : ix [x, y, z] (1 : Int) = some y := rfl
  have i2 : ix [x, y, z] (2 : Int) = some z := rfl
  have w0 : W (0 + 1) = 1 := by decide
  have w1 : W (1 + 1) = 2 := by decide
  have w2 : W (2 + 1) = 3 := by decide
  by_cases hx : x ≠ 0
  · rw [loop_end (r := .inr x) (by unfold cmp_Or_int.b0; rw [if_pos (by simp), i0, Option.bind_some, if_pos hx]), if_pos hx]; rfl
  · rw [loop_go (s' := 1) (by unfold cmp_Or_int.b0; rw [if_pos (by simp), i0, Option.bind_some, if_neg hx, w0]), if_neg hx]
    by_cases hy : y ≠ 0
    · rw [loop_end (r := .inr y) (by unfold cmp_Or_int.b0; rw [if_pos (by simp), i1, Option.bind_some, if_pos hy]), if_pos hy]; rfl
    · rw [loop_go (s' := 2) (by unfold cmp_Or_int.b0; rw [if_pos (by simp), i1, Option.bind_some, if_neg hy, w1]), if_neg hy]
      by_cases hz : z ≠ 0
      · rw [loop_end (r := .inr z) (by unfold cmp_Or_int.b0; rw [if_pos (by simp), i2, Option.bind_some, if_pos hz])]; rfl
      · rw [loop_go (s' := 3) (by unfold cmp_Or_int.b0; rw [if_pos (by simp), i2, Option.bind_some, if_neg hz, w2]), loop_end (r := .inl ()) (by unfold cmp_Or_int.b0; rw [if_neg (by simp)])]
        have : z = 0 := by omega
        rw [this]; rfl
end Go.Proofs.Ytcmbbpdepobnlaa
end

/- Automata: both sides' test that an automaton is right. -/
section
namespace Go.Proofs.Ytcmbbpdepobnlaa
open Go Go.RowKit E
set_option linter.unusedVariables false

theorem compareEdges_eq (a b : TEdge) : ∃ x, impl_compareEdges a b = some x ∧ decide (x ≥ 0) = !(edgeLt a b) := by
  unfold impl_compareEdges
  rw [cmpOr_eq, Option.bind_some]
  refine ⟨_, rfl, ?_⟩
  rw [cmpInt_eq, cmpInt_eq, cmpInt_eq]
  unfold edgeLt
  rw [Bool.eq_iff_iff, decide_eq_true_eq, Bool.not_eq_true', decide_eq_false_iff_not]
  repeat' split
  all_goals omega
/-- The k-th edge is right. -/
def edgeOk (a : TAuto) (k : Nat) : Bool :=
  decide (0 ≤ (a.edges.getD k default).from_ ∧ (a.edges.getD k default).from_ ≤ a.states - 1) && decide (0 ≤ (a.edges.getD k default).to_ ∧ (a.edges.getD k default).to_ ≤ a.states - 1) && decide (0 ≤ (a.edges.getD k default).letter ∧ (a.edges.getD k default).letter ≤ a.letters - 1) && (decide (k = 0) || edgeLt (a.edges.getD (k - 1) default) (a.edges.getD k default))
def headOk (a : TAuto) : Bool := decide (1 ≤ a.letters ∧ a.letters ≤ 8) && decide (0 ≤ a.states ∧ a.states ≤ 31) && decide (0 ≤ a.start ∧ a.start < ((2 ^ a.states.toNat : Nat) : Int)) && decide (a.edges.length ≤ 2000)
def autoOk (a : TAuto) : Bool := headOk a && (List.range a.edges.length).all (edgeOk a)
theorem headOk_t {a : TAuto} (h : headOk a = true) : (1 ≤ a.letters ∧ a.letters ≤ 8) ∧ (0 ≤ a.states ∧ a.states ≤ 31) ∧ (0 ≤ a.start ∧ a.start < ((2 ^ a.states.toNat : Nat) : Int)) ∧ a.edges.length ≤ 2000 := by
  unfold headOk at h
  simp only [Bool.and_eq_true, decide_eq_true_eq] at h
  exact ⟨h.1.1.1, h.1.1.2, h.1.2, h.2⟩
theorem specEdge_eq (a : TAuto) (h : headOk a = true) {k : Nat} (hk : k < a.edges.length) : spec_AutoOk.b0 a (k : Int) = some (if edgeOk a k = true then .inl ((k + 1 : Nat) : Int) else .inr (.inr false)) := by
  obtain ⟨h1, h2, h3, h4⟩ := headOk_t h
  unfold spec_AutoOk.b0 edgeOk spec_l4State
  have w1 : W (a.states - 1) = a.states - 1 := W_eq (by omega) (by omega)
  have w2 : W (a.letters - 1) = a.letters - 1 := W_eq (by omega) (by omega)
  simp only [bnd_eq, l1Rg, w1, w2, l4Less_eq]
  rw [if_pos (by omega), ix_nat hk, Option.bind_some, WN (by omega)]
  generalize a.edges.getD k default = e
  by_cases c1 : 0 ≤ e.from_ ∧ e.from_ ≤ a.states - 1
  · by_cases c2 : 0 ≤ e.to_ ∧ e.to_ ≤ a.states - 1
    · by_cases c3 : 0 ≤ e.letter ∧ e.letter ≤ a.letters - 1
      · rw [decide_eq_true c1, decide_eq_true c2, decide_eq_true c3]
        by_cases c4 : k = 0
        · subst c4; rfl
        · rw [decide_eq_true (by omega : (k : Int) > 0), decide_eq_false c4]
          have e1 : W ((k : Int) - 1) = ((k - 1 : Nat) : Int) := by rw [W, W_eq (by omega) (by omega)]; omega
          rw [e1, ix_nat (by omega)]
          simp only [Bool.not_true, Bool.or_self, Bool.not_false, Bool.and_self, whenO_t, Option.bind_some, Bool.false_or, Bool.true_and]
          cases edgeLt (a.edges.getD (k - 1) default) e <;> rfl
      · rw [decide_eq_false c3]; simp [whenO]
    · rw [decide_eq_false c2]; simp [whenO]
  · rw [decide_eq_false c1]; simp [whenO]
theorem implEdge_eq (a : TAuto) (h : headOk a = true) {k : Nat} (hk : k < a.edges.length) : impl_AutoOk.b0 a (k : Int) = some (if edgeOk a k = true then .inl ((k + 1 : Nat) : Int) else .inr (.inr false)) := by
  obtain ⟨h1, h2, h3, h4⟩ := headOk_t h
  unfold impl_AutoOk.b0 edgeOk
  have w1 : W (a.states - 1) = a.states - 1 := W_eq (by omega) (by omega)
  have w2 : W (a.letters - 1) = a.letters - 1 := W_eq (by omega) (by omega)
  simp only [bnd_eq, inRg, w1, w2]
  rw [if_pos (by omega), ix_nat hk, Option.bind_some, WN (by omega)]
  generalize a.edges.getD k default = e
  by_cases c1 : 0 ≤ e.from_ ∧ e.from_ ≤ a.states - 1
  · by_cases c2 : 0 ≤ e.to_ ∧ e.to_ ≤ a.states - 1
    · by_cases c3 : 0 ≤ e.letter ∧ e.letter ≤ a.letters - 1
      · rw [decide_eq_true c1, decide_eq_true c2, decide_eq_true c3]
        rw [if_neg (by simp)]
        by_cases c4 : k = 0
        · subst c4; rfl
        · rw [decide_eq_true (by omega : (k : Int) > 0), decide_eq_false c4]
          have e1 : W ((k : Int) - 1) = ((k - 1 : Nat) : Int) := by rw [W, W_eq (by omega) (by omega)]; omega
          rw [e1, ix_nat (by omega)]
          obtain ⟨x, x1, x2⟩ := compareEdges_eq (a.edges.getD (k - 1) default) e
          rw [whenO_t, Option.bind_some, whenO_t, x1, Option.bind_some, x2]
          cases edgeLt (a.edges.getD (k - 1) default) e <;> rfl
      · rw [decide_eq_false c3]; simp
    · rw [decide_eq_false c2]; simp
  · rw [decide_eq_false c1]; simp
theorem specAutoOk_eq (a : TAuto) : spec_AutoOk a = some (autoOk a) := by
  unfold spec_AutoOk autoOk
  rw [bnd_eq, bnd_eq, bnd_eq, l1Rg, l1Rg]
  by_cases hh : headOk a = true
  · obtain ⟨h1, h2, h3, h4⟩ := headOk_t hh
    rw [decide_eq_true h1, decide_eq_true h2, Bool.not_true, Bool.or_self, Bool.not_false, whenO_t, decide_eq_true h2.1, chk_t, Option.bind_some]
    have e : a.states = ((a.states.toNat : Nat) : Int) := by omega
    have hs := setIn_eq a.start (n := a.states.toNat) (by omega)
    rw [← e] at hs
    rw [hs, decide_eq_true h3, decide_eq_false (by omega : ¬ (a.edges.length : Int) > 2000), if_neg (by simp), hh]
    rw [all_loop a.edges.length (edgeOk a) (fun k hk => specEdge_eq a hh hk) (by unfold spec_AutoOk.b0; rw [if_neg (by omega)]), Option.bind_some]
    cases (List.range a.edges.length).all (edgeOk a) <;> rfl
  · rw [Bool.not_eq_true] at hh
    rw [hh, Bool.false_and]
    by_cases h1 : 1 ≤ a.letters ∧ a.letters ≤ 8
    · by_cases h2 : 0 ≤ a.states ∧ a.states ≤ 31
      · rw [decide_eq_true h1, decide_eq_true h2, Bool.not_true, Bool.or_self, Bool.not_false, whenO_t, decide_eq_true h2.1, chk_t, Option.bind_some]
        have e : a.states = ((a.states.toNat : Nat) : Int) := by omega
        have hs := setIn_eq a.start (n := a.states.toNat) (by omega)
        rw [← e] at hs
        rw [hs]
        unfold headOk at hh
        rw [decide_eq_true h1, decide_eq_true h2] at hh
        rw [if_pos]
        by_cases h3 : 0 ≤ a.start ∧ a.start < ((2 ^ a.states.toNat : Nat) : Int)
        · rw [decide_eq_true h3] at hh
          have : ¬ a.edges.length ≤ 2000 := by simpa using hh
          rw [decide_eq_true (by omega : (a.edges.length : Int) > 2000), Bool.or_true]
        · rw [decide_eq_false h3]; simp
      · rw [decide_eq_false h2]; simp [whenO]
    · rw [decide_eq_false h1]; simp [whenO]
theorem implAutoOk_eq (a : TAuto) : impl_AutoOk a = some (autoOk a) := by
  have hd : (impl_headOk a.letters a.states a.start && decide (a.edges.length ≤ 2000)) = headOk a := by
    unfold impl_headOk headOk impl_isLetters impl_SetOk
    simp only [bnd_eq, inRg]
    by_cases h2 : 0 ≤ a.states ∧ a.states ≤ 31
    · have ho := only_eq (n := a.states.toNat) (by omega)
      rw [show ((a.states.toNat : Nat) : Int) = a.states by omega] at ho
      have hp := pow31 (n := a.states.toNat) (by omega)
      rw [ho]
      congr 1
      rw [Bool.and_assoc]
      congr 1
      rw [← Bool.decide_and, decide_eq_decide]
      omega
    · rw [decide_eq_false h2]; simp
  unfold impl_AutoOk autoOk
  rw [bnd_eq, ← hd]
  by_cases hl : a.edges.length ≤ 2000
  · rw [decide_eq_true hl, decide_eq_false (by omega : ¬ (a.edges.length : Int) > 2000), Bool.and_true, Bool.or_false]
    rw [decide_eq_true hl, Bool.and_true] at hd
    cases hh : impl_headOk a.letters a.states a.start with
    | false => rw [Bool.not_false, if_pos rfl]; rfl
    | true =>
      rw [hh] at hd
      rw [Bool.not_true, if_neg (by simp), all_loop a.edges.length (edgeOk a) (fun k hk => implEdge_eq a hd.symm hk) (by unfold impl_AutoOk.b0; rw [if_neg (by omega)]), Option.bind_some]
      cases (List.range a.edges.length).all (edgeOk a) <;> rfl
  · rw [decide_eq_true (by omega : (a.edges.length : Int) > 2000), Bool.or_true, if_pos rfl, decide_eq_false hl, Bool.and_false]; rfl
/-- What a right automaton's edges are. -/
theorem autoOk_t {a : TAuto} (h : autoOk a = true) : headOk a = true ∧ ∀ k, k < a.edges.length → (0 ≤ (a.edges.getD k default).from_ ∧ (a.edges.getD k default).from_ ≤ 30) ∧ (0 ≤ (a.edges.getD k default).to_ ∧ (a.edges.getD k default).to_ ≤ 30) := by
  unfold autoOk at h
  rw [Bool.and_eq_true] at h
  refine ⟨h.1, fun k hk => ?_⟩
  have h2 := (headOk_t h.1).2.1
  have := List.all_eq_true.mp h.2 k (List.mem_range.mpr hk)
  unfold edgeOk at this
  simp only [Bool.and_eq_true, decide_eq_true_eq] at this
  omega
end Go.Proofs.Ytcmbbpdepobnlaa
end

/- What a right automaton is. -/
section
namespace Go.Proofs.Ytcmbbpdepobnlaa
open Go Go.RowKit E
set_option linter.unusedVariables false

/-- What a right automaton is. -/
structure AOk (a : TAuto) : Prop where
  lets : 1 ≤ a.letters ∧ a.letters ≤ 8
  sts : 0 ≤ a.states ∧ a.states ≤ 31
  start : 0 ≤ a.start ∧ a.start < ((2 ^ a.states.toNat : Nat) : Int)
  num : a.edges.length ≤ 2000
  edge : ∀ e ∈ a.edges, (0 ≤ e.from_ ∧ e.from_ < a.states) ∧ (0 ≤ e.to_ ∧ e.to_ < a.states) ∧ (0 ≤ e.letter ∧ e.letter < a.letters)
theorem autoOk_A {a : TAuto} (h : autoOk a = true) : AOk a := by
  obtain ⟨h1, h2⟩ := autoOk_t h
  obtain ⟨g1, g2, g3, g4⟩ := headOk_t h1
  refine ⟨g1, g2, g3, g4, fun e he => ?_⟩
  obtain ⟨k, hk, rfl⟩ := List.getElem_of_mem he
  unfold autoOk at h
  rw [Bool.and_eq_true] at h
  have := List.all_eq_true.mp h.2 k (List.mem_range.mpr hk)
  unfold edgeOk at this
  simp only [Bool.and_eq_true, decide_eq_true_eq] at this
  have e1 : a.edges.getD k default = a.edges[k] := by simp [List.getD_eq_getElem?_getD, hk]
  rw [e1] at this
  omega
end Go.Proofs.Ytcmbbpdepobnlaa
end

/- The program's box of a letter. -/
section
namespace Go.Proofs.Ytcmbbpdepobnlaa
open Go Go.RowKit E
set_option linter.unusedVariables false

theorem edge_cell {a : TAuto} (h : AOk a) (h4 : 1 ≤ a.states ∧ a.states ≤ 4) {e : TEdge} (he : e ∈ a.edges) : W (W (e.from_ * a.states) + e.to_) = ((e.from_.toNat * a.states.toNat + e.to_.toNat : Nat) : Int) ∧ e.from_.toNat * a.states.toNat + e.to_.toNat < a.states.toNat * a.states.toNat := by
  obtain ⟨h1, h2, _⟩ := h.edge e he
  have := cellI (m := a.states.toNat) (p := e.from_.toNat) (r := e.to_.toNat) (by omega) (by omega) (by omega)
  rw [show ((e.from_.toNat : Nat) : Int) = e.from_ by omega, show ((a.states.toNat : Nat) : Int) = a.states by omega, show ((e.to_.toNat : Nat) : Int) = e.to_ by omega] at this
  exact ⟨this, cell_lt (by omega) (by omega)⟩
/-- A loop over the edges. -/
theorem letter_loop {a : TAuto} (h : AOk a) (h4 : 1 ≤ a.states ∧ a.states ≤ 4) (x : Int) {body : List Int × Int → Option ((List Int × Int) ⊕ List Int)}
    (hb : ∀ (z : List Int) (i : Nat), i < a.edges.length → z.length = a.states.toNat * a.states.toNat → body (z, (i : Int)) = some (.inl (letStep a.states.toNat x z (a.edges.getD i default), ((i + 1 : Nat) : Int)))) (he : ∀ z : List Int, body (z, (a.edges.length : Int)) = some (.inr z)) :
    loop body (List.replicate (a.states.toNat * a.states.toNat) 0, 0) = some (letL a.states.toNat x a.edges) := by
  have key : ∀ (r pre : List TEdge), a.edges = pre ++ r → loop body (pre.foldl (letStep a.states.toNat x) (List.replicate (a.states.toNat * a.states.toNat) 0), (pre.length : Int)) = some (letL a.states.toNat x a.edges) := by
    intro r
    induction r with
    | nil =>
      intro pre hp
      rw [List.append_nil] at hp
      rw [← hp]
      exact loop_end (he _)
    | cons e r ih =>
      intro pre hp
      have hk : pre.length < a.edges.length := by rw [hp]; simp
      have hg : a.edges.getD pre.length default = e := by rw [hp]; simp
      have hl := (foldl_bx (m := a.states.toNat) (x := x) pre _ (zero_bx _)).1
      rw [loop_go (hb _ _ hk hl), hg]
      have := ih (pre ++ [e]) (by rw [hp]; simp)
      rw [List.foldl_append, List.length_append] at this
      exact this
  exact key a.edges [] rfl
theorem edge_mem {a : TAuto} {i : Nat} (h : i < a.edges.length) : a.edges.getD i default ∈ a.edges := by
  rw [List.getD_eq_getElem?_getD, List.getElem?_eq_getElem h]; exact List.getElem_mem h
theorem stN {a : TAuto} (h4 : 1 ≤ a.states ∧ a.states ≤ 4) : W (a.states * a.states) = ((a.states.toNat * a.states.toNat : Nat) : Int) ∧ a.states.toNat * a.states.toNat ≤ 16 := by
  have := mmI (m := a.states.toNat) (by omega)
  rw [show ((a.states.toNat : Nat) : Int) = a.states by omega] at this
  exact this
theorem implLetter_eq {a : TAuto} (h : AOk a) (h4 : 1 ≤ a.states ∧ a.states ≤ 4) (x : Int) : impl_boxLetter a x = some (letL a.states.toNat x a.edges) := by
  obtain ⟨g1, g2⟩ := stN h4
  have hn := h.num
  unfold impl_boxLetter
  rw [g1, mk_ok (by omega) (by omega), Option.bind_some, Int.toNat_natCast]
  have hL : loop (fun s : List Int × Int => impl_boxLetter.b0 a x s.1 s.2) (List.replicate (a.states.toNat * a.states.toNat) 0, 0) = some (letL a.states.toNat x a.edges) := letter_loop h h4 x (fun z i hi hz => by
    (try dsimp only); unfold impl_boxLetter.b0
    obtain ⟨c1, c2⟩ := edge_cell h h4 (edge_mem hi)
    rw [if_pos (by omega), ix_nat hi, Option.bind_some, W, W_nat (by omega)]
    unfold letStep
    by_cases g : (a.edges.getD i default).letter = x
    · rw [if_neg (fun k => k g), if_pos g, c1, ck_nat (by omega), Option.bind_some]
      by_cases k : (a.edges.getD i default).good = true
      · rw [if_pos k, if_pos k, ck_nat (by rw [List.length_set]; omega), Option.bind_some, List.set_set]
      · rw [if_neg k, if_neg k]
    · rw [if_pos g, if_neg g]) (fun z => by (try dsimp only); unfold impl_boxLetter.b0; rw [if_neg (by omega)])
  rw [hL, Option.bind_some]; rfl
end Go.Proofs.Ytcmbbpdepobnlaa
end

/- Rows of numbers cloned, compared. -/
section
namespace Go.Proofs.Ytcmbbpdepobnlaa
open Go Go.RowKit E
set_option linter.unusedVariables false

theorem clone_eq (x : List Int) (h : x.length ≤ 1000000) : slices_Clone_int_int x = some x := by
  unfold slices_Clone_int_int
  split
  · rename_i e; rw [e]
  · rw [app_small (by simp; omega) (by decide), List.nil_append, Option.bind_some]
theorem equal_eq (x y : List Int) (h : x.length ≤ 1000000) : slices_Equal_int_int x y = some (decide (x = y)) := by
  unfold slices_Equal_int_int
  by_cases hl : x.length = y.length
  · rw [if_neg (by omega)]
    have hb : (fun s : Int => slices_Equal_int_int.b0 x y s) = (fun s : Int => if s < (x.length : Int) then (ix x s).bind fun a => (ix y s).bind fun b => ((fun a b : Int => some (decide (a = b))) a b).bind fun c => if (!c) = true then some (.inr (.inr false)) else some (.inl (W (s + 1))) else some (.inr (.inl ()))) := by
      funext s
      unfold slices_Equal_int_int.b0
      split
      · congr 1; funext a; congr 1; funext b
        simp
      · rfl
    rw [hb, eq_loop (fun a b : Int => some (decide (a = b))) (fun _ _ => rfl) x y hl (by omega), Option.bind_some]
    by_cases e : x = y
    · rw [if_pos e, Sum.elim_inl, slices_Equal_int_int.k0, decide_eq_true e]
    · rw [if_neg e, Sum.elim_inr, decide_eq_false e]
  · rw [if_pos (by omega), decide_eq_false (fun e => hl (by rw [e]))]
end Go.Proofs.Ytcmbbpdepobnlaa
end

/- Loops that ask whether one is so. -/
section
namespace Go.Proofs.Ytcmbbpdepobnlaa
open Go Go.RowKit E
set_option linter.unusedVariables false

noncomputable def dcW (p : Prop) : Bool := @decide p (Classical.propDecidable p)
theorem dcW_t {p : Prop} (h : p) : dcW p = true := @decide_eq_true p (Classical.propDecidable p) h
theorem dcW_f {p : Prop} (h : ¬ p) : dcW p = false := @decide_eq_false p (Classical.propDecidable p) h
theorem dcW_iff {p : Prop} : dcW p = true ↔ p := @decide_eq_true_iff p (Classical.propDecidable p)
theorem any_loopW {body : Int → Option (Int ⊕ (Unit ⊕ Bool))} (n : Nat) (c : Nat → Prop) (go : ∀ k, k < n → (c k ∧ body (k : Int) = some (.inr (.inr true))) ∨ (¬ c k ∧ body (k : Int) = some (.inl ((k + 1 : Nat) : Int)))) (fin : body (n : Int) = some (.inr (.inl ()))) : loop body 0 = some (if dcW (∃ k, k < n ∧ c k) = true then .inr true else .inl ()) := by
  have key : ∀ d k, k + d = n → (∀ j, j < k → ¬ c j) → loop body (k : Int) = some (if dcW (∃ k, k < n ∧ c k) = true then .inr true else .inl ()) := by
    intro d
    induction d with
    | zero =>
      intro k hk he
      obtain rfl : k = n := by omega
      rw [dcW_f (fun ⟨j, hj, h⟩ => he j hj h), if_neg (by simp)]
      exact loop_end fin
    | succ d ih =>
      intro k hk he
      rcases go k (by omega) with ⟨h, e⟩ | ⟨h, e⟩
      · rw [dcW_t ⟨k, by omega, h⟩, if_pos rfl]
        exact loop_end e
      · rw [loop_go e]
        refine ih (k + 1) (by omega) fun j hj => ?_
        by_cases ej : j = k
        · rw [ej]; exact h
        · exact he j (by omega)
  exact key n 0 (by omega) (fun j hj => absurd hj (by omega))
theorem any_list {body : Int → Option (Int ⊕ (Unit ⊕ Bool))} {l : List Nat} (c : Nat → Prop) (go : ∀ k, k < l.length → (c (l.getD k default) ∧ body (k : Int) = some (.inr (.inr true))) ∨ (¬ c (l.getD k default) ∧ body (k : Int) = some (.inl ((k + 1 : Nat) : Int)))) (fin : body (l.length : Int) = some (.inr (.inl ()))) : loop body 0 = some (if dcW (∃ x ∈ l, c x) = true then .inr true else .inl ()) := by
  have h := any_loopW l.length (fun k => c (l.getD k default)) go fin
  rw [h]
  have e : (∃ k, k < l.length ∧ c (l.getD k default)) ↔ ∃ x ∈ l, c x := by
    constructor
    · rintro ⟨k, hk, h⟩
      exact ⟨_, by rw [List.getD_eq_getElem?_getD, List.getElem?_eq_getElem hk]; exact List.getElem_mem hk, h⟩
    · rintro ⟨x, hx, h⟩
      obtain ⟨k, hk, rfl⟩ := List.getElem_of_mem hx
      exact ⟨k, hk, by simpa [hk] using h⟩
  rw [propext e]
end Go.Proofs.Ytcmbbpdepobnlaa
end

/- The boxes of words of two automata, each with its word: what the program's search comes to. -/
section
namespace Go.Proofs.Ytcmbbpdepobnlaa
open Go Go.RowKit E
set_option linter.unusedVariables false

/-- The pair of boxes with one letter more. -/
def moreT (a b : TAuto) (t : Ttwin) (x : Nat) : Ttwin := ⟨t.word ++ [(x : Int)], boxMulL a.states.toNat t.a (letL a.states.toNat (x : Int) a.edges), boxMulL b.states.toNat t.b (letL b.states.toNat (x : Int) b.edges)⟩
def sameT (n y : Ttwin) : Prop := n.a = y.a ∧ n.b = y.b
open Classical in
noncomputable def stepT (a b : TAuto) (L : List Ttwin) (i x : Nat) : Option (List Ttwin) :=
  if ∃ y ∈ L, sameT (moreT a b (L.getD i default) x) y then some L
  else if L.length = 150 ∨ (L.getD i default).word.length = 40 then none
  else some (L ++ [moreT a b (L.getD i default) x])
noncomputable def innerT (a b : TAuto) (i : Nat) : Nat → Nat → List Ttwin → Option (List Ttwin)
  | 0, _, L => some L
  | k + 1, x, L => (stepT a b L i x).bind fun L' => innerT a b i k (x + 1) L'
noncomputable def outerT (a b : TAuto) : Nat → Nat → List Ttwin → Option (List Ttwin)
  | 0, _, L => some L
  | f + 1, i, L => if i < L.length then (innerT a b i a.letters.toNat 0 L).bind fun L' => outerT a b f (i + 1) L' else some L
def resT : Option (List Ttwin) → List Ttwin ⊕ (List Ttwin × Bool)
  | some L => .inl L
  | none => .inr ([], false)
/-- What holds of a list under way. -/
structure VT (a b : TAuto) (L : List Ttwin) : Prop where
  len : L.length ≤ 150
  el : ∀ t ∈ L, t.word.length ≤ 40 ∧ Bx a.states.toNat t.a ∧ Bx b.states.toNat t.b
theorem getD_memT {L : List Ttwin} {i : Nat} (h : i < L.length) : L.getD i default ∈ L := by
  rw [List.getD_eq_getElem?_getD, List.getElem?_eq_getElem h]; exact List.getElem_mem h
theorem stepT_cases {a b : TAuto} {L : List Ttwin} {i x : Nat} : ((∃ y ∈ L, sameT (moreT a b (L.getD i default) x) y) ∧ stepT a b L i x = some L) ∨ (¬ (∃ y ∈ L, sameT (moreT a b (L.getD i default) x) y) ∧ (L.length = 150 ∨ (L.getD i default).word.length = 40) ∧ stepT a b L i x = none) ∨ (¬ (∃ y ∈ L, sameT (moreT a b (L.getD i default) x) y) ∧ ¬ (L.length = 150 ∨ (L.getD i default).word.length = 40) ∧ stepT a b L i x = some (L ++ [moreT a b (L.getD i default) x])) := by
  unfold stepT
  by_cases h : ∃ y ∈ L, sameT (moreT a b (L.getD i default) x) y
  · exact .inl ⟨h, by rw [if_pos h]⟩
  · by_cases k : L.length = 150 ∨ (L.getD i default).word.length = 40
    · exact .inr (.inl ⟨h, k, by rw [if_neg h, if_pos k]⟩)
    · exact .inr (.inr ⟨h, k, by rw [if_neg h, if_neg k]⟩)
theorem stepT_len {a b : TAuto} {L L' : List Ttwin} {i x : Nat} (h : stepT a b L i x = some L') : ∃ M, L' = L ++ M := by
  rcases stepT_cases (a := a) (b := b) (L := L) (i := i) (x := x) with ⟨_, e⟩ | ⟨_, _, e⟩ | ⟨_, _, e⟩
  · rw [e] at h; exact ⟨[], by rw [List.append_nil]; exact (someE h).symm⟩
  · rw [e] at h; cases h
  · rw [e] at h; exact ⟨_, (someE h).symm⟩
theorem VT.step {a b : TAuto} {L L' : List Ttwin} {i x : Nat} (h : VT a b L) (hi : i < L.length) (hs : stepT a b L i x = some L') : VT a b L' := by
  rcases stepT_cases (a := a) (b := b) (L := L) (i := i) (x := x) with ⟨_, e⟩ | ⟨_, _, e⟩ | ⟨_, k, e⟩
  · rw [e] at hs; obtain rfl := someE hs; exact h
  · rw [e] at hs; cases hs
  · rw [e] at hs; obtain rfl := someE hs
    obtain ⟨w1, w2, w3⟩ := h.el _ (getD_memT hi)
    have hl := h.len
    refine ⟨by simp; omega, fun t ht => ?_⟩
    rcases List.mem_append.mp ht with ht | ht
    · exact h.el t ht
    · rw [List.mem_singleton.mp ht]
      unfold moreT
      exact ⟨by rw [List.length_append, List.length_singleton]; omega, mul_bx w2 (let_bx _ _ _), mul_bx w3 (let_bx _ _ _)⟩
theorem VT.inner {a b : TAuto} {i : Nat} : ∀ (k x : Nat) {L L' : List Ttwin}, VT a b L → i < L.length → innerT a b i k x L = some L' → VT a b L' ∧ i < L'.length ∧ ∃ M, L' = L ++ M
  | 0, x, L, L', h, hi, e => by obtain rfl := someE e; exact ⟨h, hi, [], by simp⟩
  | k + 1, x, L, L', h, hi, e => by
    obtain ⟨L1, e1, e2⟩ := bindE e
    obtain ⟨M, hM⟩ := stepT_len e1
    obtain ⟨r1, r2, M2, r3⟩ := VT.inner k (x + 1) (h.step hi e1) (by rw [hM]; simp; omega) e2
    exact ⟨r1, r2, M ++ M2, by rw [r3, hM, List.append_assoc]⟩
theorem contains_eq (g : Ttwin → Option Bool) (c : Ttwin → Prop) (L : List Ttwin) (hl : L.length ≤ 1000000) (hg : ∀ y ∈ L, (c y ∧ g y = some true) ∨ (¬ c y ∧ g y = some false)) : slices_ContainsFunc_impl_twin_impl_twin L g = some (dcW (∃ y ∈ L, c y)) := by
  unfold slices_ContainsFunc_impl_twin_impl_twin slices_IndexFunc_impl_twin_impl_twin
  have key : ∀ d k, k + d = L.length → (∀ j, j < k → ¬ c (L.getD j default)) → ∃ r : Unit ⊕ Int, loop (fun s : Int => slices_IndexFunc_impl_twin_impl_twin.b0 L g s) (k : Int) = some r ∧ ((∃ y ∈ L, c y) ∧ (∃ n : Nat, r = .inr (n : Int)) ∨ ¬ (∃ y ∈ L, c y) ∧ r = .inl ()) := by
    intro d
    induction d with
    | zero =>
      intro k hk hn
      have hk : k = L.length := by omega
      subst hk
      refine ⟨.inl (), loop_end ?_, .inr ⟨?_, rfl⟩⟩
      · unfold slices_IndexFunc_impl_twin_impl_twin.b0; rw [if_neg (by omega)]
      · rintro ⟨y, hy, hc⟩
        obtain ⟨j, hj, rfl⟩ := List.getElem_of_mem hy
        exact hn j hj (by simpa [hj] using hc)
    | succ d ih =>
      intro k hk hn
      have hlt : k < L.length := by omega
      have hb : slices_IndexFunc_impl_twin_impl_twin.b0 L g (k : Int) = (g (L.getD k default)).bind fun a16 => if a16 = true then some (.inr (.inr (k : Int))) else some (.inl ((k + 1 : Nat) : Int)) := by
        unfold slices_IndexFunc_impl_twin_impl_twin.b0
        rw [if_pos (by omega), ix_nat hlt, Option.bind_some, WN (by omega)]
      rcases hg _ (getD_memT hlt) with ⟨h1, h2⟩ | ⟨h1, h2⟩
      · refine ⟨.inr (k : Int), loop_end ?_, .inl ⟨⟨_, getD_memT hlt, h1⟩, k, rfl⟩⟩
        rw [hb, h2, Option.bind_some, if_pos rfl]
      · have e : slices_IndexFunc_impl_twin_impl_twin.b0 L g (k : Int) = some (.inl ((k + 1 : Nat) : Int)) := by rw [hb, h2, Option.bind_some, if_neg (by simp)]
        rw [loop_go e]
        refine ih (k + 1) (by omega) fun j hj => ?_
        by_cases ej : j = k
        · rw [ej]; exact h1
        · exact hn j (by omega)
  obtain ⟨r, e, hr⟩ := key L.length 0 (by omega) (fun j hj => absurd hj (by omega))
  have e : loop (fun s : Int => slices_IndexFunc_impl_twin_impl_twin.b0 L g s) 0 = some r := e
  rw [e, Option.bind_some]
  rcases hr with ⟨h1, n, rfl⟩ | ⟨h1, rfl⟩
  · rw [Sum.elim_inr, Option.bind_some, dcW_t h1, decide_eq_true (by omega)]
  · rw [Sum.elim_inl, slices_IndexFunc_impl_twin_impl_twin.k0, Option.bind_some, dcW_f h1]; rfl
theorem bx_len {m : Nat} (hm : 1 ≤ m ∧ m ≤ 4) {x : List Int} (h : Bx m x) : x.length ≤ 1000000 := by
  have := (mmI hm).2
  rw [h.1]; omega
theorem there_eq {a b : TAuto} {L : List Ttwin} (h : VT a b L) (h4 : 1 ≤ a.states ∧ a.states ≤ 4) (h4' : 1 ≤ b.states ∧ b.states ≤ 4) (n : Ttwin) (l1 : n.a.length ≤ 1000000) (l2 : n.b.length ≤ 1000000) : impl_twins_1 n L = some (dcW (∃ y ∈ L, sameT n y)) := by
  unfold impl_twins_1
  rw [contains_eq _ (sameT n) L (by have := h.len; omega) (fun y hy => ?_), Option.bind_some]
  obtain ⟨_, h1, h2⟩ := h.el y hy
  unfold impl_twins_1_1 sameT
  rw [equal_eq _ _ l1, Option.bind_some, equal_eq _ _ l2]
  by_cases c1 : n.a = y.a
  · rw [decide_eq_true c1, whenO_t, Option.bind_some, Bool.true_and]
    by_cases c2 : n.b = y.b
    · rw [decide_eq_true c2]; exact .inl ⟨⟨c1, c2⟩, rfl⟩
    · rw [decide_eq_false c2]; exact .inr ⟨fun k => c2 k.2, rfl⟩
  · rw [decide_eq_false c1, whenO_f, Option.bind_some, Bool.false_and]
    exact .inr ⟨fun k => c1 k.1, rfl⟩
theorem twin_b1 {a b : TAuto} (hA : AOk a) (hB : AOk b) (h4 : 1 ≤ a.states ∧ a.states ≤ 4) (h4' : 1 ≤ b.states ∧ b.states ≤ 4) {L : List Ttwin} (h : VT a b L) {i x : Nat} (hi : i < L.length) (hx : (x : Int) < a.letters) :
    impl_twins.b1 a (i : Int) b L (x : Int) = some (match stepT a b L i x with | some L' => .inl (L', ((x + 1 : Nat) : Int)) | none => .inr (.inr ([], false))) := by
  have hl := h.len
  have hlet := hA.lets
  unfold impl_twins.b1
  obtain ⟨w1, w2, w3⟩ := h.el _ (getD_memT hi)
  have m1 := implMul_eq (m := a.states.toNat) (by omega) w2 (let_bx a.states.toNat (x : Int) a.edges)
  have m2 := implMul_eq (m := b.states.toNat) (by omega) w3 (let_bx b.states.toNat (x : Int) b.edges)
  rw [show ((a.states.toNat : Nat) : Int) = a.states by omega] at m1
  rw [show ((b.states.toNat : Nat) : Int) = b.states by omega] at m2
  rw [if_pos hx, ix_nat hi, Option.bind_some, implLetter_eq hA h4, Option.bind_some, m1, Option.bind_some, implLetter_eq hB h4', Option.bind_some, m2, Option.bind_some, there_eq h h4 h4' _ (by exact bx_len (by omega) (mul_bx w2 (let_bx _ _ _))) (by exact bx_len (by omega) (mul_bx w3 (let_bx _ _ _))), Option.bind_some, WN (by omega)]
  have hsame : (∃ y ∈ L, sameT ⟨[], boxMulL a.states.toNat (L.getD i default).a (letL a.states.toNat (x : Int) a.edges), boxMulL b.states.toNat (L.getD i default).b (letL b.states.toNat (x : Int) b.edges)⟩ y) ↔ ∃ y ∈ L, sameT (moreT a b (L.getD i default) x) y := Iff.rfl
  rw [propext hsame]
  rcases stepT_cases (a := a) (b := b) (L := L) (i := i) (x := x) with ⟨c, e⟩ | ⟨c, k, e⟩ | ⟨c, k, e⟩
  · rw [dcW_t c, if_pos rfl, e]
  · rw [dcW_f c, if_neg (by simp), clone_eq _ (by omega), Option.bind_some, app_small (by rw [List.length_singleton]; omega) (by decide), Option.bind_some, bnd_eq, if_pos (by rw [Bool.or_eq_true, decide_eq_true_eq, decide_eq_true_eq, List.length_append, List.length_singleton]; omega), e]
  · rw [dcW_f c, if_neg (by simp), clone_eq _ (by omega), Option.bind_some, app_small (by rw [List.length_singleton]; omega) (by decide), Option.bind_some, bnd_eq, if_neg (by rw [Bool.or_eq_true, decide_eq_true_eq, decide_eq_true_eq, List.length_append, List.length_singleton]; omega), app_small (by rw [List.length_singleton]; omega) (by decide), Option.bind_some, e]
    rfl
theorem twin_inner {a b : TAuto} (hA : AOk a) (hB : AOk b) (h4 : 1 ≤ a.states ∧ a.states ≤ 4) (h4' : 1 ≤ b.states ∧ b.states ≤ 4) {i : Nat} : ∀ (k x : Nat) {L : List Ttwin}, VT a b L → i < L.length → x + k = a.letters.toNat →
    loop (fun s : List Ttwin × Int => impl_twins.b1 a (i : Int) b s.1 s.2) (L, (x : Int)) = some (resT (innerT a b i k x L))
  | 0, x, L, h, hi, hx => by
    refine loop_end ?_
    dsimp only
    unfold impl_twins.b1
    rw [if_neg (by omega)]; rfl
  | k + 1, x, L, h, hi, hx => by
    have hlet := hA.lets
    have hb := twin_b1 hA hB h4 h4' h hi (x := x) (by omega)
    show loop _ _ = some (resT ((stepT a b L i x).bind fun L' => innerT a b i k (x + 1) L'))
    cases e : stepT a b L i x with
    | none =>
      rw [e] at hb
      exact loop_end hb
    | some L' =>
      rw [e] at hb
      obtain ⟨M, hM⟩ := stepT_len e
      rw [loop_go hb]
      exact twin_inner hA hB h4 h4' k (x + 1) (h.step hi e) (by rw [hM]; simp; omega) (by omega)
theorem twin_outer {a b : TAuto} (hA : AOk a) (hB : AOk b) (h4 : 1 ≤ a.states ∧ a.states ≤ 4) (h4' : 1 ≤ b.states ∧ b.states ≤ 4) : ∀ (f i : Nat) {L : List Ttwin}, VT a b L → i ≤ L.length → i + f = 150 →
    loop (fun s : List Ttwin × Int => impl_twins.b0 a b s.1 s.2) (L, (i : Int)) = some (resT (outerT a b f i L))
  | 0, i, L, h, hi, hf => by
    have hl := h.len
    refine loop_end ?_
    dsimp only
    unfold impl_twins.b0
    rw [if_neg (by omega)]; rfl
  | f + 1, i, L, h, hi, hf => by
    have hl := h.len
    have hlet := hA.lets
    show loop _ _ = some (resT ((if i < L.length then (innerT a b i a.letters.toNat 0 L).bind fun L' => outerT a b f (i + 1) L' else some L)))
    by_cases hlt : i < L.length
    · rw [if_pos hlt]
      have hin := twin_inner hA hB h4 h4' (i := i) a.letters.toNat 0 h hlt (by omega)
      have hin : loop (fun s : List Ttwin × Int => impl_twins.b1 a (i : Int) b s.1 s.2) (L, 0) = _ := hin
      cases e : innerT a b i a.letters.toNat 0 L with
      | none =>
        rw [e] at hin
        refine loop_end ?_
        dsimp only
        unfold impl_twins.b0
        rw [if_pos (by omega), hin, Option.bind_some]; rfl
      | some L' =>
        rw [e] at hin
        obtain ⟨v1, v2, _⟩ := VT.inner _ _ h hlt e
        rw [loop_go (s' := (L', ((i + 1 : Nat) : Int)))]
        · exact twin_outer hA hB h4 h4' f (i + 1) v1 (by omega) (by omega)
        · dsimp only
          unfold impl_twins.b0
          rw [if_pos (by omega), hin, Option.bind_some, resT, Sum.elim_inl, impl_twins.k1, WN (by omega)]
    · rw [if_neg hlt]
      refine loop_end ?_
      dsimp only
      unfold impl_twins.b0
      rw [if_neg (by omega)]; rfl
def startT (a b : TAuto) : List Ttwin := [⟨[], oneL a.states.toNat, oneL b.states.toNat⟩]
theorem startT_v (a b : TAuto) : VT a b (startT a b) := ⟨by simp [startT], fun t ht => by
  rw [List.mem_singleton.mp ht]
  exact ⟨by simp, one_bx _, one_bx _⟩⟩
noncomputable def twinsL (a b : TAuto) : Option (List Ttwin) := outerT a b 150 0 (startT a b)
theorem implTwins_eq {a b : TAuto} (hA : AOk a) (hB : AOk b) (h4 : 1 ≤ a.states ∧ a.states ≤ 4) (h4' : 1 ≤ b.states ∧ b.states ≤ 4) : impl_twins a b = some (match twinsL a b with | some L => (L, true) | none => ([], false)) := by
  unfold impl_twins
  have o1 := implOne_eq (m := a.states.toNat) (by omega)
  have o2 := implOne_eq (m := b.states.toNat) (by omega)
  rw [show ((a.states.toNat : Nat) : Int) = a.states by omega] at o1
  rw [show ((b.states.toNat : Nat) : Int) = b.states by omega] at o2
  have hL := twin_outer hA hB h4 h4' 150 0 (startT_v a b) (by omega) rfl
  have hL : loop (fun s : List Ttwin × Int => impl_twins.b0 a b s.1 s.2) ([⟨[], oneL a.states.toNat, oneL b.states.toNat⟩], 0) = some (resT (twinsL a b)) := hL
  rw [o1, Option.bind_some, o2, Option.bind_some, hL, Option.bind_some]
  cases twinsL a b <;> rfl
theorem VT.outer {a b : TAuto} : ∀ (f i : Nat) {L L' : List Ttwin}, VT a b L → i ≤ L.length → outerT a b f i L = some L' → VT a b L' ∧ ∃ M, L' = L ++ M
  | 0, i, L, L', h, hi, e => by obtain rfl := someE e; exact ⟨h, [], by simp⟩
  | f + 1, i, L, L', h, hi, e => by
    unfold outerT at e
    by_cases hlt : i < L.length
    · rw [if_pos hlt] at e
      obtain ⟨L1, e1, e2⟩ := bindE e
      obtain ⟨v1, v2, M, hM⟩ := VT.inner _ _ h hlt e1
      obtain ⟨r1, M2, r2⟩ := VT.outer f (i + 1) v1 (by omega) e2
      exact ⟨r1, M ++ M2, by rw [r2, hM, List.append_assoc]⟩
    · rw [if_neg hlt] at e
      obtain rfl := someE e; exact ⟨h, [], by simp⟩
end Go.Proofs.Ytcmbbpdepobnlaa
end

/- The reference's product of boxes, its box of one letter, of no letter. -/
section
namespace Go.Proofs.Ytcmbbpdepobnlaa
open Go Go.RowKit E
set_option linter.unusedVariables false

theorem l1Max_eq (a b : Int) : spec_l1Max a b = max a b := by unfold spec_l1Max; omega
theorem specMul_r {m : Nat} (hm : 1 ≤ m ∧ m ≤ 4) {x y : List Int} (hx : Bx m x) (hy : Bx m y) {p q : Nat} (hp : p < m) (hq : q < m) {zs : List Int} (hz : TabL zs m (valS x y m p q 0)) :
    ∃ zs', loop (fun s : List Int × Int => spec_l14Mul.b2 (m : Int) x (p : Int) y (q : Int) s.1 s.2) (zs, 0) = some zs' ∧ TabL zs' m (valS x y m p q m) := by
  refine loop_inv (I := fun s : List Int × Int => ∃ r : Nat, s.2 = r ∧ r ≤ m ∧ TabL s.1 m (valS x y m p q r)) (μ := fun s => m - s.2.toNat) (R := fun z => TabL z m (valS x y m p q m)) ?_ (s := (zs, 0)) ⟨0, rfl, Nat.zero_le _, hz⟩
  rintro ⟨z, q'⟩ ⟨r, e, hr, hT⟩
  dsimp only at e hT ⊢
  subst e
  unfold spec_l14Mul.b2
  by_cases k : r < m
  · right
    have c1 := cell_lt hp k
    have c2 := cell_lt k hq
    have c3 := cell_lt hp hq
    have wq : W ((r : Int) + 1) = ((r + 1 : Nat) : Int) := W_nat (by omega)
    rw [if_pos (by omega), cellI hm hp k, ix_nat (by rw [hx.1]; exact c1), Option.bind_some, show (default : Int) = 0 from rfl, bnd_eq, cellI hm k hq, cellI hm hp hq, ix_nat (xs := y) (by rw [hy.1]; exact c2), show (default : Int) = 0 from rfl, wq]
    by_cases g1 : x.getD (p * m + r) 0 > 0
    · rw [decide_eq_true g1, whenO_t, Option.bind_some]
      by_cases g2 : y.getD (r * m + q) 0 > 0
      · rw [if_pos (by simpa using g2), ix_nat (by rw [hT.1]; exact c3), Option.bind_some, Option.bind_some, Option.bind_some, ck_nat (by rw [hT.1]; exact c3), Option.bind_some, l1Max_eq, l1Max_eq]
        exact ⟨_, rfl, ⟨r + 1, rfl, k, valS_yes hT hp hq g1 g2⟩, by dsimp only; omega⟩
      · rw [if_neg (by simpa using g2)]
        exact ⟨_, rfl, ⟨r + 1, rfl, k, valS_no hT (fun h => g2 h.2)⟩, by dsimp only; omega⟩
    · rw [decide_eq_false g1, whenO_f, Option.bind_some, if_neg (by simp)]
      exact ⟨_, rfl, ⟨r + 1, rfl, k, valS_no hT (fun h => g1 h.1)⟩, by dsimp only; omega⟩
  · left
    rw [if_neg (by omega)]
    have : r = m := by omega
    subst this
    exact ⟨_, rfl, hT⟩
theorem specMul_q {m : Nat} (hm : 1 ≤ m ∧ m ≤ 4) {x y : List Int} (hx : Bx m x) (hy : Bx m y) {p : Nat} (hp : p < m) {zs : List Int} (hz : TabL zs m (valS x y m p 0 0)) :
    ∃ zs', loop (fun s : List Int × Int => spec_l14Mul.b1 (m : Int) x (p : Int) y s.1 s.2) (zs, 0) = some zs' ∧ TabL zs' m (valS x y m p m 0) := by
  refine loop_inv (I := fun s : List Int × Int => ∃ q : Nat, s.2 = q ∧ q ≤ m ∧ TabL s.1 m (valS x y m p q 0)) (μ := fun s => m - s.2.toNat) (R := fun z => TabL z m (valS x y m p m 0)) ?_ (s := (zs, 0)) ⟨0, rfl, Nat.zero_le _, hz⟩
  rintro ⟨z, q'⟩ ⟨q, e, hq, hT⟩
  dsimp only at e hT ⊢
  subst e
  unfold spec_l14Mul.b1
  by_cases k : q < m
  · right
    have wq : W ((q : Int) + 1) = ((q + 1 : Nat) : Int) := W_nat (by omega)
    obtain ⟨zs', e1, e2⟩ := specMul_r hm hx hy hp k hT
    rw [if_pos (by omega), e1, Option.bind_some]
    unfold spec_l14Mul.k2
    rw [wq]
    exact ⟨_, rfl, ⟨q + 1, rfl, k, valS_q e2 rfl⟩, by dsimp only; omega⟩
  · left
    rw [if_neg (by omega)]
    have : q = m := by omega
    subst this
    exact ⟨_, rfl, hT⟩
theorem specMul_eq {m : Nat} (hm : 1 ≤ m ∧ m ≤ 4) {x y : List Int} (hx : Bx m x) (hy : Bx m y) : spec_l14Mul (m : Int) x y = some (boxMulL m x y) := by
  obtain ⟨h1, h2⟩ := mmI hm
  unfold spec_l14Mul
  rw [h1, mk_ok (by omega) (by omega), Option.bind_some, Int.toNat_natCast]
  obtain ⟨zs, e1, e2⟩ := loop_inv (body := fun s : List Int × Int => spec_l14Mul.b0 (m : Int) x y s.1 s.2) (fun s : List Int × Int => ∃ p : Nat, s.2 = p ∧ p ≤ m ∧ TabL s.1 m (valS x y m p 0 0)) (fun s => m - s.2.toNat) (fun z => z = boxMulL m x y) (by
    rintro ⟨z, q'⟩ ⟨p, e, hq, hT⟩
    dsimp only at e hT ⊢
    subst e
    unfold spec_l14Mul.b0
    by_cases k : p < m
    · right
      have wq : W ((p : Int) + 1) = ((p + 1 : Nat) : Int) := W_nat (by omega)
      obtain ⟨zs', e1, e2⟩ := specMul_q hm hx hy k hT
      rw [if_pos (by omega), e1, Option.bind_some]
      unfold spec_l14Mul.k1
      rw [wq]
      exact ⟨_, rfl, ⟨p + 1, rfl, k, valS_p e2 rfl⟩, by dsimp only; omega⟩
    · left
      rw [if_neg (by omega)]
      exact ⟨_, rfl, valS_end hT (by omega)⟩) (s := (List.replicate (m * m) 0, 0)) ⟨0, rfl, Nat.zero_le _, TabL.zero m rfl _ valS_0⟩
  rw [e1, Option.bind_some, e2]; rfl
theorem l1In_eq (x a b : Int) : spec_l1In x a b = decide (a ≤ x ∧ x ≤ b) := inR
theorem specOne_eq {m : Nat} (hm : 1 ≤ m ∧ m ≤ 4) : spec_BoxOne (m : Int) = some (oneL m) := by
  unfold spec_BoxOne
  obtain ⟨h1, h2⟩ := mmI hm
  have hlen : (oneL m).length = m * m := by simp [oneL]
  have key := loop_up (body := fun s : List Int × Int => spec_BoxOne.b0 (m : Int) s.1 s.2) (m * m) (fun k => ((oneL m).take k, (k : Int))) (oneL m) (fun k hk => ?_) ?_ 0 (Nat.zero_le _)
  · have key : loop (fun s : List Int × Int => spec_BoxOne.b0 (m : Int) s.1 s.2) ([], 0) = some (oneL m) := key
    rw [key, Option.bind_some]; rfl
  · (try dsimp only); unfold spec_BoxOne.b0
    have hd : quo .i64 (k : Int) (m : Int) = ((k / m : Nat) : Int) := by
      unfold quo
      have h3 := Nat.div_le_self k m
      rw [show ((k : Int).tdiv (m : Int)) = ((k / m : Nat) : Int) from rfl]
      generalize k / m = d at h3 ⊢
      rw [W_eq (by omega) (by omega)]
    have hmod : Int.tmod (k : Int) (m : Int) = ((k % m : Nat) : Int) := rfl
    have ht : (oneL m).take (k + 1) = (oneL m).take k ++ [if k / m = k % m then 1 else 0] := by
      rw [List.take_succ_eq_append_getElem (by omega)]; simp [oneL]
    rw [h1, bnd_eq, decide_eq_true (by omega), l1In_eq, decide_eq_true (by omega), if_pos (by rfl), decide_eq_true (by omega), chk_t, Option.bind_some, Option.bind_some, hd, hmod, ht, W, W_nat (by omega)]
    by_cases g : k / m = k % m
    · rw [if_pos (by omega), if_pos g, app_small (by simp; omega) (by decide), Option.bind_some]
    · rw [if_neg (by omega), if_neg g, app_small (by simp; omega) (by decide), Option.bind_some]
  · (try dsimp only); unfold spec_BoxOne.b0
    rw [h1, bnd_eq, decide_eq_false (by omega), Bool.false_and, if_neg (by simp), List.take_of_length_le (by omega)]
theorem specLetter_eq {a : TAuto} (h : AOk a) (h4 : 1 ≤ a.states ∧ a.states ≤ 4) (x : Int) : spec_l14Letter a x = some (letL a.states.toNat x a.edges) := by
  obtain ⟨g1, g2⟩ := stN h4
  have hn := h.num
  unfold spec_l14Letter
  rw [g1, mk_ok (by omega) (by omega), Option.bind_some, Int.toNat_natCast]
  have hL : loop (fun s : List Int × Int => spec_l14Letter.b0 a x s.1 s.2) (List.replicate (a.states.toNat * a.states.toNat) 0, 0) = some (letL a.states.toNat x a.edges) := letter_loop h h4 x (fun z i hi hz => by
    (try dsimp only); unfold spec_l14Letter.b0
    obtain ⟨c1, c2⟩ := edge_cell h h4 (edge_mem hi)
    rw [if_pos (by omega), ix_nat hi, Option.bind_some, WN (by omega)]
    unfold letStep
    by_cases g : (a.edges.getD i default).letter = x
    · rw [if_pos g, if_pos g, c1, ck_nat (by omega), Option.bind_some]
      by_cases k : (a.edges.getD i default).good = true
      · rw [if_pos k, if_pos k, ck_nat (by rw [List.length_set]; omega), Option.bind_some, List.set_set]
      · rw [if_neg k, if_neg k]
    · rw [if_neg g, if_neg g]) (fun z => by (try dsimp only); unfold spec_l14Letter.b0; rw [if_neg (by omega)])
  rw [hL, Option.bind_some]; rfl
end Go.Proofs.Ytcmbbpdepobnlaa
end

/- Searches that go the same way as the program's search of boxes. -/
section
namespace Go.Proofs.Ytcmbbpdepobnlaa
open Go Go.RowKit E
set_option linter.unusedVariables false

def resG {σ ρ : Type} (G : List Ttwin → σ) (err : ρ) : Option (List Ttwin) → σ ⊕ ρ
  | some L => .inl (G L)
  | none => .inr err
def stepG {σ ρ : Type} (G : List Ttwin → σ) (err : ρ) (k : Int) : Option (List Ttwin) → (σ × Int) ⊕ (σ ⊕ ρ)
  | some L => .inl (G L, k)
  | none => .inr (.inr err)
theorem inner_gen {σ ρ : Type} {a b : TAuto} {G : List Ttwin → σ} {err : ρ} {body : σ × Int → Option ((σ × Int) ⊕ (σ ⊕ ρ))} {Inv : List Ttwin → Prop} {i : Nat}
    (hb : ∀ (L : List Ttwin) (x : Nat), Inv L → i < L.length → (x : Int) < a.letters → body (G L, (x : Int)) = some (stepG G err ((x + 1 : Nat) : Int) (stepT a b L i x)))
    (he : ∀ s, body (s, (a.letters.toNat : Int)) = some (.inr (.inl s)))
    (hi : ∀ (L L' : List Ttwin) (x : Nat), Inv L → i < L.length → stepT a b L i x = some L' → Inv L') :
    ∀ (k x : Nat) (L : List Ttwin), Inv L → i < L.length → x + k = a.letters.toNat → loop body (G L, (x : Int)) = some (resG G err (innerT a b i k x L))
  | 0, x, L, h, hl, hx => by
    obtain rfl : x = a.letters.toNat := by omega
    exact loop_end (he _)
  | k + 1, x, L, h, hl, hx => by
    have hb1 := hb L x h hl (by omega)
    show loop _ _ = some (resG G err ((stepT a b L i x).bind fun L' => innerT a b i k (x + 1) L'))
    cases e : stepT a b L i x with
    | none =>
      rw [e] at hb1
      exact loop_end hb1
    | some L' =>
      rw [e] at hb1
      obtain ⟨M, hM⟩ := stepT_len e
      rw [loop_go hb1]
      exact inner_gen hb he hi k (x + 1) L' (hi _ _ _ h hl e) (by rw [hM, List.length_append]; omega) (by omega)
theorem inner_inv {a b : TAuto} {Inv : List Ttwin → Prop} {i : Nat} (hi : ∀ (L L' : List Ttwin) (x : Nat), Inv L → i < L.length → stepT a b L i x = some L' → Inv L') :
    ∀ (k x : Nat) (L L' : List Ttwin), Inv L → i < L.length → innerT a b i k x L = some L' → Inv L' ∧ i < L'.length
  | 0, x, L, L', h, hl, e => by obtain rfl := someE e; exact ⟨h, hl⟩
  | k + 1, x, L, L', h, hl, e => by
    obtain ⟨L1, e1, e2⟩ := bindE e
    obtain ⟨M, hM⟩ := stepT_len e1
    exact inner_inv hi k (x + 1) L1 L' (hi _ _ _ h hl e1) (by rw [hM, List.length_append]; omega) e2
theorem outer_gen {σ ρ : Type} {a b : TAuto} {G : List Ttwin → σ} {err : ρ} {body : σ × Int → Option ((σ × Int) ⊕ (σ ⊕ ρ))} {Inv : List Ttwin → Prop}
    (hb : ∀ (L : List Ttwin) (i : Nat), Inv L → i < L.length → body (G L, (i : Int)) = some (stepG G err ((i + 1 : Nat) : Int) (innerT a b i a.letters.toNat 0 L)))
    (he : ∀ L : List Ttwin, Inv L → body (G L, (L.length : Int)) = some (.inr (.inl (G L))))
    (hi : ∀ (i : Nat) (L L' : List Ttwin) (x : Nat), Inv L → i < L.length → stepT a b L i x = some L' → Inv L') (hn : ∀ L, Inv L → L.length ≤ 150) :
    ∀ (f i : Nat) (L : List Ttwin), Inv L → i ≤ L.length → i + f = 150 → loop body (G L, (i : Int)) = some (resG G err (outerT a b f i L))
  | 0, i, L, h, hl, hf => by
    have := hn L h
    obtain rfl : i = L.length := by omega
    exact loop_end (he _ h)
  | f + 1, i, L, h, hl, hf => by
    show loop _ _ = some (resG G err (if i < L.length then (innerT a b i a.letters.toNat 0 L).bind fun L' => outerT a b f (i + 1) L' else some L))
    by_cases hlt : i < L.length
    · rw [if_pos hlt]
      have hb1 := hb L i h hlt
      cases e : innerT a b i a.letters.toNat 0 L with
      | none =>
        rw [e] at hb1
        exact loop_end hb1
      | some L' =>
        rw [e] at hb1
        obtain ⟨v1, v2⟩ := inner_inv (hi i) _ _ _ _ h hlt e
        rw [loop_go hb1]
        exact outer_gen hb he hi hn f (i + 1) L' v1 (by omega) (by omega)
    · rw [if_neg hlt]
      obtain rfl : i = L.length := by omega
      exact loop_end (he _ h)
theorem l3Same_eq (x y : List Int) (h : x.length ≤ 1000000) : spec_l3Same x y = some (decide (x = y)) := by
  unfold spec_l3Same
  by_cases hl : x.length = y.length
  · rw [if_neg (by omega)]
    have hb : (fun s : Int => spec_l3Same.b0 x y s) = (fun s : Int => if s < (x.length : Int) then (ix x s).bind fun a => (ix y s).bind fun b => ((fun a b : Int => some (decide (a = b))) a b).bind fun c => if (!c) = true then some (.inr (.inr false)) else some (.inl (W (s + 1))) else some (.inr (.inl ()))) := by
      funext s
      unfold spec_l3Same.b0
      split
      · congr 1; funext a; congr 1; funext b
        simp
      · rfl
    rw [hb, eq_loop (fun a b : Int => some (decide (a = b))) (fun _ _ => rfl) x y hl (by omega), Option.bind_some]
    by_cases e : x = y
    · rw [if_pos e, Sum.elim_inl, spec_l3Same.k0, decide_eq_true e]
    · rw [if_neg e, Sum.elim_inr, decide_eq_false e]
  · rw [if_pos (by omega), decide_eq_false (fun e => hl (by rw [e]))]
theorem getD_memG {α : Type} [Inhabited α] {L : List α} {i : Nat} (h : i < L.length) : L.getD i default ∈ L := by
  rw [List.getD_eq_getElem?_getD, List.getElem?_eq_getElem h]; exact List.getElem_mem h
theorem getD_mapG {α β : Type} [Inhabited α] [Inhabited β] (g : α → β) {L : List α} {i : Nat} (h : i < L.length) : (L.map g).getD i default = g (L.getD i default) := by
  rw [List.getD_eq_getElem?_getD, List.getD_eq_getElem?_getD, List.getElem?_map, List.getElem?_eq_getElem h]; rfl
theorem find_ok (M : List TBoxed) (z : List Int) (hl : M.length ≤ 1000000) (hz : ∀ y ∈ M, y.box.length ≤ 1000000) : ∃ r : Int, spec_l14Find M z = some r ∧ (0 ≤ r ↔ ∃ y ∈ M, y.box = z) := by
  unfold spec_l14Find
  have key : ∀ d k, k + d = M.length → (∀ j, j < k → ¬ (M.getD j default).box = z) → ∃ r : Unit ⊕ Int, loop (fun s : Int => spec_l14Find.b0 M z s) (k : Int) = some r ∧ ((∃ y ∈ M, y.box = z) ∧ (∃ n : Nat, r = .inr (n : Int)) ∨ ¬ (∃ y ∈ M, y.box = z) ∧ r = .inl ()) := by
    intro d
    induction d with
    | zero =>
      intro k hk hn
      have hk : k = M.length := by omega
      subst hk
      refine ⟨.inl (), loop_end ?_, .inr ⟨?_, rfl⟩⟩
      · unfold spec_l14Find.b0; rw [if_neg (by omega)]
      · rintro ⟨y, hy, hc⟩
        obtain ⟨j, hj, rfl⟩ := List.getElem_of_mem hy
        exact hn j hj (by simpa [hj] using hc)
    | succ d ih =>
      intro k hk hn
      have hlt : k < M.length := by omega
      have hb : spec_l14Find.b0 M z (k : Int) = if decide ((M.getD k default).box = z) = true then some (.inr (.inr (k : Int))) else some (.inl ((k + 1 : Nat) : Int)) := by
        unfold spec_l14Find.b0
        rw [if_pos (by omega), ix_nat hlt, Option.bind_some, l3Same_eq _ _ (hz _ (getD_memG hlt)), Option.bind_some, WN (by omega)]
      by_cases c : (M.getD k default).box = z
      · refine ⟨.inr (k : Int), loop_end ?_, .inl ⟨⟨_, getD_memG hlt, c⟩, k, rfl⟩⟩
        show spec_l14Find.b0 M z (k : Int) = _
        rw [hb, decide_eq_true c, if_pos rfl]
      · have e : (fun s : Int => spec_l14Find.b0 M z s) (k : Int) = some (.inl ((k + 1 : Nat) : Int)) := by
          show spec_l14Find.b0 M z (k : Int) = _
          rw [hb, decide_eq_false c, if_neg (by simp)]
        rw [loop_go e]
        refine ih (k + 1) (by omega) fun j hj => ?_
        by_cases ej : j = k
        · rw [ej]; exact c
        · exact hn j (by omega)
  obtain ⟨r, e, hr⟩ := key M.length 0 (by omega) (fun j hj => absurd hj (by omega))
  have e : loop (fun s : Int => spec_l14Find.b0 M z s) 0 = some r := e
  rw [e, Option.bind_some]
  rcases hr with ⟨h1, n, rfl⟩ | ⟨h1, rfl⟩
  · exact ⟨n, rfl, ⟨fun _ => h1, fun _ => by omega⟩⟩
  · exact ⟨-1, rfl, ⟨fun k => by omega, fun k => absurd k h1⟩⟩
end Go.Proofs.Ytcmbbpdepobnlaa
end

/- Boxes told by the program: what needs no test of boxes. -/
section
namespace Go.Proofs.Ytcmbbpdepobnlaa
open Go Go.RowKit E
set_option linter.unusedVariables false

noncomputable def boxOk (n : Int) (x : List Int) : Bool := decide (1 ≤ n ∧ n ≤ 4 ∧ Bx n.toNat x)
theorem boxed_eq (n : Int) : impl_isBoxed n = decide (1 ≤ n ∧ n ≤ 4) := by unfold impl_isBoxed impl_inRange; rw [bnd_eq]; exact inR
theorem in02 (a : Int) : impl_inRange a 0 2 = decide (0 ≤ a ∧ a ≤ 2) := by unfold impl_inRange; rw [bnd_eq]; exact inR
theorem okLoop (f : Int → Bool) (body : Int → Option (Int ⊕ (Unit ⊕ Bool))) (x : List Int) (hx : x.length ≤ 4611686018427387904) (hb : ∀ i : Int, body i = if i < (x.length : Int) then (ix x i).bind fun a => if (!(f a)) = true then some (.inr (.inr false)) else some (.inl (W (i + 1))) else some (.inr (.inl ()))) : loop body 0 = some (if x.all f = true then (.inl () : Unit ⊕ Bool) else .inr false) := by
  have key : ∀ (r pre : List Int), x = pre ++ r → loop body (pre.length : Int) = some (if r.all f = true then (.inl () : Unit ⊕ Bool) else .inr false) := by
    intro r
    induction r with
    | nil => intro pre h; refine loop_end ?_; rw [hb, if_neg (by rw [h]; simp)]; rfl
    | cons n r ih =>
      intro pre h
      have hk : pre.length < x.length := by rw [h]; simp
      have hix : ix x (pre.length : Int) = some n := by rw [ix_nat hk, h]; simp
      by_cases c : f n = true
      · rw [loop_go (s' := ((pre ++ [n]).length : Int))]
        · rw [ih (pre ++ [n]) (by rw [h]; simp), List.all_cons, c, Bool.true_and]
        · rw [hb, if_pos (by omega), hix, Option.bind_some, if_neg (by simp [c]), W, W_nat (by omega)]
          simp
      · rw [loop_end (r := .inr false)]
        · rw [List.all_cons, Bool.eq_false_iff.mpr c]; rfl
        · rw [hb, if_pos (by omega), hix, Option.bind_some, if_pos (by simp [c])]
  exact key x [] rfl
end Go.Proofs.Ytcmbbpdepobnlaa
end

/- The boxes of words of one automaton: program and reference. -/
section
namespace Go.Proofs.Ytcmbbpdepobnlaa
open Go Go.RowKit E
set_option linter.unusedVariables false

def e1 (t : Ttwin) : TBoxed := ⟨t.word, t.a⟩
structure V1 (a : TAuto) (L : List Ttwin) : Prop where
  v : VT a a L
  eq : ∀ t ∈ L, t.a = t.b
theorem V1.step {a : TAuto} (i : Nat) (L L' : List Ttwin) (x : Nat) (h : V1 a L) (hi : i < L.length) (hs : stepT a a L i x = some L') : V1 a L' := by
  refine ⟨h.v.step hi hs, fun t ht => ?_⟩
  rcases stepT_cases (a := a) (b := a) (L := L) (i := i) (x := x) with ⟨_, e⟩ | ⟨_, _, e⟩ | ⟨_, k, e⟩
  · rw [e] at hs; obtain rfl := someE hs; exact h.eq t ht
  · rw [e] at hs; cases hs
  · rw [e] at hs; obtain rfl := someE hs
    rcases List.mem_append.mp ht with ht | ht
    · exact h.eq t ht
    · rw [List.mem_singleton.mp ht]
      unfold moreT
      rw [h.eq _ (getD_memG hi)]
theorem spec1_b1 {a : TAuto} (hA : AOk a) (h4 : 1 ≤ a.states ∧ a.states ≤ 4) {i : Nat} (L : List Ttwin) (x : Nat) (h : V1 a L) (hi : i < L.length) (hx : (x : Int) < a.letters) :
    spec_BoxesOf.b1 a (i : Int) (L.map e1) (x : Int) = some (stepG (List.map e1) (([] : List TBoxed), false) ((x + 1 : Nat) : Int) (stepT a a L i x)) := by
  have hl := h.v.len
  have hlet := hA.lets
  have hm : i < (L.map e1).length := by rw [List.length_map]; exact hi
  obtain ⟨w1, w2, w3⟩ := h.v.el _ (getD_memG hi)
  have m1 := specMul_eq (m := a.states.toNat) (by omega) w2 (let_bx a.states.toNat (x : Int) a.edges)
  rw [show ((a.states.toNat : Nat) : Int) = a.states by omega] at m1
  obtain ⟨r, hr, hrr⟩ := find_ok (L.map e1) (boxMulL a.states.toNat (L.getD i default).a (letL a.states.toNat (x : Int) a.edges)) (by rw [List.length_map]; omega) (fun y hy => by
    obtain ⟨t, ht, rfl⟩ := List.mem_map.mp hy
    exact bx_len (by omega) (h.v.el t ht).2.1)
  have hsame : (∃ y ∈ L.map e1, y.box = boxMulL a.states.toNat (L.getD i default).a (letL a.states.toNat (x : Int) a.edges)) ↔ ∃ y ∈ L, sameT (moreT a a (L.getD i default) x) y := by
    constructor
    · rintro ⟨y, hy, e⟩
      obtain ⟨t, ht, rfl⟩ := List.mem_map.mp hy
      refine ⟨t, ht, ?_⟩
      unfold sameT moreT
      have q := h.eq t ht
      have e : t.a = _ := e
      rw [← h.eq _ (getD_memG hi), ← q, e]
      exact ⟨rfl, rfl⟩
    · rintro ⟨t, ht, e, _⟩
      exact ⟨e1 t, List.mem_map.mpr ⟨t, ht, rfl⟩, e.symm⟩
  unfold spec_BoxesOf.b1
  rw [if_pos hx, ix_nat hm, Option.bind_some, specLetter_eq hA h4, Option.bind_some, getD_mapG e1 hi, show (e1 (L.getD i default)).box = (L.getD i default).a from rfl, m1, Option.bind_some, hr, Option.bind_some, WN (by omega)]
  rcases stepT_cases (a := a) (b := a) (L := L) (i := i) (x := x) with ⟨c, e⟩ | ⟨c, k, e⟩ | ⟨c, k, e⟩
  · rw [if_pos (hrr.mpr (hsame.mpr c)), e]; rfl
  · rw [if_neg (fun g => c (hsame.mp (hrr.mp g))), bnd_eq, e, List.length_map]
    by_cases g : L.length = 150
    · rw [decide_eq_true (by omega : (L.length : Int) = 150), Bool.not_true, whenO_f, Option.bind_some, Bool.true_or, if_pos rfl]; rfl
    · rw [decide_eq_false (by omega : ¬ (L.length : Int) = 150), Bool.not_false, whenO_t, Option.bind_some, Bool.false_or, if_pos (by rw [decide_eq_true_eq]; show ((L.getD i default).word.length : Int) = 40; omega)]; rfl
  · have g : ¬ L.length = 150 := fun g => k (.inl g)
    have g2 : ¬ (L.getD i default).word.length = 40 := fun g => k (.inr g)
    rw [if_neg (fun g => c (hsame.mp (hrr.mp g))), bnd_eq, e, List.length_map, decide_eq_false (by omega : ¬ (L.length : Int) = 150), Bool.not_false, whenO_t, Option.bind_some, Bool.false_or, if_neg (by rw [decide_eq_true_eq]; show ¬ ((L.getD i default).word.length : Int) = 40; omega), Option.bind_some,
      app_small (by show 0 + (L.getD i default).word.length ≤ _; omega) (by decide), Option.bind_some, List.nil_append, app_small (by show (L.getD i default).word.length + 1 ≤ _; omega) (by decide), Option.bind_some, app_small (by rw [List.length_map, List.length_singleton]; omega) (by decide), Option.bind_some]
    show _ = some (Sum.inl ((L ++ [_]).map e1, _))
    rw [List.map_append]; rfl
noncomputable def boxesOf (a : TAuto) : List TBoxed × Bool := if autoOk a = true ∧ (1 ≤ a.states ∧ a.states ≤ 4) then (match twinsL a a with | some L => (L.map e1, true) | none => ([], false)) else ([], false)
theorem startT_1 (a : TAuto) : V1 a (startT a a) := ⟨startT_v a a, fun t ht => by rw [List.mem_singleton.mp ht]⟩
theorem rightA_eq (a : TAuto) : spec_l14Right a = some (autoOk a && decide (1 ≤ a.states ∧ a.states ≤ 4)) := by
  unfold spec_l14Right; rw [specAutoOk_eq, Option.bind_some, l1In_eq]
theorem specBoxesOf_eq (a : TAuto) : spec_BoxesOf a = some (boxesOf a) := by
  unfold spec_BoxesOf boxesOf
  rw [rightA_eq, Option.bind_some]
  by_cases c : autoOk a = true ∧ (1 ≤ a.states ∧ a.states ≤ 4)
  · have hA := autoOk_A c.1
    have h4 := c.2
    have hlet := hA.lets
    rw [if_pos c, c.1, decide_eq_true c.2, if_neg (by simp)]
    have o1 := specOne_eq (m := a.states.toNat) (by omega)
    rw [show ((a.states.toNat : Nat) : Int) = a.states by omega] at o1
    have key := outer_gen (a := a) (b := a) (G := List.map e1) (err := (([] : List TBoxed), false)) (body := fun s : List TBoxed × Int => spec_BoxesOf.b0 a s.1 s.2) (Inv := V1 a) (fun L i h hi => by
      have hl := h.v.len
      dsimp only
      unfold spec_BoxesOf.b0
      have hin := inner_gen (a := a) (b := a) (G := List.map e1) (err := (([] : List TBoxed), false)) (body := fun s : List TBoxed × Int => spec_BoxesOf.b1 a (i : Int) s.1 s.2) (Inv := V1 a) (i := i) (fun L x h hi hx => spec1_b1 hA h4 L x h hi hx) (fun s => by
        dsimp only
        unfold spec_BoxesOf.b1
        rw [if_neg (by omega)]) (V1.step i) a.letters.toNat 0 L h hi (by omega)
      have hin : loop (fun s : List TBoxed × Int => spec_BoxesOf.b1 a (i : Int) s.1 s.2) (L.map e1, 0) = _ := hin
      rw [if_pos (by rw [List.length_map]; omega), hin, Option.bind_some]
      cases innerT a a i a.letters.toNat 0 L with
      | none => rfl
      | some L' =>
        show some (Sum.inl (L'.map e1, W ((i : Int) + 1))) = _
        rw [WN (by omega)]; rfl) (fun L h => by
      dsimp only
      unfold spec_BoxesOf.b0
      rw [if_neg (by rw [List.length_map]; omega)]) V1.step (fun L h => h.v.len) 150 0 (startT a a) (startT_1 a) (by omega) rfl
    have key : loop (fun s : List TBoxed × Int => spec_BoxesOf.b0 a s.1 s.2) ([TBoxed.mk [] (oneL a.states.toNat)], 0) = some (resG (List.map e1) (([] : List TBoxed), false) (twinsL a a)) := key
    rw [o1, Option.bind_some, key, Option.bind_some]
    cases twinsL a a <;> rfl
  · rw [if_neg c, if_pos]
    rw [Bool.not_eq_true', Bool.and_eq_false_iff, decide_eq_false_iff_not]
    by_cases d : autoOk a = true
    · exact .inr fun k => c ⟨d, k⟩
    · exact .inl (by simpa using d)
theorem map_loop (L : List Ttwin) (hl : L.length ≤ 1000000) : loop (fun s : List TBoxed × Int => impl_BoxesOf.b0 (L, true) s.1 s.2) ([], 0) = some (L.map e1) := by
  have key := loop_up (body := fun s : List TBoxed × Int => impl_BoxesOf.b0 (L, true) s.1 s.2) L.length (fun k => ((L.take k).map e1, (k : Int))) (L.map e1) (fun k hk => ?_) ?_ 0 (Nat.zero_le _)
  · exact key
  · dsimp only
    unfold impl_BoxesOf.b0
    rw [if_pos (by dsimp only; omega), ix_nat hk, Option.bind_some, app_small (by rw [List.length_map, List.length_take, List.length_singleton]; omega) (by decide), Option.bind_some, WN (by omega), List.take_succ_eq_append_getElem hk, List.map_append]
    rw [show L.getD k default = L[k] by simp [hk]]; rfl
  · dsimp only
    unfold impl_BoxesOf.b0
    rw [if_neg (by dsimp only; omega), List.take_length]
theorem implBoxesOf_eq (a : TAuto) : impl_BoxesOf a = some (boxesOf a) := by
  unfold impl_BoxesOf boxesOf
  rw [bnd_eq, boxed_eq]
  by_cases h4 : 1 ≤ a.states ∧ a.states ≤ 4
  · rw [decide_eq_true h4, Bool.not_true, Bool.not_false, whenO_t, implAutoOk_eq, Option.bind_some, Bool.false_or]
    by_cases c : autoOk a = true
    · have hA := autoOk_A c
      rw [c, if_neg (by simp), if_pos ⟨rfl, h4⟩, implTwins_eq hA hA h4 h4, Option.bind_some]
      have hv : ∀ L, twinsL a a = some L → L.length ≤ 150 := fun L e => (VT.outer 150 0 (startT_v a a) (Nat.zero_le _) e).1.len
      cases e : twinsL a a with
      | none => rfl
      | some L =>
        dsimp only
        rw [if_neg (by simp), map_loop L (by have := hv L e; omega)]; rfl
    · rw [if_pos (by simpa using c), if_neg (fun k => c k.1)]
  · rw [decide_eq_false h4, Bool.not_false, Bool.not_true, whenO_f, Option.bind_some, Bool.true_or, if_pos rfl, if_neg (fun k => h4 k.2)]
end Go.Proofs.Ytcmbbpdepobnlaa
end

/- Numbers marked, and found marked. -/
section
namespace Go.Proofs.Ytcmbbpdepobnlaa
open Go Go.RowKit E
set_option linter.unusedVariables false

def markIL (c : Nat) : List Int → List Int
  | [] => []
  | _ :: r => (c : Int) :: markIL (c + 1) r
theorem markI_loop : ∀ (r pre : List Int) (c : Nat), c + r.length ≤ 1000000000 → pre.length + r.length ≤ 1000000000 → loop (fun s : List Int × Int × Int => laws_markIntS.b0 s.1 s.2.1 s.2.2) (pre ++ r, (c : Int), (pre.length : Int)) = some (((c + r.length : Nat) : Int), pre ++ markIL c r)
  | [], pre, c, _, _ => loop_end (by dsimp only; unfold laws_markIntS.b0; rw [if_neg (by simp)]; simp [markIL])
  | x :: r, pre, c, h1, h2 => by
    simp only [List.length_cons] at h1 h2
    have w3 : W ((c : Int) + 1) = ((c + 1 : Nat) : Int) := by rw [W, W_eq (by omega) (by omega)]; omega
    have w4 : W ((pre.length : Int) + 1) = (((pre ++ [(c : Int)]).length : Nat) : Int) := by rw [W, W_eq (by omega) (by omega)]; simp
    have ih := markI_loop r (pre ++ [(c : Int)]) (c + 1) (by omega) (by simp; omega)
    rw [loop_go (s' := (pre ++ (c : Int) :: r, ((c + 1 : Nat) : Int), (((pre ++ [(c : Int)]).length : Nat) : Int)))]
    · rw [List.append_assoc, List.singleton_append] at ih
      rw [ih]
      simp only [List.length_cons, markIL, List.append_assoc, List.singleton_append]
      rw [show c + 1 + r.length = c + (r.length + 1) by omega]
    · dsimp only; unfold laws_markIntS.b0
      rw [if_pos (by simp; omega)]
      simp only [ck_mid, Option.bind_some, set_mid, w3, w4]
theorem markI_eq (xs : List Int) (h : xs.length ≤ 2000000) : laws_markIntS xs 1 = some (((1 + xs.length : Nat) : Int), markIL 1 xs) := by
  unfold laws_markIntS
  have := markI_loop xs [] 1 (by omega) (by simp; omega)
  simp only [List.nil_append] at this
  have e : loop (fun s : List Int × Int × Int => laws_markIntS.b0 s.1 s.2.1 s.2.2) (xs, 1, 0) = _ := this
  rw [e]; rfl
theorem heldI_loop : ∀ (r pre : List Int) (c : Nat), c + r.length ≤ 1000000000 → pre.length + r.length ≤ 1000000000 → loop (fun s : Int × Int => laws_heldIntS.b0 (pre ++ markIL c r) s.1 s.2) ((c : Int), (pre.length : Int)) = some (.inl ((c + r.length : Nat) : Int))
  | [], pre, c, _, _ => loop_end (by dsimp only; unfold laws_heldIntS.b0; rw [if_neg (by simp [markIL])]; simp)
  | x :: r, pre, c, h1, h2 => by
    simp only [List.length_cons] at h1 h2
    have w3 : W ((c : Int) + 1) = ((c + 1 : Nat) : Int) := by rw [W, W_eq (by omega) (by omega)]; omega
    have w4 : W ((pre.length : Int) + 1) = (((pre ++ [(c : Int)]).length : Nat) : Int) := by rw [W, W_eq (by omega) (by omega)]; simp
    have ih := heldI_loop r (pre ++ [(c : Int)]) (c + 1) (by omega) (by simp; omega)
    rw [List.append_assoc, List.singleton_append] at ih
    unfold markIL
    rw [loop_go (s' := (((c + 1 : Nat) : Int), (((pre ++ [(c : Int)]).length : Nat) : Int)))]
    · rw [ih, List.length_cons, show c + 1 + r.length = c + (r.length + 1) by omega]
    · dsimp only; unfold laws_heldIntS.b0
      rw [if_pos (by simp; omega)]
      simp only [ix_mid, Option.bind_some, w3, w4]
      simp
theorem heldI_eq (xs : List Int) (h : xs.length ≤ 2000000) : laws_heldIntS (markIL 1 xs) 1 = some ((1 + xs.length : Nat) : Int) := by
  unfold laws_heldIntS
  have := heldI_loop xs [] 1 (by omega) (by simp; omega)
  simp only [List.nil_append] at this
  have e : loop (fun s : Int × Int => laws_heldIntS.b0 (markIL 1 xs) s.1 s.2) (1, 0) = _ := this
  rw [e]; rfl
end Go.Proofs.Ytcmbbpdepobnlaa
end

/- Numbers marked on from a number. -/
section
namespace Go.Proofs.Ytcmbbpdepobnlaa
open Go Go.RowKit E
set_option linter.unusedVariables false

theorem markI_from (xs : List Int) (c : Nat) (h : xs.length ≤ 2000000) (hc : c ≤ 20000000) : laws_markIntS xs (c : Int) = some (((c + xs.length : Nat) : Int), markIL c xs) := by
  unfold laws_markIntS
  have := markI_loop xs [] c (by omega) (by simp; omega)
  simp only [List.nil_append] at this
  have e : loop (fun s : List Int × Int × Int => laws_markIntS.b0 s.1 s.2.1 s.2.2) (xs, (c : Int), 0) = _ := this
  rw [e]; rfl
theorem heldI_from (xs : List Int) (c : Nat) (h : xs.length ≤ 2000000) (hc : c ≤ 20000000) : laws_heldIntS (markIL c xs) (c : Int) = some ((c + xs.length : Nat) : Int) := by
  unfold laws_heldIntS
  have := heldI_loop xs [] c (by omega) (by simp; omega)
  simp only [List.nil_append] at this
  have e : loop (fun s : Int × Int => laws_heldIntS.b0 (markIL c xs) s.1 s.2) ((c : Int), 0) = _ := this
  rw [e]; rfl
end Go.Proofs.Ytcmbbpdepobnlaa
end

/- Rows of numbers held against each other. -/
section
namespace Go.Proofs.Ytcmbbpdepobnlaa
open Go Go.RowKit E
set_option linter.unusedVariables false

theorem eqIntS_self (xs : List Int) (h : xs.length ≤ 1048576) : laws_eqIntS xs xs = some true := by
  unfold laws_eqIntS
  rw [if_neg (by simp)]
  have h1 := eq_loop (fun a b => some (decide (a = b))) (fun a b => rfl) xs xs rfl (by omega)
  have h2 : loop (fun s : Int => laws_eqIntS.b0 xs xs s) 0 = some (if xs = xs then (.inl () : Unit ⊕ Bool) else .inr false) := by
    rw [← h1]; congr 1; funext s
    unfold laws_eqIntS.b0
    split
    · congr 1; funext a; congr 1; funext b
      by_cases e : a = b <;> simp [e]
    · rfl
  rw [h2, Option.bind_some, if_pos rfl]; rfl
end Go.Proofs.Ytcmbbpdepobnlaa
end

/- Edges and automata: copied as they are, held against each other. -/
section
namespace Go.Proofs.Ytcmbbpdepobnlaa
open Go Go.RowKit E
set_option linter.unusedVariables false

theorem toEdgeS_eq (xs : List TEdge) (h : xs.length ≤ 1048576) : laws_toEdgeS xs = some xs := by
  unfold laws_toEdgeS
  rw [mk_ok (by omega) (by omega), Option.bind_some, Int.toNat_natCast]
  have h1 := copy_loop (fun a => some (laws_toEdge a)) laws_toEdge (fun _ => rfl) (TEdge.mk 0 0 0 false) xs (by omega)
  have h2 : loop (fun s : List TEdge × Int => laws_toEdgeS.b0 xs s.1 s.2) (List.replicate xs.length (TEdge.mk 0 0 0 false), 0) = some (xs.map laws_toEdge) := h1
  rw [h2, Option.bind_some]
  have : xs.map laws_toEdge = xs := by
    have : laws_toEdge = id := rfl
    rw [this]; simp
  rw [this]; rfl
theorem eqEdge_eq (a b : TEdge) : laws_eqEdge a b = decide (a = b) := by
  unfold laws_eqEdge
  cases a; cases b
  simp only [TEdge.mk.injEq]
  repeat' split
  all_goals simp_all
theorem eqEdgeS_eq (xs ys : List TEdge) (h : xs.length ≤ 1048576) : laws_eqEdgeS xs ys = some (decide (xs = ys)) := by
  unfold laws_eqEdgeS
  split
  · rename_i k; rw [decide_eq_false]; intro e; subst e; exact k rfl
  · rename_i k
    have h1 := eq_loop (fun a b => some (laws_eqEdge a b)) (fun a b => by rw [eqEdge_eq]) xs ys (by omega) (by omega)
    have h2 : loop (fun s : Int => laws_eqEdgeS.b0 xs ys s) 0 = some (if xs = ys then (.inl () : Unit ⊕ Bool) else .inr false) := h1
    rw [h2, Option.bind_some]
    by_cases e : xs = ys
    · rw [if_pos e]; simp [e, laws_eqEdgeS.k0]
    · rw [if_neg e]; simp [e]
theorem toAuto_eq (a : TAuto) (h : a.edges.length ≤ 1048576) : laws_toAuto a = some a := by
  unfold laws_toAuto
  rw [toEdgeS_eq _ h, Option.bind_some]
theorem eqAuto_eq (a : TAuto) (h : a.edges.length ≤ 1048576) : laws_eqAuto a a = some true := by
  unfold laws_eqAuto
  rw [if_neg (by simp), if_neg (by simp), if_neg (by simp), eqEdgeS_eq _ _ h, Option.bind_some]
  simp
theorem szAuto_eq (a : TAuto) (h : a.edges.length ≤ 9223372036854775807) : laws_szAuto a 1048576 < 0 ↔ ¬ a.edges.length ≤ 1048576 := by
  unfold laws_szAuto laws_szEdgeS
  rw [W, W_eq (by omega) (by omega)]
  (repeat' split) <;> omega
end Go.Proofs.Ytcmbbpdepobnlaa
end

/- Edges marked. -/
section
namespace Go.Proofs.Ytcmbbpdepobnlaa
open Go Go.RowKit E
set_option linter.unusedVariables false

def markEL (c : Nat) : List TEdge → List TEdge
  | [] => []
  | _ :: r => TEdge.mk (c : Int) ((c : Int) + 1) ((c : Int) + 2) (decide (Int.tmod ((c : Int) + 3) 3 = 0)) :: markEL (c + 4) r
theorem markE_loop : ∀ (r pre : List TEdge) (c : Nat), c + 4 * r.length ≤ 1000000000 → pre.length + r.length ≤ 1000000000 → loop (fun s : List TEdge × Int × Int => laws_markEdgeS.b0 s.1 s.2.1 s.2.2) (pre ++ r, (c : Int), (pre.length : Int)) = some (((c + 4 * r.length : Nat) : Int), pre ++ markEL c r)
  | [], pre, c, _, _ => loop_end (by dsimp only; unfold laws_markEdgeS.b0; rw [if_neg (by simp)]; simp [markEL])
  | x :: r, pre, c, h1, h2 => by
    simp only [List.length_cons] at h1 h2
    have w1 : W ((c : Int) + 1) = (c : Int) + 1 := W_eq (by omega) (by omega)
    have w2 : W ((c : Int) + 1 + 1) = (c : Int) + 2 := by rw [W, W_eq (by omega) (by omega)]; omega
    have w3 : W ((c : Int) + 2 + 1) = (c : Int) + 3 := by rw [W, W_eq (by omega) (by omega)]; omega
    have w5 : W ((c : Int) + 3 + 1) = ((c + 4 : Nat) : Int) := by rw [W, W_eq (by omega) (by omega)]; omega
    have w4 : W ((pre.length : Int) + 1) = (((pre ++ [TEdge.mk (c : Int) ((c : Int) + 1) ((c : Int) + 2) (decide (Int.tmod ((c : Int) + 3) 3 = 0))]).length : Nat) : Int) := by rw [W, W_eq (by omega) (by omega)]; simp
    have ih := markE_loop r (pre ++ [TEdge.mk (c : Int) ((c : Int) + 1) ((c : Int) + 2) (decide (Int.tmod ((c : Int) + 3) 3 = 0))]) (c + 4) (by omega) (by simp; omega)
    rw [loop_go (s' := (pre ++ TEdge.mk (c : Int) ((c : Int) + 1) ((c : Int) + 2) (decide (Int.tmod ((c : Int) + 3) 3 = 0)) :: r, ((c + 4 : Nat) : Int), (((pre ++ [TEdge.mk (c : Int) ((c : Int) + 1) ((c : Int) + 2) (decide (Int.tmod ((c : Int) + 3) 3 = 0))]).length : Nat) : Int)))]
    · rw [List.append_assoc, List.singleton_append] at ih
      rw [ih]
      simp only [List.length_cons, markEL, List.append_assoc, List.singleton_append]
      rw [show c + 4 + 4 * r.length = c + 4 * (r.length + 1) by omega]
    · dsimp only; unfold laws_markEdgeS.b0
      rw [if_pos (by simp; omega)]
      simp only [ck_mid, Option.bind_some, set_mid, w1, w2, w3, w4, w5]
      simp
theorem markE_from (xs : List TEdge) (c : Nat) (h : xs.length ≤ 2000000) (hc : c ≤ 20000000) : laws_markEdgeS xs (c : Int) = some (((c + 4 * xs.length : Nat) : Int), markEL c xs) := by
  unfold laws_markEdgeS
  have := markE_loop xs [] c (by omega) (by simp; omega)
  simp only [List.nil_append] at this
  have e : loop (fun s : List TEdge × Int × Int => laws_markEdgeS.b0 s.1 s.2.1 s.2.2) (xs, (c : Int), 0) = _ := this
  rw [e]; rfl
theorem markAuto_eq (a : TAuto) (h : a.edges.length ≤ 2000000) : laws_markAuto a 1 = some (((1 + 4 * a.edges.length : Nat) : Int), { a with edges := markEL 1 a.edges }) := by
  unfold laws_markAuto
  have := markE_from a.edges 1 h (by omega)
  rw [show ((1 : Nat) : Int) = 1 from rfl] at this
  rw [this, Option.bind_some]
end Go.Proofs.Ytcmbbpdepobnlaa
end

/- The boxes of words: held against each other, marked, and few. -/
section
namespace Go.Proofs.Ytcmbbpdepobnlaa
open Go Go.RowKit E
set_option linter.unusedVariables false

theorem ix_midB {α : Type} [Inhabited α] (pre : List α) (x : α) (r : List α) : ix (pre ++ x :: r) (pre.length : Int) = some x := by
  unfold ix; rw [if_pos ⟨by omega, by simp; omega⟩, Int.toNat_natCast]; simp
theorem eqBoxed_self (x : TBoxed) (h : x.word.length ≤ 1000000 ∧ x.box.length ≤ 1000000) : laws_eqBoxed x x = some true := by
  unfold laws_eqBoxed
  rw [eqIntS_self _ (by omega), Option.bind_some, if_neg (by simp), eqIntS_self _ (by omega), Option.bind_some, if_neg (by simp)]
theorem eqBoxedS_loop : ∀ (r pre : List TBoxed), (∀ x ∈ r, x.word.length ≤ 1000000 ∧ x.box.length ≤ 1000000) → pre.length + r.length ≤ 1000000 → loop (fun s : Int => laws_eqBoxedS.b0 (pre ++ r) (pre ++ r) s) (pre.length : Int) = some (.inl ())
  | [], pre, _, _ => loop_end (by unfold laws_eqBoxedS.b0; rw [if_neg (by simp)])
  | x :: r, pre, h, hl => by
    simp only [List.length_cons] at hl
    have ih := eqBoxedS_loop r (pre ++ [x]) (fun y hy => h y (List.mem_cons_of_mem _ hy)) (by simp; omega)
    rw [List.append_assoc, List.singleton_append] at ih
    have w4 : W ((pre.length : Int) + 1) = (((pre ++ [x]).length : Nat) : Int) := by rw [W, W_eq (by omega) (by omega)]; simp
    rw [loop_go (s' := (((pre ++ [x]).length : Nat) : Int))]
    · exact ih
    · unfold laws_eqBoxedS.b0
      rw [if_pos (by simp; omega), ix_midB, Option.bind_some, Option.bind_some, eqBoxed_self x (h x List.mem_cons_self), Option.bind_some, if_neg (by simp), w4]
theorem eqBoxedS_self (xs : List TBoxed) (h : ∀ x ∈ xs, x.word.length ≤ 1000000 ∧ x.box.length ≤ 1000000) (hl : xs.length ≤ 1000000) : laws_eqBoxedS xs xs = some true := by
  unfold laws_eqBoxedS
  have h2 : loop (fun s : Int => laws_eqBoxedS.b0 xs xs s) 0 = some (.inl ()) := eqBoxedS_loop xs [] h (by simp; omega)
  rw [if_neg (by simp), h2, Option.bind_some]; rfl
def totB : List TBoxed → Nat
  | [] => 0
  | x :: r => x.word.length + x.box.length + totB r
def markB (c : Nat) : List TBoxed → List TBoxed
  | [] => []
  | x :: r => ⟨markIL c x.word, markIL (c + x.word.length) x.box⟩ :: markB (c + (x.word.length + x.box.length)) r
theorem heldBoxedS_loop : ∀ (r pre : List TBoxed) (c : Nat), c + totB r ≤ 2000000 → pre.length + r.length ≤ 1000000 → loop (fun s : Int × Int => laws_heldBoxedS.b0 (pre ++ markB c r) s.1 s.2) ((c : Int), (pre.length : Int)) = some (.inl ((c + totB r : Nat) : Int))
  | [], pre, c, _, _ => loop_end (by dsimp only; unfold laws_heldBoxedS.b0; rw [if_neg (by simp [markB])]; simp [totB])
  | x :: r, pre, c, h1, hl => by
    simp only [List.length_cons] at hl
    have h1 : c + (x.word.length + x.box.length + totB r) ≤ 2000000 := h1
    have ih := heldBoxedS_loop r (pre ++ [⟨markIL c x.word, markIL (c + x.word.length) x.box⟩]) (c + (x.word.length + x.box.length)) (by omega) (by simp; omega)
    rw [List.append_assoc, List.singleton_append] at ih
    have w4 : W ((pre.length : Int) + 1) = (((pre ++ [(⟨markIL c x.word, markIL (c + x.word.length) x.box⟩ : TBoxed)]).length : Nat) : Int) := by rw [W, W_eq (by omega) (by omega)]; simp
    unfold markB
    rw [loop_go (s' := (((c + (x.word.length + x.box.length) : Nat) : Int), (((pre ++ [(⟨markIL c x.word, markIL (c + x.word.length) x.box⟩ : TBoxed)]).length : Nat) : Int)))]
    · rw [ih, show c + (x.word.length + x.box.length) + totB r = c + totB (x :: r) by rw [show totB (x :: r) = x.word.length + x.box.length + totB r from rfl]; omega]
    · dsimp only; unfold laws_heldBoxedS.b0
      rw [if_pos (by simp; omega), ix_midB, Option.bind_some, heldI_from _ _ (by omega) (by omega), Option.bind_some, if_neg (by omega), Option.bind_some, heldI_from _ _ (by omega) (by omega), Option.bind_some, if_neg (by omega), w4, show c + x.word.length + x.box.length = c + (x.word.length + x.box.length) by omega]
theorem heldBoxedS_eq (xs : List TBoxed) (h : totB xs ≤ 1000000) (hl : xs.length ≤ 1000000) : laws_heldBoxedS (markB 1 xs) 1 = some ((1 + totB xs : Nat) : Int) := by
  unfold laws_heldBoxedS
  have h2 : loop (fun s : Int × Int => laws_heldBoxedS.b0 (markB 1 xs) s.1 s.2) (1, 0) = some (.inl ((1 + totB xs : Nat) : Int)) := heldBoxedS_loop xs [] 1 (by omega) (by simp; omega)
  rw [h2]; rfl
theorem totB_le : ∀ (xs : List TBoxed), (∀ x ∈ xs, x.word.length ≤ 40 ∧ x.box.length ≤ 16) → totB xs ≤ 56 * xs.length
  | [], _ => Nat.le_refl _
  | x :: r, h => by
    have h1 := h x List.mem_cons_self
    have h2 := totB_le r fun y hy => h y (List.mem_cons_of_mem _ hy)
    unfold totB; rw [List.length_cons]; omega
theorem bx_len16 {m : Nat} {x : List Int} (hm : 1 ≤ m ∧ m ≤ 4) (h : Bx m x) : x.length ≤ 16 := by
  rw [h.1]
  have : m = 1 ∨ m = 2 ∨ m = 3 ∨ m = 4 := by omega
  rcases this with rfl | rfl | rfl | rfl <;> decide
theorem boxesOf_small (a : TAuto) : (boxesOf a).1.length ≤ 150 ∧ ∀ x ∈ (boxesOf a).1, x.word.length ≤ 40 ∧ x.box.length ≤ 16 := by
  unfold boxesOf
  by_cases c : autoOk a = true ∧ (1 ≤ a.states ∧ a.states ≤ 4)
  · rw [if_pos c]
    cases e : twinsL a a with
    | none => exact ⟨Nat.zero_le _, fun x hx => by cases hx⟩
    | some L =>
      have hv := (VT.outer 150 0 (startT_v a a) (Nat.zero_le _) e).1
      refine ⟨by rw [List.length_map]; exact hv.len, fun x hx => ?_⟩
      obtain ⟨t, ht, rfl⟩ := List.mem_map.mp hx
      obtain ⟨h1, h2, _⟩ := hv.el t ht
      exact ⟨h1, bx_len16 (by omega) h2⟩
  · rw [if_neg c]; exact ⟨Nat.zero_le _, fun x hx => by cases hx⟩
end Go.Proofs.Ytcmbbpdepobnlaa
end
