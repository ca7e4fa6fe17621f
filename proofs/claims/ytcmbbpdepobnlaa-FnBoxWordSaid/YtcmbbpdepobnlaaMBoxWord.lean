/- Plain texts of FnBoxWord, put together. -/
import Derived.Test.YtcmbbpdepobnlaaDBoxWord
import Derived.Test.YtcmbbpdepobnlaaWf
import Derived.Test.YtcmbbpdepobnlaaQ1

/- Steps, marked or not, put together: what a few rounds reach is what all rounds reach. -/
section
namespace Go.Proofs.Ytcmbbpdepobnlaa.Takes
abbrev R := Nat → Nat → Prop
def comp (n : Nat) (X Y : R) : R := fun p q => ∃ r, r < n ∧ X p r ∧ Y r q
def PP (n : Nat) (A : R) : Nat → R
  | 0 => A
  | k + 1 => fun p q => PP n A k p q ∨ comp n (PP n A k) A p q
def TT (n : Nat) (A B : R) : Nat → R
  | 0 => B
  | k + 1 => fun p q => TT n A B k p q ∨ comp n (TT n A B k) A p q ∨ comp n (PP n A k) B p q
section
variable {n : Nat} {A B : R}
theorem P_mono {k j : Nat} (h : k ≤ j) {p q : Nat} (g : PP n A k p q) : PP n A j p q := by
  induction h with
  | refl => exact g
  | step _ ih => exact .inl ih
theorem T_mono {k j : Nat} (h : k ≤ j) {p q : Nat} (g : TT n A B k p q) : TT n A B j p q := by
  induction h with
  | refl => exact g
  | step _ ih => exact .inl ih
theorem P_comp (i : Nat) : ∀ (j : Nat) {p q : Nat}, comp n (PP n A i) (PP n A j) p q → PP n A (i + j + 1) p q
  | 0, p, q, h => .inr h
  | j + 1, p, q, ⟨r, hr, h1, h2⟩ => by
    rcases h2 with h2 | ⟨s, hs, h2, h3⟩
    · exact .inl (P_comp i j ⟨r, hr, h1, h2⟩)
    · exact .inr ⟨s, hs, P_comp i j ⟨r, hr, h1, h2⟩, h3⟩
theorem T_compP (i : Nat) : ∀ (j : Nat) {p q : Nat}, comp n (TT n A B i) (PP n A j) p q → TT n A B (i + j + 1) p q
  | 0, p, q, h => .inr (.inl h)
  | j + 1, p, q, ⟨r, hr, h1, h2⟩ => by
    rcases h2 with h2 | ⟨s, hs, h2, h3⟩
    · exact .inl (T_compP i j ⟨r, hr, h1, h2⟩)
    · exact .inr (.inl ⟨s, hs, T_compP i j ⟨r, hr, h1, h2⟩, h3⟩)
theorem P_compT (i : Nat) : ∀ (j : Nat) {p q : Nat}, comp n (PP n A i) (TT n A B j) p q → TT n A B (i + j + 1) p q
  | 0, p, q, h => .inr (.inr h)
  | j + 1, p, q, ⟨r, hr, h1, h2⟩ => by
    rcases h2 with h2 | ⟨s, hs, h2, h3⟩ | ⟨s, hs, h2, h3⟩
    · exact .inl (P_compT i j ⟨r, hr, h1, h2⟩)
    · exact .inr (.inl ⟨s, hs, P_compT i j ⟨r, hr, h1, h2⟩, h3⟩)
    · exact .inr (.inr ⟨s, hs, P_comp i j ⟨r, hr, h1, h2⟩, h3⟩)
/-- A marked way is a way, a marked step, and a way. -/
theorem T_split : ∀ (j : Nat) {p q : Nat}, q < n → TT n A B j p q → ∃ u v, (u = p ∨ u < n ∧ PP n A j p u) ∧ B u v ∧ v < n ∧ (v = q ∨ PP n A j v q)
  | 0, p, q, hq, h => ⟨p, q, .inl rfl, h, hq, .inl rfl⟩
  | j + 1, p, q, hq, h => by
    rcases h with h | ⟨r, hr, h1, h2⟩ | ⟨r, hr, h1, h2⟩
    · obtain ⟨u, v, g1, g2, gv, g3⟩ := T_split j hq h
      exact ⟨u, v, g1.imp id (fun x => ⟨x.1, .inl x.2⟩), g2, gv, g3.imp id .inl⟩
    · obtain ⟨u, v, g1, g2, gv, g3⟩ := T_split j hr h1
      refine ⟨u, v, g1.imp id (fun x => ⟨x.1, .inl x.2⟩), g2, gv, .inr ?_⟩
      rcases g3 with rfl | g3
      · exact P_mono (Nat.zero_le (j + 1)) h2
      · exact .inr ⟨r, hr, g3, h2⟩
    · exact ⟨r, q, .inr ⟨hr, .inl h1⟩, h2, hq, .inl rfl⟩

/-- A row that grows no more never grows again. -/
theorem row_still {p k : Nat} (h : ∀ q, q < n → PP n A (k + 1) p q → PP n A k p q) : ∀ j, ∀ q, q < n → PP n A (k + j) p q → PP n A k p q
  | 0, q, _, g => g
  | j + 1, q, hq, g => by
    rcases g with g | ⟨r, hr, g1, g2⟩
    · exact row_still h j q hq g
    · exact h q hq (.inr ⟨r, hr, row_still h j r hr g1, g2⟩)
open Classical in
noncomputable def size (n : Nat) (A : R) (k p : Nat) : Nat := (List.range n).countP fun q => decide (PP n A k p q)
theorem count_le {l : List Nat} {a b : Nat → Bool} (h : ∀ x ∈ l, a x = true → b x = true) : l.countP a ≤ l.countP b := List.countP_mono_left h
theorem count_eq : ∀ {l : List Nat} {a b : Nat → Bool}, (∀ x ∈ l, a x = true → b x = true) → l.countP b ≤ l.countP a → ∀ x ∈ l, b x = true → a x = true
  | [], _, _, _, _, x, hx, _ => by simp at hx
  | y :: l, a, b, h, hc, x, hx, hb => by
    have ih := count_eq (l := l) (a := a) (b := b) fun z hz => h z (List.mem_cons_of_mem _ hz)
    have hle := count_le (l := l) (a := a) (b := b) fun z hz => h z (List.mem_cons_of_mem _ hz)
    rw [List.countP_cons, List.countP_cons] at hc
    have hy := h y List.mem_cons_self
    cases ha : a y with
    | true =>
      rw [ha, hy ha] at hc
      rcases List.mem_cons.mp hx with rfl | hx
      · exact ha
      · exact ih (by simp at hc; omega) x hx hb
    | false =>
      rw [ha] at hc
      cases hby : b y with
      | true => rw [hby] at hc; simp at hc; omega
      | false =>
        rw [hby] at hc
        rcases List.mem_cons.mp hx with rfl | hx
        · rw [hby] at hb; cases hb
        · exact ih (by simp at hc; omega) x hx hb
theorem size_lt {k p : Nat} (h : ¬ ∀ q, q < n → PP n A (k + 1) p q → PP n A k p q) : size n A k p < size n A (k + 1) p := by
  classical
  refine Nat.lt_of_not_le fun hc => h fun q hq g => ?_
  have := count_eq (l := List.range n) (a := fun q => decide (PP n A k p q)) (b := fun q => decide (PP n A (k + 1) p q))
    (fun x _ hx => by simp only [decide_eq_true_eq] at hx ⊢; exact .inl hx) hc q (List.mem_range.mpr hq) (by simpa using g)
  simpa using this
theorem size_le (k p : Nat) : size n A k p ≤ n := by
  unfold size
  exact Nat.le_trans List.countP_le_length (by simp)
theorem size_grow {p : Nat} : ∀ (k : Nat), (∀ i, i < k → ¬ ∀ q, q < n → PP n A (i + 1) p q → PP n A i p q) → size n A 0 p + k ≤ size n A k p
  | 0, _ => Nat.le_refl _
  | k + 1, h => by
    have := size_grow k fun i hi => h i (by omega)
    have := size_lt (h k (by omega))
    omega
/-- All that is reached is reached in n - 1 more steps. -/
theorem reach {p q j : Nat} (hq : q < n) (h : PP n A j p q) : PP n A (n - 1) p q := by
  classical
  by_cases hs : ∃ i, i < n ∧ ∀ q, q < n → PP n A (i + 1) p q → PP n A i p q
  · obtain ⟨i, hi, hs⟩ := hs
    have : PP n A i p q := by
      by_cases hj : j ≤ i
      · exact P_mono hj h
      · have := row_still hs (j - i) q hq
        rw [show i + (j - i) = j by omega] at this
        exact this h
    exact P_mono (by omega) this
  · have hg := size_grow (n := n) (A := A) (p := p) n fun i hi k => hs ⟨i, hi, k⟩
    have hl := size_le (n := n) (A := A) n p
    have h0 : size n A 0 p = 0 := by omega
    -- nothing at all is reached
    have none : ∀ j, ∀ q, q < n → ¬ PP n A j p q := by
      intro j
      induction j with
      | zero =>
        intro q hq g
        unfold size at h0
        rw [List.countP_eq_zero] at h0
        exact h0 q (List.mem_range.mpr hq) (by simpa using g)
      | succ j ih =>
        intro q hq g
        rcases g with g | ⟨r, hr, g1, _⟩
        · exact ih q hq g
        · exact ih r hr g1
    exact absurd h (none j q hq)

/-- Where nothing changes any more, nothing ever changes. -/
theorem still {K : Nat} (hP : ∀ p q, p < n → q < n → PP n A (K + 1) p q → PP n A K p q) (hT : ∀ p q, p < n → q < n → TT n A B (K + 1) p q → TT n A B K p q) :
    ∀ j p q, p < n → q < n → (PP n A j p q → PP n A K p q) ∧ (TT n A B j p q → TT n A B K p q) := by
  have P : ∀ j p q, p < n → q < n → PP n A j p q → PP n A K p q := by
    intro j p q hp hq h
    by_cases hj : j ≤ K
    · exact P_mono hj h
    · have := row_still (fun q hq => hP p q hp hq) (j - K) q hq
      rw [show K + (j - K) = j by omega] at this
      exact this h
  have T : ∀ j p q, p < n → q < n → TT n A B j p q → TT n A B K p q := by
    intro j
    induction j with
    | zero => intro p q _ _ h; exact T_mono (Nat.zero_le _) h
    | succ j ih =>
      intro p q hp hq h
      rcases h with h | ⟨r, hr, h1, h2⟩ | ⟨r, hr, h1, h2⟩
      · exact ih p q hp hq h
      · exact hT p q hp hq (.inr (.inl ⟨r, hr, ih p r hp hr h1, h2⟩))
      · exact hT p q hp hq (.inr (.inr ⟨r, hr, P j p r hp hr h1, h2⟩))
  exact fun j p q hp hq => ⟨P j p q hp hq, T j p q hp hq⟩

/-- The reference's loops: the table of n rounds, put behind itself twice. -/
def LP (n : Nat) (A : R) : R := fun p q => PP n A n p q ∨ comp n (PP n A n) (PP n A n) p q
def LT1 (n : Nat) (A B : R) : R := fun p q => TT n A B n p q ∨ comp n (TT n A B n) (PP n A n) p q ∨ comp n (PP n A n) (TT n A B n) p q
def LT2 (n : Nat) (A B : R) : R := fun p q => LT1 n A B p q ∨ comp n (LT1 n A B) (PP n A n) p q ∨ comp n (LP n A) (TT n A B n) p q
theorem LP_sound {p q : Nat} (h : LP n A p q) : PP n A (n + n + 1) p q := by
  rcases h with h | h
  · exact P_mono (by omega) h
  · exact P_comp n n h
theorem LT1_sound {p q : Nat} (h : LT1 n A B p q) : TT n A B (n + n + 1) p q := by
  rcases h with h | h | h
  · exact T_mono (by omega) h
  · exact T_compP n n h
  · exact P_compT n n h
theorem LT2_sound {p q : Nat} (h : LT2 n A B p q) : TT n A B (n + n + 1 + n + 1) p q := by
  rcases h with h | ⟨r, hr, h1, h2⟩ | ⟨r, hr, h1, h2⟩
  · exact T_mono (by omega) (LT1_sound h)
  · exact T_compP _ n ⟨r, hr, LT1_sound h1, h2⟩
  · exact P_compT _ n ⟨r, hr, LP_sound h1, h2⟩
theorem reach_iff {K : Nat} (hP : ∀ p q, p < n → q < n → PP n A (K + 1) p q → PP n A K p q) (hT : ∀ p q, p < n → q < n → TT n A B (K + 1) p q → TT n A B K p q) {p q : Nat} (hp : p < n) (hq : q < n) : PP n A K p q ↔ PP n A n p q :=
  ⟨fun h => P_mono (by omega) (reach hq h), fun h => (still hP hT n p q hp hq).1 h⟩
theorem loop_iff {K : Nat} (hP : ∀ p q, p < n → q < n → PP n A (K + 1) p q → PP n A K p q) (hT : ∀ p q, p < n → q < n → TT n A B (K + 1) p q → TT n A B K p q) {q : Nat} (hq : q < n) : TT n A B K q q ↔ LT2 n A B q q := by
  constructor
  · intro h
    obtain ⟨u, v, g1, g2, gv, g3⟩ := T_split K hq h
    have h1 : TT n A B n q v := by
      rcases g1 with rfl | ⟨hu, g1⟩
      · exact T_mono (Nat.zero_le _) g2
      · have := reach hu g1
        have k : TT n A B (n - 1 + 1) q v := .inr (.inr ⟨u, hu, this, g2⟩)
        rw [show n - 1 + 1 = n by omega] at k
        exact k
    rcases g3 with rfl | g3
    · exact .inl (.inl h1)
    · exact .inl (.inr (.inl ⟨v, gv, h1, P_mono (by omega) (reach hq g3)⟩))
  · intro h
    exact (still hP hT _ q q hq hq).2 (LT2_sound h)
end
end Go.Proofs.Ytcmbbpdepobnlaa.Takes
end

/- Boxes put together, told cell by cell. -/
section
namespace Go.Proofs.Ytcmbbpdepobnlaa
open Go Go.RowKit E
set_option linter.unusedVariables false
def mulC (x y : List Int) (m p q : Nat) : Nat → Int
  | 0 => 0
  | r + 1 => if 0 < x.getD (p * m + r) 0 ∧ 0 < y.getD (r * m + q) 0 then max (mulC x y m p q r) (max (x.getD (p * m + r) 0) (y.getD (r * m + q) 0)) else mulC x y m p q r
def boxMulL (m : Nat) (x y : List Int) : List Int := (List.range (m * m)).map fun i => mulC x y m (i / m) (i % m) m
theorem boxMulL_len (m : Nat) (x y : List Int) : (boxMulL m x y).length = m * m := by simp [boxMulL]
/-- A table of m rows of m, told cell by cell. -/
def TabL (zs : List Int) (m : Nat) (g : Nat → Nat → Int) : Prop := zs.length = m * m ∧ ∀ a b, a < m → b < m → zs.getD (a * m + b) 0 = g a b
theorem cell_inj {m a b p q : Nat} (hb : b < m) (hq : q < m) : a * m + b = p * m + q ↔ a = p ∧ b = q := by
  constructor
  · intro h
    have h1 : (a * m + b) / m = a := by rw [Nat.mul_comm, Nat.mul_add_div (by omega), Nat.div_eq_of_lt hb, Nat.add_zero]
    have h2 : (p * m + q) / m = p := by rw [Nat.mul_comm, Nat.mul_add_div (by omega), Nat.div_eq_of_lt hq, Nat.add_zero]
    have : a = p := by rw [← h1, ← h2, h]
    subst this; exact ⟨rfl, by omega⟩
  · rintro ⟨rfl, rfl⟩; rfl
theorem cell_lt {m p q : Nat} (hp : p < m) (hq : q < m) : p * m + q < m * m := by
  have : p * m + m ≤ m * m := by rw [← Nat.succ_mul]; exact Nat.mul_le_mul_right m hp
  omega
theorem TabL.zero (m : Nat) {n : Nat} (h : n = m * m) (g : Nat → Nat → Int) (hg : ∀ a b, a < m → b < m → g a b = 0) : TabL (List.replicate n 0) m g := by
  subst h
  refine ⟨by simp, fun a b ha hb => ?_⟩
  rw [hg a b ha hb]
  have := cell_lt ha hb
  simp [this]
theorem TabL.set {zs : List Int} {m p q : Nat} {g : Nat → Nat → Int} {v : Int} (h : TabL zs m g) (hp : p < m) (hq : q < m) : TabL (zs.set (p * m + q) v) m (fun a b => if a = p ∧ b = q then v else g a b) := by
  obtain ⟨h1, h2⟩ := h
  refine ⟨by simp [h1], fun a b ha hb => ?_⟩
  have hl := cell_lt hp hq
  by_cases e : a = p ∧ b = q
  · show _ = if a = p ∧ b = q then v else g a b
    obtain ⟨rfl, rfl⟩ := e
    simp [h1, hl]
  · show _ = if a = p ∧ b = q then v else g a b
    rw [if_neg e, ← h2 a b ha hb]
    have : p * m + q ≠ a * m + b := fun k => e ((cell_inj hb hq).mp k.symm)
    simp [List.getD, List.getElem?_set_ne this]
theorem TabL.congr {zs : List Int} {m : Nat} {g g' : Nat → Nat → Int} (h : TabL zs m g) (k : ∀ a b, a < m → b < m → g a b = g' a b) : TabL zs m g' := ⟨h.1, fun a b ha hb => by rw [h.2 a b ha hb, k a b ha hb]⟩
theorem TabL.ext {zs ys : List Int} {m : Nat} {g : Nat → Nat → Int} (h : TabL zs m g) (k : TabL ys m g) : zs = ys := by
  apply List.ext_getElem (by rw [h.1, k.1])
  intro j g1 g2
  have hm : 0 < m := by
    rcases Nat.eq_zero_or_pos m with rfl | hm
    · rw [h.1] at g1; simp at g1
    · exact hm
  have hj : j / m < m := Nat.div_lt_of_lt_mul (by rw [← h.1]; exact g1)
  have e := h.2 (j / m) (j % m) hj (Nat.mod_lt _ hm)
  rw [← k.2 (j / m) (j % m) hj (Nat.mod_lt _ hm), show j / m * m + j % m = j from by rw [Nat.mul_comm]; exact Nat.div_add_mod j m] at e
  simpa [g1, g2] using e
theorem TabL.mul (m : Nat) (x y : List Int) : TabL (boxMulL m x y) m (fun a b => mulC x y m a b m) := by
  refine ⟨by simp [boxMulL], fun a b ha hb => ?_⟩
  have hl := cell_lt ha hb
  have h1 : (a * m + b) / m = a := by rw [Nat.mul_comm, Nat.mul_add_div (by omega), Nat.div_eq_of_lt hb, Nat.add_zero]
  have h2 : (a * m + b) % m = b := by rw [Nat.mul_comm, Nat.mul_add_mod, Nat.mod_eq_of_lt hb]
  simp [boxMulL, hl, h1, h2]
def valS (x y : List Int) (m p q r a b : Nat) : Int := if a < p ∨ a = p ∧ b < q then mulC x y m a b m else if a = p ∧ b = q then mulC x y m a b r else 0
def valI (x y : List Int) (m p r q a b : Nat) : Int := if a < p then mulC x y m a b m else if a = p then (if b < q then mulC x y m a b (r + 1) else mulC x y m a b r) else 0
theorem pq4 {m p q : Nat} (h : 1 ≤ m ∧ m ≤ 4) (hp : p < m) (hq : q < m) : ((p : Int) * m + q) = ((p * m + q : Nat) : Int) ∧ p * m + q < m * m ∧ 0 ≤ (p : Int) * m ∧ (p : Int) * m ≤ 16 := by
  refine ⟨by simp, cell_lt hp hq, ?_⟩
  have : m = 1 ∨ m = 2 ∨ m = 3 ∨ m = 4 := by omega
  rcases this with rfl | rfl | rfl | rfl <;> omega
section
variable {x y zs : List Int} {m p q r : Nat}
theorem valS_0 : ∀ a b, a < m → b < m → valS x y m 0 0 0 a b = 0 := by
  intro a b _ _; unfold valS; split
  · omega
  · split <;> rfl
theorem valS_q (h : TabL zs m (valS x y m p q r)) (hr : r = m) : TabL zs m (valS x y m p (q + 1) 0) := h.congr fun a b ha hb => by
  subst hr; unfold valS
  by_cases h1 : a < p ∨ a = p ∧ b < q
  · rw [if_pos h1, if_pos (by omega)]
  · rw [if_neg h1]
    by_cases h2 : a = p ∧ b = q
    · rw [if_pos h2, if_pos (by omega)]
    · rw [if_neg h2, if_neg (by omega)]; split <;> rfl
theorem valS_p (h : TabL zs m (valS x y m p q 0)) (hq : q = m) : TabL zs m (valS x y m (p + 1) 0 0) := h.congr fun a b ha hb => by
  subst hq; unfold valS
  by_cases h1 : a < p ∨ a = p ∧ b < q
  · rw [if_pos h1, if_pos (by omega)]
  · rw [if_neg h1, if_neg (by omega), if_neg (by omega)]; split <;> rfl
theorem valS_end (h : TabL zs m (valS x y m p 0 0)) (hp : p = m) : zs = boxMulL m x y := by
  refine TabL.ext (h.congr fun a b ha hb => ?_) (TabL.mul m x y)
  unfold valS; rw [if_pos (by omega)]
theorem valS_get (h : TabL zs m (valS x y m p q r)) (hp : p < m) (hq : q < m) : zs.getD (p * m + q) 0 = mulC x y m p q r := by
  rw [h.2 p q hp hq]; unfold valS; rw [if_neg (by omega), if_pos ⟨rfl, rfl⟩]
theorem valS_yes (h : TabL zs m (valS x y m p q r)) (hp : p < m) (hq : q < m) (h1 : x.getD (p * m + r) 0 > 0) (h2 : y.getD (r * m + q) 0 > 0) :
    TabL (zs.set (p * m + q) (max (zs.getD (p * m + q) 0) (max (x.getD (p * m + r) 0) (y.getD (r * m + q) 0)))) m (valS x y m p q (r + 1)) := (h.set hp hq).congr fun a b ha hb => by
  rw [valS_get h hp hq]
  by_cases e : a = p ∧ b = q
  · obtain ⟨rfl, rfl⟩ := e
    rw [if_pos ⟨rfl, rfl⟩]; unfold valS; rw [if_neg (by omega), if_pos ⟨rfl, rfl⟩, mulC, if_pos ⟨h1, h2⟩]
  · rw [if_neg e]; unfold valS; rw [if_neg e, if_neg e]
theorem valS_no (h : TabL zs m (valS x y m p q r)) (hn : ¬ (x.getD (p * m + r) 0 > 0 ∧ y.getD (r * m + q) 0 > 0)) : TabL zs m (valS x y m p q (r + 1)) := h.congr fun a b ha hb => by
  unfold valS
  by_cases e : a = p ∧ b = q
  · obtain ⟨rfl, rfl⟩ := e
    rw [if_neg (by omega), if_pos ⟨rfl, rfl⟩, if_neg (by omega), if_pos ⟨rfl, rfl⟩, mulC, if_neg (fun k => hn k)]
  · rw [if_neg e, if_neg e]
theorem valI_0 : ∀ a b, a < m → b < m → valI x y m 0 0 0 a b = 0 := by
  intro a b _ _; unfold valI; simp [mulC]
theorem valI_r (h : TabL zs m (valI x y m p r q)) (hq : q = m) : TabL zs m (valI x y m p (r + 1) 0) := h.congr fun a b ha hb => by
  subst hq; unfold valI; simp [hb]
theorem valI_p (h : TabL zs m (valI x y m p r 0)) (hr : r = m) : TabL zs m (valI x y m (p + 1) 0 0) := h.congr fun a b ha hb => by
  subst hr; unfold valI
  by_cases h1 : a < p
  · rw [if_pos h1, if_pos (by omega)]
  · rw [if_neg h1]
    by_cases h2 : a = p
    · rw [if_pos h2, if_neg (by omega), if_pos (by omega)]
    · rw [if_neg h2, if_neg (by omega)]; simp [mulC]
theorem valI_end (h : TabL zs m (valI x y m p 0 0)) (hp : p = m) : zs = boxMulL m x y := by
  refine TabL.ext (h.congr fun a b ha hb => ?_) (TabL.mul m x y)
  unfold valI; rw [if_pos (by omega)]
theorem valI_get (h : TabL zs m (valI x y m p r q)) (hp : p < m) (hq : q < m) : zs.getD (p * m + q) 0 = mulC x y m p q r := by
  rw [h.2 p q hp hq]; unfold valI; rw [if_neg (by omega), if_pos rfl, if_neg (by omega)]
theorem valI_skip (h : TabL zs m (valI x y m p r 0)) (h1 : x.getD (p * m + r) 0 = 0) : TabL zs m (valI x y m p (r + 1) 0) := h.congr fun a b ha hb => by
  unfold valI
  by_cases e : a = p
  · subst e
    have hm : mulC x y m a b (r + 1) = mulC x y m a b r := by rw [mulC, if_neg (by omega)]
    simp only [Nat.lt_irrefl, if_false, if_true, Nat.not_lt_zero, hm]
  · simp only [e, if_false]
theorem valI_no (h : TabL zs m (valI x y m p r q)) (h2 : ¬ y.getD (r * m + q) 0 ≠ 0) : TabL zs m (valI x y m p r (q + 1)) := h.congr fun a b ha hb => by
  have h2 : y.getD (r * m + q) 0 = 0 := by omega
  unfold valI
  by_cases e : a = p
  · subst e
    by_cases e2 : b = q
    · subst e2
      have hm : mulC x y m a b (r + 1) = mulC x y m a b r := by rw [mulC, if_neg (by omega)]
      simp only [Nat.lt_irrefl, if_false, if_true, Nat.lt_succ_self, hm]
    · by_cases e3 : b < q
      · rw [if_neg (by omega), if_pos rfl, if_pos e3, if_neg (by omega), if_pos rfl, if_pos (by omega)]
      · rw [if_neg (by omega), if_pos rfl, if_neg e3, if_neg (by omega), if_pos rfl, if_neg (by omega)]
  · simp [e]
theorem max3 (a b c : Int) : (if c > (if b > a then b else a) then c else (if b > a then b else a)) = max a (max b c) := by
  split <;> split <;> omega
theorem valI_yes {v : Int} (h : TabL zs m (valI x y m p r q)) (hp : p < m) (hq : q < m) (h1 : 0 < x.getD (p * m + r) 0) (h2 : 0 < y.getD (r * m + q) 0)
    (hv : v = max (zs.getD (p * m + q) 0) (max (x.getD (p * m + r) 0) (y.getD (r * m + q) 0))) : TabL (zs.set (p * m + q) v) m (valI x y m p r (q + 1)) := (h.set hp hq).congr fun a b ha hb => by
  subst hv
  rw [valI_get h hp hq]
  by_cases e : a = p ∧ b = q
  · obtain ⟨rfl, rfl⟩ := e
    rw [if_pos ⟨rfl, rfl⟩]; unfold valI; rw [if_neg (by omega), if_pos rfl, if_pos (by omega), mulC, if_pos ⟨h1, h2⟩]
  · rw [if_neg e]; unfold valI
    by_cases e1 : a = p
    · subst e1
      by_cases e3 : b < q
      · rw [if_neg (by omega), if_pos rfl, if_pos e3, if_neg (by omega), if_pos rfl, if_pos (by omega)]
      · rw [if_neg (by omega), if_pos rfl, if_neg e3, if_neg (by omega), if_pos rfl, if_neg (by omega)]
    · simp [e1]
end
end Go.Proofs.Ytcmbbpdepobnlaa
end

/- Boxes as tables of steps: what BoxTakes computes, told by ways. -/
section
namespace Go.Proofs.Ytcmbbpdepobnlaa
open Takes
set_option linter.unusedVariables false
def mxL (x y : List Int) : List Int := List.zipWith max x y
def ent (m : Nat) (z : List Int) (p q : Nat) : Int := z.getD (p * m + q) 0
def Bx (m : Nat) (z : List Int) : Prop := z.length = m * m ∧ ∀ i, 0 ≤ z.getD i 0 ∧ z.getD i 0 ≤ 2
def Rl (m : Nat) (z : List Int) (P T : R) : Prop := ∀ p q, p < m → q < m → (0 < ent m z p q ↔ P p q) ∧ (ent m z p q = 2 ↔ T p q)
theorem mulC_iff (x y : List Int) (m p q : Nat) : ∀ k, 0 < mulC x y m p q k ↔ ∃ r, r < k ∧ 0 < x.getD (p * m + r) 0 ∧ 0 < y.getD (r * m + q) 0
  | 0 => ⟨fun h => absurd h (by simp [mulC]), fun ⟨r, h, _⟩ => absurd h (by omega)⟩
  | k + 1 => by
    have ih := mulC_iff x y m p q k
    rw [mulC]
    split
    · rename_i h
      exact ⟨fun _ => ⟨k, by omega, h.1, h.2⟩, fun _ => by omega⟩
    · rename_i h
      rw [ih]
      constructor
      · rintro ⟨r, hr, g⟩; exact ⟨r, by omega, g⟩
      · rintro ⟨r, hr, g⟩
        by_cases e : r = k
        · subst e; exact absurd g h
        · exact ⟨r, by omega, g⟩
theorem mulC_le {x y : List Int} (hx : ∀ i, x.getD i 0 ≤ 2) (hy : ∀ i, y.getD i 0 ≤ 2) (m p q : Nat) : ∀ k, 0 ≤ mulC x y m p q k ∧ mulC x y m p q k ≤ 2
  | 0 => by simp [mulC]
  | k + 1 => by
    have ih := mulC_le hx hy m p q k
    have h1 := hx (p * m + k)
    have h2 := hy (k * m + q)
    rw [mulC]
    split <;> omega
theorem mulC_two {x y : List Int} (hx : ∀ i, x.getD i 0 ≤ 2) (hy : ∀ i, y.getD i 0 ≤ 2) (m p q : Nat) : ∀ k, mulC x y m p q k = 2 ↔ ∃ r, r < k ∧ (0 < x.getD (p * m + r) 0 ∧ 0 < y.getD (r * m + q) 0) ∧ (x.getD (p * m + r) 0 = 2 ∨ y.getD (r * m + q) 0 = 2)
  | 0 => ⟨fun h => absurd h (by simp [mulC]), fun ⟨r, h, _⟩ => absurd h (by omega)⟩
  | k + 1 => by
    have ih := mulC_two hx hy m p q k
    have hle := mulC_le hx hy m p q k
    have h1 := hx (p * m + k)
    have h2 := hy (k * m + q)
    rw [mulC]
    split
    · rename_i h
      constructor
      · intro e
        by_cases e' : mulC x y m p q k = 2
        · obtain ⟨r, hr, g⟩ := ih.mp e'; exact ⟨r, by omega, g⟩
        · exact ⟨k, by omega, h, by omega⟩
      · rintro ⟨r, hr, g1, g2⟩
        by_cases e' : r = k
        · subst e'; omega
        · have := ih.mpr ⟨r, by omega, g1, g2⟩; omega
    · rename_i h
      rw [ih]
      constructor
      · rintro ⟨r, hr, g⟩; exact ⟨r, by omega, g⟩
      · rintro ⟨r, hr, g⟩
        by_cases e : r = k
        · subst e; exact absurd g.1 h
        · exact ⟨r, by omega, g⟩
theorem mx_len {x y : List Int} (h : x.length = y.length) : (mxL x y).length = x.length := by simp [mxL, h]
theorem mx_get {x y : List Int} (h : x.length = y.length) (i : Nat) : (mxL x y).getD i 0 = max (x.getD i 0) (y.getD i 0) := by
  by_cases hi : i < x.length
  · have hi' : i < y.length := by omega
    simp [mxL, List.getD, List.getElem?_zipWith, hi, hi']
  · have hi' : ¬ i < y.length := by omega
    simp [List.getD, List.getElem?_eq_none (by rw [mx_len h]; omega : (mxL x y).length ≤ i), List.getElem?_eq_none (by omega : x.length ≤ i), List.getElem?_eq_none (by omega : y.length ≤ i)]
theorem mul_ent (m : Nat) (x y : List Int) {p q : Nat} (hp : p < m) (hq : q < m) : ent m (boxMulL m x y) p q = mulC x y m p q m := (TabL.mul m x y).2 p q hp hq
theorem mul_bx {m : Nat} {x y : List Int} (hx : Bx m x) (hy : Bx m y) : Bx m (boxMulL m x y) := by
  refine ⟨boxMulL_len m x y, fun i => ?_⟩
  unfold boxMulL
  by_cases h : i < m * m
  · simp only [List.getD, List.getElem?_map, List.getElem?_range h, Option.map_some, Option.getD_some]
    exact mulC_le (fun i => (hx.2 i).2) (fun i => (hy.2 i).2) _ _ _ _
  · simp [List.getD, h]
theorem mx_bx {m : Nat} {x y : List Int} (hx : Bx m x) (hy : Bx m y) : Bx m (mxL x y) := by
  have e : x.length = y.length := by rw [hx.1, hy.1]
  refine ⟨by rw [mx_len e, hx.1], fun i => ?_⟩
  rw [mx_get e]
  have h1 := hx.2 i
  have h2 := hy.2 i
  omega
theorem Rl.step {m : Nat} {z y : List Int} {P T A B : R} (hz : Bx m z) (hy : Bx m y) (h : Rl m z P T) (k : Rl m y A B) :
    Rl m (mxL z (boxMulL m z y)) (fun p q => P p q ∨ comp m P A p q) (fun p q => T p q ∨ comp m T A p q ∨ comp m P B p q) := by
  intro p q hp hq
  have hb := mul_bx hz hy
  have e : ent m (mxL z (boxMulL m z y)) p q = max (ent m z p q) (mulC z y m p q m) := by
    rw [← mul_ent m z y hp hq]; exact mx_get (by rw [hz.1, hb.1]) _
  have h0 := h p q hp hq
  have g1 := hz.2 (p * m + q)
  have g2 := mulC_le (fun i => (hz.2 i).2) (fun i => (hy.2 i).2) m p q m
  have e1 : 0 < mulC z y m p q m ↔ comp m P A p q := by
    rw [mulC_iff]
    exact ⟨fun ⟨r, hr, a, b⟩ => ⟨r, hr, (h p r hp hr).1.mp a, (k r q hr hq).1.mp b⟩, fun ⟨r, hr, a, b⟩ => ⟨r, hr, (h p r hp hr).1.mpr a, (k r q hr hq).1.mpr b⟩⟩
  have e2 : mulC z y m p q m = 2 ↔ comp m T A p q ∨ comp m P B p q := by
    rw [mulC_two (fun i => (hz.2 i).2) (fun i => (hy.2 i).2)]
    constructor
    · rintro ⟨r, hr, ⟨a, b⟩, c | c⟩
      · exact .inl ⟨r, hr, (h p r hp hr).2.mp c, (k r q hr hq).1.mp b⟩
      · exact .inr ⟨r, hr, (h p r hp hr).1.mp a, (k r q hr hq).2.mp c⟩
    · rintro (⟨r, hr, a, b⟩ | ⟨r, hr, a, b⟩)
      · have a' := (h p r hp hr).2.mpr a
        unfold ent at a'
        exact ⟨r, hr, ⟨by omega, (k r q hr hq).1.mpr b⟩, .inl a'⟩
      · have b' := (k r q hr hq).2.mpr b
        unfold ent at b'
        exact ⟨r, hr, ⟨(h p r hp hr).1.mpr a, by omega⟩, .inr b'⟩
  rw [e]
  unfold ent at h0 ⊢
  constructor
  · show _ ↔ (P p q ∨ comp m P A p q)
    rw [← h0.1, ← e1]; omega
  · show _ ↔ (T p q ∨ comp m T A p q ∨ comp m P B p q)
    rw [← h0.2, ← e2]; omega
def iterL (m : Nat) (y : List Int) : Nat → List Int
  | 0 => y
  | k + 1 => mxL (iterL m y k) (boxMulL m (iterL m y k) y)
theorem iter_bx {m : Nat} {y : List Int} (hy : Bx m y) : ∀ k, Bx m (iterL m y k)
  | 0 => hy
  | k + 1 => mx_bx (iter_bx hy k) (mul_bx (iter_bx hy k) hy)
def ARel (m : Nat) (y : List Int) : R := fun p q => 0 < ent m y p q
def BRel (m : Nat) (y : List Int) : R := fun p q => ent m y p q = 2
theorem iter_rl {m : Nat} {y : List Int} (hy : Bx m y) : ∀ k, Rl m (iterL m y k) (PP m (ARel m y) k) (TT m (ARel m y) (BRel m y) k)
  | 0 => fun p q _ _ => ⟨Iff.rfl, Iff.rfl⟩
  | k + 1 => Rl.step (iter_bx hy k) hy (iter_rl hy k) (fun p q _ _ => ⟨Iff.rfl, Iff.rfl⟩)
/-- The reference's loops. -/
def loop1 (m : Nat) (y : List Int) : List Int := mxL (iterL m y m) (boxMulL m (iterL m y m) (iterL m y m))
def loop2 (m : Nat) (y : List Int) : List Int := mxL (loop1 m y) (boxMulL m (loop1 m y) (iterL m y m))
theorem loop1_bx {m : Nat} {y : List Int} (hy : Bx m y) : Bx m (loop1 m y) := mx_bx (iter_bx hy m) (mul_bx (iter_bx hy m) (iter_bx hy m))
theorem loop2_bx {m : Nat} {y : List Int} (hy : Bx m y) : Bx m (loop2 m y) := mx_bx (loop1_bx hy) (mul_bx (loop1_bx hy) (iter_bx hy m))
theorem loop1_rl {m : Nat} {y : List Int} (hy : Bx m y) : Rl m (loop1 m y) (LP m (ARel m y)) (LT1 m (ARel m y) (BRel m y)) := Rl.step (iter_bx hy m) (iter_bx hy m) (iter_rl hy m) (iter_rl hy m)
theorem loop2_rl {m : Nat} {y : List Int} (hy : Bx m y) : Rl m (loop2 m y) (fun p q => LP m (ARel m y) p q ∨ comp m (LP m (ARel m y)) (PP m (ARel m y) m) p q) (LT2 m (ARel m y) (BRel m y)) :=
  Rl.step (loop1_bx hy) (iter_bx hy m) (loop1_rl hy) (iter_rl hy m)
/-- At rest: the same places are reached, the same loops are marked. -/
theorem rest_iff {m K : Nat} {y : List Int} (hy : Bx m y) (h : iterL m y (K + 1) = iterL m y K) {p q : Nat} (hp : p < m) (hq : q < m) :
    (0 < ent m (iterL m y K) p q ↔ 0 < ent m (iterL m y m) p q) ∧ (ent m (iterL m y K) q q = 2 ↔ ent m (loop2 m y) q q = 2) := by
  have hP : ∀ p q, p < m → q < m → PP m (ARel m y) (K + 1) p q → PP m (ARel m y) K p q := fun p q hp hq g => by
    have := (iter_rl hy (K + 1) p q hp hq).1.mpr g
    rw [h] at this; exact (iter_rl hy K p q hp hq).1.mp this
  have hT : ∀ p q, p < m → q < m → TT m (ARel m y) (BRel m y) (K + 1) p q → TT m (ARel m y) (BRel m y) K p q := fun p q hp hq g => by
    have := (iter_rl hy (K + 1) p q hp hq).2.mpr g
    rw [h] at this; exact (iter_rl hy K p q hp hq).2.mp this
  constructor
  · rw [(iter_rl hy K p q hp hq).1, (iter_rl hy m p q hp hq).1]; exact reach_iff hP hT hp hq
  · rw [(iter_rl hy K q q hq hq).2, (loop2_rl hy q q hq hq).2]; exact loop_iff hP hT hq
/-- What a round adds is counted. -/
def sumL (z : List Int) : Int := z.foldr (· + ·) 0
theorem mx_sum : ∀ {x y : List Int}, x.length = y.length → sumL x ≤ sumL (mxL x y) ∧ (mxL x y ≠ x → sumL x < sumL (mxL x y))
  | [], [], _ => ⟨Int.le_refl _, fun h => absurd rfl h⟩
  | [], _ :: _, h => by simp at h
  | _ :: _, [], h => by simp at h
  | a :: x, b :: y, h => by
    have ih := mx_sum (x := x) (y := y) (by simpa using h)
    have e : mxL (a :: x) (b :: y) = max a b :: mxL x y := rfl
    rw [e]
    have s1 : sumL (a :: x) = a + sumL x := rfl
    have s2 : sumL (max a b :: mxL x y) = max a b + sumL (mxL x y) := rfl
    rw [s1, s2]
    refine ⟨by omega, fun hne => ?_⟩
    by_cases ha : max a b = a
    · have : mxL x y ≠ x := fun k => hne (by rw [ha, k])
      have := ih.2 this
      omega
    · omega
theorem sum_le : ∀ {z : List Int}, (∀ i, z.getD i 0 ≤ 2) → sumL z ≤ 2 * (z.length : Int)
  | [], _ => by simp [sumL]
  | a :: z, h => by
    have h0 := h 0
    have ih := sum_le (z := z) fun i => by simpa using h (i + 1)
    have s1 : sumL (a :: z) = a + sumL z := rfl
    simp at h0
    rw [s1]
    simp only [List.length_cons]
    omega
theorem sum_pos : ∀ {z : List Int}, (∀ i, 0 ≤ z.getD i 0) → 0 ≤ sumL z
  | [], _ => by simp [sumL]
  | a :: z, h => by
    have h0 := h 0
    have ih := sum_pos (z := z) fun i => by simpa using h (i + 1)
    have s1 : sumL (a :: z) = a + sumL z := rfl
    simp at h0
    rw [s1]; omega
end Go.Proofs.Ytcmbbpdepobnlaa
end

/- The program's product of boxes, cell by cell; right boxes. -/
section
namespace Go.Proofs.Ytcmbbpdepobnlaa
open Go Go.RowKit E
set_option linter.unusedVariables false

theorem cellI {m p r : Nat} (hm : 1 ≤ m ∧ m ≤ 4) (hp : p < m) (hr : r < m) : W (W ((p : Int) * (m : Int)) + (r : Int)) = ((p * m + r : Nat) : Int) := by
  obtain ⟨h1, h2, h3, h4⟩ := pq4 hm hp hr
  have w : W ((p : Int) * (m : Int)) = (p : Int) * (m : Int) := W_eq (by omega) (by omega)
  rw [w, W, W_eq (by omega) (by omega), h1]
theorem mmI {m : Nat} (hm : 1 ≤ m ∧ m ≤ 4) : W ((m : Int) * (m : Int)) = ((m * m : Nat) : Int) ∧ m * m ≤ 16 := by
  have : m = 1 ∨ m = 2 ∨ m = 3 ∨ m = 4 := by omega
  rcases this with rfl | rfl | rfl | rfl <;> decide
theorem mx3 (a b c : Int) : mx (mx a b) c = max a (max b c) := by rw [mx_max, mx_max]; omega
theorem implMul_q {m : Nat} (hm : 1 ≤ m ∧ m ≤ 4) {x y : List Int} (hx : Bx m x) (hy : Bx m y) {p r : Nat} (hp : p < m) (hr : r < m) (h1 : x.getD (p * m + r) 0 ≠ 0) {zs : List Int} (hz : TabL zs m (valI x y m p r 0)) :
    ∃ zs', loop (fun s : List Int × Int => impl_boxMul.b2 (m : Int) y (r : Int) (p : Int) x s.1 s.2) (zs, 0) = some zs' ∧ TabL zs' m (valI x y m p r m) := by
  refine loop_inv (I := fun s : List Int × Int => ∃ q : Nat, s.2 = q ∧ q ≤ m ∧ TabL s.1 m (valI x y m p r q)) (μ := fun s => m - s.2.toNat) (R := fun z => TabL z m (valI x y m p r m)) ?_ (s := (zs, 0)) ⟨0, rfl, Nat.zero_le _, hz⟩
  rintro ⟨z, q'⟩ ⟨q, e, hq, hT⟩
  dsimp only at e hT ⊢
  subst e
  unfold impl_boxMul.b2
  by_cases k : q < m
  · right
    have c1 := cell_lt hr k
    have c2 := cell_lt hp k
    have c3 := cell_lt hp hr
    rw [if_pos (by omega), cellI hm hr k, ix_nat (by rw [hy.1]; exact c1), Option.bind_some, show (default : Int) = 0 from rfl]
    have wq : W ((q : Int) + 1) = ((q + 1 : Nat) : Int) := W_nat (by omega)
    by_cases g : y.getD (r * m + q) 0 ≠ 0
    · have hx0 := hx.2 (p * m + r)
      have hy0 := hy.2 (r * m + q)
      rw [if_pos g, cellI hm hp k, cellI hm hp hr, ix_nat (by rw [hT.1]; exact c2), Option.bind_some, ix_nat (by rw [hx.1]; exact c3), Option.bind_some, Option.bind_some, ck_nat (by rw [hT.1]; exact c2), Option.bind_some, wq]
      refine ⟨_, rfl, ⟨q + 1, rfl, k, ?_⟩, by dsimp only; omega⟩
      exact valI_yes hT hp k (by omega) (by omega) (mx3 _ _ _)
    · rw [if_neg g, wq]
      exact ⟨_, rfl, ⟨q + 1, rfl, k, valI_no hT g⟩, by dsimp only; omega⟩
  · left
    rw [if_neg (by omega)]
    have : q = m := by omega
    subst this
    exact ⟨_, rfl, hT⟩
theorem implMul_r {m : Nat} (hm : 1 ≤ m ∧ m ≤ 4) {x y : List Int} (hx : Bx m x) (hy : Bx m y) {p : Nat} (hp : p < m) {zs : List Int} (hz : TabL zs m (valI x y m p 0 0)) :
    ∃ zs', loop (fun s : List Int × Int => impl_boxMul.b1 (m : Int) x (p : Int) y s.1 s.2) (zs, 0) = some zs' ∧ TabL zs' m (valI x y m p m 0) := by
  refine loop_inv (I := fun s : List Int × Int => ∃ r : Nat, s.2 = r ∧ r ≤ m ∧ TabL s.1 m (valI x y m p r 0)) (μ := fun s => m - s.2.toNat) (R := fun z => TabL z m (valI x y m p m 0)) ?_ (s := (zs, 0)) ⟨0, rfl, Nat.zero_le _, hz⟩
  rintro ⟨z, q'⟩ ⟨r, e, hq, hT⟩
  dsimp only at e hT ⊢
  subst e
  unfold impl_boxMul.b1
  by_cases k : r < m
  · right
    have c3 := cell_lt hp k
    have wq : W ((r : Int) + 1) = ((r + 1 : Nat) : Int) := W_nat (by omega)
    rw [if_pos (by omega), cellI hm hp k, ix_nat (by rw [hx.1]; exact c3), Option.bind_some, show (default : Int) = 0 from rfl]
    unfold impl_boxMul.k2
    by_cases g : x.getD (p * m + r) 0 = 0
    · rw [if_pos g, wq]
      exact ⟨_, rfl, ⟨r + 1, rfl, k, valI_skip hT g⟩, by dsimp only; omega⟩
    · obtain ⟨zs', e1, e2⟩ := implMul_q hm hx hy hp k g hT
      rw [if_neg g, e1, Option.bind_some, wq]
      exact ⟨_, rfl, ⟨r + 1, rfl, k, valI_r e2 rfl⟩, by dsimp only; omega⟩
  · left
    rw [if_neg (by omega)]
    have : r = m := by omega
    subst this
    exact ⟨_, rfl, hT⟩
theorem implMul_eq {m : Nat} (hm : 1 ≤ m ∧ m ≤ 4) {x y : List Int} (hx : Bx m x) (hy : Bx m y) : impl_boxMul (m : Int) x y = some (boxMulL m x y) := by
  obtain ⟨h1, h2⟩ := mmI hm
  unfold impl_boxMul
  rw [h1, mk_ok (by omega) (by omega), Option.bind_some, Int.toNat_natCast]
  obtain ⟨zs, e1, e2⟩ := loop_inv (body := fun s : List Int × Int => impl_boxMul.b0 (m : Int) x y s.1 s.2) (fun s : List Int × Int => ∃ p : Nat, s.2 = p ∧ p ≤ m ∧ TabL s.1 m (valI x y m p 0 0)) (fun s => m - s.2.toNat) (fun z => z = boxMulL m x y) (by
    rintro ⟨z, q'⟩ ⟨p, e, hq, hT⟩
    dsimp only at e hT ⊢
    subst e
    unfold impl_boxMul.b0
    by_cases k : p < m
    · right
      have wq : W ((p : Int) + 1) = ((p + 1 : Nat) : Int) := W_nat (by omega)
      obtain ⟨zs', e1, e2⟩ := implMul_r hm hx hy k hT
      rw [if_pos (by omega), e1, Option.bind_some]
      unfold impl_boxMul.k1
      rw [wq]
      exact ⟨_, rfl, ⟨p + 1, rfl, k, valI_p e2 rfl⟩, by dsimp only; omega⟩
    · left
      rw [if_neg (by omega)]
      exact ⟨_, rfl, valI_end hT (by omega)⟩) (s := (List.replicate (m * m) 0, 0)) ⟨0, rfl, Nat.zero_le _, TabL.zero m rfl _ valI_0⟩
  rw [e1, Option.bind_some, e2]; rfl
noncomputable instance (m : Nat) (x : List Int) : Decidable (Bx m x) := Classical.propDecidable _
/-- Right boxes. -/
noncomputable def boxOk (n : Int) (x : List Int) : Bool := decide (1 ≤ n ∧ n ≤ 4 ∧ Bx n.toNat x)
theorem boxed_eq (n : Int) : impl_isBoxed n = decide (1 ≤ n ∧ n ≤ 4) := by unfold impl_isBoxed impl_inRange; rw [bnd_eq]; exact inR
theorem bx_iff {m : Nat} {x : List Int} : Bx m x ↔ x.length = m * m ∧ ∀ k ∈ x, 0 ≤ k ∧ k ≤ 2 := by
  constructor
  · rintro ⟨h1, h2⟩
    refine ⟨h1, fun k hk => ?_⟩
    obtain ⟨i, hi, rfl⟩ := List.getElem_of_mem hk
    have := h2 i
    simpa [hi] using this
  · rintro ⟨h1, h2⟩
    refine ⟨h1, fun i => ?_⟩
    by_cases hi : i < x.length
    · have := h2 _ (List.getElem_mem hi)
      simpa [hi] using this
    · simp [List.getD, List.getElem?_eq_none (by omega : x.length ≤ i)]
theorem in02 (a : Int) : impl_inRange a 0 2 = decide (0 ≤ a ∧ a ≤ 2) := by unfold impl_inRange; rw [bnd_eq]; exact inR
theorem okLoop (f : Int → Bool) (body : Int → Option (Int ⊕ (Unit ⊕ Bool))) (x : List Int) (hx : x.length ≤ 4611686018427387904) (hb : ∀ i : Int, body i = if i < (x.length : Int) then (ix x i).bind fun a => if (!(f a)) = true then some (.inr (.inr false)) else some (.inl (W (i + 1))) else some (.inr (.inl ()))) : loop body 0 = some (if x.all f = true then (.inl () : Unit ⊕ Bool) else .inr false) := by
  have key : ∀ (r pre : List Int), x = pre ++ r → loop body (pre.length : Int) = some (if r.all f = true then (.inl () : Unit ⊕ Bool) else .inr false) := by
    intro r
    induction r with
    | nil => intro pre h; refine loop_end ?_; rw [hb, if_neg (by rw [h]; simp)]; rfl
    | cons n r ih =>
      intro pre h
      have hk : pre.length < x.length := by rw [h]; simp
      have hix : ix x (pre.length : Int) = some n := by rw [ix_nat hk, h]; simp
      by_cases c : f n = true
      · rw [loop_go (s' := ((pre ++ [n]).length : Int))]
        · rw [ih (pre ++ [n]) (by rw [h]; simp), List.all_cons, c, Bool.true_and]
        · rw [hb, if_pos (by omega), hix, Option.bind_some, if_neg (by simp [c]), W, W_nat (by omega)]
          simp
      · rw [loop_end (r := .inr false)]
        · rw [List.all_cons, Bool.eq_false_iff.mpr c]; rfl
        · rw [hb, if_pos (by omega), hix, Option.bind_some, if_pos (by simp [c])]
  exact key x [] rfl
theorem implBoxOk_eq (n : Int) (x : List Int) (hx : x.length ≤ 4611686018427387904) : impl_BoxOk n x = some (boxOk n x) := by
  unfold impl_BoxOk boxOk
  rw [bnd_eq, boxed_eq]
  by_cases hn : 1 ≤ n ∧ n ≤ 4
  · obtain ⟨m, rfl⟩ : ∃ m : Nat, n = m := ⟨n.toNat, by omega⟩
    have hm : 1 ≤ m ∧ m ≤ 4 := by omega
    rw [decide_eq_true hn, (mmI hm).1]
    by_cases hl : x.length = m * m
    · rw [if_neg (by simp [hl]), okLoop (fun a => impl_inRange a 0 2) (fun s : Int => impl_BoxOk.b0 x s) x hx (fun i => rfl), Option.bind_some]
      by_cases hA : x.all (fun a => impl_inRange a 0 2) = true
      · rw [if_pos hA, Sum.elim_inl, impl_BoxOk.k0, decide_eq_true]
        refine ⟨hn.1, hn.2, ?_⟩
        rw [Int.toNat_natCast, bx_iff]
        refine ⟨hl, fun k hk => ?_⟩
        have := List.all_eq_true.mp hA k hk
        rw [in02] at this
        simpa using this
      · rw [if_neg hA, Sum.elim_inr, decide_eq_false]
        rintro ⟨_, _, h⟩
        rw [Int.toNat_natCast, bx_iff] at h
        refine hA (List.all_eq_true.mpr fun k hk => ?_)
        rw [in02]; simpa using h.2 k hk
    · rw [if_pos (by simp; omega), decide_eq_false]
      rintro ⟨_, _, h⟩
      rw [Int.toNat_natCast] at h
      exact hl h.1
  · rw [decide_eq_false hn, if_pos (by simp), decide_eq_false]
    rintro ⟨h1, h2, _⟩
    exact hn ⟨h1, h2⟩
/-- The box of no letter. -/
def oneL (m : Nat) : List Int := (List.range (m * m)).map fun i => if i / m = i % m then 1 else 0
theorem TabL.one (m : Nat) : TabL (oneL m) m (fun a b => if a = b then 1 else 0) := by
  refine ⟨by simp [oneL], fun a b ha hb => ?_⟩
  have hl := cell_lt ha hb
  have h1 : (a * m + b) / m = a := by rw [Nat.mul_comm, Nat.mul_add_div (by omega), Nat.div_eq_of_lt hb, Nat.add_zero]
  have h2 : (a * m + b) % m = b := by rw [Nat.mul_comm, Nat.mul_add_mod, Nat.mod_eq_of_lt hb]
  simp [oneL, hl, h1, h2]
theorem one_bx (m : Nat) : Bx m (oneL m) := by
  rw [bx_iff]
  refine ⟨by simp [oneL], fun k hk => ?_⟩
  unfold oneL at hk
  obtain ⟨i, _, rfl⟩ := List.mem_map.mp hk
  split <;> omega
theorem implOne_eq {m : Nat} (hm : 1 ≤ m ∧ m ≤ 4) : impl_boxOne (m : Int) = some (oneL m) := by
  have : m = 1 ∨ m = 2 ∨ m = 3 ∨ m = 4 := by omega
  unfold impl_boxOne
  obtain ⟨h1, h2⟩ := mmI hm
  rw [h1, mk_ok (by omega) (by omega), Option.bind_some, Int.toNat_natCast]
  obtain ⟨zs, e1, e2⟩ := loop_inv (body := fun s : List Int × Int => impl_boxOne.b0 (m : Int) s.1 s.2) (fun s : List Int × Int => ∃ p : Nat, s.2 = p ∧ p ≤ m ∧ TabL s.1 m (fun a b => if a < p ∧ a = b then 1 else 0)) (fun s => m - s.2.toNat) (fun z => z = oneL m) (by
    rintro ⟨z, q'⟩ ⟨p, e, hq, hT⟩
    dsimp only at e hT ⊢
    subst e
    unfold impl_boxOne.b0
    by_cases k : p < m
    · right
      have wq : W ((p : Int) + 1) = ((p + 1 : Nat) : Int) := W_nat (by omega)
      have c := cell_lt k k
      rw [if_pos (by omega), cellI hm k k, ck_nat (by rw [hT.1]; exact c), Option.bind_some, wq]
      refine ⟨_, rfl, ⟨p + 1, rfl, k, ?_⟩, by dsimp only; omega⟩
      refine (hT.set k k).congr fun a b ha hb => ?_
      by_cases c1 : a = p ∧ b = p
      · rw [if_pos c1, if_pos (by omega)]
      · rw [if_neg c1]
        by_cases c2 : a < p ∧ a = b
        · rw [if_pos c2, if_pos (by omega)]
        · rw [if_neg c2, if_neg (by omega)]
    · left
      rw [if_neg (by omega)]
      refine ⟨_, rfl, TabL.ext (hT.congr fun a b ha hb => ?_) (TabL.one m)⟩
      by_cases c : a = b
      · rw [if_pos (by omega), if_pos c]
      · rw [if_neg (by omega), if_neg c]) (s := (List.replicate (m * m) 0, 0)) ⟨0, rfl, Nat.zero_le _, TabL.zero m rfl _ (fun a b _ _ => by rw [if_neg (by omega)])⟩
  rw [e1, Option.bind_some, e2]; rfl
end Go.Proofs.Ytcmbbpdepobnlaa
end

/- Boxes put together: in any grouping, with one; the box of a word. -/
section
namespace Go.Proofs.Ytcmbbpdepobnlaa
open Go Go.RowKit E
set_option linter.unusedVariables false

theorem bx_ext {m : Nat} {x y : List Int} (hx : Bx m x) (hy : Bx m y) (h : ∀ p q, p < m → q < m → (0 < ent m x p q ↔ 0 < ent m y p q) ∧ (ent m x p q = 2 ↔ ent m y p q = 2)) : x = y := by
  have tx : TabL x m (ent m x) := ⟨hx.1, fun a b _ _ => rfl⟩
  have ty : TabL y m (ent m y) := ⟨hy.1, fun a b _ _ => rfl⟩
  refine TabL.ext (tx.congr fun a b ha hb => ?_) ty
  have h1 := h a b ha hb
  have h2 := hx.2 (a * m + b)
  have h3 := hy.2 (a * m + b)
  unfold ent at h1 ⊢
  omega
theorem mul_pos' {m : Nat} {x y : List Int} (hx : Bx m x) (hy : Bx m y) {p q : Nat} (hp : p < m) (hq : q < m) : 0 < ent m (boxMulL m x y) p q ↔ ∃ r, r < m ∧ 0 < ent m x p r ∧ 0 < ent m y r q := by
  rw [mul_ent m x y hp hq]; exact mulC_iff x y m p q m
theorem mul_two' {m : Nat} {x y : List Int} (hx : Bx m x) (hy : Bx m y) {p q : Nat} (hp : p < m) (hq : q < m) : ent m (boxMulL m x y) p q = 2 ↔ ∃ r, r < m ∧ (0 < ent m x p r ∧ 0 < ent m y r q) ∧ (ent m x p r = 2 ∨ ent m y r q = 2) := by
  rw [mul_ent m x y hp hq]; exact mulC_two (fun i => (hx.2 i).2) (fun i => (hy.2 i).2) m p q m
theorem mul_assoc' {m : Nat} {x y z : List Int} (hx : Bx m x) (hy : Bx m y) (hz : Bx m z) : boxMulL m (boxMulL m x y) z = boxMulL m x (boxMulL m y z) := by
  have hxy := mul_bx hx hy
  have hyz := mul_bx hy hz
  refine bx_ext (mul_bx hxy hz) (mul_bx hx hyz) fun p q hp hq => ⟨?_, ?_⟩
  · rw [mul_pos' hxy hz hp hq, mul_pos' hx hyz hp hq]
    constructor
    · rintro ⟨r, hr, h1, h2⟩
      obtain ⟨s, hs, h3, h4⟩ := (mul_pos' hx hy hp hr).mp h1
      exact ⟨s, hs, h3, (mul_pos' hy hz hs hq).mpr ⟨r, hr, h4, h2⟩⟩
    · rintro ⟨s, hs, h1, h2⟩
      obtain ⟨r, hr, h3, h4⟩ := (mul_pos' hy hz hs hq).mp h2
      exact ⟨r, hr, (mul_pos' hx hy hp hr).mpr ⟨s, hs, h1, h3⟩, h4⟩
  · rw [mul_two' hxy hz hp hq, mul_two' hx hyz hp hq]
    constructor
    · rintro ⟨r, hr, ⟨h1, h2⟩, h5 | h5⟩
      · obtain ⟨s, hs, ⟨h3, h4⟩, h6⟩ := (mul_two' hx hy hp hr).mp h5
        refine ⟨s, hs, ⟨h3, (mul_pos' hy hz hs hq).mpr ⟨r, hr, h4, h2⟩⟩, ?_⟩
        rcases h6 with h6 | h6
        · exact .inl h6
        · exact .inr ((mul_two' hy hz hs hq).mpr ⟨r, hr, ⟨h4, h2⟩, .inl h6⟩)
      · obtain ⟨s, hs, h3, h4⟩ := (mul_pos' hx hy hp hr).mp h1
        exact ⟨s, hs, ⟨h3, (mul_pos' hy hz hs hq).mpr ⟨r, hr, h4, h2⟩⟩, .inr ((mul_two' hy hz hs hq).mpr ⟨r, hr, ⟨h4, h2⟩, .inr h5⟩)⟩
    · rintro ⟨s, hs, ⟨h1, h2⟩, h5 | h5⟩
      · obtain ⟨r, hr, h3, h4⟩ := (mul_pos' hy hz hs hq).mp h2
        exact ⟨r, hr, ⟨(mul_pos' hx hy hp hr).mpr ⟨s, hs, h1, h3⟩, h4⟩, .inl ((mul_two' hx hy hp hr).mpr ⟨s, hs, ⟨h1, h3⟩, .inl h5⟩)⟩
      · obtain ⟨r, hr, ⟨h3, h4⟩, h6⟩ := (mul_two' hy hz hs hq).mp h5
        refine ⟨r, hr, ⟨(mul_pos' hx hy hp hr).mpr ⟨s, hs, h1, h3⟩, h4⟩, ?_⟩
        rcases h6 with h6 | h6
        · exact .inl ((mul_two' hx hy hp hr).mpr ⟨s, hs, ⟨h1, h3⟩, .inr h6⟩)
        · exact .inr h6
theorem one_ent {m p q : Nat} (hp : p < m) (hq : q < m) : ent m (oneL m) p q = if p = q then 1 else 0 := (TabL.one m).2 p q hp hq
theorem one_pos {m p q : Nat} (hp : p < m) (hq : q < m) : 0 < ent m (oneL m) p q ↔ p = q := by
  rw [one_ent hp hq]; split <;> rename_i h <;> simp [h]
theorem one_two {m p q : Nat} (hp : p < m) (hq : q < m) : ¬ ent m (oneL m) p q = 2 := by
  rw [one_ent hp hq]; split <;> decide
theorem mul_one' {m : Nat} {x : List Int} (hx : Bx m x) : boxMulL m x (oneL m) = x := by
  have h1 := one_bx m
  refine bx_ext (mul_bx hx h1) hx fun p q hp hq => ⟨?_, ?_⟩
  · rw [mul_pos' hx h1 hp hq]
    constructor
    · rintro ⟨r, hr, g1, g2⟩
      obtain rfl := (one_pos hr hq).mp g2; exact g1
    · intro g; exact ⟨q, hq, g, (one_pos hq hq).mpr rfl⟩
  · rw [mul_two' hx h1 hp hq]
    constructor
    · rintro ⟨r, hr, ⟨g1, g2⟩, g3⟩
      obtain rfl := (one_pos hr hq).mp g2
      exact g3.resolve_right (one_two hr hr)
    · intro g; exact ⟨q, hq, ⟨by omega, (one_pos hq hq).mpr rfl⟩, .inl g⟩
theorem one_mul' {m : Nat} {x : List Int} (hx : Bx m x) : boxMulL m (oneL m) x = x := by
  have h1 := one_bx m
  refine bx_ext (mul_bx h1 hx) hx fun p q hp hq => ⟨?_, ?_⟩
  · rw [mul_pos' h1 hx hp hq]
    constructor
    · rintro ⟨r, hr, g1, g2⟩
      obtain rfl := (one_pos hp hr).mp g1; exact g2
    · intro g; exact ⟨p, hp, (one_pos hp hp).mpr rfl, g⟩
  · rw [mul_two' h1 hx hp hq]
    constructor
    · rintro ⟨r, hr, ⟨g1, g2⟩, g3⟩
      obtain rfl := (one_pos hp hr).mp g1
      exact g3.resolve_left (one_two hp hp)
    · intro g; exact ⟨p, hp, ⟨(one_pos hp hp).mpr rfl, by omega⟩, .inr g⟩
/-- The box of a letter, of a word. -/
def letStep (m : Nat) (x : Int) (z : List Int) (e : TEdge) : List Int := if e.letter = x then z.set (e.from_.toNat * m + e.to_.toNat) (if e.good = true then 2 else 1) else z
def letL (m : Nat) (x : Int) (es : List TEdge) : List Int := es.foldl (letStep m x) (List.replicate (m * m) 0)
theorem letStep_bx {m : Nat} {x : Int} {z : List Int} (e : TEdge) (h : Bx m z) : Bx m (letStep m x z e) := by
  unfold letStep
  split
  · rw [bx_iff] at h ⊢
    refine ⟨by rw [List.length_set, h.1], fun k hk => ?_⟩
    rcases List.mem_or_eq_of_mem_set hk with hk | rfl
    · exact h.2 k hk
    · split <;> omega
  · exact h
theorem zero_bx (m : Nat) : Bx m (List.replicate (m * m) 0) := by
  rw [bx_iff]
  refine ⟨by simp, fun k hk => ?_⟩
  have := (List.mem_replicate.mp hk).2
  omega
theorem foldl_bx {m : Nat} {x : Int} : ∀ (es : List TEdge) (z : List Int), Bx m z → Bx m (es.foldl (letStep m x) z)
  | [], z, h => h
  | e :: es, z, h => foldl_bx es _ (letStep_bx e h)
theorem let_bx (m : Nat) (x : Int) (es : List TEdge) : Bx m (letL m x es) := foldl_bx es _ (zero_bx m)
def wordL (m : Nat) (es : List TEdge) (w : List Int) : List Int := w.foldl (fun z x => boxMulL m z (letL m x es)) (oneL m)
theorem fold_bx (m : Nat) (es : List TEdge) : ∀ (w : List Int) (z : List Int), Bx m z → Bx m (w.foldl (fun z x => boxMulL m z (letL m x es)) z)
  | [], z, h => h
  | x :: w, z, h => fold_bx m es w _ (mul_bx h (let_bx m x es))
theorem word_bx (m : Nat) (es : List TEdge) (w : List Int) : Bx m (wordL m es w) := fold_bx m es w _ (one_bx m)
theorem fold_mul (m : Nat) (es : List TEdge) : ∀ (w : List Int) (z : List Int), Bx m z → w.foldl (fun z x => boxMulL m z (letL m x es)) z = boxMulL m z (wordL m es w)
  | [], z, h => (mul_one' h).symm
  | x :: w, z, h => by
    have hl := let_bx m x es
    rw [List.foldl_cons, fold_mul m es w _ (mul_bx h hl)]
    have e : wordL m es (x :: w) = boxMulL m (letL m x es) (wordL m es w) := by
      unfold wordL
      rw [List.foldl_cons, one_mul' hl, fold_mul m es w _ hl]; rfl
    rw [e, mul_assoc' h hl (word_bx m es w)]
theorem word_cons (m : Nat) (es : List TEdge) (x : Int) (w : List Int) : wordL m es (x :: w) = boxMulL m (letL m x es) (wordL m es w) := by
  have hl := let_bx m x es
  unfold wordL
  rw [List.foldl_cons, one_mul' hl, fold_mul m es w _ hl]; rfl
theorem word_app (m : Nat) (es : List TEdge) (u v : List Int) : wordL m es (u ++ v) = boxMulL m (wordL m es u) (wordL m es v) := by
  unfold wordL
  rw [List.foldl_append, fold_mul m es v _ (fold_bx m es u _ (one_bx m))]; rfl
end Go.Proofs.Ytcmbbpdepobnlaa
end

/- Loops that ask whether all are so. -/
section
namespace Go.Proofs.Ytcmbbpdepobnlaa
open Go Go.RowKit E
set_option linter.unusedVariables false

theorem inRg (x a b : Int) : impl_inRange x a b = decide (a ≤ x ∧ x ≤ b) := inR
theorem l1Rg (x a b : Int) : spec_l1In x a b = decide (a ≤ x ∧ x ≤ b) := inR
theorem WN {k : Nat} (h : k < 9223372036854775807) : W ((k : Int) + 1) = ((k + 1 : Nat) : Int) := W_nat h
/-- A loop that asks each place. -/
theorem all_loop {body : Int → Option (Int ⊕ (Unit ⊕ Bool))} (n : Nat) (c : Nat → Bool) (go : ∀ k, k < n → body (k : Int) = some (if c k = true then .inl ((k + 1 : Nat) : Int) else .inr (.inr false))) (fin : body (n : Int) = some (.inr (.inl ()))) : loop body 0 = some (if (List.range n).all c = true then .inl () else .inr false) := by
  have key : ∀ d k, k + d = n → (∀ j, j < k → c j = true) → loop body (k : Int) = some (if (List.range n).all c = true then .inl () else .inr false) := by
    intro d
    induction d with
    | zero =>
      intro k hk he
      obtain rfl : k = n := by omega
      rw [if_pos (List.all_eq_true.mpr fun x hx => he x (List.mem_range.mp hx))]
      exact loop_end fin
    | succ d ih =>
      intro k hk he
      by_cases h : c k = true
      · rw [loop_go (s' := ((k + 1 : Nat) : Int)) (by rw [go k (by omega), if_pos h])]
        refine ih (k + 1) (by omega) fun j hj => ?_
        by_cases e : j = k
        · rw [e]; exact h
        · exact he j (by omega)
      · rw [if_neg (fun g => h (List.all_eq_true.mp g k (List.mem_range.mpr (by omega))))]
        exact loop_end (by rw [go k (by omega), if_neg h])
  exact key n 0 (by omega) (fun j hj => absurd hj (by omega))
end Go.Proofs.Ytcmbbpdepobnlaa
end

/- Powers of two. -/
section
namespace Go.Proofs.Ytcmbbpdepobnlaa
open Go Go.RowKit E
set_option linter.unusedVariables false

theorem pow31 {n : Nat} (h : n ≤ 31) : 2 ^ n ≤ 2147483648 ∧ 1 ≤ 2 ^ n := ⟨by
  have : 2 ^ n ≤ 2 ^ 31 := Nat.pow_le_pow_right (by omega) h
  exact this, Nat.two_pow_pos n⟩
theorem lt31 {n s : Nat} (hn : n ≤ 31) (h : s < 2 ^ n) : s < 2 ^ 31 := Nat.lt_of_lt_of_le h (Nat.pow_le_pow_right (by omega) hn)
end Go.Proofs.Ytcmbbpdepobnlaa
end

/- Automata: both sides' test that an automaton is right. -/
section
namespace Go.Proofs.Ytcmbbpdepobnlaa
open Go Go.RowKit E
set_option linter.unusedVariables false

theorem setIn_eq (x : Int) {n : Nat} (h : n ≤ 31) : spec_SetIn x (W (shl .i64 1 (n : Int) - 1)) = decide (0 ≤ x ∧ x < ((2 ^ n : Nat) : Int)) := by
  have hp := pow31 h
  rw [shl1_i (by omega)]
  have e : W (((2 ^ n : Nat) : Int) - 1) = ((2 ^ n - 1 : Nat) : Int) := by
    generalize 2 ^ n = y at hp ⊢
    rw [W, W_eq (by omega) (by omega)]; omega
  rw [e]
  unfold spec_SetIn spec_SetOk
  rw [l1Rg, l1Rg, bnd_eq, bnd_eq]
  by_cases h0 : 0 ≤ x ∧ x ≤ 2147483647
  · obtain ⟨y, rfl⟩ : ∃ y : Nat, x = y := ⟨x.toNat, by omega⟩
    rw [bAnd_i (by omega) (by omega), Nat.and_two_pow_sub_one_eq_mod]
    rw [decide_eq_true h0, decide_eq_true (by omega), Bool.and_self, Bool.true_and]
    rw [decide_eq_decide]
    constructor
    · intro g
      have g : y % 2 ^ n = y := by omega
      have := (Nat.mod_eq_iff_lt (by omega)).mp g
      omega
    · rintro ⟨_, g⟩
      rw [Nat.mod_eq_of_lt (by omega)]
  · rw [decide_eq_false h0, Bool.false_and, Bool.false_and]
    symm; rw [decide_eq_false_iff_not]; omega
theorem only_eq {n : Nat} (h : n ≤ 31) : impl_only (n : Int) = ((2 ^ n : Nat) : Int) := by
  unfold impl_only
  rw [u64_nat (by omega), shl1_i (by omega)]

/-- Edges in order. -/
def edgeLt (a b : TEdge) : Bool := decide (a.from_ < b.from_ ∨ (a.from_ = b.from_ ∧ (a.letter < b.letter ∨ (a.letter = b.letter ∧ a.to_ < b.to_))))
theorem l4Less_eq (a b : TEdge) : spec_l4Less a b = edgeLt a b := by
  unfold spec_l4Less edgeLt
  split
  · rw [decide_eq_decide]; omega
  · split
    · rw [decide_eq_decide]; omega
    · rw [decide_eq_decide]; omega
theorem cmpInt_eq (x y : Int) : cmp_Compare_int x y = if x < y then -1 else if x > y then 1 else 0 := by
  unfold cmp_Compare_int cmp_isNaN_int
  rw [if_neg (by simp), if_neg (by simp)]
theorem cmpOr_eq (x y z : Int) : cmp_Or_int [x, y, z] = some (if x ≠ 0 then x else if y ≠ 0 then y else z) := by
  unfold cmp_Or_int
  have i0 : ix [x, y, z] (0 : Int) = some x := rfl
  have i1 : ix [x, y, z] (1 : Int) = some y := rfl
  have i2 : ix [x, y, z] (2 : Int) = some z := rfl
  have w0 : W (0 + 1) = 1 := by decide
  have w1 : W (1 + 1) = 2 := by decide
  have w2 : W (2 + 1) = 3 := by decide
  by_cases hx : x ≠ 0
  · rw [loop_end (r := .inr x) (by unfold cmp_Or_int.b0; rw [if_pos (by simp), i0, Option.bind_some, if_pos hx]), if_pos hx]; rfl
  · rw [loop_go (s' := 1) (by unfold cmp_Or_int.b0; rw [if_pos (by simp), i0, Option.bind_some, if_neg hx, w0]), if_neg hx]
    by_cases hy : y ≠ 0
    · rw [loop_end (r := .inr y) (by unfold cmp_Or_int.b0; rw [if_pos (by simp), i1, Option.bind_some, if_pos hy]), if_pos hy]; rfl
    · rw [loop_go (s' := 2) (by unfold cmp_Or_int.b0; rw [if_pos (by simp), i1, Option.bind_some, if_neg hy, w1]), if_neg hy]
      by_cases hz : z ≠ 0
      · rw [loop_end (r := .inr z) (by unfold cmp_Or_int.b0; rw [if_pos (by simp), i2, Option.bind_some, if_pos hz])]; rfl
      · rw [loop_go (s' := 3) (by unfold cmp_Or_int.b0; rw [if_pos (by simp), i2, Option.bind_some, if_neg hz, w2]), loop_end (r := .inl ()) (by unfold cmp_Or_int.b0; rw [if_neg (by simp)])]
        have : z = 0 := by omega
        rw [this]; rfl
theorem compareEdges_eq (a b : TEdge) : ∃ x, impl_compareEdges a b = some x ∧ decide (x ≥ 0) = !(edgeLt a b) := by
  unfold impl_compareEdges
  rw [cmpOr_eq, Option.bind_some]
  refine ⟨_, rfl, ?_⟩
  rw [cmpInt_eq, cmpInt_eq, cmpInt_eq]
  unfold edgeLt
  rw [Bool.eq_iff_iff, decide_eq_true_eq, Bool.not_eq_true', decide_eq_false_iff_not]
  repeat' split
  all_goals omega
/-- The k-th edge is right. -/
def edgeOk (a : TAuto) (k : Nat) : Bool :=
  decide (0 ≤ (a.edges.getD k default).from_ ∧ (a.edges.getD k default).from_ ≤ a.states - 1) && decide (0 ≤ (a.edges.getD k default).to_ ∧ (a.edges.getD k default).to_ ≤ a.states - 1) && decide (0 ≤ (a.edges.getD k default).letter ∧ (a.edges.getD k default).letter ≤ a.letters - 1) && (decide (k = 0) || edgeLt (a.edges.getD (k - 1) default) (a.edges.getD k default))
def headOk (a : TAuto) : Bool := decide (1 ≤ a.letters ∧ a.letters ≤ 8) && decide (0 ≤ a.states ∧ a.states ≤ 31) && decide (0 ≤ a.start ∧ a.start < ((2 ^ a.states.toNat : Nat) : Int)) && decide (a.edges.length ≤ 2000)
def autoOk (a : TAuto) : Bool := headOk a && (List.range a.edges.length).all (edgeOk a)
theorem headOk_t {a : TAuto} (h : headOk a = true) : (1 ≤ a.letters ∧ a.letters ≤ 8) ∧ (0 ≤ a.states ∧ a.states ≤ 31) ∧ (0 ≤ a.start ∧ a.start < ((2 ^ a.states.toNat : Nat) : Int)) ∧ a.edges.length ≤ 2000 := by
  unfold headOk at h
  simp only [Bool.and_eq_true, decide_eq_true_eq] at h
  exact ⟨h.1.1.1, h.1.1.2, h.1.2, h.2⟩
theorem specEdge_eq (a : TAuto) (h : headOk a = true) {k : Nat} (hk : k < a.edges.length) : spec_AutoOk.b0 a (k : Int) = some (if edgeOk a k = true then .inl ((k + 1 : Nat) : Int) else .inr (.inr false)) := by
  obtain ⟨h1, h2, h3, h4⟩ := headOk_t h
  unfold spec_AutoOk.b0 edgeOk spec_l4State
  have w1 : W (a.states - 1) = a.states - 1 := W_eq (by omega) (by omega)
  have w2 : W (a.letters - 1) = a.letters - 1 := W_eq (by omega) (by omega)
  simp only [bnd_eq, l1Rg, w1, w2, l4Less_eq]
  rw [if_pos (by omega), ix_nat hk, Option.bind_some, WN (by omega)]
  generalize a.edges.getD k default = e
  by_cases c1 : 0 ≤ e.from_ ∧ e.from_ ≤ a.states - 1
  · by_cases c2 : 0 ≤ e.to_ ∧ e.to_ ≤ a.states - 1
    · by_cases c3 : 0 ≤ e.letter ∧ e.letter ≤ a.letters - 1
      · rw [decide_eq_true c1, decide_eq_true c2, decide_eq_true c3]
        by_cases c4 : k = 0
        · subst c4; rfl
        · rw [decide_eq_true (by omega : (k : Int) > 0), decide_eq_false c4]
          have e1 : W ((k : Int) - 1) = ((k - 1 : Nat) : Int) := by rw [W, W_eq (by omega) (by omega)]; omega
          rw [e1, ix_nat (by omega)]
          simp only [Bool.not_true, Bool.or_self, Bool.not_false, Bool.and_self, whenO_t, Option.bind_some, Bool.false_or, Bool.true_and]
          cases edgeLt (a.edges.getD (k - 1) default) e <;> rfl
      · rw [decide_eq_false c3]; simp [whenO]
    · rw [decide_eq_false c2]; simp [whenO]
  · rw [decide_eq_false c1]; simp [whenO]
theorem implEdge_eq (a : TAuto) (h : headOk a = true) {k : Nat} (hk : k < a.edges.length) : impl_AutoOk.b0 a (k : Int) = some (if edgeOk a k = true then .inl ((k + 1 : Nat) : Int) else .inr (.inr false)) := by
  obtain ⟨h1, h2, h3, h4⟩ := headOk_t h
  unfold impl_AutoOk.b0 edgeOk
  have w1 : W (a.states - 1) = a.states - 1 := W_eq (by omega) (by omega)
  have w2 : W (a.letters - 1) = a.letters - 1 := W_eq (by omega) (by omega)
  simp only [bnd_eq, inRg, w1, w2]
  rw [if_pos (by omega), ix_nat hk, Option.bind_some, WN (by omega)]
  generalize a.edges.getD k default = e
  by_cases c1 : 0 ≤ e.from_ ∧ e.from_ ≤ a.states - 1
  · by_cases c2 : 0 ≤ e.to_ ∧ e.to_ ≤ a.states - 1
    · by_cases c3 : 0 ≤ e.letter ∧ e.letter ≤ a.letters - 1
      · rw [decide_eq_true c1, decide_eq_true c2, decide_eq_true c3]
        rw [if_neg (by simp)]
        by_cases c4 : k = 0
        · subst c4; rfl
        · rw [decide_eq_true (by omega : (k : Int) > 0), decide_eq_false c4]
          have e1 : W ((k : Int) - 1) = ((k - 1 : Nat) : Int) := by rw [W, W_eq (by omega) (by omega)]; omega
          rw [e1, ix_nat (by omega)]
          obtain ⟨x, x1, x2⟩ := compareEdges_eq (a.edges.getD (k - 1) default) e
          rw [whenO_t, Option.bind_some, whenO_t, x1, Option.bind_some, x2]
          cases edgeLt (a.edges.getD (k - 1) default) e <;> rfl
      · rw [decide_eq_false c3]; simp
    · rw [decide_eq_false c2]; simp
  · rw [decide_eq_false c1]; simp
theorem specAutoOk_eq (a : TAuto) : spec_AutoOk a = some (autoOk a) := by
  unfold spec_AutoOk autoOk
  rw [bnd_eq, bnd_eq, bnd_eq, l1Rg, l1Rg]
  by_cases hh : headOk a = true
  · obtain ⟨h1, h2, h3, h4⟩ := headOk_t hh
    rw [decide_eq_true h1, decide_eq_true h2, Bool.not_true, Bool.or_self, Bool.not_false, whenO_t, decide_eq_true h2.1, chk_t, Option.bind_some]
    have e : a.states = ((a.states.toNat : Nat) : Int) := by omega
    have hs := setIn_eq a.start (n := a.states.toNat) (by omega)
    rw [← e] at hs
    rw [hs, decide_eq_true h3, decide_eq_false (by omega : ¬ (a.edges.length : Int) > 2000), if_neg (by simp), hh]
    rw [all_loop a.edges.length (edgeOk a) (fun k hk => specEdge_eq a hh hk) (by unfold spec_AutoOk.b0; rw [if_neg (by omega)]), Option.bind_some]
    cases (List.range a.edges.length).all (edgeOk a) <;> rfl
  · rw [Bool.not_eq_true] at hh
    rw [hh, Bool.false_and]
    by_cases h1 : 1 ≤ a.letters ∧ a.letters ≤ 8
    · by_cases h2 : 0 ≤ a.states ∧ a.states ≤ 31
      · rw [decide_eq_true h1, decide_eq_true h2, Bool.not_true, Bool.or_self, Bool.not_false, whenO_t, decide_eq_true h2.1, chk_t, Option.bind_some]
        have e : a.states = ((a.states.toNat : Nat) : Int) := by omega
        have hs := setIn_eq a.start (n := a.states.toNat) (by omega)
        rw [← e] at hs
        rw [hs]
        unfold headOk at hh
        rw [decide_eq_true h1, decide_eq_true h2] at hh
        rw [if_pos]
        by_cases h3 : 0 ≤ a.start ∧ a.start < ((2 ^ a.states.toNat : Nat) : Int)
        · rw [decide_eq_true h3] at hh
          have : ¬ a.edges.length ≤ 2000 := by simpa using hh
          rw [decide_eq_true (by omega : (a.edges.length : Int) > 2000), Bool.or_true]
        · rw [decide_eq_false h3]; simp
      · rw [decide_eq_false h2]; simp [whenO]
    · rw [decide_eq_false h1]; simp [whenO]
theorem implAutoOk_eq (a : TAuto) : impl_AutoOk a = some (autoOk a) := by
  have hd : (impl_headOk a.letters a.states a.start && decide (a.edges.length ≤ 2000)) = headOk a := by
    unfold impl_headOk headOk impl_isLetters impl_SetOk
    simp only [bnd_eq, inRg]
    by_cases h2 : 0 ≤ a.states ∧ a.states ≤ 31
    · have ho := only_eq (n := a.states.toNat) (by omega)
      rw [show ((a.states.toNat : Nat) : Int) = a.states by omega] at ho
      have hp := pow31 (n := a.states.toNat) (by omega)
      rw [ho]
      congr 1
      rw [Bool.and_assoc]
      congr 1
      rw [← Bool.decide_and, decide_eq_decide]
      omega
    · rw [decide_eq_false h2]; simp
  unfold impl_AutoOk autoOk
  rw [bnd_eq, ← hd]
  by_cases hl : a.edges.length ≤ 2000
  · rw [decide_eq_true hl, decide_eq_false (by omega : ¬ (a.edges.length : Int) > 2000), Bool.and_true, Bool.or_false]
    rw [decide_eq_true hl, Bool.and_true] at hd
    cases hh : impl_headOk a.letters a.states a.start with
    | false => rw [Bool.not_false, if_pos rfl]; rfl
    | true =>
      rw [hh] at hd
      rw [Bool.not_true, if_neg (by simp), all_loop a.edges.length (edgeOk a) (fun k hk => implEdge_eq a hd.symm hk) (by unfold impl_AutoOk.b0; rw [if_neg (by omega)]), Option.bind_some]
      cases (List.range a.edges.length).all (edgeOk a) <;> rfl
  · rw [decide_eq_true (by omega : (a.edges.length : Int) > 2000), Bool.or_true, if_pos rfl, decide_eq_false hl, Bool.and_false]; rfl
/-- What a right automaton's edges are. -/
theorem autoOk_t {a : TAuto} (h : autoOk a = true) : headOk a = true ∧ ∀ k, k < a.edges.length → (0 ≤ (a.edges.getD k default).from_ ∧ (a.edges.getD k default).from_ ≤ 30) ∧ (0 ≤ (a.edges.getD k default).to_ ∧ (a.edges.getD k default).to_ ≤ 30) := by
  unfold autoOk at h
  rw [Bool.and_eq_true] at h
  refine ⟨h.1, fun k hk => ?_⟩
  have h2 := (headOk_t h.1).2.1
  have := List.all_eq_true.mp h.2 k (List.mem_range.mpr hk)
  unfold edgeOk at this
  simp only [Bool.and_eq_true, decide_eq_true_eq] at this
  omega
end Go.Proofs.Ytcmbbpdepobnlaa
end

/- What a right automaton is. -/
section
namespace Go.Proofs.Ytcmbbpdepobnlaa
open Go Go.RowKit E
set_option linter.unusedVariables false

/-- What a right automaton is. -/
structure AOk (a : TAuto) : Prop where
  lets : 1 ≤ a.letters ∧ a.letters ≤ 8
  sts : 0 ≤ a.states ∧ a.states ≤ 31
  start : 0 ≤ a.start ∧ a.start < ((2 ^ a.states.toNat : Nat) : Int)
  num : a.edges.length ≤ 2000
  edge : ∀ e ∈ a.edges, (0 ≤ e.from_ ∧ e.from_ < a.states) ∧ (0 ≤ e.to_ ∧ e.to_ < a.states) ∧ (0 ≤ e.letter ∧ e.letter < a.letters)
theorem autoOk_A {a : TAuto} (h : autoOk a = true) : AOk a := by
  obtain ⟨h1, h2⟩ := autoOk_t h
  obtain ⟨g1, g2, g3, g4⟩ := headOk_t h1
  refine ⟨g1, g2, g3, g4, fun e he => ?_⟩
  obtain ⟨k, hk, rfl⟩ := List.getElem_of_mem he
  unfold autoOk at h
  rw [Bool.and_eq_true] at h
  have := List.all_eq_true.mp h.2 k (List.mem_range.mpr hk)
  unfold edgeOk at this
  simp only [Bool.and_eq_true, decide_eq_true_eq] at this
  have e1 : a.edges.getD k default = a.edges[k] := by simp [List.getD_eq_getElem?_getD, hk]
  rw [e1] at this
  omega
end Go.Proofs.Ytcmbbpdepobnlaa
end

/- Letters below a number. -/
section
namespace Go.Proofs.Ytcmbbpdepobnlaa
open Go Go.RowKit E
set_option linter.unusedVariables false

def lettersOk (w : List Int) (n : Int) : Bool := (List.range w.length).all fun k => decide (0 ≤ w.getD k default ∧ w.getD k default ≤ W (n - 1))
theorem specLetters_eq (w : List Int) (n : Int) (hl : w.length ≤ 1048576) : spec_l3Letters w n = some (lettersOk w n) := by
  unfold spec_l3Letters
  rw [all_loop w.length (fun k => decide (0 ≤ w.getD k default ∧ w.getD k default ≤ W (n - 1))) (fun k hk => ?_) (by unfold spec_l3Letters.b0; rw [if_neg (by omega)]), Option.bind_some]
  · show Sum.elim _ _ (if lettersOk w n = true then _ else _) = _
    cases lettersOk w n <;> rfl
  · unfold spec_l3Letters.b0
    rw [if_pos (by omega), ix_nat hk, Option.bind_some, l1Rg, WN (by omega)]
    cases decide (0 ≤ w.getD k default ∧ w.getD k default ≤ W (n - 1)) <;> rfl
theorem implLetters_eq (w : List Int) (n : Int) (hl : w.length ≤ 1048576) : impl_areLetters w n = some (lettersOk w n) := by
  unfold impl_areLetters
  rw [all_loop w.length (fun k => decide (0 ≤ w.getD k default ∧ w.getD k default ≤ W (n - 1))) (fun k hk => ?_) (by unfold impl_areLetters.b0; rw [if_neg (by omega)]), Option.bind_some]
  · show Sum.elim _ _ (if lettersOk w n = true then _ else _) = _
    cases lettersOk w n <;> rfl
  · unfold impl_areLetters.b0
    rw [if_pos (by omega), ix_nat hk, Option.bind_some, inRg, WN (by omega)]
    cases decide (0 ≤ w.getD k default ∧ w.getD k default ≤ W (n - 1)) <;> rfl

end Go.Proofs.Ytcmbbpdepobnlaa
end

/- The program's box of a letter and of a word. -/
section
namespace Go.Proofs.Ytcmbbpdepobnlaa
open Go Go.RowKit E
set_option linter.unusedVariables false

theorem edge_cell {a : TAuto} (h : AOk a) (h4 : 1 ≤ a.states ∧ a.states ≤ 4) {e : TEdge} (he : e ∈ a.edges) : W (W (e.from_ * a.states) + e.to_) = ((e.from_.toNat * a.states.toNat + e.to_.toNat : Nat) : Int) ∧ e.from_.toNat * a.states.toNat + e.to_.toNat < a.states.toNat * a.states.toNat := by
  obtain ⟨h1, h2, _⟩ := h.edge e he
  have := cellI (m := a.states.toNat) (p := e.from_.toNat) (r := e.to_.toNat) (by omega) (by omega) (by omega)
  rw [show ((e.from_.toNat : Nat) : Int) = e.from_ by omega, show ((a.states.toNat : Nat) : Int) = a.states by omega, show ((e.to_.toNat : Nat) : Int) = e.to_ by omega] at this
  exact ⟨this, cell_lt (by omega) (by omega)⟩
/-- A loop over the edges. -/
theorem letter_loop {a : TAuto} (h : AOk a) (h4 : 1 ≤ a.states ∧ a.states ≤ 4) (x : Int) {body : List Int × Int → Option ((List Int × Int) ⊕ List Int)}
    (hb : ∀ (z : List Int) (i : Nat), i < a.edges.length → z.length = a.states.toNat * a.states.toNat → body (z, (i : Int)) = some (.inl (letStep a.states.toNat x z (a.edges.getD i default), ((i + 1 : Nat) : Int)))) (he : ∀ z : List Int, body (z, (a.edges.length : Int)) = some (.inr z)) :
    loop body (List.replicate (a.states.toNat * a.states.toNat) 0, 0) = some (letL a.states.toNat x a.edges) := by
  have key : ∀ (r pre : List TEdge), a.edges = pre ++ r → loop body (pre.foldl (letStep a.states.toNat x) (List.replicate (a.states.toNat * a.states.toNat) 0), (pre.length : Int)) = some (letL a.states.toNat x a.edges) := by
    intro r
    induction r with
    | nil =>
      intro pre hp
      rw [List.append_nil] at hp
      rw [← hp]
      exact loop_end (he _)
    | cons e r ih =>
      intro pre hp
      have hk : pre.length < a.edges.length := by rw [hp]; simp
      have hg : a.edges.getD pre.length default = e := by rw [hp]; simp
      have hl := (foldl_bx (m := a.states.toNat) (x := x) pre _ (zero_bx _)).1
      rw [loop_go (hb _ _ hk hl), hg]
      have := ih (pre ++ [e]) (by rw [hp]; simp)
      rw [List.foldl_append, List.length_append] at this
      exact this
  exact key a.edges [] rfl
theorem edge_mem {a : TAuto} {i : Nat} (h : i < a.edges.length) : a.edges.getD i default ∈ a.edges := by
  rw [List.getD_eq_getElem?_getD, List.getElem?_eq_getElem h]; exact List.getElem_mem h
theorem stN {a : TAuto} (h4 : 1 ≤ a.states ∧ a.states ≤ 4) : W (a.states * a.states) = ((a.states.toNat * a.states.toNat : Nat) : Int) ∧ a.states.toNat * a.states.toNat ≤ 16 := by
  have := mmI (m := a.states.toNat) (by omega)
  rw [show ((a.states.toNat : Nat) : Int) = a.states by omega] at this
  exact this
theorem implLetter_eq {a : TAuto} (h : AOk a) (h4 : 1 ≤ a.states ∧ a.states ≤ 4) (x : Int) : impl_boxLetter a x = some (letL a.states.toNat x a.edges) := by
  obtain ⟨g1, g2⟩ := stN h4
  have hn := h.num
  unfold impl_boxLetter
  rw [g1, mk_ok (by omega) (by omega), Option.bind_some, Int.toNat_natCast]
  have hL : loop (fun s : List Int × Int => impl_boxLetter.b0 a x s.1 s.2) (List.replicate (a.states.toNat * a.states.toNat) 0, 0) = some (letL a.states.toNat x a.edges) := letter_loop h h4 x (fun z i hi hz => by
    (try dsimp only); unfold impl_boxLetter.b0
    obtain ⟨c1, c2⟩ := edge_cell h h4 (edge_mem hi)
    rw [if_pos (by omega), ix_nat hi, Option.bind_some, W, W_nat (by omega)]
    unfold letStep
    by_cases g : (a.edges.getD i default).letter = x
    · rw [if_neg (fun k => k g), if_pos g, c1, ck_nat (by omega), Option.bind_some]
      by_cases k : (a.edges.getD i default).good = true
      · rw [if_pos k, if_pos k, ck_nat (by rw [List.length_set]; omega), Option.bind_some, List.set_set]
      · rw [if_neg k, if_neg k]
    · rw [if_pos g, if_neg g]) (fun z => by (try dsimp only); unfold impl_boxLetter.b0; rw [if_neg (by omega)])
  rw [hL, Option.bind_some]; rfl
theorem lettersOk_app {u v : List Int} {n : Int} : lettersOk (u ++ v) n = true ↔ lettersOk u n = true ∧ lettersOk v n = true := by
  have key : ∀ w : List Int, lettersOk w n = true ↔ ∀ x ∈ w, 0 ≤ x ∧ x ≤ W (n - 1) := by
    intro w
    unfold lettersOk
    rw [List.all_eq_true]
    constructor
    · intro h x hx
      obtain ⟨i, hi, rfl⟩ := List.getElem_of_mem hx
      have := h i (List.mem_range.mpr hi)
      simpa [hi] using this
    · intro h i hi
      have hi := List.mem_range.mp hi
      have := h _ (List.getElem_mem hi)
      simpa [hi] using this
  rw [key, key, key]
  constructor
  · intro h; exact ⟨fun x hx => h x (List.mem_append_left _ hx), fun x hx => h x (List.mem_append_right _ hx)⟩
  · rintro ⟨h1, h2⟩ x hx
    rcases List.mem_append.mp hx with hx | hx
    · exact h1 x hx
    · exact h2 x hx
noncomputable def boxOf (a : TAuto) (w : List Int) : List Int := if (1 ≤ a.states ∧ a.states ≤ 4) ∧ w.length ≤ 60 ∧ autoOk a = true ∧ lettersOk w a.letters = true then wordL a.states.toNat a.edges w else []
theorem fold_loopW {m : Nat} {es : List TEdge} {w : List Int} {body : List Int × Int → Option ((List Int × Int) ⊕ List Int)}
    (hb : ∀ (z : List Int) (i : Nat), i < w.length → Bx m z → body (z, (i : Int)) = some (.inl (boxMulL m z (letL m (w.getD i default) es), ((i + 1 : Nat) : Int)))) (he : ∀ z : List Int, body (z, (w.length : Int)) = some (.inr z)) :
    loop body (oneL m, 0) = some (wordL m es w) := by
  have key : ∀ (r pre : List Int), w = pre ++ r → loop body (wordL m es pre, (pre.length : Int)) = some (wordL m es w) := by
    intro r
    induction r with
    | nil =>
      intro pre hp
      rw [List.append_nil] at hp
      rw [← hp]
      exact loop_end (he _)
    | cons e r ih =>
      intro pre hp
      have hk : pre.length < w.length := by rw [hp]; simp
      have hg : w.getD pre.length default = e := by rw [hp]; simp
      rw [loop_go (hb _ _ hk (word_bx m es pre)), hg]
      have := ih (pre ++ [e]) (by rw [hp]; simp)
      unfold wordL at this ⊢
      rw [List.foldl_append, List.length_append] at this
      exact this
  exact key w [] rfl
theorem implBoxOf_eq (a : TAuto) (w : List Int) (hw : w.length ≤ 1048576) : impl_BoxOf a w = some (boxOf a w) := by
  unfold impl_BoxOf boxOf
  simp only [bnd_eq, boxed_eq]
  by_cases h4 : 1 ≤ a.states ∧ a.states ≤ 4
  · by_cases h60 : w.length ≤ 60
    · rw [decide_eq_true h4, decide_eq_false (show ¬ (w.length : Int) > 60 by omega)]
      simp only [Bool.not_true, Bool.or_self, Bool.not_false, whenO_t, implAutoOk_eq, Option.bind_some, Bool.false_or]
      by_cases hA : autoOk a = true
      · have hok := autoOk_A hA
        simp only [hA, Bool.not_true, Bool.not_false, whenO_t, implLetters_eq w a.letters hw, Option.bind_some, Bool.false_or]
        by_cases hL : lettersOk w a.letters = true
        · rw [hL, if_neg (by simp), if_pos (by exact ⟨h4, h60, by simp⟩)]
          have h1 := implOne_eq (m := a.states.toNat) (by omega)
          rw [show ((a.states.toNat : Nat) : Int) = a.states by omega] at h1
          rw [h1, Option.bind_some]
          have hLp : loop (fun s : List Int × Int => impl_BoxOf.b0 w a s.1 s.2) (oneL a.states.toNat, 0) = some (wordL a.states.toNat a.edges w) := fold_loopW (fun z i hi hz => by
            (try dsimp only); unfold impl_BoxOf.b0
            have hm := implMul_eq (m := a.states.toNat) (by omega) hz (let_bx a.states.toNat (w.getD i default) a.edges)
            rw [show ((a.states.toNat : Nat) : Int) = a.states by omega] at hm
            rw [if_pos (by omega), ix_nat hi, Option.bind_some, implLetter_eq hok h4, Option.bind_some, hm, Option.bind_some, W, W_nat (by omega)]) (fun z => by (try dsimp only); unfold impl_BoxOf.b0; rw [if_neg (by omega)])
          rw [hLp, Option.bind_some]; rfl
        · rw [if_pos (by simpa using hL), if_neg (fun k => hL k.2.2.2)]
      · simp only [hA, Bool.not_false, Bool.not_true, whenO_f, Option.bind_some, Bool.true_or, if_true]
        rw [if_neg (fun k => by exact absurd k.2.2.1 (by simp))]
    · rw [decide_eq_true (show (w.length : Int) > 60 by omega)]
      simp only [Bool.or_true, Bool.not_true, whenO_f, Option.bind_some, Bool.true_or, if_true]
      rw [if_neg (fun k => h60 k.2.1)]
  · rw [decide_eq_false h4]
    simp only [Bool.not_false, Bool.true_or, Bool.not_true, whenO_f, Option.bind_some, if_true]
    rw [if_neg (fun k => h4 k.1)]
end Go.Proofs.Ytcmbbpdepobnlaa
end

/- Members of sets, by the reference. -/
section
namespace Go.Proofs.Ytcmbbpdepobnlaa
open Go Go.RowKit E
set_option linter.unusedVariables false

theorem and31 {x : Int} (h : 0 ≤ x ∧ x ≤ 30) : bAnd .i64 x 31 = x := by
  obtain ⟨y, rfl⟩ : ∃ y : Nat, x = y := ⟨x.toNat, by omega⟩
  have := bAnd_i (a := y) (b := 31) (by omega) (by omega)
  rw [show ((31 : Nat) : Int) = 31 from rfl] at this
  rw [this, show (31 : Nat) = 2 ^ 5 - 1 from rfl, Nat.and_two_pow_sub_one_eq_mod, Nat.mod_eq_of_lt (by omega)]
theorem l1Bit_eq {x : Int} (h : 0 ≤ x ∧ x ≤ 30) : spec_l1Bit x = some ((2 ^ x.toNat : Nat) : Int) := by
  unfold spec_l1Bit
  rw [and31 h, decide_eq_true h.1, chk_t, Option.bind_some]
  have := shl1_i (n := x.toNat) (by omega)
  rw [show ((x.toNat : Nat) : Int) = x by omega] at this
  rw [this]
theorem and_pow (s n : Nat) : decide (s &&& 2 ^ n ≠ 0) = s.testBit n := by
  cases h : s.testBit n with
  | false =>
    have : s &&& 2 ^ n = 0 := Nat.eq_of_testBit_eq fun i => by
      rw [Nat.testBit_and, Nat.testBit_two_pow, Nat.zero_testBit]
      by_cases e : n = i
      · subst e; rw [h]; rfl
      · simp [e]
    simp [this]
  | true =>
    rw [decide_eq_true_eq]
    intro g
    have := congrArg (fun x => x.testBit n) g
    simp [Nat.testBit_and, h, Nat.testBit_two_pow] at this
theorem l1Has_eq {s : Nat} (hs : s < 2 ^ 31) {x : Int} (h : 0 ≤ x ∧ x ≤ 30) : spec_l1Has (s : Int) x = some (s.testBit x.toNat) := by
  unfold spec_l1Has
  have hp := pow31 (n := x.toNat) (by omega)
  have h31 : (2 : Nat) ^ 31 = 2147483648 := rfl
  rw [bnd_eq, show spec_l1In x 0 30 = decide (0 ≤ x ∧ x ≤ 30) from inR, decide_eq_true h, whenO_t, l1Bit_eq h, Option.bind_some, bAnd_i (by omega) (by omega), Bool.true_and, ← and_pow]
  congr 1
  rw [decide_eq_decide]; omega
end Go.Proofs.Ytcmbbpdepobnlaa
end

/- Words: which are right, their letters, the next place. -/
section
namespace Go.Proofs.Ytcmbbpdepobnlaa
open Go Go.RowKit E
set_option linter.unusedVariables false

def wordOk (w : TWord) (n : Int) : Bool := decide (1 ≤ n ∧ n ≤ 8) && decide (w.stem.length ≤ 40) && decide (1 ≤ w.loop.length ∧ w.loop.length ≤ 40) && lettersOk w.stem n && lettersOk w.loop n
theorem specWordOk_eq (w : TWord) (n : Int) : spec_WordOk w n = some (wordOk w n) := by
  unfold spec_WordOk wordOk
  rw [bnd_eq, bnd_eq, l1Rg, l1Rg]
  by_cases h1 : 1 ≤ n ∧ n ≤ 8
  · by_cases h2 : w.stem.length ≤ 40
    · by_cases h3 : 1 ≤ w.loop.length ∧ w.loop.length ≤ 40
      · rw [decide_eq_true h1, decide_eq_true h2, decide_eq_true h3, decide_eq_false (by omega : ¬ (w.stem.length : Int) > 40), decide_eq_true (by omega : 1 ≤ (w.loop.length : Int) ∧ (w.loop.length : Int) ≤ 40), if_neg (by simp), specLetters_eq _ _ (by omega), Option.bind_some]
        cases lettersOk w.stem n
        · rfl
        · rw [whenO_t, specLetters_eq _ _ (by omega)]; simp
      · rw [decide_eq_false (by omega : ¬ (1 ≤ (w.loop.length : Int) ∧ (w.loop.length : Int) ≤ 40)), decide_eq_false h3, if_pos (by simp)]; simp
    · rw [decide_eq_true (by omega : (w.stem.length : Int) > 40), decide_eq_false h2, if_pos (by simp)]; simp
  · rw [decide_eq_false h1, if_pos (by simp)]; simp
theorem l3Right_eq (w : TWord) : spec_l3Right w = some (wordOk w 8) := by unfold spec_l3Right; rw [specWordOk_eq]; rfl
/-- What a right word is. -/
structure WOk (w : TWord) : Prop where
  stem : w.stem.length ≤ 40
  one : 1 ≤ w.loop.length
  loop : w.loop.length ≤ 40
  ls : ∀ k, k < w.stem.length → 0 ≤ w.stem.getD k default ∧ w.stem.getD k default ≤ 7
  ll : ∀ k, k < w.loop.length → 0 ≤ w.loop.getD k default ∧ w.loop.getD k default ≤ 7
theorem lettersOk_t {l : List Int} {n : Int} (hn : 1 ≤ n ∧ n ≤ 8) (h : lettersOk l n = true) : ∀ k, k < l.length → 0 ≤ l.getD k default ∧ l.getD k default ≤ n - 1 := by
  intro k hk
  have := List.all_eq_true.mp h k (List.mem_range.mpr hk)
  rw [decide_eq_true_eq, W, W_eq (by omega) (by omega)] at this
  exact this
theorem wordOk_t {w : TWord} {n : Int} (h : wordOk w n = true) : WOk w ∧ (1 ≤ n ∧ n ≤ 8) ∧ lettersOk w.stem n = true ∧ lettersOk w.loop n = true := by
  unfold wordOk at h
  simp only [Bool.and_eq_true, decide_eq_true_eq] at h
  obtain ⟨⟨⟨⟨h1, h2⟩, h3⟩, h4⟩, h5⟩ := h
  exact ⟨⟨h2, h3.1, h3.2, fun k hk => by have := lettersOk_t h1 h4 k hk; omega, fun k hk => by have := lettersOk_t h1 h5 k hk; omega⟩, h1, h4, h5⟩
/-- How many places; the letter at a place; the place behind it. -/
def plN (w : TWord) : Nat := w.stem.length + w.loop.length
def letN (w : TWord) (p : Nat) : Nat := (if p < w.stem.length then w.stem.getD p default else w.loop.getD (p - w.stem.length) default).toNat
def nxN (w : TWord) (p : Nat) : Nat := if p + 1 = plN w then w.stem.length else p + 1
theorem nxN_lt {w : TWord} (h : WOk w) {p : Nat} (hp : p < plN w) : nxN w p < plN w := by
  have := h.one
  unfold nxN plN at *
  split <;> omega
theorem letN_le {w : TWord} (h : WOk w) {p : Nat} (hp : p < plN w) : letN w p ≤ 7 := by
  unfold letN
  split
  · rename_i k; have := h.ls p k; omega
  · rename_i k; have := h.ll (p - w.stem.length) (by unfold plN at hp; omega); omega
theorem l6Places_eq {w : TWord} (h : WOk w) : spec_l6Places w = (plN w : Int) := by
  have := h.stem; have := h.loop
  unfold spec_l6Places plN
  rw [W, W_eq (by omega) (by omega)]; omega
theorem l6After_eq {w : TWord} (h : WOk w) {p : Nat} (hp : p < plN w) : spec_l6After w (p : Int) = (nxN w p : Int) := by
  have h1 := h.stem; have h2 := h.loop
  unfold spec_l6After nxN
  unfold plN at hp
  rw [l6Places_eq h, W, W_eq (by omega) (by omega)]
  unfold plN
  split <;> split <;> omega
theorem l3At_eq {w : TWord} (h : WOk w) {p : Nat} (hp : p < plN w) : spec_l3At w (p : Int) = some (letN w p : Int) := by
  have h1 := h.stem; have h2 := h.loop; have h3 := h.one
  unfold spec_l3At letN
  unfold plN at hp
  split
  · rename_i k
    have k' : p < w.stem.length := by omega
    have := h.ls p k'
    rw [ix_nat k', Option.bind_some, if_pos k', Int.toNat_of_nonneg this.1]
  · rename_i k
    have := h.ll (p - w.stem.length) (by omega)
    rw [decide_eq_true (by omega), chk_t, Option.bind_some, W, W_eq (by omega) (by omega), show (p : Int) - (w.stem.length : Int) = ((p - w.stem.length : Nat) : Int) by omega, ← Int.ofNat_tmod, Nat.mod_eq_of_lt (by omega), ix_nat (by omega), Option.bind_some, if_neg (by omega), Int.toNat_of_nonneg this.1]
end Go.Proofs.Ytcmbbpdepobnlaa
end

/- Ways in graphs: what a search down tells by its order, and how points are told into rings. -/
section
namespace Go.Proofs.Ytcmbbpdepobnlaa
open Go Go.RowKit E
set_option linter.unusedVariables false

/-- Steps lead from a to b. -/
inductive Rch (adj : Nat → List Nat) : Nat → Nat → Prop where
  | refl (a : Nat) : Rch adj a a
  | head {a b c : Nat} (h : b ∈ adj a) (k : Rch adj b c) : Rch adj a c
section
variable {adj : Nat → List Nat}
theorem Rch.one {a b : Nat} (h : b ∈ adj a) : Rch adj a b := .head h (.refl b)
theorem Rch.trans {a b c : Nat} (h : Rch adj a b) (k : Rch adj b c) : Rch adj a c := by
  induction h with
  | refl => exact k
  | head h _ ih => exact .head h (ih k)
theorem Rch.snoc {a b c : Nat} (h : Rch adj a b) (k : c ∈ adj b) : Rch adj a c := h.trans (.one k)
def Mut (adj : Nat → List Nat) (a b : Nat) : Prop := Rch adj a b ∧ Rch adj b a
theorem Mut.refl (a : Nat) : Mut adj a a := ⟨.refl a, .refl a⟩
theorem Mut.symm {a b : Nat} (h : Mut adj a b) : Mut adj b a := ⟨h.2, h.1⟩
theorem Mut.trans {a b c : Nat} (h : Mut adj a b) (k : Mut adj b c) : Mut adj a c := ⟨h.1.trans k.1, k.2.trans h.2⟩

theorem getD_set {α : Type} {xs : List α} {i j : Nat} {a d : α} (hi : i < xs.length) : (xs.set i a).getD j d = if i = j then a else xs.getD j d := by
  simp only [List.getD_eq_getElem?_getD]
  by_cases e : i = j
  · subst e; simp [hi]
  · simp [e]

def Chain (adj : Nat → List Nat) : List (Nat × Nat) → Prop
  | x :: y :: r => x.1 ∈ adj y.1 ∧ Chain adj (y :: r)
  | _ => True
theorem Chain.tail {x : Nat × Nat} : ∀ {rs : List (Nat × Nat)}, Chain adj (x :: rs) → Chain adj rs
  | [], _ => trivial
  | _ :: _, h => h.2
theorem Chain.swap {p k k' : Nat} : ∀ {rs : List (Nat × Nat)}, Chain adj ((p, k) :: rs) → Chain adj ((p, k') :: rs)
  | [], _ => trivial
  | _ :: _, h => h
theorem Chain.top : ∀ {rs : List (Nat × Nat)} {x : Nat × Nat}, Chain adj (x :: rs) → ∀ y ∈ x :: rs, Rch adj y.1 x.1
  | [], x, _, y, hy => by rw [List.mem_singleton.mp hy]; exact .refl _
  | z :: r, x, h, y, hy => by
    rcases List.mem_cons.mp hy with rfl | hy
    · exact .refl _
    · exact (Chain.top h.2 y hy).snoc h.1

/-- A search down, under way. -/
structure Dfs (adj : Nat → List Nat) (n : Nat) (order : List Nat) (rs : List (Nat × Nat)) (seen : List Bool) : Prop where
  len : seen.length = n
  nd : (order ++ rs.map (·.1)).Nodup
  mem : ∀ v, v < n → (seen.getD v default = true ↔ v ∈ order ++ rs.map (·.1))
  lt : ∀ v, v ∈ order ++ rs.map (·.1) → v < n
  path : Chain adj rs
  at_ : ∀ x ∈ rs, x.2 ≤ (adj x.1).length ∧ ∀ j, j < x.2 → seen.getD ((adj x.1).getD j 0) default = true
  fin : ∀ p ∈ order, ∀ q ∈ adj p, seen.getD q default = true
  J : ∀ i, i < order.length → ∀ j, j ≤ i → ∀ q ∈ adj (order.getD j 0), q ∈ order.take (i + 1) ∨ Rch adj q (order.getD i 0)
variable {n : Nat} {order : List Nat} {rs : List (Nat × Nat)} {seen : List Bool}
theorem Dfs.start : Dfs adj n [] [] (List.replicate n false) :=
  ⟨by simp, by simp, fun v hv => by simp [List.getD_eq_getElem?_getD, List.getElem?_replicate, hv], by simp, trivial, by simp, by simp, fun i h => by simp at h⟩
theorem seen_set {v u : Nat} (hv : v < seen.length) : (seen.set v true).getD u default = true ↔ u = v ∨ seen.getD u default = true := by
  rw [getD_set hv]
  by_cases e : v = u
  · subst e; simp
  · rw [if_neg e]; constructor
    · exact .inr
    · rintro (h | h)
      · exact absurd h.symm e
      · exact h
theorem Dfs.root (h : Dfs adj n order [] seen) {v : Nat} (hv : v < n) (hs : seen.getD v default = false) : Dfs adj n order [(v, 0)] (seen.set v true) := by
  have hl := h.len
  have hno : v ∉ order := fun hm => by
    have := (h.mem v hv).mpr (by simpa using hm); rw [hs] at this; cases this
  refine ⟨by simp [hl], ?_, fun u hu => ?_, fun u hu => ?_, trivial, fun x hx => ?_, fun p hp q hq => ?_, h.J⟩
  · have := h.nd
    simp only [List.map_nil, List.append_nil] at this
    simp only [List.map_cons, List.map_nil]
    rw [List.nodup_append]
    exact ⟨this, by simp, fun a ha b hb e => hno (by rw [List.mem_singleton] at hb; rw [← hb, ← e]; exact ha)⟩
  · rw [seen_set (by omega), h.mem u hu]; simp [or_comm]
  · simp only [List.map_cons, List.map_nil, List.mem_append, List.mem_singleton] at hu
    rcases hu with hu | rfl
    · exact h.lt u (by simpa using hu)
    · exact hv
  · rw [List.mem_singleton.mp hx]; exact ⟨Nat.zero_le _, fun j hj => absurd hj (by simp)⟩
  · rw [seen_set (by omega)]; exact .inr (h.fin p hp q hq)
theorem Dfs.pop {p k : Nat} (h : Dfs adj n order ((p, k) :: rs) seen) (hk : k = (adj p).length) (hadj : ∀ a, a < n → ∀ b ∈ adj a, b < n) : Dfs adj n (order ++ [p]) rs seen := by
  have hp : p < n := h.lt p (by simp)
  have hall : ∀ q ∈ adj p, seen.getD q default = true := fun q hq => by
    obtain ⟨j, hj, rfl⟩ := List.getElem_of_mem hq
    have := (h.at_ (p, k) List.mem_cons_self).2 j (by omega)
    simpa [List.getD_eq_getElem?_getD, hj] using this
  refine ⟨h.len, by simpa using h.nd, fun v hv => by rw [h.mem v hv]; simp, fun v hv => h.lt v (by simpa using hv), h.path.tail, fun x hx => h.at_ x (List.mem_cons_of_mem _ hx), fun q hq => ?_, fun i hi j hj q hq => ?_⟩
  · rcases List.mem_append.mp hq with hq | hq
    · exact h.fin q hq
    · rw [List.mem_singleton.mp hq]; exact hall
  · have hi' : i < order.length + 1 := by simpa using hi
    by_cases e : i < order.length
    · have h1 := h.J i e j hj
      have e1 : (order ++ [p]).getD j 0 = order.getD j 0 := by simp [List.getD_eq_getElem?_getD, List.getElem?_append_left (show j < order.length by omega)]
      have e2 : (order ++ [p]).getD i 0 = order.getD i 0 := by simp [List.getD_eq_getElem?_getD, List.getElem?_append_left e]
      rw [e1] at hq
      rw [e2, List.take_append_of_le_length (by omega)]
      exact h1 q hq
    · obtain rfl : i = order.length := by omega
      have e2 : (order ++ [p]).getD order.length 0 = p := by simp [List.getD_eq_getElem?_getD]
      have e3 : (order ++ [p]).take (order.length + 1) = order ++ [p] := List.take_of_length_le (by simp)
      rw [e2, e3]
      have hsq : seen.getD q default = true ∧ q < n := by
        by_cases ej : j < order.length
        · have e1 : (order ++ [p]).getD j 0 = order.getD j 0 := by simp [List.getD_eq_getElem?_getD, List.getElem?_append_left ej]
          rw [e1] at hq
          have hm : order.getD j 0 ∈ order := by simp [List.getD_eq_getElem?_getD, ej]
          exact ⟨h.fin _ hm q hq, hadj _ (h.lt _ (List.mem_append_left _ hm)) q hq⟩
        · obtain rfl : j = order.length := by omega
          rw [e2] at hq
          exact ⟨hall q hq, hadj p hp q hq⟩
      have hm := (h.mem q hsq.2).mp hsq.1
      simp only [List.map_cons, List.mem_append, List.mem_cons] at hm
      rcases hm with hm | rfl | hm
      · exact .inl (List.mem_append_left _ hm)
      · exact .inr (.refl _)
      · obtain ⟨x, hx, rfl⟩ := List.mem_map.mp hm
        exact .inr (h.path.top x (List.mem_cons_of_mem _ hx))
theorem Dfs.next {p k : Nat} (h : Dfs adj n order ((p, k) :: rs) seen) (hk : k < (adj p).length) (hs : seen.getD ((adj p).getD k 0) default = true) : Dfs adj n order ((p, k + 1) :: rs) seen := by
  refine ⟨h.len, h.nd, h.mem, h.lt, h.path.swap, fun x hx => ?_, h.fin, h.J⟩
  rcases List.mem_cons.mp hx with rfl | hx
  · refine ⟨hk, fun j hj => ?_⟩
    by_cases e : j = k
    · subst e; exact hs
    · exact (h.at_ (p, k) List.mem_cons_self).2 j (by simp at hj; omega)
  · exact h.at_ x (List.mem_cons_of_mem _ hx)
theorem Dfs.push {p k to : Nat} (h : Dfs adj n order ((p, k) :: rs) seen) (hk : k < (adj p).length) (ht : (adj p).getD k 0 = to) (hto : to < n) (hs : seen.getD to default = false) : Dfs adj n order ((to, 0) :: (p, k + 1) :: rs) (seen.set to true) := by
  have hl := h.len
  have hno : to ∉ order ++ ((p, k) :: rs).map (·.1) := fun hm => by
    have := (h.mem to hto).mpr hm; rw [hs] at this; cases this
  refine ⟨by simp [hl], ?_, fun u hu => ?_, fun u hu => ?_, ⟨?_, h.path.swap⟩, fun x hx => ?_, fun p' hp' q hq => ?_, h.J⟩
  · have := h.nd
    rw [List.nodup_append] at this ⊢
    simp only [List.map_cons, List.mem_append, List.mem_cons, not_or] at hno
    refine ⟨this.1, List.nodup_cons.mpr ⟨by simpa using ⟨hno.2.1, fun x y => by have := hno.2.2; simp at this; exact this x y⟩, this.2.1⟩, fun a ha b hb e => ?_⟩
    rcases List.mem_cons.mp hb with rfl | hb
    · exact hno.1 (e ▸ ha)
    · exact this.2.2 a ha b hb e
  · rw [seen_set (by omega), h.mem u hu]
    simp only [List.map_cons, List.mem_append, List.mem_cons]
    constructor
    · rintro (h | h | h | h)
      · exact .inr (.inl h)
      · exact .inl h
      · exact .inr (.inr (.inl h))
      · exact .inr (.inr (.inr h))
    · rintro (h | h | h | h)
      · exact .inr (.inl h)
      · exact .inl h
      · exact .inr (.inr (.inl h))
      · exact .inr (.inr (.inr h))
  · simp only [List.map_cons, List.mem_append, List.mem_cons] at hu
    rcases hu with hu | rfl | hu
    · exact h.lt u (by simp [hu])
    · exact hto
    · exact h.lt u (List.mem_append_right _ (List.mem_cons.mpr hu))
  · show to ∈ adj p
    rw [← ht]; simp [List.getD_eq_getElem?_getD, hk]
  · rcases List.mem_cons.mp hx with rfl | hx
    · exact ⟨Nat.zero_le _, fun j hj => absurd hj (by simp)⟩
    · rcases List.mem_cons.mp hx with rfl | hx
      · refine ⟨hk, fun j hj => ?_⟩
        rw [seen_set (by omega)]
        by_cases e : j = k
        · subst e; exact .inl ht
        · exact .inr ((h.at_ (p, k) List.mem_cons_self).2 j (by simp at hj; omega))
      · obtain ⟨g1, g2⟩ := h.at_ x (List.mem_cons_of_mem _ hx)
        exact ⟨g1, fun j hj => by rw [seen_set (by omega)]; exact .inr (g2 j hj)⟩
  · rw [seen_set (by omega)]; exact .inr (h.fin p' hp' q hq)

/-- What the order of a search down tells in the end. -/
structure Fins (adj : Nat → List Nat) (n : Nat) (order : List Nat) : Prop where
  nd : order.Nodup
  all : ∀ v, v < n → v ∈ order
  lt : ∀ v ∈ order, v < n
  J : ∀ i, i < order.length → ∀ j, j ≤ i → ∀ q ∈ adj (order.getD j 0), q ∈ order.take (i + 1) ∨ Rch adj q (order.getD i 0)
theorem Dfs.fins (h : Dfs adj n order [] seen) (hall : ∀ v, v < n → seen.getD v default = true) : Fins adj n order :=
  ⟨by simpa using h.nd, fun v hv => by simpa using (h.mem v hv).mp (hall v hv), fun v hv => h.lt v (by simpa using hv), h.J⟩
theorem Fins.key (h : Fins adj n order) (hadj : ∀ a, a < n → ∀ b ∈ adj a, b < n) {i : Nat} (hi : i < order.length) (hmax : ∀ j, i < j → j < order.length → ¬ Mut adj (order.getD i 0) (order.getD j 0)) {q : Nat} (hq : Rch adj (order.getD i 0) q) : q ∈ order.take (i + 1) := by
  have key : ∀ r q, Rch adj r q → r ∈ order.take (i + 1) → Rch adj (order.getD i 0) r → q ∈ order.take (i + 1) := by
    intro r q hrq
    induction hrq with
    | refl => exact fun h _ => h
    | @head a b c hab hbc ih =>
      intro hr hpr
      obtain ⟨j, hj, rfl⟩ := List.getElem_of_mem hr
      have hj2 : j < i + 1 ∧ j < order.length := by simpa [Nat.lt_min] using hj
      have hr' : (order.take (i + 1))[j] = order.getD j 0 := by simp [List.getD_eq_getElem?_getD, hj2.2]
      rw [hr'] at hab hpr
      have hb : b ∈ order.take (i + 1) := by
        rcases h.J i hi j (by omega) b hab with g | g
        · exact g
        · have hbn : b < n := hadj _ (h.lt _ (by simp [List.getD_eq_getElem?_getD, hj2.2])) b hab
          obtain ⟨m, hm, hbm⟩ := List.getElem_of_mem (h.all b hbn)
          by_cases hmi : m ≤ i
          · rw [← hbm]
            exact List.mem_of_getElem? (i := m) (by rw [List.getElem?_take_of_lt (by omega)]; exact List.getElem?_eq_getElem hm)
          · exfalso
            refine hmax m (by omega) hm ⟨?_, ?_⟩
            · have : order.getD m 0 = b := by simp [List.getD_eq_getElem?_getD, hm, hbm]
              rw [this]; exact hpr.snoc hab
            · have : order.getD m 0 = b := by simp [List.getD_eq_getElem?_getD, hm, hbm]
              rw [this]; exact g
      exact ih hb (hpr.snoc hab)
  refine key _ q hq ?_ (.refl _)
  exact List.mem_of_getElem? (i := i) (by rw [List.getElem?_take_of_lt (by omega), List.getElem?_eq_getElem hi]; simp [List.getD_eq_getElem?_getD, hi])
/-- The same, the order turned round. -/
theorem Fins.rkey (h : Fins adj n order) (hadj : ∀ a, a < n → ∀ b ∈ adj a, b < n) {k : Nat} (hk : k < order.length) (hmax : ∀ j, j < k → ¬ Mut adj (order.reverse.getD k 0) (order.reverse.getD j 0)) {j : Nat} (hj : j < k) : ¬ Rch adj (order.reverse.getD k 0) (order.reverse.getD j 0) := by
  have e : ∀ j, j < order.length → order.reverse.getD j 0 = order.getD (order.length - 1 - j) 0 := fun j hj => by
    simp [List.getD_eq_getElem?_getD, List.getElem?_reverse hj]
  intro hr
  rw [e k hk, e j (by omega)] at hr
  have h1 := h.key hadj (i := order.length - 1 - k) (by omega) (fun m hm1 hm2 hM => by
    have := hmax (order.length - 1 - m) (by omega)
    rw [e k hk, e _ (by omega), show order.length - 1 - (order.length - 1 - m) = m by omega] at this
    exact this hM) hr
  obtain ⟨m, hm, hme⟩ := List.getElem_of_mem h1
  have hm2 : m < order.length - 1 - k + 1 ∧ m < order.length := by simpa [Nat.lt_min] using hm
  rw [List.getElem_take] at hme
  have h3 : order.getD (order.length - 1 - j) 0 = order[order.length - 1 - j]'(by omega) := by simp [List.getD_eq_getElem?_getD, show order.length - 1 - j < order.length by omega]
  rw [h3] at hme
  have := (List.getElem_inj h.nd).mp hme
  omega

/-- Points are marked, each once. -/
def pour (d : Int) : List Nat → List Int × List Nat → List Int × List Nat
  | [], s => s
  | u :: l, s => pour d l (if s.1.getD u default < 0 then (s.1.set u d, s.2 ++ [u]) else s)
theorem pour_len {d : Int} : ∀ (l : List Nat) (s : List Int × List Nat), (pour d l s).1.length = s.1.length
  | [], s => rfl
  | u :: l, s => by
    unfold pour
    rw [pour_len l]
    split <;> simp
theorem pour_keep {d : Int} : ∀ (l : List Nat) (s : List Int × List Nat) (v : Nat), (∀ u ∈ l, u < s.1.length) → 0 ≤ s.1.getD v default → (pour d l s).1.getD v default = s.1.getD v default
  | [], s, v, _, _ => rfl
  | u :: l, s, v, hl, hv => by
    unfold pour
    split
    · rename_i hu
      have hlt := hl u List.mem_cons_self
      have e : (s.1.set u d).getD v default = s.1.getD v default := by
        rw [getD_set hlt, if_neg]; intro e; subst e; omega
      rw [pour_keep l _ v (fun x hx => by simpa using hl x (List.mem_cons_of_mem _ hx)) (by rw [e]; exact hv), e]
    · exact pour_keep l s v (fun x hx => hl x (List.mem_cons_of_mem _ hx)) hv
/-- Whatever holds and is kept by each marking holds behind all; all of the list are marked. -/
theorem pour_ind {d : Int} (hd : 0 ≤ d) (I : List Int × List Nat → Prop) : ∀ (l : List Nat) (s : List Int × List Nat), (∀ u ∈ l, u < s.1.length) → (∀ out q u, out.length = s.1.length → u ∈ l → out.getD u default < 0 → I (out, q) → I (out.set u d, q ++ [u])) → I s → I (pour d l s) ∧ ∀ u ∈ l, 0 ≤ (pour d l s).1.getD u default
  | [], s, _, _, h => ⟨h, by simp⟩
  | u :: l, s, hl, hk, h => by
    have hlt := hl u List.mem_cons_self
    unfold pour
    split
    · rename_i hu
      have h1 := pour_ind hd I l (s.1.set u d, s.2 ++ [u]) (fun x hx => by simpa using hl x (List.mem_cons_of_mem _ hx)) (fun out q x ho hx => hk out q x (by simpa using ho) (List.mem_cons_of_mem _ hx)) (hk s.1 s.2 u rfl List.mem_cons_self hu h)
      refine ⟨h1.1, fun x hx => ?_⟩
      rcases List.mem_cons.mp hx with rfl | hx
      · rw [pour_keep l _ x (fun y hy => by simpa using hl y (List.mem_cons_of_mem _ hy)) (by rw [getD_set hlt, if_pos rfl]; exact hd), getD_set hlt, if_pos rfl]; exact hd
      · exact h1.2 x hx
    · rename_i hu
      have h1 := pour_ind hd I l s (fun x hx => hl x (List.mem_cons_of_mem _ hx)) (fun out q x ho hx => hk out q x ho (List.mem_cons_of_mem _ hx)) h
      refine ⟨h1.1, fun x hx => ?_⟩
      rcases List.mem_cons.mp hx with rfl | hx
      · rw [pour_keep l s x (fun y hy => hl y (List.mem_cons_of_mem _ hy)) (by omega)]; omega
      · exact h1.2 x hx

/-- The points of a ring are marked, under way. -/
structure Flood (adj radj : Nat → List Nat) (n root : Nat) (ring : Int) (out0 : List Int) (ex : Nat → Prop) (s : List Int × List Nat) : Prop where
  len : s.1.length = n
  old : ∀ v, v < n → 0 ≤ out0.getD v default → s.1.getD v default = out0.getD v default
  new : ∀ v, v < n → out0.getD v default < 0 → s.1.getD v default < 0 ∨ (s.1.getD v default = ring ∧ Rch adj v root)
  stk : ∀ v ∈ s.2, v < n ∧ out0.getD v default < 0 ∧ s.1.getD v default = ring
  closed : ∀ v, v < n → out0.getD v default < 0 → s.1.getD v default = ring → ex v ∨ v ∈ s.2 ∨ ∀ u ∈ radj v, 0 ≤ s.1.getD u default
  rt : s.1.getD root default = ring
variable {radj : Nat → List Nat} {root : Nat} {ring : Int} {out0 : List Int}
theorem Flood.start (hr : root < n) (hl : out0.length = n) (h0 : out0.getD root default < 0) (hring : 0 ≤ ring) : Flood adj radj n root ring out0 (fun _ => False) (out0.set root ring, [root]) := by
  refine ⟨by simpa using hl, fun v hv h => ?_, fun v hv h => ?_, fun v hv => ?_, fun v hv h h' => ?_, ?_⟩
  · dsimp only; rw [getD_set (by omega), if_neg]; intro e; subst e; omega
  · dsimp only; rw [getD_set (by omega)]
    by_cases e : root = v
    · subst e; rw [if_pos rfl]; exact .inr ⟨rfl, .refl _⟩
    · rw [if_neg e]; exact .inl h
  · rw [List.mem_singleton.mp hv]; exact ⟨hr, h0, by dsimp only; rw [getD_set (by omega), if_pos rfl]⟩
  · right; left
    dsimp only at h' ⊢
    rw [getD_set (by omega)] at h'
    by_cases e : root = v
    · subst e; simp
    · rw [if_neg e] at h'; omega
  · dsimp only; rw [getD_set (by omega), if_pos rfl]
/-- One is taken from the pile, and those ahead of it are marked. -/
theorem Flood.step {out : List Int} {q : List Nat} {p : Nat} (h : Flood adj radj n root ring out0 (fun _ => False) (out, q ++ [p])) (hring : 0 ≤ ring) (hrad : ∀ p, p < n → ∀ u ∈ radj p, u < n ∧ p ∈ adj u) : Flood adj radj n root ring out0 (fun _ => False) (pour ring (radj p) (out, q)) := by
  obtain ⟨hp, hp0, hpr⟩ := h.stk p (by simp)
  have hpR : Rch adj p root := by
    rcases h.new p hp hp0 with g | g
    · rw [hpr] at g; omega
    · exact g.2
  have hlen := h.len
  dsimp only at hlen
  have h1 := pour_ind hring (Flood adj radj n root ring out0 (fun v => v = p)) (radj p) (out, q) (fun u hu => by dsimp only; rw [hlen]; exact (hrad p hp u hu).1) (fun o s u ho hu hneg hI => ?_) ?_
  · obtain ⟨hF, hall⟩ := h1
    refine ⟨hF.len, hF.old, hF.new, hF.stk, fun v hv h0 hv' => ?_, hF.rt⟩
    rcases hF.closed v hv h0 hv' with rfl | g | g
    · exact .inr (.inr hall)
    · exact .inr (.inl g)
    · exact .inr (.inr g)
  · have hun := hrad p hp u hu
    have hlo : o.length = n := hI.len
    have hu0 : out0.getD u default < 0 := by
      refine Classical.byContradiction fun g => ?_
      have := hI.old u hun.1 (by omega)
      dsimp only at this; omega
    refine ⟨by simpa using hlo, fun v hv g => ?_, fun v hv g => ?_, fun v hv => ?_, fun v hv g g' => ?_, ?_⟩
    · dsimp only; rw [getD_set (by omega), if_neg (fun e => by subst e; omega)]; exact hI.old v hv g
    · dsimp only; rw [getD_set (by omega)]
      by_cases e : u = v
      · subst e; rw [if_pos rfl]; exact .inr ⟨rfl, .head hun.2 hpR⟩
      · rw [if_neg e]; exact hI.new v hv g
    · dsimp only at hv ⊢
      rcases List.mem_append.mp hv with hv | hv
      · obtain ⟨a1, a2, a3⟩ := hI.stk v hv
        dsimp only at a3
        refine ⟨a1, a2, ?_⟩
        rw [getD_set (by omega)]
        by_cases e : u = v
        · rw [if_pos e]
        · rw [if_neg e]; exact a3
      · rw [List.mem_singleton.mp hv]; exact ⟨hun.1, hu0, by rw [getD_set (by omega), if_pos rfl]⟩
    · dsimp only at g' ⊢
      by_cases e : u = v
      · subst e; exact .inr (.inl (by simp))
      · rw [getD_set (by omega), if_neg e] at g'
        rcases hI.closed v hv g g' with k | k | k
        · exact .inl k
        · exact .inr (.inl (List.mem_append_left _ k))
        · refine .inr (.inr fun x hx => ?_)
          rw [getD_set (by omega)]
          split
          · exact hring
          · exact k x hx
    · dsimp only; rw [getD_set (by omega)]
      split
      · rfl
      · exact hI.rt
  · refine ⟨h.len, h.old, h.new, fun v hv => h.stk v (List.mem_append_left _ hv), fun v hv g g' => ?_, h.rt⟩
    rcases h.closed v hv g g' with k | k | k
    · exact k.elim
    · rcases List.mem_append.mp k with k | k
      · exact .inr (.inl k)
      · exact .inl (List.mem_singleton.mp k)
    · exact .inr (.inr k)

/-- Rings told so far. -/
structure Rings (adj : Nat → List Nat) (n : Nat) (rev : List Nat) (k : Nat) (out : List Int) : Prop where
  len : out.length = n
  lt : ∀ v, v < n → out.getD v default < k
  dom : ∀ v, v < n → (0 ≤ out.getD v default ↔ ∃ j, j < k ∧ Mut adj v (rev.getD j 0))
  eq : ∀ u v, u < n → v < n → 0 ≤ out.getD u default → 0 ≤ out.getD v default → (out.getD u default = out.getD v default ↔ Mut adj u v)
variable {rev : List Nat} {out : List Int} {k : Nat}
theorem Rings.start : Rings adj n rev 0 (List.replicate n (-1)) := by
  have e : ∀ v, v < n → (List.replicate n (-1 : Int)).getD v default = -1 := fun v hv => by simp [List.getD_eq_getElem?_getD, List.getElem?_replicate, hv]
  refine ⟨by simp, fun v hv => by rw [e v hv]; decide, fun v hv => ?_, fun u v hu hv h _ => ?_⟩
  · rw [e v hv]; constructor
    · intro h; exact absurd h (by decide)
    · rintro ⟨j, hj, _⟩; omega
  · rw [e u hu] at h; exact absurd h (by decide)
theorem Rings.skip (h : Rings adj n rev k out) (hr : rev.getD k 0 < n) (h0 : 0 ≤ out.getD (rev.getD k 0) default) : Rings adj n rev (k + 1) out := by
  refine ⟨h.len, fun v hv => by have := h.lt v hv; omega, fun v hv => ?_, h.eq⟩
  rw [h.dom v hv]
  constructor
  · rintro ⟨j, hj, g⟩; exact ⟨j, by omega, g⟩
  · rintro ⟨j, hj, g⟩
    by_cases e : j < k
    · exact ⟨j, e, g⟩
    · obtain rfl : j = k := by omega
      obtain ⟨i, hi, g'⟩ := (h.dom _ hr).mp h0
      exact ⟨i, hi, g.trans g'⟩
theorem Rings.flood (h : Rings adj n order.reverse k out0) (hF : Fins adj n order) (hadj : ∀ a, a < n → ∀ b ∈ adj a, b < n) (hrad : ∀ p u, p < n → u < n → p ∈ adj u → u ∈ radj p) (hk : k < order.length) (h0 : out0.getD (order.reverse.getD k 0) default < 0)
    (hfl : Flood adj radj n (order.reverse.getD k 0) (k : Int) out0 (fun _ => False) (out, [])) : Rings adj n order.reverse (k + 1) out := by
  have hlen2 : order.reverse.length = order.length := by simp
  have hrn : ∀ j, j < order.length → order.reverse.getD j 0 < n := fun j hj => hF.lt _ (by
    have : order.reverse.getD j 0 ∈ order.reverse := by simp [List.getD_eq_getElem?_getD, hj]
    simpa using this)
  have hmax : ∀ j, j < k → ¬ Mut adj (order.reverse.getD k 0) (order.reverse.getD j 0) := fun j hj g => by
    have := (h.dom _ (hrn k hk)).mpr ⟨j, hj, g⟩; omega
  -- what is marked anew is just the ring
  have hiff : ∀ v, v < n → out0.getD v default < 0 → (out.getD v default = k ↔ Mut adj v (order.reverse.getD k 0)) := by
    intro v hv hv0
    constructor
    · intro hvk
      have hR : Rch adj v (order.reverse.getD k 0) := by
        rcases hfl.new v hv hv0 with g | g
        · dsimp only at g; omega
        · exact g.2
      refine Classical.byContradiction fun hno => ?_
      -- the first of v's ring in the order
      have hex : ∃ m, m < order.length ∧ Mut adj v (order.reverse.getD m 0) ∧ ∀ j, j < m → ¬ Mut adj v (order.reverse.getD j 0) := by
        have h1 : ∃ m, m < order.length ∧ Mut adj v (order.reverse.getD m 0) := by
          obtain ⟨m, hm, e⟩ := List.getElem_of_mem (List.mem_reverse.mpr (hF.all v hv))
          exact ⟨m, by simpa using hm, by have : order.reverse.getD m 0 = v := by { rw [List.getD_eq_getElem?_getD, List.getElem?_eq_getElem hm, e]; rfl }
                                          rw [this]; exact .refl v⟩
        obtain ⟨m, hm, hM⟩ := h1
        clear hno
        induction m using Nat.strongRecOn with
        | _ m ih =>
          by_cases hlow : ∃ j, j < m ∧ Mut adj v (order.reverse.getD j 0)
          · obtain ⟨j, hj, g⟩ := hlow
            exact ih j hj (by omega) g
          · exact ⟨m, hm, hM, fun j hj g => hlow ⟨j, hj, g⟩⟩
      obtain ⟨m, hm, hM, hleast⟩ := hex
      have hkm : k < m := by
        rcases Nat.lt_trichotomy m k with g | g | g
        · have := (h.dom v hv).mpr ⟨m, g, hM⟩; omega
        · subst g; exact absurd hM hno
        · exact g
      refine hF.rkey hadj (k := m) hm (fun j hj g => hleast j hj (hM.trans g)) hkm ?_
      exact hM.2.trans hR
    · intro hM
      have key : ∀ a b, Rch adj a b → b = order.reverse.getD k 0 → Rch adj (order.reverse.getD k 0) a → a < n → out.getD a default = k := by
        intro a b hab
        induction hab with
        | refl a => intro e _ _; rw [e]; exact hfl.rt
        | @head a b c hab hbc ih =>
          intro e hra ha
          have hb : b < n := hadj a ha b hab
          have hbk := ih e (hra.snoc hab) hb
          have hun : ∀ x, x < n → Mut adj x (order.reverse.getD k 0) → out0.getD x default < 0 := fun x hx g => by
            refine Classical.byContradiction fun g' => ?_
            obtain ⟨j, hj, gj⟩ := (h.dom x hx).mp (by omega)
            exact hmax j hj (g.symm.trans gj)
          have hb0 := hun b hb ⟨by rw [← e]; exact hbc, hra.snoc hab⟩
          have ha0 := hun a ha ⟨by rw [← e]; exact .head hab hbc, hra⟩
          rcases hfl.closed b hb hb0 hbk with g | g | g
          · exact g.elim
          · simp at g
          · have g1 := g a (hrad b a hb ha hab)
            rcases hfl.new a ha ha0 with g2 | g2
            · dsimp only at g1 g2; omega
            · exact g2.1
      exact key v _ hM.1 rfl hM.2 hv
  have hval : ∀ v, v < n → out.getD v default < 0 ∨ (out0.getD v default < 0 ∧ out.getD v default = k) ∨ (0 ≤ out0.getD v default ∧ out.getD v default = out0.getD v default) := fun v hv => by
    by_cases g : 0 ≤ out0.getD v default
    · exact .inr (.inr ⟨g, hfl.old v hv g⟩)
    · rcases hfl.new v hv (by omega) with g1 | g1
      · exact .inl g1
      · exact .inr (.inl ⟨by omega, g1.1⟩)
  refine ⟨hfl.len, fun v hv => ?_, fun v hv => ?_, fun u v hu hv gu gv => ?_⟩
  · rcases hval v hv with g | g | g
    · omega
    · omega
    · have := h.lt v hv; omega
  · constructor
    · intro g
      rcases hval v hv with g1 | g1 | g1
      · omega
      · exact ⟨k, by omega, (hiff v hv g1.1).mp g1.2⟩
      · obtain ⟨j, hj, gj⟩ := (h.dom v hv).mp g1.1
        exact ⟨j, by omega, gj⟩
    · rintro ⟨j, hj, gj⟩
      by_cases g : 0 ≤ out0.getD v default
      · have := hfl.old v hv g; dsimp only at this; omega
      · by_cases e : j < k
        · exact absurd ((h.dom v hv).mpr ⟨j, e, gj⟩) g
        · obtain rfl : j = k := by omega
          have := (hiff v hv (by omega)).mpr gj
          omega
  · rcases hval u hu with g1 | g1 | g1
    · omega
    · rcases hval v hv with g2 | g2 | g2
      · omega
      · constructor
        · intro _; exact ((hiff u hu g1.1).mp g1.2).trans ((hiff v hv g2.1).mp g2.2).symm
        · intro _; omega
      · have := h.lt v hv
        constructor
        · intro e; omega
        · intro g
          have := (hiff u hu g1.1).mp g1.2
          obtain ⟨j, hj, gj⟩ := (h.dom v hv).mp g2.1
          exact absurd (this.symm.trans (g.trans gj)) (hmax j hj)
    · rcases hval v hv with g2 | g2 | g2
      · omega
      · have := h.lt u hu
        constructor
        · intro e; omega
        · intro g
          have := (hiff v hv g2.1).mp g2.2
          obtain ⟨j, hj, gj⟩ := (h.dom u hu).mp g1.1
          exact absurd (this.symm.trans (g.symm.trans gj)) (hmax j hj)
      · rw [g1.2, g2.2]; exact h.eq u v hu hv g1.1 g2.1
end
end Go.Proofs.Ytcmbbpdepobnlaa
end

/- Tables told by a function. -/
section
namespace Go.Proofs.Ytcmbbpdepobnlaa
open Go Go.RowKit E
set_option linter.unusedVariables false

def T {α : Type} (n : Nat) (f : Nat → α) : List α := (List.range n).map f
theorem T_len {α : Type} {n : Nat} {f : Nat → α} : (T n f).length = n := by simp [T]
theorem T_get {α : Type} {n k : Nat} {f : Nat → α} (h : k < n) (d : α) : (T n f).getD k d = f k := by simp [T, h]
theorem T_ix {α : Type} [Inhabited α] {n k : Nat} {f : Nat → α} (h : k < n) : ix (T n f) (k : Int) = some (f k) := by
  rw [ix_nat (by rw [T_len]; exact h), T_get h]
theorem T_ixI {α : Type} [Inhabited α] {n : Nat} {x : Int} {f : Nat → α} (h0 : 0 ≤ x) (h : x < n) : ix (T n f) x = some (f x.toNat) := by
  have := T_ix (f := f) (show x.toNat < n by omega)
  rw [show ((x.toNat : Nat) : Int) = x by omega] at this; exact this
theorem T_ck {α : Type} {n k : Nat} {f : Nat → α} (h : k < n) : ck (k : Int) (T n f).length = some k := ck_nat (by rw [T_len]; exact h)
theorem T_congr {α : Type} {n : Nat} {f g : Nat → α} (h : ∀ i, i < n → f i = g i) : T n f = T n g := List.map_congr_left fun i hi => h i (List.mem_range.mp hi)
theorem T_set {α : Type} {n k : Nat} {f : Nat → α} {v : α} : (T n f).set k v = T n (fun i => if i = k then v else f i) := by
  apply List.ext_getElem
  · simp [T]
  · intro i h1 h2
    have hi : i < n := by simpa [T] using h2
    rw [List.getElem_set]
    simp only [T, List.getElem_map, List.getElem_range]
    by_cases e : k = i
    · rw [if_pos e, if_pos e.symm]
    · rw [if_neg e, if_neg (fun x => e x.symm)]
theorem T_mk {α : Type} {y n : Nat} {z : α} (h : (y : Int) * (n : Int) ≤ 281474976710656) : mk y z (n : Int) = some (T n fun _ => z) := by
  rw [mk_ok (by omega) h, Int.toNat_natCast, show T n (fun _ => z) = List.replicate n z by simp [T, List.map_const']]
theorem T_snoc {α : Type} {n : Nat} {f : Nat → α} : T (n + 1) f = T n f ++ [f n] := by simp [T, List.range_succ]
/-- A table filled from the left. -/
theorem T_fill {α ρ : Type} (body : List α × Int → Option ((List α × Int) ⊕ ρ)) (n : Nat) (f g : Nat → α) (r : ρ) (go : ∀ k, k < n → body (T n (fun i => if i < k then g i else f i), (k : Int)) = some (.inl ((T n (fun i => if i < k then g i else f i)).set k (g k), ((k + 1 : Nat) : Int)))) (fin : body (T n g, (n : Int)) = some (.inr r)) : loop body (T n f, 0) = some r := by
  have h := loop_up (body := body) n (fun k => (T n (fun i => if i < k then g i else f i), (k : Int))) r (fun k hk => ?_) ?_ 0 (Nat.zero_le _)
  · have e : T n (fun i => if i < 0 then g i else f i) = T n f := T_congr fun i _ => by rw [if_neg (by omega)]
    rw [e] at h; exact h
  · rw [go k hk, T_set]
    have e : T n (fun i => if i = k then g k else if i < k then g i else f i) = T n (fun i => if i < k + 1 then g i else f i) := T_congr fun i _ => by
      by_cases e1 : i = k
      · subst e1; rw [if_pos rfl, if_pos (by omega)]
      · rw [if_neg e1]
        by_cases e2 : i < k
        · rw [if_pos e2, if_pos (by omega)]
        · rw [if_neg e2, if_neg (by omega)]
    rw [e]
  · have e : T n (fun i => if i < n then g i else f i) = T n g := T_congr fun i hi => by rw [if_pos hi]
    rw [e]; exact fin

end Go.Proofs.Ytcmbbpdepobnlaa
end

/- The points of a word: to which of them steps lead, by the reference. -/
section
namespace Go.Proofs.Ytcmbbpdepobnlaa
open Go Go.RowKit E
set_option linter.unusedVariables false

/-- What a right automaton of many marks is; it has states. -/
structure GW (g : TGen) : Prop where
  lets : 1 ≤ g.letters ∧ g.letters ≤ 8
  sts : 1 ≤ g.states ∧ g.states ≤ 31
  start : 0 ≤ g.start ∧ g.start < ((2 ^ g.states.toNat : Nat) : Int)
  sets : 0 ≤ g.sets ∧ g.sets ≤ 4
  num : g.edges.length ≤ 2000
  edge : ∀ e ∈ g.edges, (0 ≤ e.from_ ∧ e.from_ < g.states) ∧ (0 ≤ e.to_ ∧ e.to_ < g.states) ∧ (0 ≤ e.letter ∧ e.letter < g.letters) ∧ (0 ≤ e.marks ∧ e.marks < ((2 ^ g.sets.toNat : Nat) : Int))
abbrev tN (n : Nat) (f : Nat → Nat) : List Int := T n fun i => ((f i : Nat) : Int)
theorem gedge_mem {g : TGen} {i : Nat} (h : i < g.edges.length) : g.edges.getD i default ∈ g.edges := by
  rw [List.getD_eq_getElem?_getD, List.getElem?_eq_getElem h]; exact List.getElem_mem h
theorem mem_gedge {g : TGen} {e : TGEdge} (h : e ∈ g.edges) : ∃ i, i < g.edges.length ∧ g.edges.getD i default = e := by
  obtain ⟨i, hi, rfl⟩ := List.getElem_of_mem h
  exact ⟨i, hi, by rw [List.getD_eq_getElem?_getD, List.getElem?_eq_getElem hi]; rfl⟩
theorem bit_or {a b t : Nat} : (a ||| 2 ^ b).testBit t = true ↔ a.testBit t = true ∨ b = t := by
  rw [Nat.testBit_or, Bool.or_eq_true, Nat.testBit_two_pow, decide_eq_true_eq]
theorem or_lt' {a b k : Nat} (ha : a < 2 ^ k) (hb : b < 2 ^ k) : a ||| b < 2 ^ k := Nat.or_lt_two_pow ha hb
theorem or_lt31 {a b k : Nat} (hk : k ≤ 31) (ha : a < 2 ^ k) (hb : b < 2 ^ k) : bOr .i64 (a : Int) (b : Int) = ((a ||| b : Nat) : Int) := by
  have h1 := lt31 hk ha
  have h2 := lt31 hk hb
  have h31 : (2 : Nat) ^ 31 = 2147483648 := rfl
  exact bOr_i (by omega) (by omega)
/-- The states behind each state by each letter. -/
theorem succ_ok {g : TGen} (h : GW g) : ∃ σ : Nat → Nat, spec_l6Succ g false = some (tN (8 * g.states.toNat) σ) ∧ (∀ i, σ i < 2 ^ g.states.toNat) ∧ ∀ i t, (σ i).testBit t = true ↔ ∃ e ∈ g.edges, 8 * e.from_.toNat + e.letter.toNat = i ∧ e.to_.toNat = t := by
  have hs := h.sts
  have hn := h.num
  have hL := h.lets
  unfold spec_l6Succ
  have w : W (8 * g.states) = ((8 * g.states.toNat : Nat) : Int) := by rw [W, W_eq (by omega) (by omega)]; omega
  rw [w, T_mk (by omega), Option.bind_some]
  have key := loop_inv (body := fun s : List Int × Int => spec_l6Succ.b0 g false s.1 s.2) (fun s => ∃ (k : Nat) (σ : Nat → Nat), s.2 = k ∧ s.1 = tN (8 * g.states.toNat) σ ∧ k ≤ g.edges.length ∧ (∀ i, σ i < 2 ^ g.states.toNat) ∧ ∀ i t, (σ i).testBit t = true ↔ ∃ j, j < k ∧ 8 * (g.edges.getD j default).from_.toNat + (g.edges.getD j default).letter.toNat = i ∧ (g.edges.getD j default).to_.toNat = t) (fun s => g.edges.length - s.2.toNat) (fun r => ∃ σ : Nat → Nat, r = tN (8 * g.states.toNat) σ ∧ (∀ i, σ i < 2 ^ g.states.toNat) ∧ ∀ i t, (σ i).testBit t = true ↔ ∃ e ∈ g.edges, 8 * e.from_.toNat + e.letter.toNat = i ∧ e.to_.toNat = t) (by
    rintro ⟨y, k'⟩ ⟨k, σ, e1, e2, hk, hb, hT⟩
    dsimp only at e1 e2 ⊢
    subst e1 e2
    unfold spec_l6Succ.b0
    by_cases hlt : k < g.edges.length
    · right
      obtain ⟨⟨f1, f2⟩, ⟨t1, t2⟩, ⟨l1, l2⟩, _⟩ := h.edge _ (gedge_mem hlt)
      generalize he : g.edges.getD k default = e at f1 f2 t1 t2 l1 l2
      have hi : 8 * e.from_.toNat + e.letter.toNat < 8 * g.states.toNat := by omega
      have w1 : W (W (8 * e.from_) + e.letter) = ((8 * e.from_.toNat + e.letter.toNat : Nat) : Int) := by
        rw [show W (8 * e.from_) = 8 * e.from_ from W_eq (by omega) (by omega), W, W_eq (by omega) (by omega)]; omega
      have hp : 2 ^ e.to_.toNat < 2 ^ g.states.toNat := Nat.pow_lt_pow_right (by omega) (by omega)
      rw [if_pos (by omega), ix_nat hlt, Option.bind_some, he, if_neg (by simp), w1, T_ix hi, Option.bind_some, l1Bit_eq (by omega), Option.bind_some, T_ck hi, Option.bind_some, or_lt31 (by omega) (hb _) hp, T_set, WN (by omega)]
      refine ⟨_, rfl, ⟨k + 1, fun i => if i = 8 * e.from_.toNat + e.letter.toNat then σ (8 * e.from_.toNat + e.letter.toNat) ||| 2 ^ e.to_.toNat else σ i, rfl, T_congr fun i _ => by dsimp only; split <;> rfl, hlt, fun i => ?_, fun i t => ?_⟩, by dsimp only; omega⟩
      · dsimp only
        split
        · exact or_lt' (hb _) hp
        · exact hb i
      · dsimp only
        by_cases c : i = 8 * e.from_.toNat + e.letter.toNat
        · rw [if_pos c, bit_or, hT]
          constructor
          · rintro (⟨j, hj, g1, g2⟩ | g1)
            · exact ⟨j, by omega, by omega, g2⟩
            · exact ⟨k, by omega, by rw [he]; exact c.symm, by rw [he]; exact g1⟩
          · rintro ⟨j, hj, g1, g2⟩
            by_cases ej : j = k
            · subst ej; rw [he] at g2; exact .inr g2
            · exact .inl ⟨j, by omega, by omega, g2⟩
        · rw [if_neg c, hT]
          constructor
          · rintro ⟨j, hj, g1, g2⟩; exact ⟨j, by omega, g1, g2⟩
          · rintro ⟨j, hj, g1, g2⟩
            by_cases ej : j = k
            · subst ej; rw [he] at g1; exact absurd g1.symm c
            · exact ⟨j, by omega, g1, g2⟩
    · left
      rw [if_neg (by omega)]
      refine ⟨_, rfl, σ, rfl, hb, fun i t => ?_⟩
      rw [hT]
      constructor
      · rintro ⟨j, hj, g1, g2⟩; exact ⟨_, gedge_mem (by omega), g1, g2⟩
      · rintro ⟨e, he, g1, g2⟩
        obtain ⟨j, hj, rfl⟩ := mem_gedge he
        exact ⟨j, by omega, g1, g2⟩) (s := (tN (8 * g.states.toNat) fun _ => 0, 0)) ⟨0, fun _ => 0, rfl, rfl, Nat.zero_le _, fun _ => Nat.two_pow_pos _, fun i t => ⟨fun x => (by rw [Nat.zero_testBit] at x; cases x), fun ⟨j, hj, _⟩ => absurd hj (by omega)⟩⟩
  obtain ⟨r, e1, σ, rfl, h1, h2⟩ := key
  have e1' : loop (fun s : List Int × Int => spec_l6Succ.b0 g false s.1 s.2) (T (8 * g.states.toNat) fun _ => (0 : Int), 0) = some (tN (8 * g.states.toNat) σ) := e1
  rw [e1', Option.bind_some]
  exact ⟨σ, rfl, h1, h2⟩
/-- One step from a set by a letter. -/
theorem step_ok {S : Nat} (hS : 1 ≤ S ∧ S ≤ 31) {σ : Nat → Nat} (hσ : ∀ i, σ i < 2 ^ S) {x l : Nat} (hx : x < 2 ^ S) (hl : l ≤ 7) : ∃ r, spec_l6Step (tN (8 * S) σ) (x : Int) (l : Int) = some ((r : Nat) : Int) ∧ r < 2 ^ S ∧ ∀ t, r.testBit t = true ↔ ∃ s, s < S ∧ x.testBit s = true ∧ (σ (8 * s + l)).testBit t = true := by
  unfold spec_l6Step
  have key := loop_inv (body := fun s : Int × Int => spec_l6Step.b0 (tN (8 * S) σ) (x : Int) (l : Int) s.1 s.2) (fun s => ∃ (k r : Nat), s.2 = k ∧ s.1 = r ∧ k ≤ S ∧ r < 2 ^ S ∧ ∀ t, r.testBit t = true ↔ ∃ s, s < k ∧ x.testBit s = true ∧ (σ (8 * s + l)).testBit t = true) (fun s => S - s.2.toNat) (fun q => ∃ r : Nat, q = r ∧ r < 2 ^ S ∧ ∀ t, r.testBit t = true ↔ ∃ s, s < S ∧ x.testBit s = true ∧ (σ (8 * s + l)).testBit t = true) (by
    rintro ⟨q, k'⟩ ⟨k, r, e1, e2, hk, hr, hT⟩
    dsimp only at e1 e2 ⊢
    subst e1 e2
    unfold spec_l6Step.b0
    have w : W (8 * (k : Int)) = ((8 * k : Nat) : Int) := by rw [W, W_eq (by omega) (by omega)]; omega
    rw [w, T_len]
    by_cases hlt : k < S
    · right
      have w2 : W (((8 * k : Nat) : Int) + (l : Int)) = ((8 * k + l : Nat) : Int) := by rw [W, W_eq (by omega) (by omega)]; omega
      rw [if_pos (by omega), l1Has_eq (lt31 hS.2 hx) (by omega), Option.bind_some, Int.toNat_natCast, WN (by omega)]
      by_cases c : x.testBit k = true
      · rw [if_pos c, w2, T_ix (by omega), Option.bind_some, or_lt31 hS.2 hr (hσ _)]
        refine ⟨_, rfl, ⟨k + 1, r ||| σ (8 * k + l), rfl, rfl, hlt, or_lt' hr (hσ _), fun t => ?_⟩, by dsimp only; omega⟩
        rw [Nat.testBit_or, Bool.or_eq_true, hT]
        constructor
        · rintro (⟨s, hs, g⟩ | g)
          · exact ⟨s, by omega, g⟩
          · exact ⟨k, by omega, c, g⟩
        · rintro ⟨s, hs, g⟩
          by_cases e : s = k
          · subst e; exact .inr g.2
          · exact .inl ⟨s, by omega, g⟩
      · rw [if_neg c]
        refine ⟨_, rfl, ⟨k + 1, r, rfl, rfl, hlt, hr, fun t => ?_⟩, by dsimp only; omega⟩
        rw [hT]
        constructor
        · rintro ⟨s, hs, g⟩; exact ⟨s, by omega, g⟩
        · rintro ⟨s, hs, g⟩
          by_cases e : s = k
          · subst e; exact absurd g.1 c
          · exact ⟨s, by omega, g⟩
    · left
      rw [if_neg (by omega)]
      have : k = S := by omega
      subst this
      exact ⟨_, rfl, r, rfl, hr, hT⟩) (s := ((0 : Int), (0 : Int))) ⟨0, 0, rfl, rfl, Nat.zero_le _, Nat.two_pow_pos _, fun t => ⟨fun x => (by rw [Nat.zero_testBit] at x; cases x), fun ⟨j, hj, _⟩ => absurd hj (by omega)⟩⟩
  obtain ⟨q, e1, r, rfl, h1, h2⟩ := key
  rw [e1, Option.bind_some]
  exact ⟨r, rfl, h1, h2⟩
/-- The steps between points. -/
def adjW (g : TGen) (w : TWord) (x : Nat) : List Nat := (g.edges.filter fun e => decide (e.letter.toNat = letN w (x / g.states.toNat) ∧ e.from_.toNat = x % g.states.toNat)).map fun e => nxN w (x / g.states.toNat) * g.states.toNat + e.to_.toNat
theorem pt_div {S p s : Nat} (hs : s < S) : (p * S + s) / S = p := by rw [Nat.mul_comm, Nat.mul_add_div (by omega), Nat.div_eq_of_lt hs, Nat.add_zero]
theorem pt_mod {S p s : Nat} (hs : s < S) : (p * S + s) % S = s := by rw [Nat.mul_comm, Nat.mul_add_mod, Nat.mod_eq_of_lt hs]
theorem pt_lt {n S p s : Nat} (hp : p < n) (hs : s < S) : p * S + s < n * S := by
  have : (p + 1) * S ≤ n * S := Nat.mul_le_mul_right S hp
  rw [Nat.succ_mul] at this; omega
theorem pt_of {n S x : Nat} (hx : x < n * S) : 0 < S ∧ x / S < n ∧ x % S < S ∧ x = x / S * S + x % S := by
  have hS : 0 < S := by
    rcases Nat.eq_zero_or_pos S with h | h
    · subst h; simp at hx
    · exact h
  refine ⟨hS, Nat.div_lt_of_lt_mul (by rw [Nat.mul_comm]; exact hx), Nat.mod_lt _ hS, ?_⟩
  rw [Nat.mul_comm]; exact (Nat.div_add_mod x S).symm
theorem adjW_mem {g : TGen} {w : TWord} {p s y : Nat} (hs : s < g.states.toNat) : y ∈ adjW g w (p * g.states.toNat + s) ↔ ∃ e ∈ g.edges, e.letter.toNat = letN w p ∧ e.from_.toNat = s ∧ y = nxN w p * g.states.toNat + e.to_.toNat := by
  unfold adjW
  rw [pt_div hs, pt_mod hs, List.mem_map]
  constructor
  · rintro ⟨e, he, rfl⟩
    rw [List.mem_filter, decide_eq_true_eq] at he
    exact ⟨e, he.1, he.2.1, he.2.2, rfl⟩
  · rintro ⟨e, he, h1, h2, rfl⟩
    exact ⟨e, by rw [List.mem_filter, decide_eq_true_eq]; exact ⟨he, h1, h2⟩, rfl⟩
theorem adjW_lt {g : TGen} (h : GW g) {w : TWord} (hw : WOk w) : ∀ x, x < plN w * g.states.toNat → ∀ y ∈ adjW g w x, y < plN w * g.states.toNat := by
  intro x hx y hy
  obtain ⟨hS, hp, hs, e⟩ := pt_of hx
  rw [e] at hy
  obtain ⟨e, he, _, _, rfl⟩ := (adjW_mem hs).mp hy
  exact pt_lt (nxN_lt hw hp) (by have := h.edge e he; omega)
theorem sum_set_lt {f : Int → Nat} : ∀ (L : List Int) (i : Nat) (v : Int), i < L.length → f (L.getD i default) < f v → (L.map f).sum < ((L.set i v).map f).sum
  | [], i, v, h, _ => absurd h (by simp)
  | x :: L, 0, v, _, h => by simp at h ⊢; omega
  | x :: L, i + 1, v, hi, h => by
    have := sum_set_lt L i v (by simpa using hi) (by simpa using h)
    simp only [List.set_cons_succ, List.map_cons, List.sum_cons]; omega
/-- How many points are in the sets. -/
def totW (S : Nat) (L : List Int) : Nat := (L.map fun x => card S x.toNat).sum
theorem totW_le (S : Nat) : ∀ L : List Int, totW S L ≤ L.length * S
  | [] => by simp [totW]
  | x :: L => by
    have := totW_le S L
    have hc := card_le S x.toNat
    unfold totW at *
    simp only [List.map_cons, List.sum_cons, List.length_cons, Nat.succ_mul]; omega
/-- What is in sets is reached from what was there. -/
def SoundW (g : TGen) (w : TWord) (src o : Nat → Nat) : Prop := ∀ p t, p < plN w → (o p).testBit t = true → ∃ p0 s0, p0 < plN w ∧ (src p0).testBit s0 = true ∧ Rch (adjW g w) (p0 * g.states.toNat + s0) (p * g.states.toNat + t)
structure PassW (g : TGen) (w : TWord) (σ src o0 : Nat → Nat) (k : Nat) (o : Nat → Nat) (b : Bool) : Prop where
  lt : ∀ i, o i < 2 ^ g.states.toNat
  le : ∀ i t, (o0 i).testBit t = true → (o i).testBit t = true
  snd : SoundW g w src o
  no : b = false → (∀ i, i < plN w → o i = o0 i) ∧ ∀ p, p < k → ∀ s t, s < g.states.toNat → (o0 p).testBit s = true → (σ (8 * s + letN w p)).testBit t = true → (o0 (nxN w p)).testBit t = true
  yes : b = true → totW g.states.toNat (tN (plN w) o0) < totW g.states.toNat (tN (plN w) o)
theorem card_lt_or {k a b : Nat} (ha : a < 2 ^ k) (hb : b < 2 ^ k) (h : a ||| b ≠ a) : card k a < card k (a ||| b) := card_or ha hb h
theorem pass_ok {g : TGen} (h : GW g) {w : TWord} (hw : WOk w) {σ src o0 : Nat → Nat} (hσ : ∀ i, σ i < 2 ^ g.states.toNat) (hσ' : ∀ i t, (σ i).testBit t = true ↔ ∃ e ∈ g.edges, 8 * e.from_.toNat + e.letter.toNat = i ∧ e.to_.toNat = t) (hlt : ∀ i, o0 i < 2 ^ g.states.toNat) (hsnd : SoundW g w src o0) :
    ∃ (o : Nat → Nat) (b : Bool), loop (fun s : List Int × Bool × Int => spec_l6From.b1 w (tN (8 * g.states.toNat) σ) s.1 s.2.1 s.2.2) (tN (plN w) o0, false, 0) = some (tN (plN w) o, b) ∧ PassW g w σ src o0 (plN w) o b := by
  have hs := h.sts
  have hw1 := hw.stem
  have hw2 := hw.loop
  have hpl : plN w ≤ 80 := by unfold plN; omega
  have key := loop_inv (body := fun s : List Int × Bool × Int => spec_l6From.b1 w (tN (8 * g.states.toNat) σ) s.1 s.2.1 s.2.2) (fun s => ∃ (k : Nat) (o : Nat → Nat), s.2.2 = k ∧ s.1 = tN (plN w) o ∧ k ≤ plN w ∧ PassW g w σ src o0 k o s.2.1) (fun s => plN w - s.2.2.toNat) (fun r => ∃ o : Nat → Nat, r.1 = tN (plN w) o ∧ PassW g w σ src o0 (plN w) o r.2) (by
    rintro ⟨y, b, k'⟩ ⟨k, o, e1, e2, hk, hP⟩
    dsimp only at e1 e2 hP ⊢
    subst e1 e2
    unfold spec_l6From.b1
    rw [T_len]
    by_cases hlt : k < plN w
    · right
      have hq := nxN_lt hw hlt
      obtain ⟨r, er, hr, hrb⟩ := step_ok (S := g.states.toNat) (by omega) hσ (hP.lt k) (letN_le hw hlt)
      rw [if_pos (by omega), l6After_eq hw hlt, T_ix hq, Option.bind_some, T_ix hlt, Option.bind_some, l3At_eq hw hlt, Option.bind_some, er, Option.bind_some, Option.bind_some, or_lt31 (by omega) (hP.lt _) hr, WN (by omega)]
      by_cases c : (o (nxN w k)) ||| r = o (nxN w k)
      · rw [if_neg (by rw [c]; simp)]
        refine ⟨_, rfl, ⟨k + 1, o, rfl, rfl, hlt, ⟨hP.lt, hP.le, hP.snd, fun hb => ?_, hP.yes⟩⟩, by dsimp only; omega⟩
        obtain ⟨n1, n2⟩ := hP.no hb
        refine ⟨n1, fun p hp s t hs' g1 g2 => ?_⟩
        by_cases e : p = k
        · subst e
          have : r.testBit t = true := (hrb t).mpr ⟨s, hs', by rw [n1 _ hlt]; exact g1, g2⟩
          have h2 : ((o (nxN w p)) ||| r).testBit t = true := by rw [Nat.testBit_or, this, Bool.or_true]
          rw [c, n1 _ hq] at h2; exact h2
        · exact n2 p (by omega) s t hs' g1 g2
      · rw [if_pos (by omega), ck_nat hq, Option.bind_some, T_set]
        have ho : tN (plN w) (fun i => if i = nxN w k then o (nxN w k) ||| r else o i) = T (plN w) fun i => if i = nxN w k then ((o (nxN w k) ||| r : Nat) : Int) else (o i : Int) := T_congr fun i _ => by dsimp only; split <;> rfl
        refine ⟨_, rfl, ⟨k + 1, fun i => if i = nxN w k then o (nxN w k) ||| r else o i, rfl, ho.symm, hlt, ⟨fun i => ?_, fun i t g1 => ?_, fun p t hp g1 => ?_, fun hb => (by cases hb), fun _ => ?_⟩⟩, by dsimp only; omega⟩
        · split
          · exact or_lt' (hP.lt _) hr
          · exact hP.lt i
        · have := hP.le i t g1
          split
          · rename_i e; rw [← e, Nat.testBit_or, this, Bool.true_or]
          · exact this
        · split at g1
          · rename_i e
            rw [Nat.testBit_or, Bool.or_eq_true] at g1
            rcases g1 with g1 | g1
            · exact hP.snd p t hp (by rw [e]; exact g1)
            · obtain ⟨s, hs', g2, g3⟩ := (hrb t).mp g1
              obtain ⟨p0, s0, h0, h1, h2⟩ := hP.snd k s hlt g2
              refine ⟨p0, s0, h0, h1, h2.snoc ?_⟩
              obtain ⟨e', he, i1, i2⟩ := (hσ' _ _).mp g3
              have hl := h.edge e' he
              have hl8 := h.lets
              have hll := letN_le hw hlt
              rw [adjW_mem hs']
              exact ⟨e', he, by omega, by omega, by rw [e, i2]⟩
          · exact hP.snd p t hp g1
        · have hlt2 : totW g.states.toNat (tN (plN w) o) < totW g.states.toNat ((tN (plN w) o).set (nxN w k) ((o (nxN w k) ||| r : Nat) : Int)) := by
            unfold totW
            refine sum_set_lt _ _ _ (by rw [T_len]; exact hq) ?_
            rw [T_get hq, Int.toNat_natCast, Int.toNat_natCast]
            exact card_lt_or (hP.lt _) hr c
          rw [T_set] at hlt2
          rw [ho]
          cases hb : b with
          | false =>
            have n1 := (hP.no hb).1
            have e0 : tN (plN w) o0 = tN (plN w) o := T_congr fun i hi => by rw [n1 i hi]
            rw [e0]; exact hlt2
          | true => exact Nat.lt_trans (hP.yes hb) hlt2
    · left
      rw [if_neg (by omega)]
      have : k = plN w := by omega
      subst this
      exact ⟨_, rfl, o, rfl, hP⟩) (s := (tN (plN w) o0, false, 0)) ⟨0, o0, rfl, rfl, Nat.zero_le _, ⟨hlt, fun _ _ x => x, hsnd, fun _ => ⟨fun _ _ => rfl, fun p hp => absurd hp (by omega)⟩, fun hb => (by cases hb)⟩⟩
  obtain ⟨⟨y, b⟩, e1, o, e2, hP⟩ := key
  dsimp only at e2 hP
  subst e2
  exact ⟨o, b, e1, hP⟩
/-- The sets of all that is reached. -/
theorem from_ok {g : TGen} (h : GW g) {w : TWord} (hw : WOk w) {σ src : Nat → Nat} (hσ : ∀ i, σ i < 2 ^ g.states.toNat) (hσ' : ∀ i t, (σ i).testBit t = true ↔ ∃ e ∈ g.edges, 8 * e.from_.toNat + e.letter.toNat = i ∧ e.to_.toNat = t) (hlt : ∀ i, src i < 2 ^ g.states.toNat) :
    ∃ o : Nat → Nat, spec_l6From (tN (8 * g.states.toNat) σ) w (tN (plN w) src) = some (tN (plN w) o) ∧ (∀ i, o i < 2 ^ g.states.toNat) ∧ ∀ p t, p < plN w → t < g.states.toNat → ((o p).testBit t = true ↔ ∃ p0 s0, p0 < plN w ∧ (src p0).testBit s0 = true ∧ Rch (adjW g w) (p0 * g.states.toNat + s0) (p * g.states.toNat + t)) := by
  have hs := h.sts
  have hw1 := hw.stem
  have hw2 := hw.loop
  have hpl : plN w ≤ 80 := by unfold plN; omega
  unfold spec_l6From
  rw [app_small (by rw [T_len]; simp; omega) (by decide), List.nil_append, Option.bind_some]
  have hbit : ∀ {x t : Nat}, x < 2 ^ g.states.toNat → x.testBit t = true → t < g.states.toNat := fun {x t} hx ht => by
    by_cases c : t < g.states.toNat
    · exact c
    · rw [Nat.testBit_lt_two_pow (Nat.lt_of_lt_of_le hx (Nat.pow_le_pow_right (by omega) (by omega)))] at ht; cases ht
  have key := loop_inv (body := fun s : List Int × Bool => spec_l6From.b0 w (tN (8 * g.states.toNat) σ) s.1 s.2) (fun s => ∃ o : Nat → Nat, s.1 = tN (plN w) o ∧ (∀ i, o i < 2 ^ g.states.toNat) ∧ (∀ i t, i < plN w → (src i).testBit t = true → (o i).testBit t = true) ∧ SoundW g w src o ∧ (s.2 = false → ∀ p, p < plN w → ∀ s t, s < g.states.toNat → (o p).testBit s = true → (σ (8 * s + letN w p)).testBit t = true → (o (nxN w p)).testBit t = true)) (fun s => (if s.2 = true then 1 else 0) + (plN w * g.states.toNat - totW g.states.toNat s.1)) (fun r => ∃ o : Nat → Nat, r = tN (plN w) o ∧ (∀ i, o i < 2 ^ g.states.toNat) ∧ ∀ p t, p < plN w → t < g.states.toNat → ((o p).testBit t = true ↔ ∃ p0 s0, p0 < plN w ∧ (src p0).testBit s0 = true ∧ Rch (adjW g w) (p0 * g.states.toNat + s0) (p * g.states.toNat + t))) (by
    rintro ⟨y, b⟩ ⟨o, e1, o1, o2, o3, o4⟩
    dsimp only at e1 o4 ⊢
    subst e1
    unfold spec_l6From.b0
    cases b with
    | true =>
      right
      obtain ⟨o', b', e2, hP⟩ := pass_ok h hw hσ hσ' o1 o3
      rw [if_pos rfl, e2, Option.bind_some]
      have hle := totW_le g.states.toNat (tN (plN w) o')
      have hle0 := totW_le g.states.toNat (tN (plN w) o)
      rw [T_len] at hle hle0
      refine ⟨_, rfl, ⟨o', rfl, hP.lt, fun i t hi x => hP.le i t (o2 i t hi x), hP.snd, fun hb => ?_⟩, ?_⟩
      · obtain ⟨n1, n2⟩ := hP.no hb
        intro p hp s t hs' g1 g2
        rw [n1 _ (nxN_lt hw hp)]
        exact n2 p hp s t hs' (by rw [← n1 p hp]; exact g1) g2
      · dsimp only
        cases b' with
        | true =>
          have := hP.yes rfl
          simp only [if_true]; omega
        | false =>
          have n1 := (hP.no rfl).1
          have e0 : tN (plN w) o' = tN (plN w) o := T_congr fun i hi => by rw [n1 i hi]
          rw [e0]; simp
    | false =>
      left
      rw [if_neg (by simp)]
      refine ⟨_, rfl, o, rfl, o1, fun p t hp ht => ⟨fun x => o3 p t hp x, ?_⟩⟩
      rintro ⟨p0, s0, h0, h1, h2⟩
      have hs0 := hbit (hlt _) h1
      have gen : ∀ a c, Rch (adjW g w) a c → a < plN w * g.states.toNat → (o (a / g.states.toNat)).testBit (a % g.states.toNat) = true → (o (c / g.states.toNat)).testBit (c % g.states.toNat) = true := by
        intro a c hR
        induction hR with
        | refl => intro _ x; exact x
        | @head a b c hab _ ih =>
          intro ha hb
          refine ih (adjW_lt h hw a ha b hab) ?_
          obtain ⟨hS, hp', hs', e⟩ := pt_of ha
          rw [e] at hab
          obtain ⟨e', he, i1, i2, rfl⟩ := (adjW_mem hs').mp hab
          have ht' := h.edge e' he
          rw [pt_div (by omega), pt_mod (by omega)]
          refine o4 rfl _ hp' _ _ hs' hb ?_
          rw [hσ']
          exact ⟨e', he, by omega, rfl⟩
      have := gen _ _ h2 (pt_lt h0 hs0) (by rw [pt_div hs0, pt_mod hs0]; exact o2 _ _ h0 h1)
      rw [pt_div ht, pt_mod ht] at this
      exact this) (s := (tN (plN w) src, true)) ⟨src, rfl, hlt, fun _ _ _ x => x, fun p t hp x => ⟨p, t, hp, x, .refl _⟩, fun hb => (by cases hb)⟩
  obtain ⟨r, e1, o, rfl, h1, h2⟩ := key
  rw [e1, Option.bind_some]
  exact ⟨o, rfl, h1, h2⟩
end Go.Proofs.Ytcmbbpdepobnlaa
end

/- The rings of points, by the reference; what an automaton of many marks takes. -/
section
namespace Go.Proofs.Ytcmbbpdepobnlaa
open Go Go.RowKit E
set_option linter.unusedVariables false

/-- Reached from the beginning. -/
def Begun (g : TGen) (w : TWord) (x : Nat) : Prop := ∃ s, g.start.toNat.testBit s = true ∧ Rch (adjW g w) s x
theorem Begun.mut {g : TGen} {w : TWord} {x y : Nat} (h : Begun g w x) (k : Mut (adjW g w) y x) : Begun g w y := by
  obtain ⟨s, h1, h2⟩ := h
  exact ⟨s, h1, h2.trans k.2⟩
/-- The least points of rings, up to some point. -/
structure CompI (g : TGen) (w : TWord) (N x : Nat) (f : Nat → Int) : Prop where
  val : ∀ y, y < N → (f y = -1 ∧ (Begun g w y → ∀ z, z < x → ¬ Mut (adjW g w) z y)) ∨ ∃ z : Nat, z < x ∧ f y = (z : Int) ∧ Begun g w y ∧ Mut (adjW g w) z y ∧ ∀ z', z' < z → ¬ Mut (adjW g w) z' y
theorem CompI.skip {g : TGen} {w : TWord} {N x : Nat} {f : Nat → Int} (h : CompI g w N x f) (hx : x < N) (k : 0 ≤ f x ∨ ¬ Begun g w x) : CompI g w N (x + 1) f := ⟨fun y hy => by
  rcases h.val y hy with ⟨e, h1⟩ | ⟨z, hz, e⟩
  · refine .inl ⟨e, fun hb z hz => ?_⟩
    by_cases c : z = x
    · subst c
      intro hm
      have hbx := hb.mut hm
      rcases k with k | k
      · rcases h.val z hx with ⟨e2, _⟩ | ⟨z2, hz2, _, _, hm2, _⟩
        · omega
        · exact h1 hb z2 hz2 (hm2.trans hm)
      · exact k hbx
    · exact h1 hb z (by omega)
  · exact .inr ⟨z, by omega, e⟩⟩
open Classical in
noncomputable def compG (g : TGen) (w : TWord) (x k : Nat) (f : Nat → Int) : Nat → Int := fun y => if x ≤ y ∧ y < k ∧ Mut (adjW g w) x y then (x : Int) else f y
theorem CompI.take {g : TGen} {w : TWord} {N x : Nat} {f : Nat → Int} (h : CompI g w N x f) (hx : x < N) (k : f x = -1) (hb : Begun g w x) : CompI g w N (x + 1) (compG g w x N f) := ⟨fun y hy => by
  have hn : ∀ z, z < x → ¬ Mut (adjW g w) z x := by
    rcases h.val x hx with ⟨_, h1⟩ | ⟨z, _, e, _⟩
    · exact h1 hb
    · omega
  unfold compG
  by_cases c : x ≤ y ∧ y < N ∧ Mut (adjW g w) x y
  · rw [if_pos c]
    exact .inr ⟨x, by omega, rfl, hb.mut c.2.2.symm, c.2.2, fun z' hz' hm => hn z' hz' (hm.trans c.2.2.symm)⟩
  · rw [if_neg c]
    rcases h.val y hy with ⟨e, h1⟩ | ⟨z, hz, e⟩
    · refine .inl ⟨e, fun hb z hz => ?_⟩
      by_cases cz : z = x
      · subst cz
        intro hm
        by_cases cy : z ≤ y
        · exact c ⟨cy, hy, hm⟩
        · exact hn y (by omega) hm.symm
      · exact h1 hb z (by omega)
    · exact .inr ⟨z, by omega, e⟩⟩
theorem CompI.end_ {g : TGen} {w : TWord} {N : Nat} {f : Nat → Int} (h : CompI g w N N f) : ∀ y, y < N → (f y = -1 ∧ ¬ Begun g w y) ∨ ∃ z : Nat, z < N ∧ f y = (z : Int) ∧ Begun g w y ∧ Mut (adjW g w) z y ∧ ∀ z', z' < z → ¬ Mut (adjW g w) z' y := fun y hy => by
  rcases h.val y hy with ⟨e, h1⟩ | h2
  · exact .inl ⟨e, fun hb => h1 hb y hy (.refl y)⟩
  · exact .inr h2
/-- Points of one ring have the same number, others have not. -/
theorem CompI.same {g : TGen} {w : TWord} {N : Nat} {f : Nat → Int} (h : CompI g w N N f) {x y : Nat} (hx : x < N) (hy : y < N) : (0 ≤ f x ∧ f x = f y) ↔ Begun g w x ∧ Mut (adjW g w) x y := by
  rcases h.end_ x hx with ⟨e1, b1⟩ | ⟨z, hz, e1, b1, m1, n1⟩
  · exact ⟨fun k => absurd k.1 (by omega), fun k => absurd k.1 b1⟩
  · constructor
    · rintro ⟨_, e⟩
      rcases h.end_ y hy with ⟨e2, b2⟩ | ⟨z2, hz2, e2, b2, m2, n2⟩
      · omega
      · have : z = z2 := by omega
        subst this
        exact ⟨b1, m1.symm.trans m2⟩
    · rintro ⟨_, m⟩
      refine ⟨by omega, ?_⟩
      have b2 : Begun g w y := b1.mut m.symm
      rcases h.end_ y hy with ⟨e2, b2'⟩ | ⟨z2, hz2, e2, _, m2, n2⟩
      · exact absurd b2 b2'
      · have c1 : ¬ z < z2 := fun c => n2 z c (m1.trans m)
        have c2 : ¬ z2 < z := fun c => n1 z2 c (m2.trans m.symm)
        omega
theorem qm {S x : Nat} (hS : 1 ≤ S ∧ S ≤ 31) (hx : x ≤ 1000000) : quo .i64 (x : Int) (S : Int) = ((x / S : Nat) : Int) ∧ Int.tmod (x : Int) (S : Int) = ((x % S : Nat) : Int) := by
  have h3 := Nat.div_le_self x S
  refine ⟨?_, rfl⟩
  unfold quo
  rw [show ((x : Int).tdiv (S : Int)) = ((x / S : Nat) : Int) from rfl]
  generalize x / S = d at h3 ⊢
  exact W_eq (by omega) (by omega)
theorem bit_lt' {x k t : Nat} (hx : x < 2 ^ k) (ht : x.testBit t = true) : t < k := by
  by_cases c : t < k
  · exact c
  · rw [Nat.testBit_lt_two_pow (Nat.lt_of_lt_of_le hx (Nat.pow_le_pow_right (by omega) (by omega)))] at ht; cases ht
/-- What is reached from one point. -/
def IntoI (g : TGen) (w : TWord) (x : Nat) (o : Nat → Nat) : Prop := (∀ i, o i < 2 ^ g.states.toNat) ∧ ∀ y, y < plN w * g.states.toNat → ((o (y / g.states.toNat)).testBit (y % g.states.toNat) = true ↔ Begun g w x ∧ Rch (adjW g w) x y)
theorem comps_ok {g : TGen} (h : GW g) {w : TWord} (hw : WOk w) : ∃ f : Nat → Int, spec_l6Comps g w = some (T (plN w * g.states.toNat) f) ∧ CompI g w (plN w * g.states.toNat) (plN w * g.states.toNat) f := by
  have hs := h.sts
  have hst := h.start
  have hw1 := hw.stem
  have hw2 := hw.loop
  have hw3 := hw.one
  have hpl : 1 ≤ plN w ∧ plN w ≤ 80 := by unfold plN; omega
  have hN : plN w * g.states.toNat ≤ 80 * 31 := Nat.mul_le_mul (by omega) (by omega)
  have hS : 1 ≤ g.states.toNat ∧ g.states.toNat ≤ 31 := by omega
  have eS : g.states = ((g.states.toNat : Nat) : Int) := by omega
  obtain ⟨σ, e1, hσ, hσ'⟩ := succ_ok h
  unfold spec_l6Comps
  have hck : ck (0 : Int) (T (plN w) fun _ => (0 : Int)).length = some 0 := T_ck (k := 0) (by omega)
  rw [e1, Option.bind_some, l6Places_eq hw, T_mk (by omega), Option.bind_some, hck, Option.bind_some, T_set]
  have es : T (plN w) (fun i => if i = 0 then g.start else (0 : Int)) = tN (plN w) fun i => if i = 0 then g.start.toNat else 0 := T_congr fun i _ => by dsimp only; split <;> omega
  obtain ⟨bg, e2, hbg, hbg'⟩ := from_ok h hw hσ hσ' (src := fun i => if i = 0 then g.start.toNat else 0) (fun i => by (try dsimp only); split; exact (by omega : g.start.toNat < 2 ^ g.states.toNat); exact Nat.two_pow_pos _)
  rw [es, e2, Option.bind_some]
  have begun : ∀ x, x < plN w * g.states.toNat → ((bg (x / g.states.toNat)).testBit (x % g.states.toNat) = true ↔ Begun g w x) := fun x hx => by
    obtain ⟨_, h1, h2, h3⟩ := pt_of hx
    rw [hbg' _ _ h1 h2, ← h3]
    constructor
    · rintro ⟨p0, s0, h0, k1, k2⟩
      by_cases c : p0 = 0
      · subst c; rw [if_pos rfl] at k1; exact ⟨s0, k1, by simpa using k2⟩
      · rw [if_neg c, Nat.zero_testBit] at k1; cases k1
    · rintro ⟨s, k1, k2⟩
      exact ⟨0, s, by omega, by rw [if_pos rfl]; exact k1, by simpa using k2⟩
  have wN : W ((plN w : Int) * g.states) = ((plN w * g.states.toNat : Nat) : Int) := by
    rw [eS, ← Int.natCast_mul, W, W_eq (by omega) (by omega)]; simp
  -- the first loop
  have k1 := loop_inv (body := fun s : List Int × List (List Int) × Int => spec_l6Comps.b2 w g (tN (plN w) bg) (tN (8 * g.states.toNat) σ) s.1 s.2.1 s.2.2) (fun s => ∃ (x : Nat) (F : Nat → Nat → Nat), s.2.2 = x ∧ x ≤ plN w * g.states.toNat ∧ s.1 = T x (fun _ => (-1 : Int)) ∧ s.2.1 = T x (fun i => tN (plN w) (F i)) ∧ ∀ i, i < x → IntoI g w i (F i)) (fun s => plN w * g.states.toNat - s.2.2.toNat) (fun r => ∃ F : Nat → Nat → Nat, r.1 = T (plN w * g.states.toNat) (fun _ => (-1 : Int)) ∧ r.2 = T (plN w * g.states.toNat) (fun i => tN (plN w) (F i)) ∧ ∀ i, i < plN w * g.states.toNat → IntoI g w i (F i)) (by
    rintro ⟨y, ys, x'⟩ ⟨x, F, q1, hx, q2, q3, hF⟩
    dsimp only at q1 q2 q3 ⊢
    subst q1 q2 q3
    unfold spec_l6Comps.b2
    rw [l6Places_eq hw, wN]
    by_cases hlt : x < plN w * g.states.toNat
    · right
      obtain ⟨_, p1, p2, p3⟩ := pt_of hlt
      obtain ⟨d1, d2⟩ := qm hS (x := x) (by omega)
      rw [← eS] at d1 d2
      rw [if_pos (by omega), app_small (by rw [T_len]; simp; omega) (by decide), Option.bind_some, T_mk (by omega), Option.bind_some, decide_eq_true (by omega), chk_t, Option.bind_some, d1, T_ix p1, Option.bind_some, Option.bind_some, d2, l1Has_eq (lt31 hS.2 (hbg _)) (by omega), Option.bind_some, Int.toNat_natCast, WN (by omega)]
      have ea : T x (fun _ => (-1 : Int)) ++ [-1] = T (x + 1) (fun _ => (-1 : Int)) := T_snoc.symm
      rw [ea]
      have step : ∀ o : Nat → Nat, IntoI g w x o → ∃ F' : Nat → Nat → Nat, T x (fun i => tN (plN w) (F i)) ++ [tN (plN w) o] = T (x + 1) (fun i => tN (plN w) (F' i)) ∧ ∀ i, i < x + 1 → IntoI g w i (F' i) := fun o ho => by
        refine ⟨fun i => if i = x then o else F i, ?_, fun i hi => ?_⟩
        · rw [T_snoc]
          dsimp only
          rw [if_pos rfl]
          congr 1
          exact T_congr fun i hi => by rw [if_neg (by omega)]
        · dsimp only
          split
          · rename_i e; subst e; exact ho
          · exact hF i (by omega)
      by_cases c : (bg (x / g.states.toNat)).testBit (x % g.states.toNat) = true
      · have hb := (begun x hlt).mp c
        have hpw : 2 ^ (x % g.states.toNat) < 2 ^ g.states.toNat := Nat.pow_lt_pow_right (by omega) p2
        obtain ⟨o, eo, ho, ho'⟩ := from_ok h hw hσ hσ' (src := fun i => if i = x / g.states.toNat then 2 ^ (x % g.states.toNat) else 0) (fun i => by (try dsimp only); split; exact hpw; exact Nat.two_pow_pos _)
        have eo' : T (plN w) (fun i => if i = x / g.states.toNat then ((2 ^ (x % g.states.toNat) : Nat) : Int) else (0 : Int)) = tN (plN w) fun i => if i = x / g.states.toNat then 2 ^ (x % g.states.toNat) else 0 := T_congr fun i _ => by dsimp only; split <;> rfl
        rw [if_pos c, Option.bind_some, Option.bind_some, l1Bit_eq (by omega), Option.bind_some, Int.toNat_natCast, T_ck p1, Option.bind_some, T_set, eo', eo, Option.bind_some, app_small (by rw [T_len]; simp; omega) (by decide), Option.bind_some]
        obtain ⟨F', f1, f2⟩ := step o ⟨ho, fun y hy => by
          obtain ⟨_, r1, r2, r3⟩ := pt_of hy
          rw [ho' _ _ r1 r2, ← r3]
          constructor
          · rintro ⟨p0, s0, h0, j1, j2⟩
            by_cases cc : p0 = x / g.states.toNat
            · rw [if_pos cc, Nat.testBit_two_pow, decide_eq_true_eq] at j1
              subst cc; subst j1
              rw [← p3] at j2; exact ⟨hb, j2⟩
            · rw [if_neg cc, Nat.zero_testBit] at j1; cases j1
          · rintro ⟨_, j2⟩
            exact ⟨_, _, p1, by rw [if_pos rfl, Nat.testBit_two_pow, decide_eq_true_eq], by rw [← p3]; exact j2⟩⟩
        rw [f1]
        exact ⟨_, rfl, ⟨x + 1, F', rfl, hlt, rfl, rfl, f2⟩, by dsimp only; omega⟩
      · have hb : ¬ Begun g w x := fun hb => c ((begun x hlt).mpr hb)
        rw [if_neg c, app_small (by rw [T_len]; simp; omega) (by decide), Option.bind_some]
        obtain ⟨F', f1, f2⟩ := step (fun _ => 0) ⟨fun _ => Nat.two_pow_pos _, fun y hy => ⟨fun j => (by rw [Nat.zero_testBit] at j; cases j), fun j => absurd j.1 hb⟩⟩
        have f1' : T x (fun i => tN (plN w) (F i)) ++ [T (plN w) fun _ => (0 : Int)] = T (x + 1) (fun i => tN (plN w) (F' i)) := f1
        rw [f1']
        exact ⟨_, rfl, ⟨x + 1, F', rfl, hlt, rfl, rfl, f2⟩, by dsimp only; omega⟩
    · left
      rw [if_neg (by omega)]
      have : x = plN w * g.states.toNat := by omega
      subst this
      exact ⟨_, rfl, F, rfl, rfl, hF⟩) (s := ([], [], 0)) ⟨0, fun _ _ => 0, rfl, Nat.zero_le _, rfl, rfl, fun i hi => absurd hi (by omega)⟩
  obtain ⟨⟨r1, r2⟩, k1e, F, f1, f2, hF⟩ := k1
  dsimp only at f1 f2
  subst f1 f2
  rw [k1e, Option.bind_some]
  unfold spec_l6Comps.k0
  -- the second loop
  have k2 := loop_inv (body := fun s : List Int × Int => spec_l6Comps.b0 g (tN (plN w) bg) (T (plN w * g.states.toNat) (fun i => tN (plN w) (F i))) s.1 s.2) (fun s => ∃ (x : Nat) (f : Nat → Int), s.2 = x ∧ x ≤ plN w * g.states.toNat ∧ s.1 = T (plN w * g.states.toNat) f ∧ CompI g w (plN w * g.states.toNat) x f) (fun s => plN w * g.states.toNat - s.2.toNat) (fun r => ∃ f : Nat → Int, r = T (plN w * g.states.toNat) f ∧ CompI g w (plN w * g.states.toNat) (plN w * g.states.toNat) f) (by
    rintro ⟨y, x'⟩ ⟨x, f, q1, hx, q2, hI⟩
    dsimp only at q1 q2 ⊢
    subst q1 q2
    unfold spec_l6Comps.b0
    rw [T_len]
    by_cases hlt : x < plN w * g.states.toNat
    · right
      obtain ⟨_, p1, p2, p3⟩ := pt_of hlt
      obtain ⟨d1, d2⟩ := qm hS (x := x) (by omega)
      rw [← eS] at d1 d2
      rw [if_pos (by omega), T_ix hlt, Option.bind_some, bnd_eq, decide_eq_true (show g.states ≠ 0 by omega), chk_t, d1, d2]
      unfold spec_l6Comps.k2
      rw [WN (by omega)]
      by_cases c0 : f x ≥ 0
      · rw [decide_eq_true c0]
        simp only [Bool.not_true, whenO_f, Option.bind_some, Bool.true_or, if_true]
        exact ⟨_, rfl, ⟨x + 1, f, rfl, hlt, rfl, hI.skip hlt (.inl c0)⟩, by dsimp only; omega⟩
      · rw [decide_eq_false c0]
        simp only [Bool.not_false, whenO_t, Option.bind_some, T_ix p1, l1Has_eq (lt31 hS.2 (hbg _)) (show 0 ≤ ((x % g.states.toNat : Nat) : Int) ∧ ((x % g.states.toNat : Nat) : Int) ≤ 30 by omega), Int.toNat_natCast, Bool.false_or]
        by_cases c : (bg (x / g.states.toNat)).testBit (x % g.states.toNat) = true
        · have hb := (begun x hlt).mp c
          have hfx : f x = -1 := by
            rcases hI.val x hlt with ⟨e, _⟩ | ⟨z, _, e, _⟩
            · exact e
            · omega
          rw [c, if_neg (by simp)]
          have k3 := loop_inv (body := fun s : List Int × Int => spec_l6Comps.b1 (T (plN w * g.states.toNat) (fun i => tN (plN w) (F i))) (x : Int) g s.1 s.2) (fun s => ∃ k : Nat, s.2 = k ∧ x ≤ k ∧ k ≤ plN w * g.states.toNat ∧ s.1 = T (plN w * g.states.toNat) (compG g w x k f)) (fun s => plN w * g.states.toNat - s.2.toNat) (fun r => r = T (plN w * g.states.toNat) (compG g w x (plN w * g.states.toNat) f)) (by
            rintro ⟨y, k'⟩ ⟨k, q1, hk, hk2, q2⟩
            dsimp only at q1 q2 ⊢
            subst q1 q2
            unfold spec_l6Comps.b1
            rw [T_len]
            by_cases hkl : k < plN w * g.states.toNat
            · right
              obtain ⟨_, u1, u2, u3⟩ := pt_of hkl
              obtain ⟨v1, v2⟩ := qm hS (x := k) (by omega)
              rw [← eS] at v1 v2
              have hFx := hF x hlt
              have hFk := hF k hkl
              rw [if_pos (by omega), T_ix hlt, Option.bind_some, decide_eq_true (show g.states ≠ 0 by omega), chk_t, Option.bind_some, v1, T_ix u1, Option.bind_some, Option.bind_some, v2, l1Has_eq (lt31 hS.2 (hFx.1 _)) (by omega), Option.bind_some, Int.toNat_natCast, d1, d2, WN (by omega)]
              have nxt : ∀ v : Nat → Int, (∀ i, i < plN w * g.states.toNat → v i = compG g w x (k + 1) f i) → T (plN w * g.states.toNat) v = T (plN w * g.states.toNat) (compG g w x (k + 1) f) := fun v hv => T_congr hv
              by_cases c1 : (F x (k / g.states.toNat)).testBit (k % g.states.toNat) = true
              · rw [c1]
                simp only [whenO_t, T_ix hkl, Option.bind_some, T_ix p1, l1Has_eq (lt31 hS.2 (hFk.1 _)) (show 0 ≤ ((x % g.states.toNat : Nat) : Int) ∧ ((x % g.states.toNat : Nat) : Int) ≤ 30 by omega), Int.toNat_natCast, Bool.true_and]
                have r1 := ((hFx.2 k hkl).mp c1).2
                have hbk : Begun g w k := by obtain ⟨s, j1, j2⟩ := hb; exact ⟨s, j1, j2.trans r1⟩
                by_cases c2 : (F k (x / g.states.toNat)).testBit (x % g.states.toNat) = true
                · have r2 := ((hFk.2 x hlt).mp c2).2
                  rw [if_pos c2, ck_nat hkl, Option.bind_some, T_set]
                  refine ⟨_, rfl, ⟨k + 1, rfl, by omega, hkl, nxt _ fun i hi => ?_⟩, by dsimp only; omega⟩
                  unfold compG
                  by_cases ei : i = k
                  · subst ei; rw [if_pos rfl, if_pos ⟨hk, by omega, r1, r2⟩]
                  · rw [if_neg ei]
                    by_cases cc : x ≤ i ∧ i < k ∧ Mut (adjW g w) x i
                    · rw [if_pos cc, if_pos ⟨cc.1, by omega, cc.2.2⟩]
                    · rw [if_neg cc, if_neg (fun q => cc ⟨q.1, by omega, q.2.2⟩)]
                · rw [if_neg c2]
                  refine ⟨_, rfl, ⟨k + 1, rfl, by omega, hkl, nxt _ fun i hi => ?_⟩, by dsimp only; omega⟩
                  unfold compG
                  by_cases cc : x ≤ i ∧ i < k ∧ Mut (adjW g w) x i
                  · rw [if_pos cc, if_pos ⟨cc.1, by omega, cc.2.2⟩]
                  · rw [if_neg cc, if_neg (fun q => ?_)]
                    by_cases ei : i = k
                    · subst ei; exact c2 ((hFk.2 x hlt).mpr ⟨hbk, q.2.2.2⟩)
                    · exact cc ⟨q.1, by omega, q.2.2⟩
              · rw [Bool.eq_false_iff.mpr c1]
                simp only [whenO_f, Option.bind_some, Bool.false_and, Bool.false_eq_true, if_false]
                refine ⟨_, rfl, ⟨k + 1, rfl, by omega, hkl, nxt _ fun i hi => ?_⟩, by dsimp only; omega⟩
                unfold compG
                by_cases cc : x ≤ i ∧ i < k ∧ Mut (adjW g w) x i
                · rw [if_pos cc, if_pos ⟨cc.1, by omega, cc.2.2⟩]
                · rw [if_neg cc, if_neg (fun q => ?_)]
                  by_cases ei : i = k
                  · subst ei; exact c1 ((hFx.2 i hkl).mpr ⟨hb, q.2.2.1⟩)
                  · exact cc ⟨q.1, by omega, q.2.2⟩
            · left
              rw [if_neg (by omega)]
              have : k = plN w * g.states.toNat := by omega
              subst this
              exact ⟨_, rfl, rfl⟩) (s := (T (plN w * g.states.toNat) f, (x : Int))) ⟨x, rfl, Nat.le_refl _, hx, T_congr fun i hi => by unfold compG; rw [if_neg (by omega)]⟩
          obtain ⟨r, k3e, rfl⟩ := k3
          rw [k3e, Option.bind_some]
          exact ⟨_, rfl, ⟨x + 1, _, rfl, hlt, rfl, hI.take hlt hfx hb⟩, by dsimp only; omega⟩
        · have hb : ¬ Begun g w x := fun hb => c ((begun x hlt).mpr hb)
          rw [if_pos (by simp [c])]
          exact ⟨_, rfl, ⟨x + 1, f, rfl, hlt, rfl, hI.skip hlt (.inr hb)⟩, by dsimp only; omega⟩
    · left
      rw [if_neg (by omega)]
      have : x = plN w * g.states.toNat := by omega
      subst this
      exact ⟨_, rfl, f, rfl, hI⟩) (s := (T (plN w * g.states.toNat) fun _ => (-1 : Int), 0)) ⟨0, fun _ => -1, rfl, Nat.zero_le _, rfl, ⟨fun y hy => .inl ⟨rfl, fun _ z hz => absurd hz (by omega)⟩⟩⟩
  obtain ⟨r, k2e, f, rfl, hI⟩ := k2
  rw [k2e, Option.bind_some]
  exact ⟨f, rfl, hI⟩
end Go.Proofs.Ytcmbbpdepobnlaa
end

/- What an automaton of many marks takes, by the reference: a ring that is reached, with a step in it, whose steps have all marks. -/
section
namespace Go.Proofs.Ytcmbbpdepobnlaa
open Go Go.RowKit E
set_option linter.unusedVariables false

/-- A step within a ring that is reached. -/
def InW (g : TGen) (w : TWord) (p : Nat) (e : TGEdge) : Prop := p < plN w ∧ e ∈ g.edges ∧ e.letter.toNat = letN w p ∧ Begun g w (p * g.states.toNat + e.from_.toNat) ∧ Mut (adjW g w) (p * g.states.toNat + e.from_.toNat) (nxN w p * g.states.toNat + e.to_.toNat)
def LiveW (g : TGen) (w : TWord) : Prop := ∃ p e, InW g w p e ∧ ∀ m, m < g.sets.toNat → ∃ p' e', InW g w p' e' ∧ Mut (adjW g w) (p * g.states.toNat + e.from_.toNat) (p' * g.states.toNat + e'.from_.toNat) ∧ e'.marks.toNat.testBit m = true
noncomputable def dcW (p : Prop) : Bool := @decide p (Classical.propDecidable p)
theorem dcW_t {p : Prop} (h : p) : dcW p = true := @decide_eq_true p (Classical.propDecidable p) h
theorem dcW_f {p : Prop} (h : ¬ p) : dcW p = false := @decide_eq_false p (Classical.propDecidable p) h
theorem dcW_iff {p : Prop} : dcW p = true ↔ p := @decide_eq_true_iff p (Classical.propDecidable p)
theorem any_loopW {body : Int → Option (Int ⊕ (Unit ⊕ Bool))} (n : Nat) (c : Nat → Prop) (go : ∀ k, k < n → (c k ∧ body (k : Int) = some (.inr (.inr true))) ∨ (¬ c k ∧ body (k : Int) = some (.inl ((k + 1 : Nat) : Int)))) (fin : body (n : Int) = some (.inr (.inl ()))) : loop body 0 = some (if dcW (∃ k, k < n ∧ c k) = true then .inr true else .inl ()) := by
  have key : ∀ d k, k + d = n → (∀ j, j < k → ¬ c j) → loop body (k : Int) = some (if dcW (∃ k, k < n ∧ c k) = true then .inr true else .inl ()) := by
    intro d
    induction d with
    | zero =>
      intro k hk he
      obtain rfl : k = n := by omega
      rw [dcW_f (fun ⟨j, hj, h⟩ => he j hj h), if_neg (by simp)]
      exact loop_end fin
    | succ d ih =>
      intro k hk he
      rcases go k (by omega) with ⟨h, e⟩ | ⟨h, e⟩
      · rw [dcW_t ⟨k, by omega, h⟩, if_pos rfl]
        exact loop_end e
      · rw [loop_go e]
        refine ih (k + 1) (by omega) fun j hj => ?_
        by_cases ej : j = k
        · rw [ej]; exact h
        · exact he j (by omega)
  exact key n 0 (by omega) (fun j hj => absurd hj (by omega))
/-- A step between points of number c. -/
def InC (g : TGen) (w : TWord) (f : Nat → Int) (p i : Nat) (c : Nat) : Prop := p < plN w ∧ i < g.edges.length ∧ (g.edges.getD i default).letter.toNat = letN w p ∧ f (p * g.states.toNat + (g.edges.getD i default).from_.toNat) = (c : Int) ∧ f (nxN w p * g.states.toNat + (g.edges.getD i default).to_.toNat) = (c : Int)
def doneC (p i p' i' : Nat) : Prop := p' < p ∨ (p' = p ∧ i' < i)
structure AccC (g : TGen) (w : TWord) (f : Nat → Int) (p i : Nat) (sm : Nat → Bool) (mk : Nat → Nat) : Prop where
  sm : ∀ c, sm c = true ↔ ∃ p' i', doneC p i p' i' ∧ InC g w f p' i' c
  mks : ∀ c m, (mk c).testBit m = true ↔ ∃ p' i', doneC p i p' i' ∧ InC g w f p' i' c ∧ (g.edges.getD i' default).marks.toNat.testBit m = true
  lt : ∀ c, mk c < 2 ^ g.sets.toNat
theorem AccC.skip {g : TGen} {w : TWord} {f : Nat → Int} {p i : Nat} {sm : Nat → Bool} {mk : Nat → Nat} (h : AccC g w f p i sm mk) (k : ∀ c, ¬ InC g w f p i c) : AccC g w f p (i + 1) sm mk where
  sm := fun c => by
    rw [h.sm]
    constructor
    · rintro ⟨p', i', hd, hi⟩; exact ⟨p', i', by unfold doneC at hd ⊢; omega, hi⟩
    · rintro ⟨p', i', hd, hi⟩
      refine ⟨p', i', ?_, hi⟩
      have : ¬ (p' = p ∧ i' = i) := fun q => k c (by rw [q.1, q.2] at hi; exact hi)
      unfold doneC at hd ⊢; omega
  mks := fun c m => by
    rw [h.mks]
    constructor
    · rintro ⟨p', i', hd, hi⟩; exact ⟨p', i', by unfold doneC at hd ⊢; omega, hi⟩
    · rintro ⟨p', i', hd, hi⟩
      refine ⟨p', i', ?_, hi⟩
      have : ¬ (p' = p ∧ i' = i) := fun q => k c (by rw [q.1, q.2] at hi; exact hi.1)
      unfold doneC at hd ⊢; omega
  lt := h.lt
theorem AccC.take {g : TGen} {w : TWord} {f : Nat → Int} {p i c : Nat} {sm : Nat → Bool} {mk : Nat → Nat} (h : AccC g w f p i sm mk) (k : InC g w f p i c) (hm : (g.edges.getD i default).marks.toNat < 2 ^ g.sets.toNat) : AccC g w f p (i + 1) (fun j => if j = c then true else sm j) (fun j => if j = c then mk c ||| (g.edges.getD i default).marks.toNat else mk j) where
  sm := fun c' => by
    (try dsimp only)
    by_cases e : c' = c
    · subst e
      rw [if_pos rfl]
      exact ⟨fun _ => ⟨p, i, by unfold doneC; omega, k⟩, fun _ => rfl⟩
    · rw [if_neg e, h.sm]
      constructor
      · rintro ⟨p', i', hd, hi⟩; exact ⟨p', i', by unfold doneC at hd ⊢; omega, hi⟩
      · rintro ⟨p', i', hd, hi⟩
        refine ⟨p', i', ?_, hi⟩
        have : ¬ (p' = p ∧ i' = i) := fun q => by
          rw [q.1, q.2] at hi
          have h1 := hi.2.2.2.1
          have h2 := k.2.2.2.1
          exact e (by omega)
        unfold doneC at hd ⊢; omega
  mks := fun c' m => by
    (try dsimp only)
    by_cases e : c' = c
    · subst e
      rw [if_pos rfl, Nat.testBit_or, Bool.or_eq_true, h.mks]
      constructor
      · rintro (⟨p', i', hd, hi⟩ | hb)
        · exact ⟨p', i', by unfold doneC at hd ⊢; omega, hi⟩
        · exact ⟨p, i, by unfold doneC; omega, k, hb⟩
      · rintro ⟨p', i', hd, hi⟩
        by_cases q : p' = p ∧ i' = i
        · rw [q.2] at hi; exact .inr hi.2
        · exact .inl ⟨p', i', by unfold doneC at hd ⊢; omega, hi⟩
    · rw [if_neg e, h.mks]
      constructor
      · rintro ⟨p', i', hd, hi⟩; exact ⟨p', i', by unfold doneC at hd ⊢; omega, hi⟩
      · rintro ⟨p', i', hd, hi⟩
        refine ⟨p', i', ?_, hi⟩
        have : ¬ (p' = p ∧ i' = i) := fun q => by
          rw [q.1, q.2] at hi
          have h1 := hi.1.2.2.2.1
          have h2 := k.2.2.2.1
          exact e (by omega)
        unfold doneC at hd ⊢; omega
  lt := fun c' => by
    (try dsimp only)
    split
    · exact or_lt' (h.lt _) hm
    · exact h.lt c'
theorem AccC.next {g : TGen} {w : TWord} {f : Nat → Int} {p : Nat} {sm : Nat → Bool} {mk : Nat → Nat} (h : AccC g w f p g.edges.length sm mk) : AccC g w f (p + 1) 0 sm mk where
  sm := fun c => by
    rw [h.sm]
    constructor
    · rintro ⟨p', i', hd, hi⟩; exact ⟨p', i', by unfold doneC at hd ⊢; omega, hi⟩
    · rintro ⟨p', i', hd, hi⟩
      have := hi.2.1
      exact ⟨p', i', by unfold doneC at hd ⊢; omega, hi⟩
  mks := fun c m => by
    rw [h.mks]
    constructor
    · rintro ⟨p', i', hd, hi⟩; exact ⟨p', i', by unfold doneC at hd ⊢; omega, hi⟩
    · rintro ⟨p', i', hd, hi⟩
      have := hi.1.2.1
      exact ⟨p', i', by unfold doneC at hd ⊢; omega, hi⟩
  lt := h.lt
theorem full_iff {x k : Nat} (hx : x < 2 ^ k) : x = 2 ^ k - 1 ↔ ∀ m, m < k → x.testBit m = true := by
  constructor
  · rintro rfl m hm
    rw [Nat.testBit_two_pow_sub_one, decide_eq_true hm]
  · intro h
    refine Nat.eq_of_testBit_eq fun i => ?_
    rw [Nat.testBit_two_pow_sub_one]
    by_cases c : i < k
    · rw [h i c, decide_eq_true c]
    · rw [decide_eq_false c, Nat.testBit_lt_two_pow (Nat.lt_of_lt_of_le hx (Nat.pow_le_pow_right (by omega) (by omega)))]
theorem live_iff {g : TGen} (h : GW g) {w : TWord} (hw : WOk w) {f : Nat → Int} (hf : CompI g w (plN w * g.states.toNat) (plN w * g.states.toNat) f) {sm : Nat → Bool} {mk : Nat → Nat} (hA : AccC g w f (plN w) 0 sm mk) : (∃ c, c < plN w * g.states.toNat ∧ sm c = true ∧ mk c = 2 ^ g.sets.toNat - 1) ↔ LiveW g w := by
  have pts : ∀ p i, p < plN w → i < g.edges.length → p * g.states.toNat + (g.edges.getD i default).from_.toNat < plN w * g.states.toNat ∧ nxN w p * g.states.toNat + (g.edges.getD i default).to_.toNat < plN w * g.states.toNat := fun p i hp hi => by
    have he := h.edge _ (gedge_mem hi)
    exact ⟨pt_lt hp (by omega), pt_lt (nxN_lt hw hp) (by omega)⟩
  have toIn : ∀ {p i c}, InC g w f p i c → InW g w p (g.edges.getD i default) := fun {p i c} hc => by
    obtain ⟨h1, h2, h3, h4, h5⟩ := hc
    obtain ⟨q1, q2⟩ := pts p i h1 h2
    obtain ⟨b, m⟩ := (hf.same q1 q2).mp ⟨by omega, by omega⟩
    exact ⟨h1, gedge_mem h2, h3, b, m⟩
  have ofIn : ∀ {p e}, InW g w p e → ∃ i c, c < plN w * g.states.toNat ∧ g.edges.getD i default = e ∧ InC g w f p i c := fun {p e} hc => by
    obtain ⟨h1, h2, h3, h4, h5⟩ := hc
    obtain ⟨i, hi, rfl⟩ := mem_gedge h2
    obtain ⟨q1, q2⟩ := pts p i h1 hi
    obtain ⟨g1, g2⟩ := (hf.same q1 q2).mpr ⟨h4, h5⟩
    rcases hf.end_ _ q1 with ⟨e1, _⟩ | ⟨z, hz, e1, _⟩
    · omega
    · exact ⟨i, z, hz, rfl, h1, hi, h3, e1, by omega⟩
  constructor
  · rintro ⟨c, hc, s1, s2⟩
    obtain ⟨p, i, _, hI⟩ := (hA.sm c).mp s1
    refine ⟨p, _, toIn hI, fun m hm => ?_⟩
    obtain ⟨p', i', _, hI', hb⟩ := (hA.mks c m).mp ((full_iff (hA.lt c)).mp s2 m hm)
    refine ⟨p', _, toIn hI', ?_, hb⟩
    obtain ⟨q1, _⟩ := pts p i hI.1 hI.2.1
    obtain ⟨q2, _⟩ := pts p' i' hI'.1 hI'.2.1
    have e1 := hI.2.2.2.1
    have e2 := hI'.2.2.2.1
    exact ((hf.same q1 q2).mp ⟨by omega, by omega⟩).2
  · rintro ⟨p, e, hI, hall⟩
    obtain ⟨i, c, hc, rfl, hC⟩ := ofIn hI
    refine ⟨c, hc, (hA.sm c).mpr ⟨p, i, .inl hC.1, hC⟩, (full_iff (hA.lt c)).mpr fun m hm => ?_⟩
    obtain ⟨p', e', hI', hM, hb⟩ := hall m hm
    obtain ⟨i', c', hc', rfl, hC'⟩ := ofIn hI'
    obtain ⟨q1, _⟩ := pts p i hC.1 hC.2.1
    obtain ⟨q2, _⟩ := pts p' i' hC'.1 hC'.2.1
    have hs := ((hf.same q1 q2).mpr ⟨hI.2.2.2.1, hM⟩).2
    have e1 := hC.2.2.2.1
    have e2 := hC'.2.2.2.1
    have : c' = c := by omega
    subst this
    exact (hA.mks _ m).mpr ⟨p', i', .inl hC'.1, hC', hb⟩
theorem shlS {n : Int} (h : 0 ≤ n ∧ n ≤ 31) : W (shl .i64 1 n - 1) = ((2 ^ n.toNat - 1 : Nat) : Int) := by
  have hp := pow31 (n := n.toNat) (by omega)
  have h1 := shl1_i (n := n.toNat) (by omega)
  rw [show ((n.toNat : Nat) : Int) = n by omega] at h1
  rw [h1, W, W_eq (by omega) (by omega)]; omega
/-- What comes behind the tests of the arguments. -/
theorem takes_core {g : TGen} (h : GW g) {w : TWord} (hw : WOk w) : ((spec_l6Comps g w).bind fun a30 => (E.mk 8 (0 : Int) ((a30.length : Int))).bind fun z33 => (E.mk 1 false ((a30.length : Int))).bind fun z36 => (loop (fun s : ((List Int) × (List Bool) × Int) => spec_GenTakes.b1 w g a30 s.1 s.2.1 s.2.2) ((z33, z36, 0))).bind (fun q => spec_GenTakes.k0 g q.1 q.2)) = some (dcW (LiveW g w)) := by
  have hs := h.sts
  have hse := h.sets
  have hn := h.num
  have hw1 := hw.stem
  have hw2 := hw.loop
  have hpl : plN w ≤ 80 := by unfold plN; omega
  have hN : plN w * g.states.toNat ≤ 80 * 31 := Nat.mul_le_mul (by omega) (by omega)
  obtain ⟨f, e1, hf⟩ := comps_ok h hw
  rw [e1, Option.bind_some, T_len, T_mk (by omega), Option.bind_some, T_mk (by omega), Option.bind_some]
  have k1 := loop_inv (body := fun s : List Int × List Bool × Int => spec_GenTakes.b1 w g (T (plN w * g.states.toNat) f) s.1 s.2.1 s.2.2) (fun s => ∃ (p : Nat) (sm : Nat → Bool) (mk : Nat → Nat), s.2.2 = p ∧ p ≤ plN w ∧ s.1 = tN (plN w * g.states.toNat) mk ∧ s.2.1 = T (plN w * g.states.toNat) sm ∧ AccC g w f p 0 sm mk) (fun s => plN w - s.2.2.toNat) (fun r => ∃ (sm : Nat → Bool) (mk : Nat → Nat), r.1 = tN (plN w * g.states.toNat) mk ∧ r.2 = T (plN w * g.states.toNat) sm ∧ AccC g w f (plN w) 0 sm mk) (by
    rintro ⟨y, z, p'⟩ ⟨p, sm, mk, q1, hp, q2, q3, hA⟩
    dsimp only at q1 q2 q3 ⊢
    subst q1 q2 q3
    unfold spec_GenTakes.b1
    rw [l6Places_eq hw]
    by_cases hlt : p < plN w
    · right
      rw [if_pos (by omega)]
      have k2 := loop_inv (body := fun s : List Int × List Bool × Int => spec_GenTakes.b2 g w (p : Int) (T (plN w * g.states.toNat) f) s.1 s.2.1 s.2.2) (fun s => ∃ (i : Nat) (sm : Nat → Bool) (mk : Nat → Nat), s.2.2 = i ∧ i ≤ g.edges.length ∧ s.1 = tN (plN w * g.states.toNat) mk ∧ s.2.1 = T (plN w * g.states.toNat) sm ∧ AccC g w f p i sm mk) (fun s => g.edges.length - s.2.2.toNat) (fun r => ∃ (sm : Nat → Bool) (mk : Nat → Nat), r.1 = tN (plN w * g.states.toNat) mk ∧ r.2 = T (plN w * g.states.toNat) sm ∧ AccC g w f p g.edges.length sm mk) (by
        rintro ⟨y, z, i'⟩ ⟨i, sm, mk, q1, hi, q2, q3, hA⟩
        dsimp only at q1 q2 q3 ⊢
        subst q1 q2 q3
        unfold spec_GenTakes.b2
        by_cases hil : i < g.edges.length
        · right
          have he := h.edge _ (gedge_mem hil)
          have x1 : p * g.states.toNat + (g.edges.getD i default).from_.toNat < plN w * g.states.toNat := pt_lt hlt (by omega)
          have x2 : nxN w p * g.states.toNat + (g.edges.getD i default).to_.toNat < plN w * g.states.toNat := pt_lt (nxN_lt hw hlt) (by omega)
          have hskip : ∀ k : ∀ c, ¬ InC g w f p i c, ∃ s', (some (Sum.inl (tN (plN w * g.states.toNat) mk, T (plN w * g.states.toNat) sm, ((i + 1 : Nat) : Int))) : Option ((List Int × List Bool × Int) ⊕ (List Int × List Bool))) = some (Sum.inl s') ∧ (∃ (i : Nat) (sm : Nat → Bool) (mk : Nat → Nat), s'.2.2 = i ∧ i ≤ g.edges.length ∧ s'.1 = tN (plN w * g.states.toNat) mk ∧ s'.2.1 = T (plN w * g.states.toNat) sm ∧ AccC g w f p i sm mk) ∧ g.edges.length - s'.2.2.toNat < g.edges.length - ((i : Nat) : Int).toNat := fun k => ⟨_, rfl, ⟨i + 1, sm, mk, rfl, hil, rfl, rfl, hA.skip k⟩, by dsimp only; omega⟩
          have wW : ∀ (a : Nat) (b : Int), a ≤ 80 → 0 ≤ b → b < g.states → W (W ((a : Int) * g.states) + b) = ((a * g.states.toNat + b.toNat : Nat) : Int) := fun a b ha hb0 hb1 => by
            have hm : a * g.states.toNat ≤ 80 * 31 := Nat.mul_le_mul (by omega) (by omega)
            have em : (a : Int) * g.states = ((a * g.states.toNat : Nat) : Int) := by rw [show g.states = ((g.states.toNat : Nat) : Int) by omega]; simp
            rw [em, show W ((a * g.states.toNat : Nat) : Int) = ((a * g.states.toNat : Nat) : Int) from W_eq (by omega) (by omega), W, W_eq (by omega) (by omega)]; omega
          have hnx := nxN_lt hw hlt
          rw [if_pos (by omega), ix_nat hil, Option.bind_some, l3At_eq hw hlt, Option.bind_some, WN (by omega), bnd_eq, wW p _ (by omega) (by omega) (by omega), l6After_eq hw hlt, wW (nxN w p) _ (by omega) (by omega) (by omega), T_ix x1, T_ix x2]
          generalize heq : g.edges.getD i default = e at he x1 x2 hskip
          by_cases cl : e.letter = (letN w p : Int)
          · rw [decide_eq_true cl, whenO_t, Option.bind_some, bnd_eq, Bool.true_and]
            by_cases c0 : f (p * g.states.toNat + e.from_.toNat) ≥ 0
            · rw [decide_eq_true c0, whenO_t, Option.bind_some, whenO_t, Option.bind_some, Bool.true_and]
              by_cases c1 : f (p * g.states.toNat + e.from_.toNat) = f (nxN w p * g.states.toNat + e.to_.toNat)
              · rw [if_pos (by simpa using c1)]
                simp only [Option.bind_some]
                rcases hf.end_ _ x1 with ⟨e1, _⟩ | ⟨c, hc, e1, _⟩
                · omega
                · have hI : InC g w f p i c := ⟨hlt, hil, by rw [heq]; omega, by rw [heq]; exact e1, by rw [heq]; omega⟩
                  have hm : e.marks.toNat < 2 ^ g.sets.toNat := by omega
                  have hor : bOr .i64 ((mk c : Nat) : Int) e.marks = ((mk c ||| e.marks.toNat : Nat) : Int) := by
                    have := or_lt31 (by omega) (hA.lt c) hm
                    rw [show ((e.marks.toNat : Nat) : Int) = e.marks by omega] at this
                    exact this
                  have ht := hA.take hI (by rw [heq]; exact hm)
                  rw [heq] at ht
                  rw [e1, T_ck hc, Option.bind_some, T_ix hc, Option.bind_some, T_ck hc, Option.bind_some, hor, T_set, T_set]
                  refine ⟨_, rfl, ⟨i + 1, _, _, rfl, hil, T_congr fun j _ => ?_, rfl, ht⟩, by dsimp only; omega⟩
                  (try dsimp only)
                  split <;> rfl
              · rw [if_neg (by simpa using c1)]
                exact hskip fun c hc => by
                  have h4 := hc.2.2.2.1; have h5 := hc.2.2.2.2
                  rw [heq] at h4 h5
                  exact c1 (by omega)
            · rw [decide_eq_false c0, whenO_f, Option.bind_some, whenO_f, Option.bind_some, Bool.false_and, if_neg (by simp)]
              exact hskip fun c hc => by
                have h4 := hc.2.2.2.1
                rw [heq] at h4
                omega
          · rw [decide_eq_false cl, whenO_f, Option.bind_some, bnd_eq, Bool.false_and, whenO_f, Option.bind_some, whenO_f, Option.bind_some, Bool.false_and, if_neg (by simp)]
            exact hskip fun c hc => by
              have h3 := hc.2.2.1
              rw [heq] at h3
              omega
        · left
          rw [if_neg (by omega)]
          have : i = g.edges.length := by omega
          subst this
          exact ⟨_, rfl, sm, mk, rfl, rfl, hA⟩) (s := (tN (plN w * g.states.toNat) mk, T (plN w * g.states.toNat) sm, 0)) ⟨0, sm, mk, rfl, Nat.zero_le _, rfl, rfl, hA⟩
      obtain ⟨⟨r1, r2⟩, k2e, sm', mk', f1, f2, hA'⟩ := k2
      dsimp only at f1 f2
      subst f1 f2
      rw [k2e, Option.bind_some]
      unfold spec_GenTakes.k2
      rw [WN (by omega)]
      exact ⟨_, rfl, ⟨p + 1, sm', mk', rfl, hlt, rfl, rfl, hA'.next⟩, by dsimp only; omega⟩
    · left
      rw [if_neg (by omega)]
      have : p = plN w := by omega
      subst this
      exact ⟨_, rfl, sm, mk, rfl, rfl, hA⟩) (s := (T (plN w * g.states.toNat) fun _ => (0 : Int), T (plN w * g.states.toNat) fun _ => false, 0)) ⟨0, fun _ => false, fun _ => 0, rfl, Nat.zero_le _, rfl, rfl, ⟨fun c => ⟨fun q => (by cases q), fun ⟨p', i', hd, _⟩ => (by unfold doneC at hd; omega)⟩, fun c m => ⟨fun q => (by rw [Nat.zero_testBit] at q; cases q), fun ⟨p', i', hd, _⟩ => (by unfold doneC at hd; omega)⟩, fun _ => Nat.two_pow_pos _⟩⟩
  obtain ⟨⟨r1, r2⟩, k1e, sm, mk, f1, f2, hA⟩ := k1
  dsimp only at f1 f2
  subst f1 f2
  rw [k1e, Option.bind_some]
  unfold spec_GenTakes.k0
  have k4 := any_loopW (body := fun s : Int => spec_GenTakes.b0 (tN (plN w * g.states.toNat) mk) (T (plN w * g.states.toNat) sm) g s) (plN w * g.states.toNat) (fun c => sm c = true ∧ mk c = 2 ^ g.sets.toNat - 1) (fun k hk => by
    (try dsimp only)
    unfold spec_GenTakes.b0
    rw [T_len, if_pos (by omega), T_ix hk, Option.bind_some, shlS (by omega), decide_eq_true (show 0 ≤ g.sets by omega), chk_t, T_ix hk, WN (by omega)]
    by_cases c1 : sm k = true
    · rw [c1, whenO_t, Option.bind_some, whenO_t, Option.bind_some, Bool.true_and]
      by_cases c2 : mk k = 2 ^ g.sets.toNat - 1
      · exact .inl ⟨⟨rfl, c2⟩, by rw [if_pos (by rw [decide_eq_true_eq, c2])]⟩
      · exact .inr ⟨fun q => c2 q.2, by rw [if_neg (by rw [decide_eq_true_eq]; omega)]⟩
    · rw [Bool.eq_false_iff.mpr c1, whenO_f, Option.bind_some, whenO_f, Option.bind_some, Bool.false_and]
      exact .inr ⟨fun q => (by cases q.1), by rw [if_neg (by simp)]⟩) (by
    (try dsimp only)
    unfold spec_GenTakes.b0
    rw [T_len, if_neg (by omega)])
  rw [k4, Option.bind_some]
  have hl := live_iff h hw hf hA
  by_cases c : LiveW g w
  · have e1 : dcW (∃ k, k < plN w * g.states.toNat ∧ sm k = true ∧ mk k = 2 ^ g.sets.toNat - 1) = true := dcW_t (hl.mpr c)
    rw [e1, dcW_t c]; rfl
  · have e1 : dcW (∃ k, k < plN w * g.states.toNat ∧ sm k = true ∧ mk k = 2 ^ g.sets.toNat - 1) = false := dcW_f (fun q => c (hl.mp q))
    rw [e1, dcW_f c]; rfl
end Go.Proofs.Ytcmbbpdepobnlaa
end

/- Ways through the points of a word, told by the letters; what is taken, told by turns round the loop. -/
section
namespace Go.Proofs.Ytcmbbpdepobnlaa
open Go Go.RowKit E
set_option linter.unusedVariables false

/-- Ways by letters; good ones have a marked step (mark 0). -/
def Pth (es : List TGEdge) : List Nat → Nat → Nat → Prop
  | [], p, q => p = q
  | x :: u, p, q => ∃ e ∈ es, e.letter.toNat = x ∧ e.from_.toNat = p ∧ Pth es u e.to_.toNat q
def PthG (es : List TGEdge) : List Nat → Nat → Nat → Prop
  | [], _, _ => False
  | x :: u, p, q => ∃ e ∈ es, e.letter.toNat = x ∧ e.from_.toNat = p ∧ ((e.marks.toNat.testBit 0 = true ∧ Pth es u e.to_.toNat q) ∨ PthG es u e.to_.toNat q)
theorem Pth.app {es : List TGEdge} : ∀ {u v : List Nat} {p q : Nat}, Pth es (u ++ v) p q ↔ ∃ r, Pth es u p r ∧ Pth es v r q
  | [], v, p, q => ⟨fun h => ⟨p, rfl, h⟩, fun ⟨r, h1, h2⟩ => by have : p = r := h1; subst this; exact h2⟩
  | x :: u, v, p, q => by
    constructor
    · rintro ⟨e, he, h1, h2, h3⟩
      obtain ⟨r, h4, h5⟩ := Pth.app.mp h3
      exact ⟨r, ⟨e, he, h1, h2, h4⟩, h5⟩
    · rintro ⟨r, ⟨e, he, h1, h2, h4⟩, h5⟩
      exact ⟨e, he, h1, h2, Pth.app.mpr ⟨r, h4, h5⟩⟩
theorem PthG.pth {es : List TGEdge} : ∀ {u : List Nat} {p q : Nat}, PthG es u p q → Pth es u p q
  | [], _, _, h => h.elim
  | x :: u, p, q, ⟨e, he, h1, h2, h3⟩ => ⟨e, he, h1, h2, h3.elim (fun k => k.2) PthG.pth⟩
theorem PthG.app {es : List TGEdge} : ∀ {u v : List Nat} {p q : Nat}, PthG es (u ++ v) p q ↔ ∃ r, (PthG es u p r ∧ Pth es v r q) ∨ (Pth es u p r ∧ PthG es v r q)
  | [], v, p, q => ⟨fun h => ⟨p, .inr ⟨rfl, h⟩⟩, fun ⟨r, h⟩ => by
      rcases h with ⟨h, _⟩ | ⟨h1, h2⟩
      · exact h.elim
      · have : p = r := h1; subst this; exact h2⟩
  | x :: u, v, p, q => by
    constructor
    · rintro ⟨e, he, h1, h2, h3⟩
      rcases h3 with ⟨h3, h4⟩ | h3
      · obtain ⟨r, h5, h6⟩ := Pth.app.mp h4
        exact ⟨r, .inl ⟨⟨e, he, h1, h2, .inl ⟨h3, h5⟩⟩, h6⟩⟩
      · obtain ⟨r, ⟨h5, h6⟩ | ⟨h5, h6⟩⟩ := PthG.app.mp h3
        · exact ⟨r, .inl ⟨⟨e, he, h1, h2, .inr h5⟩, h6⟩⟩
        · exact ⟨r, .inr ⟨⟨e, he, h1, h2, h5⟩, h6⟩⟩
    · rintro ⟨r, ⟨⟨e, he, h1, h2, h3⟩, h4⟩ | ⟨⟨e, he, h1, h2, h3⟩, h4⟩⟩
      · rcases h3 with ⟨h3, h5⟩ | h3
        · exact ⟨e, he, h1, h2, .inl ⟨h3, Pth.app.mpr ⟨r, h5, h4⟩⟩⟩
        · exact ⟨e, he, h1, h2, .inr (PthG.app.mpr ⟨r, .inl ⟨h3, h4⟩⟩)⟩
      · exact ⟨e, he, h1, h2, .inr (PthG.app.mpr ⟨r, .inr ⟨h3, h4⟩⟩)⟩
/-- Places after some steps; the letters of some steps. -/
def nxI (w : TWord) : Nat → Nat → Nat
  | 0, p => p
  | j + 1, p => nxI w j (nxN w p)
def seqW (w : TWord) : Nat → Nat → List Nat
  | 0, _ => []
  | j + 1, p => letN w p :: seqW w j (nxN w p)
theorem nxI_add (w : TWord) : ∀ i j p, nxI w (i + j) p = nxI w j (nxI w i p)
  | 0, j, p => by rw [Nat.zero_add]; rfl
  | i + 1, j, p => by rw [show i + 1 + j = (i + j) + 1 by omega]; exact nxI_add w i j (nxN w p)
theorem nxI_comm (w : TWord) (i j p : Nat) : nxI w i (nxI w j p) = nxI w j (nxI w i p) := by
  rw [← nxI_add, ← nxI_add, Nat.add_comm]
theorem seqW_add (w : TWord) : ∀ i j p, seqW w (i + j) p = seqW w i p ++ seqW w j (nxI w i p)
  | 0, j, p => by rw [Nat.zero_add]; rfl
  | i + 1, j, p => by
    rw [show i + 1 + j = (i + j) + 1 by omega]
    show letN w p :: seqW w (i + j) (nxN w p) = letN w p :: (seqW w i (nxN w p) ++ _)
    rw [seqW_add w i j (nxN w p)]; rfl
theorem nxI_lt {w : TWord} (h : WOk w) : ∀ j p, p < plN w → nxI w j p < plN w
  | 0, p, hp => hp
  | j + 1, p, hp => nxI_lt h j _ (nxN_lt h hp)
theorem nxI_in {w : TWord} : ∀ j p, p + j < plN w → nxI w j p = p + j
  | 0, p, _ => rfl
  | j + 1, p, h => by
    show nxI w j (nxN w p) = _
    have e : nxN w p = p + 1 := by unfold nxN; rw [if_neg (by omega)]
    rw [e, nxI_in j (p + 1) (by omega)]; omega
theorem nxI_end {w : TWord} {p : Nat} (h : p < plN w) : nxI w (plN w - p) p = w.stem.length := by
  have e : plN w - p = (plN w - 1 - p) + 1 := by omega
  rw [e, nxI_add, nxI_in (plN w - 1 - p) p (by omega)]
  show nxN w (p + (plN w - 1 - p)) = _
  unfold nxN; rw [if_pos (by omega)]
theorem nxI_round {w : TWord} (h : WOk w) : nxI w w.loop.length w.stem.length = w.stem.length := by
  have h1 := h.one
  have := nxI_end (w := w) (p := w.stem.length) (by unfold plN; omega)
  rw [show plN w - w.stem.length = w.loop.length by unfold plN; omega] at this
  exact this
theorem nxI_rounds {w : TWord} (h : WOk w) : ∀ k, nxI w (k * w.loop.length) w.stem.length = w.stem.length
  | 0 => by rw [Nat.zero_mul]; rfl
  | k + 1 => by rw [Nat.succ_mul, nxI_add, nxI_rounds h k, nxI_round h]
theorem round_of {w : TWord} (h : WOk w) : ∀ (d j : Nat), j ≤ d → nxI w j w.stem.length = w.stem.length → ∃ k, j = k * w.loop.length := by
  intro d
  have h1 := h.one
  induction d with
  | zero => intro j hj _; exact ⟨0, by omega⟩
  | succ d ih =>
    intro j hj e
    by_cases c : j < w.loop.length
    · rw [nxI_in _ _ (by unfold plN; omega)] at e
      exact ⟨0, by omega⟩
    · have e2 : nxI w (j - w.loop.length) w.stem.length = w.stem.length := by
        have := nxI_add w w.loop.length (j - w.loop.length) w.stem.length
        rw [nxI_round h, show w.loop.length + (j - w.loop.length) = j by omega, e] at this
        exact this.symm
      obtain ⟨k, hk⟩ := ih (j - w.loop.length) (by omega) e2
      exact ⟨k + 1, by rw [Nat.succ_mul, ← hk]; omega⟩
theorem nxI_up {w : TWord} {p : Nat} (hp : p < w.stem.length) : ∀ j q, p + 1 ≤ q → p + 1 ≤ nxI w j q
  | 0, q, h => h
  | j + 1, q, h => nxI_up hp j _ (by unfold nxN; split <;> omega)
/-- Steps between points are ways by letters. -/
theorem rch_pth {g : TGen} (h : GW g) {w : TWord} (hw : WOk w) {x y : Nat} (hr : Rch (adjW g w) x y) : x < plN w * g.states.toNat → ∃ j, y / g.states.toNat = nxI w j (x / g.states.toNat) ∧ Pth g.edges (seqW w j (x / g.states.toNat)) (x % g.states.toNat) (y % g.states.toNat) := by
  induction hr with
  | refl => intro _; exact ⟨0, rfl, rfl⟩
  | @head a b c hab _ ih =>
    intro ha
    have hb := adjW_lt h hw a ha b hab
    obtain ⟨j, e1, e2⟩ := ih hb
    obtain ⟨hS, hp, hs, e⟩ := pt_of ha
    rw [e] at hab
    obtain ⟨e', he, i1, i2, rfl⟩ := (adjW_mem hs).mp hab
    have ht := h.edge e' he
    rw [pt_div (by omega)] at e1 e2
    rw [pt_mod (by omega)] at e2
    exact ⟨j + 1, e1, e', he, i1, i2, e2⟩
theorem pth_rch {g : TGen} (h : GW g) {w : TWord} : ∀ (j p s t : Nat), s < g.states.toNat → Pth g.edges (seqW w j p) s t → t < g.states.toNat ∧ Rch (adjW g w) (p * g.states.toNat + s) (nxI w j p * g.states.toNat + t)
  | 0, p, s, t, hs, hP => by
    have : s = t := hP
    subst this
    exact ⟨hs, .refl _⟩
  | j + 1, p, s, t, hs, hP => by
    obtain ⟨e, he, i1, i2, i3⟩ := hP
    have ht := h.edge e he
    obtain ⟨r1, r2⟩ := pth_rch h j (nxN w p) e.to_.toNat t (by omega) i3
    exact ⟨r1, .head ((adjW_mem hs).mpr ⟨e, he, i1, i2, rfl⟩) r2⟩
/-- A marked way has a marked step. -/
theorem pthG_step {g : TGen} (h : GW g) {w : TWord} : ∀ (j p s t : Nat), s < g.states.toNat → PthG g.edges (seqW w j p) s t → ∃ i e, e ∈ g.edges ∧ e.letter.toNat = letN w (nxI w i p) ∧ e.marks.toNat.testBit 0 = true ∧ Rch (adjW g w) (p * g.states.toNat + s) (nxI w i p * g.states.toNat + e.from_.toNat) ∧ Rch (adjW g w) (nxN w (nxI w i p) * g.states.toNat + e.to_.toNat) (nxI w j p * g.states.toNat + t)
  | 0, p, s, t, hs, hP => hP.elim
  | j + 1, p, s, t, hs, hP => by
    obtain ⟨e, he, i1, i2, i3⟩ := hP
    have ht := h.edge e he
    rcases i3 with ⟨i3, i4⟩ | i3
    · obtain ⟨r1, r2⟩ := pth_rch h j (nxN w p) e.to_.toNat t (by omega) i4
      exact ⟨0, e, he, i1, i3, by rw [i2]; exact .refl _, r2⟩
    · obtain ⟨i, e', he', k1, k2, k3, k4⟩ := pthG_step h j (nxN w p) e.to_.toNat t (by omega) i3
      exact ⟨i + 1, e', he', k1, k2, .head ((adjW_mem hs).mpr ⟨e, he, i1, i2, rfl⟩) k3, k4⟩
/-- What is taken: a way over the stem, some turns, and turns with a mark that come back. -/
theorem live_turns {g : TGen} (h : GW g) (h1 : g.sets = 1) {w : TWord} (hw : WOk w) : LiveW g w ↔ ∃ s p q, g.start.toNat.testBit s = true ∧ Pth g.edges (seqW w w.stem.length 0) s p ∧ (∃ k, Pth g.edges (seqW w (k * w.loop.length) w.stem.length) p q) ∧ ∃ k, PthG g.edges (seqW w ((k + 1) * w.loop.length) w.stem.length) q q := by
  have hone := hw.one
  have hst := h.start
  have hL : w.stem.length < plN w := by unfold plN; omega
  have hb0 : ∀ {s}, g.start.toNat.testBit s = true → s < g.states.toNat := fun {s} hs => bit_lt' (by omega) hs
  constructor
  · rintro ⟨p0, e0, _, hall⟩
    obtain ⟨P, e, ⟨hP, he, hl, hb, hm⟩, _, hbit⟩ := hall 0 (by rw [h1]; decide)
    have hee := h.edge e he
    obtain ⟨s, hs, hr⟩ := hb
    have hs' := hb0 hs
    have hx : s < plN w * g.states.toNat := by
      have := pt_lt (n := plN w) (p := 0) (S := g.states.toNat) (s := s) (by omega) hs'
      simpa using this
    obtain ⟨j0, a1, a2⟩ := rch_pth h hw hr hx
    have sd : s / g.states.toNat = 0 := Nat.div_eq_of_lt hs'
    have sm : s % g.states.toNat = s := Nat.mod_eq_of_lt hs'
    rw [pt_div (by omega), sd] at a1
    rw [pt_mod (by omega), sd, sm] at a2
    -- the ring
    obtain ⟨j, b1, b2⟩ := rch_pth h hw hm.2 (pt_lt (nxN_lt hw hP) (by omega))
    rw [pt_div (by omega), pt_div (by omega)] at b1
    rw [pt_mod (by omega), pt_div (by omega), pt_mod (by omega)] at b2
    have cyc : PthG g.edges (seqW w (j + 1) P) e.from_.toNat e.from_.toNat := ⟨e, he, hl, rfl, .inl ⟨hbit, b2⟩⟩
    have cn : nxI w (j + 1) P = P := b1.symm
    have hPL : w.stem.length ≤ P := by
      refine Classical.byContradiction fun c => ?_
      have := nxI_up (w := w) (p := P) (by omega) j (nxN w P) (by unfold nxN; split <;> omega)
      rw [← b1] at this; omega
    have hi : plN w - P ≤ j + 1 := by
      refine Classical.byContradiction fun c => ?_
      have := nxI_in (w := w) (j + 1) P (by omega)
      omega
    -- turned to where the loop begins
    have hsplit : seqW w (j + 1) P = seqW w (plN w - P) P ++ seqW w (j + 1 - (plN w - P)) w.stem.length := by
      have := seqW_add w (plN w - P) (j + 1 - (plN w - P)) P
      rw [nxI_end hP, show plN w - P + (j + 1 - (plN w - P)) = j + 1 by omega] at this
      exact this
    have hback : nxI w (j + 1 - (plN w - P)) w.stem.length = P := by
      have := nxI_add w (plN w - P) (j + 1 - (plN w - P)) P
      rw [nxI_end hP, show plN w - P + (j + 1 - (plN w - P)) = j + 1 by omega, cn] at this
      exact this.symm
    have hturn : seqW w (j + 1) w.stem.length = seqW w (j + 1 - (plN w - P)) w.stem.length ++ seqW w (plN w - P) P := by
      have := seqW_add w (j + 1 - (plN w - P)) (plN w - P) w.stem.length
      rw [hback, show j + 1 - (plN w - P) + (plN w - P) = j + 1 by omega] at this
      exact this
    have hround : nxI w (j + 1) w.stem.length = w.stem.length := by
      have := nxI_comm w (j + 1) (plN w - P) P
      rw [nxI_end hP, cn, nxI_end hP] at this
      exact this
    obtain ⟨k, hk⟩ := round_of hw (j + 1) (j + 1) (Nat.le_refl _) hround
    obtain ⟨k, rfl⟩ : ∃ k', k = k' + 1 := ⟨k - 1, by
      rcases k with _ | k
      · simp at hk
      · omega⟩
    rw [hsplit] at cyc
    obtain ⟨q, hq⟩ := PthG.app.mp cyc
    have pq : Pth g.edges (seqW w (plN w - P) P) e.from_.toNat q := hq.elim (fun c => c.1.pth) (fun c => c.1)
    have qq : PthG g.edges (seqW w ((k + 1) * w.loop.length) w.stem.length) q q := by
      rw [← hk, hturn]
      refine PthG.app.mpr ⟨e.from_.toNat, ?_⟩
      rcases hq with ⟨c1, c2⟩ | ⟨c1, c2⟩
      · exact .inr ⟨c2, c1⟩
      · exact .inl ⟨c2, c1⟩
    -- the way there
    have way : Pth g.edges (seqW w (j0 + (plN w - P)) 0) s q := by
      rw [seqW_add, ← a1]
      exact Pth.app.mpr ⟨_, a2, pq⟩
    have wayn : nxI w (j0 + (plN w - P)) 0 = w.stem.length := by rw [nxI_add, ← a1, nxI_end hP]
    have hge : w.stem.length ≤ j0 + (plN w - P) := by
      refine Classical.byContradiction fun c => ?_
      have := nxI_in (w := w) (j0 + (plN w - P)) 0 (by omega)
      omega
    have hst0 : nxI w w.stem.length 0 = w.stem.length := by rw [nxI_in _ _ (by omega)]; omega
    have ws : seqW w (j0 + (plN w - P)) 0 = seqW w w.stem.length 0 ++ seqW w (j0 + (plN w - P) - w.stem.length) w.stem.length := by
      have := seqW_add w w.stem.length (j0 + (plN w - P) - w.stem.length) 0
      rw [hst0, show w.stem.length + (j0 + (plN w - P) - w.stem.length) = j0 + (plN w - P) by omega] at this
      exact this
    have wr : nxI w (j0 + (plN w - P) - w.stem.length) w.stem.length = w.stem.length := by
      have := nxI_add w w.stem.length (j0 + (plN w - P) - w.stem.length) 0
      rw [hst0, show w.stem.length + (j0 + (plN w - P) - w.stem.length) = j0 + (plN w - P) by omega, wayn] at this
      exact this.symm
    obtain ⟨k', hk'⟩ := round_of hw _ _ (Nat.le_refl _) wr
    rw [ws, hk'] at way
    obtain ⟨p, w1, w2⟩ := Pth.app.mp way
    exact ⟨s, p, q, hs, w1, ⟨k', w2⟩, k, qq⟩
  · rintro ⟨s, p, q, hs, h2, ⟨k, h3⟩, k', h4⟩
    have hs' := hb0 hs
    have hst0 : nxI w w.stem.length 0 = w.stem.length := by rw [nxI_in _ _ (by omega)]; omega
    obtain ⟨p1, p2⟩ := pth_rch h _ _ _ _ hs' h2
    rw [hst0, Nat.zero_mul, Nat.zero_add] at p2
    obtain ⟨q1, q2⟩ := pth_rch h _ _ _ _ p1 h3
    rw [nxI_rounds hw] at q2
    obtain ⟨i, e, he, c1, c2, c3, c4⟩ := pthG_step h _ _ _ _ q1 h4
    rw [nxI_rounds hw] at c4
    have hee := h.edge e he
    have hI : InW g w (nxI w i w.stem.length) e := by
      refine ⟨nxI_lt hw _ _ hL, he, c1, ⟨s, hs, (p2.trans q2).trans c3⟩, .one ?_, c4.trans c3⟩
      exact (adjW_mem (by omega)).mpr ⟨e, he, c1, rfl, rfl⟩
    refine ⟨_, _, hI, fun m hm => ⟨_, _, hI, .refl _, ?_⟩⟩
    have : m = 0 := by rw [h1] at hm; have : (1 : Int).toNat = 1 := rfl; omega
    rw [this]; exact c2
end Go.Proofs.Ytcmbbpdepobnlaa
end

/- Automata of many marks: the reference's test that one is right; one of many marks out of one of one mark. -/
section
namespace Go.Proofs.Ytcmbbpdepobnlaa
open Go Go.RowKit E
set_option linter.unusedVariables false

def gEdge (e : TGEdge) : TEdge := ⟨e.from_, e.letter, e.to_, false⟩
theorem l5Less_eq (a b : TGEdge) : spec_l5Less a b = edgeLt (gEdge a) (gEdge b) := by
  unfold spec_l5Less; exact l4Less_eq _ _
def gedgeOk (a : TGen) (k : Nat) : Bool :=
  decide (0 ≤ (a.edges.getD k default).from_ ∧ (a.edges.getD k default).from_ ≤ a.states - 1) && decide (0 ≤ (a.edges.getD k default).to_ ∧ (a.edges.getD k default).to_ ≤ a.states - 1) && decide (0 ≤ (a.edges.getD k default).letter ∧ (a.edges.getD k default).letter ≤ a.letters - 1) && decide (0 ≤ (a.edges.getD k default).marks ∧ (a.edges.getD k default).marks < ((2 ^ a.sets.toNat : Nat) : Int)) && (decide (k = 0) || edgeLt (gEdge (a.edges.getD (k - 1) default)) (gEdge (a.edges.getD k default)))
def gheadOk (a : TGen) : Bool := decide (1 ≤ a.letters ∧ a.letters ≤ 8) && decide (0 ≤ a.states ∧ a.states ≤ 31) && decide (0 ≤ a.start ∧ a.start < ((2 ^ a.states.toNat : Nat) : Int)) && decide (0 ≤ a.sets ∧ a.sets ≤ 4) && decide (a.edges.length ≤ 2000)
def genOk (a : TGen) : Bool := gheadOk a && (List.range a.edges.length).all (gedgeOk a)
theorem gheadOk_t {a : TGen} (h : gheadOk a = true) : (1 ≤ a.letters ∧ a.letters ≤ 8) ∧ (0 ≤ a.states ∧ a.states ≤ 31) ∧ (0 ≤ a.start ∧ a.start < ((2 ^ a.states.toNat : Nat) : Int)) ∧ (0 ≤ a.sets ∧ a.sets ≤ 4) ∧ a.edges.length ≤ 2000 := by
  unfold gheadOk at h
  simp only [Bool.and_eq_true, decide_eq_true_eq] at h
  exact ⟨h.1.1.1.1, h.1.1.1.2, h.1.1.2, h.1.2, h.2⟩
theorem specGEdge_eq (a : TGen) (h : gheadOk a = true) {k : Nat} (hk : k < a.edges.length) : spec_GenOk.b0 a (k : Int) = some (if gedgeOk a k = true then .inl ((k + 1 : Nat) : Int) else .inr (.inr false)) := by
  obtain ⟨h1, h2, h3, h5, h4⟩ := gheadOk_t h
  unfold spec_GenOk.b0 gedgeOk spec_l4State
  have w1 : W (a.states - 1) = a.states - 1 := W_eq (by omega) (by omega)
  have w2 : W (a.letters - 1) = a.letters - 1 := W_eq (by omega) (by omega)
  have hm := fun x => setIn_eq x (n := a.sets.toNat) (by omega)
  rw [show ((a.sets.toNat : Nat) : Int) = a.sets by omega] at hm
  simp only [bnd_eq, l1Rg, w1, w2, l5Less_eq, hm]
  rw [if_pos (by omega), ix_nat hk, Option.bind_some, WN (by omega), decide_eq_true h5.1, chk_t]
  generalize a.edges.getD k default = e
  by_cases c1 : 0 ≤ e.from_ ∧ e.from_ ≤ a.states - 1
  · by_cases c2 : 0 ≤ e.to_ ∧ e.to_ ≤ a.states - 1
    · by_cases c3 : 0 ≤ e.letter ∧ e.letter ≤ a.letters - 1
      · rw [decide_eq_true c1, decide_eq_true c2, decide_eq_true c3]
        simp only [Bool.not_true, Bool.or_self, Bool.not_false, whenO_t, Option.bind_some, Bool.false_or, Bool.true_and]
        by_cases c5 : 0 ≤ e.marks ∧ e.marks < ((2 ^ a.sets.toNat : Nat) : Int)
        · rw [decide_eq_true c5]
          by_cases c4 : k = 0
          · subst c4; rfl
          · rw [decide_eq_true (by omega : (k : Int) > 0), decide_eq_false c4]
            have e1 : W ((k : Int) - 1) = ((k - 1 : Nat) : Int) := by rw [W, W_eq (by omega) (by omega)]; omega
            rw [e1, ix_nat (by omega)]
            simp only [Bool.not_true, Bool.or_self, Bool.not_false, Bool.and_self, whenO_t, Option.bind_some, Bool.false_or, Bool.true_and]
            cases edgeLt (gEdge (a.edges.getD (k - 1) default)) (gEdge e) <;> rfl
        · rw [decide_eq_false c5]; simp [whenO]
      · rw [decide_eq_false c3]; simp [whenO]
    · rw [decide_eq_false c2]; simp [whenO]
  · rw [decide_eq_false c1]; simp [whenO]
theorem specGenOk_eq (a : TGen) : spec_GenOk a = some (genOk a) := by
  unfold spec_GenOk genOk
  rw [bnd_eq, bnd_eq, bnd_eq, bnd_eq, l1Rg, l1Rg, l1Rg]
  by_cases hh : gheadOk a = true
  · obtain ⟨h1, h2, h3, h5, h4⟩ := gheadOk_t hh
    rw [decide_eq_true h1, decide_eq_true h2, Bool.not_true, Bool.or_self, Bool.not_false, whenO_t, decide_eq_true h2.1, chk_t, Option.bind_some]
    have e : a.states = ((a.states.toNat : Nat) : Int) := by omega
    have hs := setIn_eq a.start (n := a.states.toNat) (by omega)
    rw [← e] at hs
    rw [hs, decide_eq_true h3, decide_eq_true h5, decide_eq_false (by omega : ¬ (a.edges.length : Int) > 2000), if_neg (by simp), hh]
    rw [all_loop a.edges.length (gedgeOk a) (fun k hk => specGEdge_eq a hh hk) (by unfold spec_GenOk.b0; rw [if_neg (by omega)]), Option.bind_some]
    cases (List.range a.edges.length).all (gedgeOk a) <;> rfl
  · rw [Bool.not_eq_true] at hh
    rw [hh, Bool.false_and]
    by_cases h1 : 1 ≤ a.letters ∧ a.letters ≤ 8
    · by_cases h2 : 0 ≤ a.states ∧ a.states ≤ 31
      · rw [decide_eq_true h1, decide_eq_true h2, Bool.not_true, Bool.or_self, Bool.not_false, whenO_t, decide_eq_true h2.1, chk_t, Option.bind_some]
        have e : a.states = ((a.states.toNat : Nat) : Int) := by omega
        have hs := setIn_eq a.start (n := a.states.toNat) (by omega)
        rw [← e] at hs
        rw [hs]
        unfold gheadOk at hh
        rw [decide_eq_true h1, decide_eq_true h2] at hh
        rw [if_pos]
        by_cases h3 : 0 ≤ a.start ∧ a.start < ((2 ^ a.states.toNat : Nat) : Int)
        · rw [decide_eq_true h3] at hh
          by_cases h5 : 0 ≤ a.sets ∧ a.sets ≤ 4
          · rw [decide_eq_true h5] at hh
            have : ¬ a.edges.length ≤ 2000 := by simpa using hh
            rw [decide_eq_true (by omega : (a.edges.length : Int) > 2000), Bool.or_true]
          · rw [decide_eq_false h5]; simp
        · rw [decide_eq_false h3]; simp
      · rw [decide_eq_false h2]; simp [whenO]
    · rw [decide_eq_false h1]; simp [whenO]
theorem genOk_W {g : TGen} (h : genOk g = true) (hs : g.states ≠ 0) : GW g := by
  unfold genOk at h
  rw [Bool.and_eq_true] at h
  obtain ⟨g1, g2, g3, g5, g4⟩ := gheadOk_t h.1
  refine ⟨g1, by omega, g3, g5, g4, fun e he => ?_⟩
  obtain ⟨k, hk, rfl⟩ := mem_gedge he
  have := List.all_eq_true.mp h.2 k (List.mem_range.mpr hk)
  unfold gedgeOk at this
  simp only [Bool.and_eq_true, decide_eq_true_eq] at this
  omega
/-- One mark: the good edges have it. -/
def geOf (e : TEdge) : TGEdge := ⟨e.from_, e.letter, e.to_, if e.good = true then 1 else 0⟩
def genOf (a : TAuto) : TGen := ⟨a.letters, a.states, a.start, 1, a.edges.map geOf⟩
theorem specGenOf_eq {a : TAuto} (h : autoOk a = true) : spec_GenOf a = some (genOf a) := by
  have hn := (autoOk_A h).num
  unfold spec_GenOf
  rw [specAutoOk_eq, Option.bind_some, h, if_neg (by simp)]
  have key := loop_up (body := fun s : Int × Int × Int × Int × List TGEdge × Int => spec_GenOf.b0 a s.1 s.2.1 s.2.2.1 s.2.2.2.1 s.2.2.2.2.1 s.2.2.2.2.2) a.edges.length (fun k => (a.letters, a.states, a.start, 1, (a.edges.take k).map geOf, (k : Int))) (a.letters, a.states, a.start, 1, a.edges.map geOf) (fun k hk => ?_) ?_ 0 (Nat.zero_le _)
  · have key : loop (fun s : Int × Int × Int × Int × List TGEdge × Int => spec_GenOf.b0 a s.1 s.2.1 s.2.2.1 s.2.2.2.1 s.2.2.2.2.1 s.2.2.2.2.2) (a.letters, a.states, a.start, 1, [], 0) = some (a.letters, a.states, a.start, 1, a.edges.map geOf) := key
    rw [key, Option.bind_some]; rfl
  · (try dsimp only); unfold spec_GenOf.b0
    have hg : a.edges.getD k default = a.edges[k] := by simp [hk]
    have ht : (a.edges.take (k + 1)).map geOf = (a.edges.take k).map geOf ++ [geOf (a.edges.getD k default)] := by
      rw [List.take_succ_eq_append_getElem hk, List.map_append, hg]; rfl
    rw [if_pos (by omega), ix_nat hk, Option.bind_some, ht]
    unfold spec_GenOf.k1 geOf
    by_cases c : (a.edges.getD k default).good = true
    · rw [if_pos c, app_small (by simp; omega) (by decide), Option.bind_some, WN (by omega), if_pos c]
    · rw [if_neg c, app_small (by simp; omega) (by decide), Option.bind_some, WN (by omega), if_neg c]
  · (try dsimp only); unfold spec_GenOf.b0
    rw [if_neg (by omega), List.take_of_length_le (Nat.le_refl _)]
theorem genOf_ok {a : TAuto} (h : autoOk a = true) : genOk (genOf a) = true := by
  unfold autoOk at h
  rw [Bool.and_eq_true] at h
  obtain ⟨h1, h2, h3, h4⟩ := headOk_t h.1
  unfold genOk
  rw [Bool.and_eq_true]
  constructor
  · unfold gheadOk genOf
    simp only [Bool.and_eq_true, decide_eq_true_eq, List.length_map]
    exact ⟨⟨⟨⟨h1, h2⟩, h3⟩, by omega⟩, h4⟩
  · rw [List.all_eq_true]
    intro k hk
    have hk : k < a.edges.length := by simpa [genOf] using hk
    have := List.all_eq_true.mp h.2 k (List.mem_range.mpr hk)
    unfold edgeOk at this
    have hd : ∀ j, j < a.edges.length → (genOf a).edges.getD j default = geOf (a.edges.getD j default) := fun j hj => by
      unfold genOf; simp [hj]
    unfold gedgeOk
    rw [hd k hk, hd (k - 1) (by omega)]
    simp only [Bool.and_eq_true, decide_eq_true_eq, Bool.or_eq_true] at this ⊢
    obtain ⟨⟨⟨c1, c2⟩, c3⟩, c4⟩ := this
    refine ⟨⟨⟨⟨c1, c2⟩, c3⟩, ?_⟩, ?_⟩
    · unfold geOf genOf
      dsimp only
      split <;> decide
    · rcases c4 with c4 | c4
      · exact .inl c4
      · exact .inr c4
end Go.Proofs.Ytcmbbpdepobnlaa
end

/- Boxes of words are their ways; turns round the loop by boxes. -/
section
namespace Go.Proofs.Ytcmbbpdepobnlaa
open Go Go.RowKit E Takes
set_option linter.unusedVariables false

theorem edges_pw {a : TAuto} (h : autoOk a = true) : a.edges.Pairwise fun e e' => edgeLt e e' = true := by
  unfold autoOk at h
  rw [Bool.and_eq_true] at h
  have hk : ∀ k, 0 < k → k < a.edges.length → edgeLt (a.edges.getD (k - 1) default) (a.edges.getD k default) = true := fun k h0 hk => by
    have := List.all_eq_true.mp h.2 k (List.mem_range.mpr hk)
    unfold edgeOk at this
    simp only [Bool.and_eq_true, decide_eq_true_eq, Bool.or_eq_true] at this
    rcases this.2 with c | c
    · omega
    · exact c
  have tr : ∀ x y z : TEdge, edgeLt x y = true → edgeLt y z = true → edgeLt x z = true := fun x y z h1 h2 => by
    unfold edgeLt at *
    rw [decide_eq_true_eq] at *
    omega
  have key : ∀ d i, i + d + 1 < a.edges.length → edgeLt (a.edges.getD i default) (a.edges.getD (i + d + 1) default) = true := by
    intro d
    induction d with
    | zero => intro i hi; exact hk (i + 1) (by omega) hi
    | succ d ih => intro i hi; exact tr _ _ _ (ih i (by omega)) (hk (i + d + 1 + 1) (by omega) hi)
  rw [List.pairwise_iff_getElem]
  intro i j hi hj hij
  have := key (j - i - 1) i (by omega)
  rw [show i + (j - i - 1) + 1 = j by omega] at this
  simpa [hi, hj] using this
/-- An edge from p by x to q. -/
def Key (x : Int) (p q : Nat) (e : TEdge) : Prop := e.letter = x ∧ e.from_.toNat = p ∧ e.to_.toNat = q
theorem ent_set {m : Nat} {z : List Int} (hz : Bx m z) {a b p q : Nat} {v : Int} (ha : a < m) (hb : b < m) (hp : p < m) (hq : q < m) : ent m (z.set (a * m + b) v) p q = if p = a ∧ q = b then v else ent m z p q := by
  have t : TabL z m (ent m z) := ⟨hz.1, fun _ _ _ _ => rfl⟩
  exact (t.set ha hb).2 p q hp hq
theorem step_ent {m : Nat} {x : Int} {z : List Int} (hz : Bx m z) {e : TEdge} (h1 : e.from_.toNat < m) (h2 : e.to_.toNat < m) {p q : Nat} (hp : p < m) (hq : q < m) : (Key x p q e ∧ ent m (letStep m x z e) p q = if e.good = true then 2 else 1) ∨ (¬ Key x p q e ∧ ent m (letStep m x z e) p q = ent m z p q) := by
  unfold letStep Key
  by_cases c : e.letter = x
  · rw [if_pos c, ent_set hz h1 h2 hp hq]
    by_cases d : p = e.from_.toNat ∧ q = e.to_.toNat
    · rw [if_pos d]; exact .inl ⟨⟨c, d.1.symm, d.2.symm⟩, rfl⟩
    · rw [if_neg d]; exact .inr ⟨fun k => d ⟨k.2.1.symm, k.2.2.symm⟩, rfl⟩
  · rw [if_neg c]; exact .inr ⟨fun k => c k.1, rfl⟩
theorem fold_pos {m : Nat} {x : Int} {p q : Nat} (hp : p < m) (hq : q < m) : ∀ (es : List TEdge) (z : List Int), Bx m z → (∀ e ∈ es, e.from_.toNat < m ∧ e.to_.toNat < m) → (0 < ent m (es.foldl (letStep m x) z) p q ↔ 0 < ent m z p q ∨ ∃ e ∈ es, Key x p q e)
  | [], z, hz, _ => by simp
  | e :: es, z, hz, h => by
    rw [List.foldl_cons, fold_pos hp hq es _ (letStep_bx e hz) (fun e' he => h e' (List.mem_cons_of_mem _ he))]
    obtain ⟨b1, b2⟩ := h e List.mem_cons_self
    rcases step_ent (x := x) hz b1 b2 hp hq with ⟨k, ev⟩ | ⟨k, ev⟩
    · exact ⟨fun _ => .inr ⟨e, List.mem_cons_self, k⟩, fun _ => .inl (by rw [ev]; split <;> decide)⟩
    · rw [ev]
      constructor
      · rintro (c | ⟨e', he, c⟩)
        · exact .inl c
        · exact .inr ⟨e', List.mem_cons_of_mem _ he, c⟩
      · rintro (c | ⟨e', he, c⟩)
        · exact .inl c
        · rcases List.mem_cons.mp he with rfl | he
          · exact absurd c k
          · exact .inr ⟨e', he, c⟩
theorem fold_two {m : Nat} {x : Int} {p q : Nat} (hp : p < m) (hq : q < m) : ∀ (es : List TEdge) (z : List Int), Bx m z → (∀ e ∈ es, (0 ≤ e.from_ ∧ e.from_.toNat < m) ∧ (0 ≤ e.to_ ∧ e.to_.toNat < m)) → es.Pairwise (fun e e' => edgeLt e e' = true) → (ent m (es.foldl (letStep m x) z) p q = 2 ↔ (∃ e ∈ es, Key x p q e ∧ e.good = true) ∨ (ent m z p q = 2 ∧ ∀ e ∈ es, ¬ Key x p q e))
  | [], z, hz, _, _ => by simp
  | e :: es, z, hz, h, hpw => by
    obtain ⟨pw1, pw2⟩ := List.pairwise_cons.mp hpw
    rw [List.foldl_cons, fold_two hp hq es _ (letStep_bx e hz) (fun e' he => h e' (List.mem_cons_of_mem _ he)) pw2]
    obtain ⟨⟨f0, b1⟩, ⟨t0, b2⟩⟩ := h e List.mem_cons_self
    rcases step_ent (x := x) hz b1 b2 hp hq with ⟨k, ev⟩ | ⟨k, ev⟩
    · have none : ∀ e' ∈ es, ¬ Key x p q e' := fun e' he k' => by
        have := pw1 e' he
        unfold edgeLt at this
        rw [decide_eq_true_eq] at this
        have h1 := (h e' (List.mem_cons_of_mem _ he))
        obtain ⟨k1, k2, k3⟩ := k
        obtain ⟨l1, l2, l3⟩ := k'
        omega
      rw [ev]
      constructor
      · rintro (⟨e', he, c, _⟩ | ⟨c, _⟩)
        · exact absurd c (none e' he)
        · refine .inl ⟨e, List.mem_cons_self, k, ?_⟩
          by_cases g : e.good = true
          · exact g
          · rw [if_neg g] at c; exact absurd c (by decide)
      · rintro (⟨e', he, c, g⟩ | ⟨_, c⟩)
        · rcases List.mem_cons.mp he with rfl | he
          · exact .inr ⟨by rw [if_pos g], none⟩
          · exact absurd c (none e' he)
        · exact absurd k (c e List.mem_cons_self)
    · rw [ev]
      constructor
      · rintro (⟨e', he, c⟩ | ⟨c, d⟩)
        · exact .inl ⟨e', List.mem_cons_of_mem _ he, c⟩
        · exact .inr ⟨c, fun e' he => by
            rcases List.mem_cons.mp he with rfl | he
            · exact k
            · exact d e' he⟩
      · rintro (⟨e', he, c⟩ | ⟨c, d⟩)
        · rcases List.mem_cons.mp he with rfl | he
          · exact absurd c.1 k
          · exact .inl ⟨e', he, c⟩
        · exact .inr ⟨c, fun e' he => d e' (List.mem_cons_of_mem _ he)⟩
theorem zero_ent {m p q : Nat} (hp : p < m) (hq : q < m) : ent m (List.replicate (m * m) 0) p q = 0 := (TabL.zero m rfl (fun _ _ => 0) (fun _ _ _ _ => rfl)).2 p q hp hq
theorem let_pos {a : TAuto} (h : AOk a) {x : Int} {p q : Nat} (hp : p < a.states.toNat) (hq : q < a.states.toNat) : 0 < ent a.states.toNat (letL a.states.toNat x a.edges) p q ↔ ∃ e ∈ a.edges, Key x p q e := by
  unfold letL
  rw [fold_pos hp hq _ _ (zero_bx _) (fun e he => by have := h.edge e he; omega), zero_ent hp hq]
  simp
theorem let_two {a : TAuto} (hok : autoOk a = true) {x : Int} {p q : Nat} (hp : p < a.states.toNat) (hq : q < a.states.toNat) : ent a.states.toNat (letL a.states.toNat x a.edges) p q = 2 ↔ ∃ e ∈ a.edges, Key x p q e ∧ e.good = true := by
  have h := autoOk_A hok
  unfold letL
  rw [fold_two hp hq _ _ (zero_bx _) (fun e he => by have := h.edge e he; omega) (edges_pw hok), zero_ent hp hq]
  simp
theorem mark0 (e : TEdge) : (geOf e).marks.toNat.testBit 0 = true ↔ e.good = true := by
  show ((if e.good = true then (1 : Int) else 0).toNat.testBit 0 = true ↔ e.good = true)
  cases e.good <;> decide
/-- The box of a word tells its ways. -/
theorem word_pth {a : TAuto} (hok : autoOk a = true) : ∀ (u : List Int), (∀ x ∈ u, 0 ≤ x) → ∀ p q, p < a.states.toNat → q < a.states.toNat → ((0 < ent a.states.toNat (wordL a.states.toNat a.edges u) p q ↔ Pth (genOf a).edges (u.map Int.toNat) p q) ∧ (ent a.states.toNat (wordL a.states.toNat a.edges u) p q = 2 ↔ PthG (genOf a).edges (u.map Int.toNat) p q))
  | [], _, p, q, hp, hq => by
    refine ⟨?_, ?_⟩
    · exact one_pos hp hq
    · exact ⟨fun k => absurd k (one_two hp hq), fun k => k.elim⟩
  | x :: u, hx, p, q, hp, hq => by
    have h := autoOk_A hok
    have ih := word_pth hok u (fun y hy => hx y (List.mem_cons_of_mem _ hy))
    have hx0 := hx x List.mem_cons_self
    have hlb := let_bx a.states.toNat x a.edges
    have hwb := word_bx a.states.toNat a.edges u
    rw [word_cons]
    have toG : ∀ {r}, (∃ e ∈ a.edges, Key x p r e) → ∃ e ∈ (genOf a).edges, e.letter.toNat = x.toNat ∧ e.from_.toNat = p ∧ e.to_.toNat = r := fun {r} ⟨e, he, k1, k2, k3⟩ => ⟨geOf e, List.mem_map.mpr ⟨e, he, rfl⟩, by show e.letter.toNat = _; rw [k1], k2, k3⟩
    constructor
    · rw [mul_pos' hlb hwb hp hq]
      constructor
      · rintro ⟨r, hr, g1, g2⟩
        obtain ⟨e, he, k1, k2, k3⟩ := (let_pos h hp hr).mp g1
        exact ⟨geOf e, List.mem_map.mpr ⟨e, he, rfl⟩, by show e.letter.toNat = _; rw [k1], k2, by show Pth _ _ e.to_.toNat q; rw [k3]; exact (ih r q hr hq).1.mp g2⟩
      · rintro ⟨e', he', k1, k2, k3⟩
        obtain ⟨e, he, rfl⟩ := List.mem_map.mp he'
        have hee := h.edge e he
        have k1' : e.letter.toNat = x.toNat := k1
        have k3' : Pth (genOf a).edges (u.map Int.toNat) e.to_.toNat q := k3
        exact ⟨e.to_.toNat, by omega, (let_pos h hp (by omega)).mpr ⟨e, he, by omega, k2, rfl⟩, (ih _ q (by omega) hq).1.mpr k3'⟩
    · rw [mul_two' hlb hwb hp hq]
      constructor
      · rintro ⟨r, hr, ⟨g1, g2⟩, g3 | g3⟩
        · obtain ⟨e, he, ⟨k1, k2, k3⟩, k4⟩ := (let_two hok hp hr).mp g3
          exact ⟨geOf e, List.mem_map.mpr ⟨e, he, rfl⟩, by show e.letter.toNat = _; rw [k1], k2, .inl ⟨(mark0 e).mpr k4, by show Pth _ _ e.to_.toNat q; rw [k3]; exact (ih r q hr hq).1.mp g2⟩⟩
        · obtain ⟨e, he, k1, k2, k3⟩ := (let_pos h hp hr).mp g1
          exact ⟨geOf e, List.mem_map.mpr ⟨e, he, rfl⟩, by show e.letter.toNat = _; rw [k1], k2, .inr (by show PthG _ _ e.to_.toNat q; rw [k3]; exact (ih r q hr hq).2.mp g3)⟩
      · rintro ⟨e', he', k1, k2, k3⟩
        obtain ⟨e, he, rfl⟩ := List.mem_map.mp he'
        have hee := h.edge e he
        have k1' : e.letter.toNat = x.toNat := k1
        have key : Key x p e.to_.toNat e := ⟨by omega, k2, rfl⟩
        rcases k3 with ⟨k3, k4⟩ | k3
        · have k4' : Pth (genOf a).edges (u.map Int.toNat) e.to_.toNat q := k4
          exact ⟨e.to_.toNat, by omega, ⟨(let_pos h hp (by omega)).mpr ⟨e, he, key⟩, (ih _ q (by omega) hq).1.mpr k4'⟩, .inl ((let_two hok hp (by omega)).mpr ⟨e, he, key, (mark0 e).mp k3⟩)⟩
        · have k3' : PthG (genOf a).edges (u.map Int.toNat) e.to_.toNat q := k3
          exact ⟨e.to_.toNat, by omega, ⟨(let_pos h hp (by omega)).mpr ⟨e, he, key⟩, (ih _ q (by omega) hq).1.mpr k3'.pth⟩, .inr ((ih _ q (by omega) hq).2.mpr k3')⟩
/-- The letters of the stem, of the loop. -/
theorem drop_cons' {l : List Int} {p : Nat} (h : p < l.length) : l.drop p = l.getD p default :: l.drop (p + 1) := by
  rw [List.drop_eq_getElem_cons h]; simp [h]
theorem seq_stem {w : TWord} (hw : WOk w) : ∀ j p, p + j = w.stem.length → seqW w j p = (w.stem.drop p).map Int.toNat
  | 0, p, h => by rw [List.drop_of_length_le (by omega)]; rfl
  | j + 1, p, h => by
    have h1 := hw.one
    show letN w p :: seqW w j (nxN w p) = _
    have e : nxN w p = p + 1 := by unfold nxN plN; rw [if_neg (by omega)]
    rw [e, seq_stem hw j (p + 1) (by omega), drop_cons' (by omega : p < w.stem.length), List.map_cons]
    unfold letN
    rw [if_pos (by omega)]
theorem seq_loop {w : TWord} (hw : WOk w) : ∀ j i, i + j = w.loop.length → seqW w j (w.stem.length + i) = (w.loop.drop i).map Int.toNat
  | 0, i, h => by rw [List.drop_of_length_le (by omega)]; rfl
  | j + 1, i, h => by
    show letN w (w.stem.length + i) :: seqW w j (nxN w (w.stem.length + i)) = _
    have hl : letN w (w.stem.length + i) = (w.loop.getD i default).toNat := by
      unfold letN
      rw [if_neg (by omega), show w.stem.length + i - w.stem.length = i by omega]
    rw [drop_cons' (by omega : i < w.loop.length), List.map_cons, hl]
    congr 1
    by_cases c : j = 0
    · subst c
      rw [List.drop_of_length_le (by omega)]; rfl
    · have e : nxN w (w.stem.length + i) = w.stem.length + (i + 1) := by unfold nxN plN; rw [if_neg (by omega)]; omega
      rw [e, seq_loop hw j (i + 1) (by omega)]
/-- Turns round the loop, by its box. -/
theorem turns {a : TAuto} (hok : autoOk a = true) (hs : 1 ≤ a.states) {w : TWord} (hw : WOk w) : ∀ p q, p < a.states.toNat → q < a.states.toNat →
    ((∃ k, Pth (genOf a).edges (seqW w (k * w.loop.length) w.stem.length) p q) ↔ p = q ∨ ∃ k, PP a.states.toNat (ARel a.states.toNat (wordL a.states.toNat a.edges w.loop)) k p q) ∧
    ((∃ k, PthG (genOf a).edges (seqW w (k * w.loop.length) w.stem.length) p q) ↔ ∃ k, TT a.states.toNat (ARel a.states.toNat (wordL a.states.toNat a.edges w.loop)) (BRel a.states.toNat (wordL a.states.toNat a.edges w.loop)) k p q) := by
  have hA := autoOk_A hok
  have hg := genOk_W (genOf_ok hok) (by show a.states ≠ 0; omega)
  have hpos : ∀ x ∈ w.loop, 0 ≤ x := fun x hx => by
    obtain ⟨i, hi, rfl⟩ := List.getElem_of_mem hx
    have := (hw.ll i hi).1
    simpa [hi] using this
  have one : seqW w w.loop.length w.stem.length = w.loop.map Int.toNat := by
    have := seq_loop hw w.loop.length 0 (by omega)
    rw [Nat.add_zero, List.drop_zero] at this; exact this
  have hbox := word_pth hok w.loop hpos
  generalize hy : wordL a.states.toNat a.edges w.loop = y at hbox ⊢
  have A_iff : ∀ p q, p < a.states.toNat → q < a.states.toNat → (ARel a.states.toNat y p q ↔ Pth (genOf a).edges (seqW w w.loop.length w.stem.length) p q) := fun p q hp hq => by rw [one]; exact (hbox p q hp hq).1
  have B_iff : ∀ p q, p < a.states.toNat → q < a.states.toNat → (BRel a.states.toNat y p q ↔ PthG (genOf a).edges (seqW w w.loop.length w.stem.length) p q) := fun p q hp hq => by rw [one]; exact (hbox p q hp hq).2
  have split : ∀ k, seqW w ((k + 1) * w.loop.length) w.stem.length = seqW w (k * w.loop.length) w.stem.length ++ seqW w w.loop.length w.stem.length := fun k => by
    rw [Nat.succ_mul, seqW_add, nxI_rounds hw]
  have bound : ∀ {j s t}, s < a.states.toNat → Pth (genOf a).edges (seqW w j w.stem.length) s t → t < a.states.toNat := fun {j s t} hs hP => (pth_rch hg j _ s t hs hP).1
  have P1 : ∀ k p q, p < a.states.toNat → Pth (genOf a).edges (seqW w (k * w.loop.length) w.stem.length) p q → p = q ∨ ∃ k, PP a.states.toNat (ARel a.states.toNat y) k p q := by
    intro k
    induction k with
    | zero => intro p q hp hP; rw [Nat.zero_mul] at hP; exact .inl hP
    | succ k ih =>
      intro p q hp hP
      rw [split] at hP
      obtain ⟨r, h1, h2⟩ := Pth.app.mp hP
      have hr := bound hp h1
      have hq := bound hr h2
      have hA' := (A_iff r q hr hq).mpr h2
      rcases ih p r hp h1 with rfl | ⟨k', h3⟩
      · exact .inr ⟨0, hA'⟩
      · exact .inr ⟨k' + 1, .inr ⟨r, hr, h3, hA'⟩⟩
  have P2 : ∀ k p q, p < a.states.toNat → q < a.states.toNat → PP a.states.toNat (ARel a.states.toNat y) k p q → ∃ j, Pth (genOf a).edges (seqW w (j * w.loop.length) w.stem.length) p q := by
    intro k
    induction k with
    | zero => intro p q hp hq hP; exact ⟨1, by rw [Nat.one_mul]; exact (A_iff p q hp hq).mp hP⟩
    | succ k ih =>
      intro p q hp hq hP
      rcases hP with hP | ⟨r, hr, h1, h2⟩
      · exact ih p q hp hq hP
      · obtain ⟨j, hj⟩ := ih p r hp hr h1
        exact ⟨j + 1, by rw [split]; exact Pth.app.mpr ⟨r, hj, (A_iff r q hr hq).mp h2⟩⟩
  intro p q hp hq
  refine ⟨⟨fun ⟨k, hk⟩ => P1 k p q hp hk, fun h => ?_⟩, ⟨fun ⟨k, hk⟩ => ?_, fun ⟨k, hk⟩ => ?_⟩⟩
  · rcases h with rfl | ⟨k, hk⟩
    · exact ⟨0, by rw [Nat.zero_mul]; rfl⟩
    · exact P2 k p q hp hq hk
  · have gen : ∀ k p q, p < a.states.toNat → PthG (genOf a).edges (seqW w (k * w.loop.length) w.stem.length) p q → ∃ k, TT a.states.toNat (ARel a.states.toNat y) (BRel a.states.toNat y) k p q := by
      intro k
      induction k with
      | zero => intro p q hp hP; rw [Nat.zero_mul] at hP; exact hP.elim
      | succ k ih =>
        intro p q hp hP
        rw [split] at hP
        obtain ⟨r, ⟨h1, h2⟩ | ⟨h1, h2⟩⟩ := PthG.app.mp hP
        · have hr := bound hp h1.pth
          have hq := bound hr h2
          obtain ⟨k', h3⟩ := ih p r hp h1
          exact ⟨k' + 1, .inr (.inl ⟨r, hr, h3, (A_iff r q hr hq).mpr h2⟩)⟩
        · have hr := bound hp h1
          have hq := bound hr h2.pth
          have hB := (B_iff r q hr hq).mpr h2
          rcases P1 k p r hp h1 with rfl | ⟨k', h3⟩
          · exact ⟨0, hB⟩
          · exact ⟨k' + 1, .inr (.inr ⟨r, hr, h3, hB⟩)⟩
    exact gen k p q hp hk
  · have gen : ∀ k p q, p < a.states.toNat → q < a.states.toNat → TT a.states.toNat (ARel a.states.toNat y) (BRel a.states.toNat y) k p q → ∃ j, PthG (genOf a).edges (seqW w (j * w.loop.length) w.stem.length) p q := by
      intro k
      induction k with
      | zero => intro p q hp hq hP; exact ⟨1, by rw [Nat.one_mul]; exact (B_iff p q hp hq).mp hP⟩
      | succ k ih =>
        intro p q hp hq hP
        rcases hP with hP | ⟨r, hr, h1, h2⟩ | ⟨r, hr, h1, h2⟩
        · exact ih p q hp hq hP
        · obtain ⟨j, hj⟩ := ih p r hp hr h1
          exact ⟨j + 1, by rw [split]; exact PthG.app.mpr ⟨r, .inl ⟨hj, (A_iff r q hr hq).mp h2⟩⟩⟩
        · obtain ⟨j, hj⟩ := P2 k p r hp hr h1
          exact ⟨j + 1, by rw [split]; exact PthG.app.mpr ⟨r, .inr ⟨hj, (B_iff r q hr hq).mp h2⟩⟩⟩
    exact gen k p q hp hq hk
end Go.Proofs.Ytcmbbpdepobnlaa
end

/- Members of sets, by the program. -/
section
namespace Go.Proofs.Ytcmbbpdepobnlaa
open Go Go.RowKit E
set_option linter.unusedVariables false

theorem has_eq {s : Nat} (hs : s < 2 ^ 31) {x : Int} (h : 0 ≤ x ∧ x ≤ 30) : impl_has (s : Int) x = s.testBit x.toNat := by
  unfold impl_has
  have h31 : (2 : Nat) ^ 31 = 2147483648 := rfl
  obtain ⟨y, rfl⟩ : ∃ y : Nat, x = y := ⟨x.toNat, by omega⟩
  rw [u64_nat (by omega), bit_i (by omega) (by omega), Int.toNat_natCast]
end Go.Proofs.Ytcmbbpdepobnlaa
end

/- The members of a set in order, as numbers. -/
section
namespace Go.Proofs.Ytcmbbpdepobnlaa
open Go Go.RowKit E
set_option linter.unusedVariables false

def wasN (S n : Nat) : List Nat := (List.range n).filter fun s => S.testBit s
theorem wasN_succ (S n : Nat) : wasN S (n + 1) = if S.testBit n = true then wasN S n ++ [n] else wasN S n := by
  unfold wasN
  rw [List.range_succ, List.filter_append]
  by_cases h : S.testBit n = true
  · rw [if_pos h, List.filter_cons_of_pos h]; rfl
  · rw [if_neg h, List.filter_cons_of_neg h]; simp
theorem wasN_len (S n : Nat) : (wasN S n).length ≤ n := Nat.le_trans (List.length_filter_le _ _) (by simp)
theorem wasN_mem {S n s : Nat} : s ∈ wasN S n ↔ s < n ∧ S.testBit s = true := by unfold wasN; rw [List.mem_filter, List.mem_range]
theorem wasN_nodup (S n : Nat) : (wasN S n).Nodup := List.Pairwise.filter _ List.nodup_range
theorem setListN_eq {S n : Nat} (hn : n ≤ 31) (hS : S < 2 ^ n) : impl_SetList (S : Int) = some ((wasN S n).map fun v : Nat => (v : Int)) := by
  have h31 : (2 : Nat) ^ 31 = 2147483648 := rfl
  have hSl := lt31 hn hS
  have hw : wasN S 31 = wasN S n := by
    have : ∀ d, n + d ≤ 31 → wasN S (n + d) = wasN S n := by
      intro d
      induction d with
      | zero => intro _; rfl
      | succ d ih =>
        intro hd
        rw [← Nat.add_assoc, wasN_succ, if_neg, ih (by omega)]
        rw [Nat.testBit_lt_two_pow (Nat.lt_of_lt_of_le hS (Nat.pow_le_pow_right (by omega) (by omega)))]
        simp
    have := this (31 - n) (by omega)
    rwa [show n + (31 - n) = 31 by omega] at this
  unfold impl_SetList
  rw [if_neg (by unfold impl_SetOk; rw [inRg]; simp; omega)]
  have L := loop_up (body := fun s : List Int × Int => impl_SetList.b0 (S : Int) s.1 s.2) 31 (fun k => ((wasN S k).map (fun v : Nat => (v : Int)), (k : Int))) ((wasN S 31).map fun v : Nat => (v : Int)) (fun k hk => ?_) ?_ 0 (Nat.zero_le _)
  · have L' : loop (fun s : List Int × Int => impl_SetList.b0 (S : Int) s.1 s.2) ([], 0) = _ := L
    rw [L', Option.bind_some, hw]; rfl
  · dsimp only
    unfold impl_SetList.b0
    have hr := wasN_len S k
    rw [if_pos (by omega), has_eq hSl (by omega), Int.toNat_natCast, wasN_succ]
    split
    · rw [app_small (by simp; omega) (by decide), Option.bind_some, WN (by omega), List.map_append]; rfl
    · rw [WN (by omega)]
  · dsimp only
    unfold impl_SetList.b0
    rw [if_neg (by omega)]
end Go.Proofs.Ytcmbbpdepobnlaa
end

/- What the program takes by boxes: told by turns. -/
section
namespace Go.Proofs.Ytcmbbpdepobnlaa
open Go Go.RowKit E Takes
set_option linter.unusedVariables false

theorem clone_eq (x : List Int) (h : x.length ≤ 1000000) : slices_Clone_int_int x = some x := by
  unfold slices_Clone_int_int
  split
  · rename_i e; rw [e]
  · rw [app_small (by simp; omega) (by decide), List.nil_append, Option.bind_some]
theorem equal_eq (x y : List Int) (h : x.length ≤ 1000000) : slices_Equal_int_int x y = some (decide (x = y)) := by
  unfold slices_Equal_int_int
  by_cases hl : x.length = y.length
  · rw [if_neg (by omega)]
    have hb : (fun s : Int => slices_Equal_int_int.b0 x y s) = (fun s : Int => if s < (x.length : Int) then (ix x s).bind fun a => (ix y s).bind fun b => ((fun a b : Int => some (decide (a = b))) a b).bind fun c => if (!c) = true then some (.inr (.inr false)) else some (.inl (W (s + 1))) else some (.inr (.inl ()))) := by
      funext s
      unfold slices_Equal_int_int.b0
      split
      · congr 1; funext a; congr 1; funext b
        simp
      · rfl
    rw [hb, eq_loop (fun a b : Int => some (decide (a = b))) (fun _ _ => rfl) x y hl (by omega), Option.bind_some]
    by_cases e : x = y
    · rw [if_pos e, Sum.elim_inl, slices_Equal_int_int.k0, decide_eq_true e]
    · rw [if_neg e, Sum.elim_inr, decide_eq_false e]
  · rw [if_pos (by omega), decide_eq_false (fun e => hl (by rw [e]))]
theorem mx_loop {x y : List Int} (h : x.length = y.length) (hl : x.length ≤ 1000000) : loop (fun s : List Int × Int => impl_boxTakes.b4 y s.1 s.2) (x, 0) = some (mxL x y) := by
  have hm := mx_len h
  have key := loop_up (body := fun s : List Int × Int => impl_boxTakes.b4 y s.1 s.2) y.length (fun k => ((mxL x y).take k ++ x.drop k, (k : Int))) (mxL x y) (fun k hk => ?_) ?_ 0 (Nat.zero_le _)
  · simpa using key
  · (try dsimp only); unfold impl_boxTakes.b4
    have hkx : k < x.length := by omega
    have hd : x.drop k = x.getD k default :: x.drop (k + 1) := by rw [List.drop_eq_getElem_cons hkx]; simp [hkx]
    have hlen : ((mxL x y).take k).length = k := by rw [List.length_take]; omega
    have hix : ix ((mxL x y).take k ++ x.drop k) (k : Int) = some (x.getD k default) := by
      rw [ix_nat (by simp; omega), List.getD_eq_getElem?_getD, List.getElem?_append_right (by omega), hlen, Nat.sub_self, hd]; rfl
    have hset : ∀ v, ((mxL x y).take k ++ x.drop k).set k v = (mxL x y).take k ++ v :: x.drop (k + 1) := fun v => by
      rw [List.set_append_right _ _ (by omega), hlen, Nat.sub_self, hd]; rfl
    have ht : (mxL x y).take (k + 1) = (mxL x y).take k ++ [max (x.getD k default) (y.getD k default)] := by
      rw [List.take_succ_eq_append_getElem (by omega)]
      congr 2
      have := mx_get h k
      rw [List.getD_eq_getElem?_getD, List.getElem?_eq_getElem (by omega)] at this
      exact this
    rw [if_pos (by omega), ix_nat hk, Option.bind_some, hix, Option.bind_some, ck_nat (by simp; omega), Option.bind_some, hset, mx_max, ht, WN (by omega)]
    simp only [List.append_assoc, List.singleton_append]
  · (try dsimp only); unfold impl_boxTakes.b4
    rw [if_neg (by omega), List.take_of_length_le (by omega), List.drop_of_length_le (by omega), List.append_nil]
/-- The box of all turns. -/
theorem over_ok {a : TAuto} {m : Nat} (hm : 1 ≤ m ∧ m ≤ 4) (ha : a.states = (m : Int)) {y : List Int} (hy : Bx m y) : ∃ K, loop (fun s : List Int => impl_boxTakes.b3 a y s) y = some (iterL m y K) ∧ iterL m y (K + 1) = iterL m y K := by
  have hmm := (mmI hm).2
  have key := loop_inv (body := fun s : List Int => impl_boxTakes.b3 a y s) (fun s => ∃ k, s = iterL m y k) (fun s => 2 * (m * m) - (sumL s).toNat) (fun r => ∃ K, r = iterL m y K ∧ iterL m y (K + 1) = iterL m y K) (by
    rintro s ⟨k, rfl⟩
    have hb := iter_bx hy k
    have hb1 := iter_bx hy (k + 1)
    have hl : (iterL m y k).length ≤ 1000000 := by rw [hb.1]; omega
    have hmul := mul_bx hb hy
    have hl2 : (iterL m y k).length = (boxMulL m (iterL m y k) y).length := by rw [hb.1, hmul.1]
    have hst : iterL m y (k + 1) = mxL (iterL m y k) (boxMulL m (iterL m y k) y) := rfl
    unfold impl_boxTakes.b3
    rw [clone_eq _ hl, Option.bind_some, ha, implMul_eq hm hb hy, Option.bind_some, mx_loop hl2 hl, Option.bind_some]
    unfold impl_boxTakes.k4
    rw [← hst, equal_eq _ _ (by rw [hb1.1]; omega), Option.bind_some]
    by_cases e : iterL m y (k + 1) = iterL m y k
    · left
      rw [if_pos (by simpa using e)]
      exact ⟨_, rfl, k, rfl, e⟩
    · right
      rw [if_neg (by simpa using e)]
      refine ⟨_, rfl, ⟨k + 1, rfl⟩, ?_⟩
      have h1 := (mx_sum hl2).2 (by rw [← hst]; exact e)
      rw [← hst] at h1
      have h2 := sum_le (z := iterL m y (k + 1)) (fun i => (hb1.2 i).2)
      have h3 := sum_pos (z := iterL m y k) (fun i => (hb.2 i).1)
      rw [hb1.1] at h2
      omega) (s := y) ⟨0, rfl⟩
  obtain ⟨r, e, K, rfl, h⟩ := key
  exact ⟨K, e, h⟩
def TakesB (m : Nat) (start : Nat) (x y : List Int) : Prop := ∃ s p q, s < m ∧ p < m ∧ q < m ∧ start.testBit s = true ∧ 0 < ent m x s p ∧ (p = q ∨ ∃ k, PP m (ARel m y) k p q) ∧ ∃ k, TT m (ARel m y) (BRel m y) k q q
theorem rest_all {m K : Nat} {y : List Int} (hy : Bx m y) (h : iterL m y (K + 1) = iterL m y K) {p q : Nat} (hp : p < m) (hq : q < m) :
    (0 < ent m (iterL m y K) p q ↔ ∃ k, PP m (ARel m y) k p q) ∧ (ent m (iterL m y K) p q = 2 ↔ ∃ k, TT m (ARel m y) (BRel m y) k p q) := by
  have hP : ∀ p q, p < m → q < m → PP m (ARel m y) (K + 1) p q → PP m (ARel m y) K p q := fun p q hp hq g => by
    have := (iter_rl hy (K + 1) p q hp hq).1.mpr g
    rw [h] at this; exact (iter_rl hy K p q hp hq).1.mp this
  have hT : ∀ p q, p < m → q < m → TT m (ARel m y) (BRel m y) (K + 1) p q → TT m (ARel m y) (BRel m y) K p q := fun p q hp hq g => by
    have := (iter_rl hy (K + 1) p q hp hq).2.mpr g
    rw [h] at this; exact (iter_rl hy K p q hp hq).2.mp this
  rw [(iter_rl hy K p q hp hq).1, (iter_rl hy K p q hp hq).2]
  exact ⟨⟨fun g => ⟨K, g⟩, fun ⟨k, g⟩ => (still hP hT k p q hp hq).1 g⟩, ⟨fun g => ⟨K, g⟩, fun ⟨k, g⟩ => (still hP hT k p q hp hq).2 g⟩⟩
theorem any_list {body : Int → Option (Int ⊕ (Unit ⊕ Bool))} {l : List Nat} (c : Nat → Prop) (go : ∀ k, k < l.length → (c (l.getD k default) ∧ body (k : Int) = some (.inr (.inr true))) ∨ (¬ c (l.getD k default) ∧ body (k : Int) = some (.inl ((k + 1 : Nat) : Int)))) (fin : body (l.length : Int) = some (.inr (.inl ()))) : loop body 0 = some (if dcW (∃ x ∈ l, c x) = true then .inr true else .inl ()) := by
  have h := any_loopW l.length (fun k => c (l.getD k default)) go fin
  rw [h]
  have e : (∃ k, k < l.length ∧ c (l.getD k default)) ↔ ∃ x ∈ l, c x := by
    constructor
    · rintro ⟨k, hk, h⟩
      exact ⟨_, by rw [List.getD_eq_getElem?_getD, List.getElem?_eq_getElem hk]; exact List.getElem_mem hk, h⟩
    · rintro ⟨x, hx, h⟩
      obtain ⟨k, hk, rfl⟩ := List.getElem_of_mem hx
      exact ⟨k, hk, by simpa [hk] using h⟩
  rw [propext e]
theorem implTakes_core {a : TAuto} (h : AOk a) (h4 : 1 ≤ a.states ∧ a.states ≤ 4) {x y : List Int} (hx : Bx a.states.toNat x) (hy : Bx a.states.toNat y) : impl_boxTakes a x y = some (dcW (TakesB a.states.toNat a.start.toNat x y)) := by
  have hst := h.start
  have hm : 1 ≤ a.states.toNat ∧ a.states.toNat ≤ 4 := by omega
  have em : a.states = ((a.states.toNat : Nat) : Int) := by omega
  obtain ⟨K, e1, hK⟩ := over_ok hm em hy
  unfold impl_boxTakes
  rw [e1, Option.bind_some]
  unfold impl_boxTakes.k0
  have hb := iter_bx hy K
  have hS := setListN_eq (S := a.start.toNat) (n := a.states.toNat) (by omega) (by omega)
  rw [show ((a.start.toNat : Nat) : Int) = a.start by omega] at hS
  rw [hS, Option.bind_some]
  generalize hO : iterL a.states.toNat y K = ov at hb
  have hrest := fun {p q} hp hq => rest_all (p := p) (q := q) hy hK hp hq
  rw [hO] at hrest
  -- the inner loops
  have inner : ∀ p, p < a.states.toNat → loop (fun s : Int => impl_boxTakes.b2 a (p : Int) ov s) 0 = some (if dcW (∃ q, q < a.states.toNat ∧ (p = q ∨ 0 < ent a.states.toNat ov p q) ∧ ent a.states.toNat ov q q = 2) = true then .inr true else .inl ()) := fun p hp => by
    refine any_loopW a.states.toNat (fun q => (p = q ∨ 0 < ent a.states.toNat ov p q) ∧ ent a.states.toNat ov q q = 2) (fun q hq => ?_) ?_
    · (try dsimp only); unfold impl_boxTakes.b2
      have c1 := cellI hm hp hq
      have c2 := cellI hm hq hq
      rw [← em] at c1 c2
      rw [if_pos (by omega), bnd_eq, c1, c2, ix_nat (by rw [hb.1]; exact cell_lt hp hq), ix_nat (by rw [hb.1]; exact cell_lt hq hq), WN (by omega), show (default : Int) = 0 from rfl]
      have e1 : ov.getD (p * a.states.toNat + q) 0 = ent a.states.toNat ov p q := rfl
      have e2 : ov.getD (q * a.states.toNat + q) 0 = ent a.states.toNat ov q q := rfl
      rw [e1, e2]
      simp only [bnd_eq]
      by_cases d1 : p = q
      · rw [decide_eq_true (show (p : Int) = q by omega), Bool.not_true, whenO_f, Option.bind_some, Bool.true_or, whenO_t, Option.bind_some, Bool.true_and]
        by_cases d2 : ent a.states.toNat ov q q = 2
        · exact .inl ⟨⟨.inl d1, d2⟩, by rw [if_pos (by simpa using d2)]⟩
        · exact .inr ⟨fun k => d2 k.2, by rw [if_neg (by simpa using d2)]⟩
      · rw [decide_eq_false (show ¬ (p : Int) = q by omega), Bool.not_false, whenO_t, Option.bind_some, Bool.false_or]
        by_cases d3 : ent a.states.toNat ov p q > 0
        · rw [decide_eq_true d3, whenO_t, Option.bind_some, Bool.true_and]
          by_cases d2 : ent a.states.toNat ov q q = 2
          · exact .inl ⟨⟨.inr d3, d2⟩, by rw [if_pos (by simpa using d2)]⟩
          · exact .inr ⟨fun k => d2 k.2, by rw [if_neg (by simpa using d2)]⟩
        · rw [decide_eq_false d3, whenO_f, Option.bind_some, Bool.false_and]
          exact .inr ⟨fun k => k.1.elim d1 d3, by rw [if_neg (by simp)]⟩
    · (try dsimp only); unfold impl_boxTakes.b2
      rw [if_neg (by omega)]
  have mid : ∀ s, s < a.states.toNat → loop (fun t : Int => impl_boxTakes.b1 a x (s : Int) ov t) 0 = some (if dcW (∃ p, p < a.states.toNat ∧ 0 < ent a.states.toNat x s p ∧ ∃ q, q < a.states.toNat ∧ (p = q ∨ 0 < ent a.states.toNat ov p q) ∧ ent a.states.toNat ov q q = 2) = true then .inr true else .inl ()) := fun s hs => by
    refine any_loopW a.states.toNat (fun p => 0 < ent a.states.toNat x s p ∧ ∃ q, q < a.states.toNat ∧ (p = q ∨ 0 < ent a.states.toNat ov p q) ∧ ent a.states.toNat ov q q = 2) (fun p hp => ?_) ?_
    · (try dsimp only); unfold impl_boxTakes.b1
      have c1 := cellI hm hs hp
      rw [← em] at c1
      have e1 : x.getD (s * a.states.toNat + p) 0 = ent a.states.toNat x s p := rfl
      have hx0 := hx.2 (s * a.states.toNat + p)
      rw [e1] at hx0
      rw [if_pos (by omega), c1, ix_nat (by rw [hx.1]; exact cell_lt hs hp), Option.bind_some, show (default : Int) = 0 from rfl, e1]
      unfold impl_boxTakes.k3
      rw [WN (by omega)]
      by_cases d1 : ent a.states.toNat x s p = 0
      · rw [if_pos d1]
        exact .inr ⟨fun k => by omega, rfl⟩
      · rw [if_neg d1, inner p hp, Option.bind_some]
        by_cases d2 : ∃ q, q < a.states.toNat ∧ (p = q ∨ 0 < ent a.states.toNat ov p q) ∧ ent a.states.toNat ov q q = 2
        · rw [dcW_t d2, if_pos rfl]
          exact .inl ⟨⟨by omega, d2⟩, rfl⟩
        · rw [dcW_f d2, if_neg (by simp)]
          exact .inr ⟨fun k => d2 k.2, rfl⟩
    · (try dsimp only); unfold impl_boxTakes.b1
      rw [if_neg (by omega)]
  have outer : loop (fun t : Int => impl_boxTakes.b0 ((wasN a.start.toNat a.states.toNat).map fun v : Nat => (v : Int)) a x ov t) 0 = some (if dcW (∃ s ∈ wasN a.start.toNat a.states.toNat, ∃ p, p < a.states.toNat ∧ 0 < ent a.states.toNat x s p ∧ ∃ q, q < a.states.toNat ∧ (p = q ∨ 0 < ent a.states.toNat ov p q) ∧ ent a.states.toNat ov q q = 2) = true then .inr true else .inl ()) := by
    refine any_list (fun s => ∃ p, p < a.states.toNat ∧ 0 < ent a.states.toNat x s p ∧ ∃ q, q < a.states.toNat ∧ (p = q ∨ 0 < ent a.states.toNat ov p q) ∧ ent a.states.toNat ov q q = 2) (fun k hk => ?_) ?_
    · (try dsimp only); unfold impl_boxTakes.b0
      have hmem : (wasN a.start.toNat a.states.toNat).getD k default ∈ wasN a.start.toNat a.states.toNat := by
        rw [List.getD_eq_getElem?_getD, List.getElem?_eq_getElem hk]; exact List.getElem_mem hk
      have hlt := (wasN_mem.mp hmem).1
      have hlen := wasN_len a.start.toNat a.states.toNat
      have hix : ix ((wasN a.start.toNat a.states.toNat).map fun v : Nat => (v : Int)) (k : Int) = some (((wasN a.start.toNat a.states.toNat).getD k default : Nat) : Int) := by
        rw [ix_nat (by simpa using hk)]; simp [hk]
      rw [List.length_map, if_pos (by omega), hix, Option.bind_some]
      generalize (wasN a.start.toNat a.states.toNat).getD k default = s at hlt
      rw [mid s hlt, Option.bind_some]
      unfold impl_boxTakes.k2
      rw [WN (by omega)]
      by_cases d2 : ∃ p, p < a.states.toNat ∧ 0 < ent a.states.toNat x s p ∧ ∃ q, q < a.states.toNat ∧ (p = q ∨ 0 < ent a.states.toNat ov p q) ∧ ent a.states.toNat ov q q = 2
      · rw [dcW_t d2, if_pos rfl]
        exact .inl ⟨d2, rfl⟩
      · rw [dcW_f d2, if_neg (by simp)]
        exact .inr ⟨d2, rfl⟩
    · (try dsimp only); unfold impl_boxTakes.b0
      rw [List.length_map, if_neg (by omega)]
  rw [outer, Option.bind_some]
  have e : (∃ s ∈ wasN a.start.toNat a.states.toNat, ∃ p, p < a.states.toNat ∧ 0 < ent a.states.toNat x s p ∧ ∃ q, q < a.states.toNat ∧ (p = q ∨ 0 < ent a.states.toNat ov p q) ∧ ent a.states.toNat ov q q = 2) ↔ TakesB a.states.toNat a.start.toNat x y := by
    constructor
    · rintro ⟨s, hs, p, hp, h1, q, hq, h2, h3⟩
      obtain ⟨s1, s2⟩ := wasN_mem.mp hs
      exact ⟨s, p, q, s1, hp, hq, s2, h1, h2.imp id (hrest hp hq).1.mp, (hrest hq hq).2.mp h3⟩
    · rintro ⟨s, p, q, s1, hp, hq, s2, h1, h2, h3⟩
      exact ⟨s, wasN_mem.mpr ⟨s1, s2⟩, p, hp, h1, q, hq, h2.imp id (hrest hp hq).1.mpr, (hrest hq hq).2.mpr h3⟩
  rw [propext e]
  by_cases c : TakesB a.states.toNat a.start.toNat x y
  · rw [dcW_t c]; rfl
  · rw [dcW_f c]; rfl
noncomputable def boxTakes (a : TAuto) (x y : List Int) : Bool := autoOk a && (boxOk a.states x && (boxOk a.states y && dcW (TakesB a.states.toNat a.start.toNat x y)))
theorem implBoxTakes_eq (a : TAuto) (x y : List Int) (hx : x.length ≤ 1000000) (hy : y.length ≤ 1000000) : impl_BoxTakes a x y = some (boxTakes a x y) := by
  unfold impl_BoxTakes boxTakes
  rw [implAutoOk_eq, Option.bind_some, implBoxOk_eq _ _ (by omega), implBoxOk_eq _ _ (by omega)]
  simp only [bnd_eq]
  by_cases h1 : autoOk a = true
  · rw [h1, whenO_t, Option.bind_some, Bool.true_and, Bool.true_and]
    by_cases h2 : boxOk a.states x = true
    · rw [h2, whenO_t, Option.bind_some, Bool.true_and, Bool.true_and]
      by_cases h3 : boxOk a.states y = true
      · unfold boxOk at h2 h3
        rw [decide_eq_true_eq] at h2 h3
        have hT := implTakes_core (autoOk_A h1) ⟨h2.1, h2.2.1⟩ h2.2.2 h3.2.2
        have h3' : boxOk a.states y = true := by unfold boxOk; rw [decide_eq_true_eq]; exact h3
        rw [h3', whenO_t, hT, Option.bind_some, Bool.true_and]
      · rw [Bool.eq_false_iff.mpr h3]; rfl
    · rw [Bool.eq_false_iff.mpr h2]; rfl
  · rw [Bool.eq_false_iff.mpr h1]; rfl
end Go.Proofs.Ytcmbbpdepobnlaa
end

/- What is drawn: a byte, a number below a bound. -/
section
namespace Go.Proofs.Ytcmbbpdepobnlaa
open Go Go.RowKit E
set_option linter.unusedVariables false

/-- A cursor that is within its bytes. -/
def CurOk (c : Tl1Cur) : Prop := 0 ≤ c.i ∧ c.b.length ≤ 1048576
theorem and255 (x : Int) : 0 ≤ bAnd .i64 x 255 ∧ bAnd .i64 x 255 ≤ 255 := by
  unfold bAnd
  have h1 : (BitVec.ofInt 64 x &&& BitVec.ofInt 64 255).toNat ≤ 255 := by
    rw [BitVec.toNat_and]
    exact Nat.and_le_right
  have h2 : (BitVec.ofInt IntKind.i64.bits x &&& BitVec.ofInt IntKind.i64.bits 255).toNat ≤ 255 := h1
  have h3 := W_eq (a := ((BitVec.ofInt IntKind.i64.bits x &&& BitVec.ofInt IntKind.i64.bits 255).toNat : Int)) (by omega) (by omega)
  rw [h3]; omega
theorem byte_ok {c : Tl1Cur} (h : CurOk c) : ∃ x c', spec_l1Byte c = some (x, c') ∧ (0 ≤ x ∧ x ≤ 255) ∧ CurOk c' := by
  obtain ⟨h1, h2⟩ := h
  unfold spec_l1Byte
  by_cases k : c.i < (c.b.length : Int)
  · rw [if_pos k, ix_ok h1 k, Option.bind_some]
    exact ⟨_, _, rfl, and255 _, by show 0 ≤ W (c.i + 1); rw [W, W_eq (by omega) (by omega)]; omega, h2⟩
  · rw [if_neg k]
    exact ⟨_, _, rfl, and255 _, h1, h2⟩
theorem below_ok {c : Tl1Cur} (h : CurOk c) {n : Int} (hn : n ≤ 4294967296) : ∃ x c', spec_l1Below c n = some (x, c') ∧ 0 ≤ x ∧ (x < n ∨ x = 0) ∧ CurOk c' := by
  unfold spec_l1Below
  by_cases k : n ≤ 0
  · rw [if_pos k]; exact ⟨_, _, rfl, by omega, .inr rfl, h⟩
  · rw [if_neg k]
    by_cases k2 : n ≤ 256
    · rw [if_pos k2]
      obtain ⟨x, c', e, hx, hc⟩ := byte_ok h
      rw [e, Option.bind_some, decide_eq_true (by omega), chk_t, Option.bind_some]
      exact ⟨_, _, rfl, Int.tmod_nonneg _ hx.1, .inl (Int.tmod_lt_of_pos _ (by omega)), hc⟩
    · rw [if_neg k2]
      obtain ⟨x1, c1, e1, hx1, hc1⟩ := byte_ok h
      obtain ⟨x2, c2, e2, hx2, hc2⟩ := byte_ok hc1
      obtain ⟨x3, c3, e3, hx3, hc3⟩ := byte_ok hc2
      obtain ⟨x4, c4, e4, hx4, hc4⟩ := byte_ok hc3
      rw [e1, Option.bind_some, e2, Option.bind_some, e3, Option.bind_some, e4, Option.bind_some, decide_eq_true (by omega), chk_t, Option.bind_some]
      refine ⟨_, _, rfl, Int.tmod_nonneg _ ?_, .inl (Int.tmod_lt_of_pos _ (by omega)), hc4⟩
      dsimp only
      have w1 : W (x1 * 16777216) = x1 * 16777216 := W_eq (by omega) (by omega)
      have w2 : W (x2 * 65536) = x2 * 65536 := W_eq (by omega) (by omega)
      have w3 : W (x3 * 256) = x3 * 256 := W_eq (by omega) (by omega)
      rw [w1, w2, w3]
      have w4 : W (x1 * 16777216 + x2 * 65536) = x1 * 16777216 + x2 * 65536 := W_eq (by omega) (by omega)
      rw [w4]
      have w5 : W (x1 * 16777216 + x2 * 65536 + x3 * 256) = x1 * 16777216 + x2 * 65536 + x3 * 256 := W_eq (by omega) (by omega)
      rw [w5, W, W_eq (by omega) (by omega)]
      omega
theorem below_pos {c : Tl1Cur} (h : CurOk c) {n : Int} (h0 : 0 < n) (hn : n ≤ 4294967296) : ∃ x c', spec_l1Below c n = some (x, c') ∧ 0 ≤ x ∧ x < n ∧ CurOk c' := by
  obtain ⟨x, c', e, h1, h2, h3⟩ := below_ok h hn
  exact ⟨x, c', e, h1, by omega, h3⟩
theorem new_ok (bs : List Int) (h : bs.length ≤ 1048576) : ∃ c, spec_l1New bs = some c ∧ CurOk c := by
  unfold spec_l1New
  have key := loop_inv (body := fun s : Int × Int => spec_l1New.b0 bs s.1 s.2) (fun s => 0 ≤ s.2) (fun s => bs.length - s.2.toNat) (fun _ => True) (fun s hs => ?_) (s := (W (10277 + (bs.length : Int)), 0)) (Int.le_refl 0)
  · obtain ⟨r, e, _⟩ := key
    rw [e, Option.bind_some]
    exact ⟨_, rfl, Int.le_refl 0, h⟩
  · unfold spec_l1New.b0
    rw [bnd_eq]
    by_cases k : s.2 < (bs.length : Int) ∧ s.2 < 4000
    · right
      rw [if_pos (by simpa using k), ix_ok hs k.1, Option.bind_some]
      have w : W (s.2 + 1) = s.2 + 1 := W_eq (by omega) (by omega)
      exact ⟨_, rfl, by show 0 ≤ W (s.2 + 1); omega, by show bs.length - (W (s.2 + 1)).toNat < _; omega⟩
    · left
      rw [if_neg (by simpa using k)]
      exact ⟨_, rfl, trivial⟩
end Go.Proofs.Ytcmbbpdepobnlaa
end

/- What is drawn: one of a few. -/
section
namespace Go.Proofs.Ytcmbbpdepobnlaa
open Go Go.RowKit E
set_option linter.unusedVariables false

theorem pick_ok {c : Tl1Cur} (h : CurOk c) {xs : List Int} (h0 : 0 < xs.length) (hn : xs.length ≤ 1000) : ∃ x c', spec_l1PickInt c xs = some (x, c') ∧ x ∈ xs ∧ CurOk c' := by
  unfold spec_l1PickInt
  obtain ⟨x, c', e, h1, h2, h3⟩ := below_pos h (n := (xs.length : Int)) (by omega) (by omega)
  rw [e, Option.bind_some, ix_ok h1 h2, Option.bind_some]
  refine ⟨_, _, rfl, ?_, h3⟩
  have hx : x.toNat < xs.length := by omega
  rw [List.getD_eq_getElem?_getD, List.getElem?_eq_getElem hx]
  exact List.getElem_mem hx
end Go.Proofs.Ytcmbbpdepobnlaa
end

/- Drawn automata: what is drawn is some automaton. -/
section
namespace Go.Proofs.Ytcmbbpdepobnlaa
open Go Go.RowKit E
set_option linter.unusedVariables false

theorem app32 {l m : List TEdge} (h : l.length + m.length ≤ 1000000000) : app 32 l m = some (l ++ m) := app_small h (by omega)
theorem autoMake_ok (letters states start : Int) (es : List TEdge) : ∃ a b, spec_AutoMake letters states start es = some (a, b) ∧ a.edges.length ≤ 10000 ∧ (a.states = states ∨ a.states = 0) := by
  unfold spec_AutoMake
  rw [specAutoOk_eq, Option.bind_some, bnd_eq]
  by_cases hok : autoOk ⟨letters, states, start, []⟩ = true
  · have h := autoOk_A hok
    have h1 : 0 ≤ states ∧ states ≤ 31 := h.sts
    have h3 : 1 ≤ letters ∧ letters ≤ 8 := h.lets
    rw [hok, Bool.not_true, Bool.false_or]
    by_cases hl : (es.length : Int) > 2000
    · rw [if_pos (by simpa using hl)]; exact ⟨_, _, rfl, by simp, .inr rfl⟩
    rw [if_neg (by simpa using hl)]
    have m1 : 0 ≤ states * letters ∧ states * letters ≤ 248 := ⟨Int.mul_nonneg h1.1 (by omega), by
      have := Int.mul_le_mul h1.2 h3.2 (by omega) (by omega); omega⟩
    have m2 : 0 ≤ states * letters * states ∧ states * letters * states ≤ 7688 := ⟨Int.mul_nonneg m1.1 h1.1, by
      have := Int.mul_le_mul m1.2 h1.2 h1.1 (by omega); omega⟩
    have w1 : W (states * letters) = states * letters := W_eq (by omega) (by omega)
    have w2 : W (states * letters * states) = states * letters * states := W_eq (by omega) (by omega)
    rw [w1, w2, mk_ok m2.1 (by omega), Option.bind_some]
    have key := loop_inv (body := fun s : Int × Int × Int × List TEdge × List Int × Int => spec_AutoMake.b1 es states letters s.1 s.2.1 s.2.2.1 s.2.2.2.1 s.2.2.2.2.1 s.2.2.2.2.2) (fun s => 0 ≤ s.2.2.2.2.2 ∧ (s.2.2.2.2.1.length : Int) = states * letters * states) (fun s => es.length - s.2.2.2.2.2.toNat)
      (fun r => (∃ q, r = .inl q ∧ (q.2.2.2.2.length : Int) = states * letters * states) ∨ ∃ q, r = .inr q ∧ q.1.edges.length ≤ 10000 ∧ q.1.states = 0) (fun s hs => ?_) (s := (0, 0, 0, [], List.replicate (states * letters * states).toNat (0 : Int), 0)) ⟨Int.le_refl 0, by simp; omega⟩
    · obtain ⟨r, e, hr⟩ := key
      rw [e, Option.bind_some]
      rcases hr with ⟨q, rfl, hq⟩ | ⟨q, rfl, hq⟩
      · show ∃ a b, spec_AutoMake.k0 states letters start q.1 q.2.1 q.2.2.1 q.2.2.2.1 q.2.2.2.2 = some (a, b) ∧ _
        unfold spec_AutoMake.k0
        generalize q.2.2.2.2 = ms at hq
        have key2 := loop_inv (body := fun s : Int × Int × Int × List TEdge × Int => spec_AutoMake.b0 ms states letters s.1 s.2.1 s.2.2.1 s.2.2.2.1 s.2.2.2.2) (fun s => 0 ≤ s.2.2.2.2 ∧ (s.2.2.2.1.length : Int) ≤ s.2.2.2.2 ∧ s.2.2.2.2 ≤ ms.length ∧ s.2.1 = states) (fun s => ms.length - s.2.2.2.2.toNat) (fun r => r.2.2.2.length ≤ 10000 ∧ r.2.1 = states) (fun s hs => ?_) (s := (letters, states, start, [], 0)) ⟨Int.le_refl 0, Int.le_refl 0, by dsimp only; omega, rfl⟩
        · obtain ⟨r2, e2, hr2⟩ := key2
          rw [e2, Option.bind_some]
          exact ⟨_, _, rfl, hr2.1, .inl hr2.2⟩
        · obtain ⟨u1, u2, u3, es', k⟩ := s
          obtain ⟨i1, i2, i3, i4⟩ := hs
          dsimp only at i1 i2 i3 i4 ⊢
          unfold spec_AutoMake.b0
          by_cases c : k < (ms.length : Int)
          · right
            have hst : states ≠ 0 := fun e => by rw [e, Int.mul_zero] at hq; omega
            have w : W (k + 1) = k + 1 := W_eq (by omega) (by omega)
            rw [if_pos c, ix_ok i1 c, Option.bind_some]
            split
            · rw [decide_eq_true hst, chk_t, Option.bind_some, decide_eq_true (by omega : letters ≠ 0), chk_t, Option.bind_some, Option.bind_some, Option.bind_some, Option.bind_some, Option.bind_some, app32 (by simp; omega), Option.bind_some, w]
              exact ⟨_, rfl, ⟨by dsimp only; omega, by simp; omega, by dsimp only; omega, i4⟩, by dsimp only; omega⟩
            · rw [w]
              exact ⟨_, rfl, ⟨by dsimp only; omega, by dsimp only; omega, by dsimp only; omega, i4⟩, by dsimp only; omega⟩
          · left
            rw [if_neg c]
            exact ⟨_, rfl, by dsimp only; omega, i4⟩
      · exact ⟨_, _, rfl, hq.1, .inr hq.2⟩
    · obtain ⟨u1, u2, u3, es', ms, k⟩ := s
      obtain ⟨i1, i2⟩ := hs
      dsimp only at i1 i2 ⊢
      unfold spec_AutoMake.b1
      by_cases c : k < (es.length : Int)
      · rw [if_pos c, ix_ok i1 c, Option.bind_some, bnd_eq, bnd_eq]
        generalize es.getD k.toNat default = e
        have g1 : ∀ x, spec_l4State x states = decide (0 ≤ x ∧ x ≤ states - 1) := fun x => by
          unfold spec_l4State; rw [l1Rg, W, W_eq (by omega) (by omega)]
        rw [g1, g1, l1Rg, W, W_eq (by omega) (by omega)]
        by_cases g : (0 ≤ e.from_ ∧ e.from_ ≤ states - 1) ∧ (0 ≤ e.to_ ∧ e.to_ ≤ states - 1) ∧ (0 ≤ e.letter ∧ e.letter ≤ letters - 1)
        · right
          obtain ⟨ga, gb, gc⟩ := g
          rw [decide_eq_true ga, decide_eq_true gb, decide_eq_true gc, if_neg (by simp)]
          have p1 : 0 ≤ e.from_ * letters ∧ e.from_ * letters ≤ (states - 1) * letters := ⟨Int.mul_nonneg ga.1 (by omega), Int.mul_le_mul_of_nonneg_right ga.2 (by omega)⟩
          have p2 : (states - 1) * letters = states * letters - letters := by rw [Int.sub_mul, Int.one_mul]
          have p3 : 0 ≤ e.from_ * letters + e.letter ∧ e.from_ * letters + e.letter ≤ states * letters - 1 := by omega
          have p4 : 0 ≤ (e.from_ * letters + e.letter) * states ∧ (e.from_ * letters + e.letter) * states ≤ (states * letters - 1) * states := ⟨Int.mul_nonneg p3.1 h1.1, Int.mul_le_mul_of_nonneg_right p3.2 h1.1⟩
          have p5 : (states * letters - 1) * states = states * letters * states - states := by rw [Int.sub_mul, Int.one_mul]
          have v1 : W (e.from_ * letters) = e.from_ * letters := W_eq (by omega) (by omega)
          have v2 : W (e.from_ * letters + e.letter) = e.from_ * letters + e.letter := W_eq (by omega) (by omega)
          have v3 : W ((e.from_ * letters + e.letter) * states) = (e.from_ * letters + e.letter) * states := W_eq (by omega) (by omega)
          have v4 : W ((e.from_ * letters + e.letter) * states + e.to_) = (e.from_ * letters + e.letter) * states + e.to_ := W_eq (by omega) (by omega)
          have hk2 : ∀ x, spec_AutoMake.k2 ms e letters states u1 u2 u3 es' k x = some (.inl (u1, u2, u3, es', ms.set ((e.from_ * letters + e.letter) * states + e.to_).toNat (spec_l1Max (ms.getD ((e.from_ * letters + e.letter) * states + e.to_).toNat default) x), k + 1)) := by
            intro x
            unfold spec_AutoMake.k2
            rw [v1, v2, v3, v4, ix_ok (by omega) (by omega), Option.bind_some]
            have hck : ck ((e.from_ * letters + e.letter) * states + e.to_) ms.length = some ((e.from_ * letters + e.letter) * states + e.to_).toNat := by unfold ck; rw [if_pos ⟨by omega, by omega⟩]
            rw [hck, Option.bind_some, show W (k + 1) = k + 1 from W_eq (by omega) (by omega)]
          rw [hk2, hk2]
          split
          · exact ⟨_, rfl, ⟨by dsimp only; omega, by simp; omega⟩, by dsimp only; omega⟩
          · exact ⟨_, rfl, ⟨by dsimp only; omega, by simp; omega⟩, by dsimp only; omega⟩
        · left
          have c2 : (((!decide (0 ≤ e.from_ ∧ e.from_ ≤ states - 1)) || (!decide (0 ≤ e.to_ ∧ e.to_ ≤ states - 1))) || (!decide (0 ≤ e.letter ∧ e.letter ≤ letters - 1))) = true := by
            simp only [Bool.or_eq_true, Bool.not_eq_true', decide_eq_false_iff_not]; omega
          rw [if_pos c2]
          exact ⟨_, rfl, .inr ⟨_, rfl, by simp, rfl⟩⟩
      · left
        rw [if_neg c]
        exact ⟨_, rfl, .inl ⟨_, rfl, i2⟩⟩
  · rw [Bool.not_eq_true] at hok
    rw [hok, Bool.not_false, Bool.true_or, if_pos rfl]
    exact ⟨_, _, rfl, by simp, .inr rfl⟩
theorem onceA_ok {c : Tl1Cur} (hc : CurOk c) {n : Int} (hn : n ≤ 4294967296) : ∃ b c', spec_l1Once c n = some (b, c') ∧ CurOk c' := by
  unfold spec_l1Once
  obtain ⟨x, c', e, _, _, h⟩ := below_ok hc hn
  rw [e, Option.bind_some]; exact ⟨_, _, rfl, h⟩
theorem drawEdges_ok {c : Tl1Cur} (hc : CurOk c) {l s m : Int} (hl : l ≤ 1000) (hs : s ≤ 1000) (hm : m ≤ 100000) : ∃ es c', spec_l4DrawEdges c l s m = some (es, c') ∧ CurOk c' := by
  unfold spec_l4DrawEdges
  have key := loop_inv (body := fun q : List Int × Int × Int × List TEdge × Int => spec_l4DrawEdges.b0 m s l q.1 q.2.1 q.2.2.1 q.2.2.2.1 q.2.2.2.2) (fun q => CurOk ⟨q.1, q.2.1, q.2.2.1⟩ ∧ 0 ≤ q.2.2.2.2 ∧ (q.2.2.2.1.length : Int) ≤ q.2.2.2.2) (fun q => m.toNat - q.2.2.2.2.toNat) (fun r => CurOk ⟨r.2.1, r.2.2.1, r.2.2.2⟩) (fun q hq => ?_) (s := (c.b, c.i, c.h, [], 0)) ⟨hc, Int.le_refl 0, Int.le_refl 0⟩
  · obtain ⟨r, e, hr⟩ := key
    rw [e, Option.bind_some]
    exact ⟨_, _, rfl, hr⟩
  · obtain ⟨b, i, h, y, k⟩ := q
    obtain ⟨i1, i2, i3⟩ := hq
    dsimp only at i1 i2 i3 ⊢
    unfold spec_l4DrawEdges.b0
    by_cases g : k < m
    · right
      obtain ⟨x1, c1, e1, _, _, h1⟩ := below_ok i1 (n := s) (by omega)
      obtain ⟨x2, c2, e2, _, _, h2⟩ := below_ok h1 (n := l) (by omega)
      obtain ⟨x3, c3, e3, _, _, h3⟩ := below_ok h2 (n := s) (by omega)
      obtain ⟨x4, c4, e4, h4⟩ := onceA_ok h3 (n := 3) (by omega)
      rw [if_pos g, e1, Option.bind_some, e2, Option.bind_some, e3, Option.bind_some, e4, Option.bind_some, app32 (by simp; omega), Option.bind_some, show W (k + 1) = k + 1 from W_eq (by omega) (by omega)]
      exact ⟨_, rfl, ⟨h4, by dsimp only; omega, by simp; omega⟩, by dsimp only; omega⟩
    · left
      rw [if_neg g]
      exact ⟨_, rfl, i1⟩
theorem autoRight_ok {c : Tl1Cur} (hc : CurOk c) {l s : Int} (hl : 0 ≤ l ∧ l ≤ 8) (hs : 1 ≤ s ∧ s ≤ 20) : ∃ a c', spec_l4DrawRight c l s = some (a, c') ∧ CurOk c' ∧ a.edges.length ≤ 10000 ∧ 0 ≤ a.states ∧ a.states ≤ 32 := by
  unfold spec_l4DrawRight
  obtain ⟨x, c1, e1, x1, x2, h1⟩ := below_pos hc (n := s) (by omega) (by omega)
  rw [e1, Option.bind_some]
  dsimp only
  have w : W (1 + x) = 1 + x := W_eq (by omega) (by omega)
  rw [w, decide_eq_true (by omega : 0 ≤ 1 + x), chk_t, Option.bind_some]
  have hsh : shl .i64 1 (1 + x) = ((2 ^ (1 + x).toNat : Nat) : Int) := by
    have := shl1_i (n := (1 + x).toNat) (by omega)
    rw [show (((1 + x).toNat : Nat) : Int) = 1 + x by omega] at this; exact this
  have hp : 2 ^ (1 + x).toNat ≤ 2 ^ 20 := Nat.pow_le_pow_right (by omega) (by omega)
  have h20 : 2 ^ 20 = 1048576 := rfl
  obtain ⟨y, c2, e2, _, _, h2⟩ := below_ok h1 (n := shl .i64 1 (1 + x)) (by rw [hsh]; omega)
  rw [e2, Option.bind_some]
  dsimp only
  have q1 : 0 ≤ 2 * (1 + x) * l ∧ 2 * (1 + x) * l ≤ 40 * 8 := ⟨Int.mul_nonneg (by omega) hl.1, Int.mul_le_mul (by omega) hl.2 hl.1 (by omega)⟩
  have w2 : W (2 * (1 + x)) = 2 * (1 + x) := W_eq (by omega) (by omega)
  have w3 : W (2 * (1 + x) * l) = 2 * (1 + x) * l := W_eq (by omega) (by omega)
  rw [w2, w3]
  obtain ⟨z, c3, e3, z1, z2, h3⟩ := below_ok h2 (n := 2 * (1 + x) * l) (by omega)
  rw [e3, Option.bind_some]
  dsimp only
  have w4 : W (1 + z) = 1 + z := W_eq (by omega) (by omega)
  rw [w4]
  obtain ⟨es, c4, e4, h4⟩ := drawEdges_ok h3 (l := l) (s := 1 + x) (m := 1 + z) (by omega) (by omega) (by omega)
  rw [e4, Option.bind_some]
  dsimp only
  obtain ⟨a, b, e5, h5, h6⟩ := autoMake_ok l (1 + x) (bOr .i64 1 y) es
  rw [e5, Option.bind_some]
  exact ⟨_, _, rfl, h4, h5, by show 0 ≤ a.states; omega, by show a.states ≤ 32; omega⟩
theorem drawAuto_ok {c : Tl1Cur} (hc : CurOk c) {s : Int} (hs : 1 ≤ s ∧ s ≤ 20) : ∃ a c', spec_l4DrawAuto c s = some (a, c') ∧ CurOk c' ∧ a.edges.length ≤ 10001 ∧ -1 ≤ a.states ∧ a.states ≤ 32 := by
  unfold spec_l4DrawAuto
  obtain ⟨l, c1, e1, m1, h1⟩ := pick_ok hc (xs := [1, 2, 2, 2, 3, 4]) (by decide) (by decide)
  have hl : 0 ≤ l ∧ l ≤ 8 := by simp only [List.mem_cons, List.not_mem_nil, or_false] at m1; omega
  obtain ⟨a, c2, e2, h2, la, s1, s2⟩ := autoRight_ok h1 hl hs
  obtain ⟨x, c3, e3, _, _, h3⟩ := below_ok h2 (n := 30) (by decide)
  rw [e1, Option.bind_some, e2, Option.bind_some, e3, Option.bind_some]
  unfold spec_l4DrawAuto.k0
  dsimp only
  split
  · obtain ⟨z, c4, e4, _, h4⟩ := pick_ok h3 (xs := [0, 8, 9]) (by decide) (by decide)
    rw [e4, Option.bind_some]; exact ⟨_, _, rfl, h4, by show a.edges.length ≤ _; omega, by show -1 ≤ a.states; omega, s2⟩
  split
  · obtain ⟨z, c4, e4, mz, h4⟩ := pick_ok h3 (xs := [0, -1, 31, 32]) (by decide) (by decide)
    have hz : -1 ≤ z ∧ z ≤ 32 := by simp only [List.mem_cons, List.not_mem_nil, or_false] at mz; omega
    rw [e4, Option.bind_some]; exact ⟨_, _, rfl, h4, by show a.edges.length ≤ _; omega, hz.1, hz.2⟩
  split
  · obtain ⟨z, c4, e4, _, h4⟩ := pick_ok h3 (xs := [-1, 0, 1048576]) (by decide) (by decide)
    rw [e4, Option.bind_some]; exact ⟨_, _, rfl, h4, by show a.edges.length ≤ _; omega, by show -1 ≤ a.states; omega, s2⟩
  split
  · rw [app32 (by simp; omega), Option.bind_some]; exact ⟨_, _, rfl, h3, by simp; omega, by show -1 ≤ a.states; omega, s2⟩
  split
  · rw [app32 (by simp; omega), Option.bind_some]; exact ⟨_, _, rfl, h3, by simp; omega, by show -1 ≤ a.states; omega, s2⟩
  · exact ⟨_, _, rfl, h3, by show a.edges.length ≤ _; omega, by show -1 ≤ a.states; omega, s2⟩
end Go.Proofs.Ytcmbbpdepobnlaa
end

/- Drawn letters: not too many. -/
section
namespace Go.Proofs.Ytcmbbpdepobnlaa
open Go Go.RowKit E
set_option linter.unusedVariables false

theorem app8 {l m : List Int} (h : l.length + m.length ≤ 1000000000) : app 8 l m = some (l ++ m) := app_small h (by omega)
theorem letters_ok {c : Tl1Cur} (hc : CurOk c) {most : Nat} (hm : most ≤ 100) {n : Int} (hn : n ≤ 4294967296) : ∃ l c', spec_l3DrawLetters c (most : Int) n = some (l, c') ∧ CurOk c' ∧ l.length ≤ most := by
  unfold spec_l3DrawLetters
  obtain ⟨x, c1, e1, h1, h2, hc1⟩ := below_pos hc (n := W ((most : Int) + 1)) (by rw [W, W_eq (by omega) (by omega)]; omega) (by rw [W, W_eq (by omega) (by omega)]; omega)
  rw [W, W_eq (by omega) (by omega)] at h2
  rw [e1, Option.bind_some]
  have key := loop_inv (body := fun s : List Int × Int × Int × List Int × Int => spec_l3DrawLetters.b0 (x, c1) n s.1 s.2.1 s.2.2.1 s.2.2.2.1 s.2.2.2.2) (fun s => CurOk ⟨s.1, s.2.1, s.2.2.1⟩ ∧ 0 ≤ s.2.2.2.2 ∧ s.2.2.2.2 ≤ x ∧ (s.2.2.2.1.length : Int) = s.2.2.2.2) (fun s => x.toNat - s.2.2.2.2.toNat) (fun r => CurOk ⟨r.2.1, r.2.2.1, r.2.2.2⟩ ∧ r.1.length ≤ most) (fun s hs => ?_) (s := (c1.b, c1.i, c1.h, [], 0)) ⟨hc1, Int.le_refl 0, h1, rfl⟩
  · obtain ⟨r, e, g1, g2⟩ := key
    have e' : loop (fun s : List Int × Int × Int × List Int × Int => spec_l3DrawLetters.b0 (x, c1) n s.1 s.2.1 s.2.2.1 s.2.2.2.1 s.2.2.2.2) ((x, c1).2.b, (x, c1).2.i, (x, c1).2.h, [], 0) = some r := e
    rw [e', Option.bind_some]
    exact ⟨_, _, rfl, g1, g2⟩
  · obtain ⟨b, i, h, y, k⟩ := s
    obtain ⟨i1, i2, i3, i4⟩ := hs
    dsimp only at i1 i2 i3 i4 ⊢
    unfold spec_l3DrawLetters.b0
    by_cases g : k < x
    · right
      obtain ⟨z, c2, e2, _, _, hc2⟩ := below_ok i1 hn
      have w : W (k + 1) = k + 1 := W_eq (by omega) (by omega)
      rw [if_pos (by exact g), e2, Option.bind_some, app8 (by simp; omega), Option.bind_some, w]
      exact ⟨_, rfl, ⟨hc2, by dsimp only; omega, by dsimp only; omega, by simp; omega⟩, by dsimp only; omega⟩
    · left
      rw [if_neg (by exact g)]
      exact ⟨_, rfl, i1, by dsimp only; omega⟩
end Go.Proofs.Ytcmbbpdepobnlaa
end

/- Drawn words: some letters, not too many. -/
section
namespace Go.Proofs.Ytcmbbpdepobnlaa
open Go Go.RowKit E
set_option linter.unusedVariables false

theorem once_ok {c : Tl1Cur} (hc : CurOk c) {n : Int} (hn : n ≤ 4294967296) : ∃ b c', spec_l1Once c n = some (b, c') ∧ CurOk c' := by
  unfold spec_l1Once
  obtain ⟨x, c', e, _, _, h⟩ := below_ok hc hn
  rw [e, Option.bind_some]; exact ⟨_, _, rfl, h⟩
theorem told_eq (w : TWord) : spec_l3Told w = some (if wordOk w 8 = true then (w, true) else (⟨[], []⟩, false)) := by
  unfold spec_l3Told
  rw [show (TWord.mk w.stem w.loop) = w from rfl, l3Right_eq, Option.bind_some]
  by_cases h : wordOk w 8 = true
  · rw [if_neg (by simp [h]), if_pos h]
  · rw [if_pos (by simp [h]), if_neg h]
theorem told_len (w : TWord) : ∃ w' b, spec_l3Told w = some (w', b) ∧ w'.stem.length ≤ w.stem.length ∧ w'.loop.length ≤ w.loop.length := by
  rw [told_eq]
  by_cases h : wordOk w 8 = true
  · rw [if_pos h]; exact ⟨_, _, rfl, Nat.le_refl _, Nat.le_refl _⟩
  · rw [if_neg h]; exact ⟨_, _, rfl, Nat.zero_le _, Nat.zero_le _⟩
theorem power_ok {w : TWord} (h1 : w.stem.length ≤ 1000) (h2 : w.loop.length ≤ 1000) : ∃ w' b, spec_WordPower w 2 = some (w', b) ∧ w'.stem.length ≤ w.stem.length ∧ w'.loop.length ≤ 2 * w.loop.length := by
  unfold spec_WordPower
  rw [l3Right_eq, Option.bind_some, bnd_eq]
  by_cases h : wordOk w 8 = true
  · rw [if_neg (by rw [h]; decide), app8 (by simp; omega), Option.bind_some, List.nil_append]
    have s1 : spec_WordPower.b0 2 w w.stem [] 0 = some (.inl (w.stem, w.loop, 1)) := by
      unfold spec_WordPower.b0
      rw [if_pos (by decide), app8 (by simp; omega)]; rfl
    have s2 : spec_WordPower.b0 2 w w.stem w.loop 1 = some (.inl (w.stem, w.loop ++ w.loop, 2)) := by
      unfold spec_WordPower.b0
      rw [if_pos (by decide), app8 (by omega)]; rfl
    have s3 : spec_WordPower.b0 2 w w.stem (w.loop ++ w.loop) 2 = some (.inr (w.stem, w.loop ++ w.loop)) := by
      unfold spec_WordPower.b0
      rw [if_neg (by decide)]
    have L : loop (fun s : List Int × List Int × Int => spec_WordPower.b0 2 w s.1 s.2.1 s.2.2) (w.stem, [], 0) = some (w.stem, w.loop ++ w.loop) := by
      rw [loop_go (body := fun s : List Int × List Int × Int => spec_WordPower.b0 2 w s.1 s.2.1 s.2.2) s1, loop_go (body := fun s : List Int × List Int × Int => spec_WordPower.b0 2 w s.1 s.2.1 s.2.2) s2, loop_end (body := fun s : List Int × List Int × Int => spec_WordPower.b0 2 w s.1 s.2.1 s.2.2) s3]
    rw [L, Option.bind_some]
    unfold spec_WordPower.k0
    obtain ⟨w', b, g1, g2, g3⟩ := told_len ⟨w.stem, w.loop ++ w.loop⟩
    rw [g1, Option.bind_some]
    exact ⟨_, _, rfl, g2, by simp at g3; show w'.loop.length ≤ _; omega⟩
  · rw [if_pos (by simp [h])]; exact ⟨_, _, rfl, Nat.zero_le _, Nat.zero_le _⟩
theorem turn_ok {w : TWord} (h1 : w.stem.length ≤ 1000) (h2 : w.loop.length ≤ 1000) : ∃ w' b, spec_WordTurn w = some (w', b) ∧ w'.stem.length ≤ w.stem.length + 1 ∧ w'.loop.length ≤ w.loop.length := by
  unfold spec_WordTurn
  rw [l3Right_eq, Option.bind_some]
  by_cases h : wordOk w 8 = true
  · have hw := (wordOk_t h).1
    have hl := hw.loop
    have hl1 := hw.one
    have hix : ix w.loop 0 = some (w.loop.getD 0 default) := ix_ok (by decide) (by omega)
    have hcut : cut w.loop 1 (w.loop.length : Int) = some (w.loop.drop 1) := by
      unfold cut
      rw [if_pos ⟨by decide, by omega, by omega⟩]
      congr 1
      refine List.take_of_length_le ?_
      simp <;> omega
    rw [if_neg (by simp [h]), hix, Option.bind_some, hcut, Option.bind_some, Option.bind_some, app8 (by simp <;> omega), Option.bind_some, List.nil_append, app8 (by simp; omega), Option.bind_some, app8 (by simp; omega), Option.bind_some, List.nil_append, app8 (by simp; omega), Option.bind_some]
    obtain ⟨w', b, g1, g2, g3⟩ := told_len ⟨w.stem ++ [w.loop.getD 0 default], w.loop.drop 1 ++ [w.loop.getD 0 default]⟩
    rw [g1, Option.bind_some]
    exact ⟨_, _, rfl, by simpa using g2, by simp at g3; show w'.loop.length ≤ _; omega⟩
  · rw [if_pos (by simp [h])]; exact ⟨_, _, rfl, Nat.zero_le _, Nat.zero_le _⟩
theorem wordRight_ok {c : Tl1Cur} (hc : CurOk c) {n : Int} (hn : n ≤ 4294967296) : ∃ w c', spec_l3DrawRight c n = some (w, c') ∧ CurOk c' ∧ w.stem.length ≤ 10 ∧ w.loop.length ≤ 10 := by
  unfold spec_l3DrawRight
  obtain ⟨l1, c1, e1, h1, g1⟩ := letters_ok hc (most := 4) (by decide) hn
  obtain ⟨l2, c2, e2, h2, g2⟩ := letters_ok h1 (most := 3) (by decide) hn
  obtain ⟨x, c3, e3, _, _, h3⟩ := below_ok h2 hn
  obtain ⟨b, c4, e4, h4⟩ := once_ok h3 (n := 6) (by decide)
  have e1' : spec_l3DrawLetters c 4 n = some (l1, c1) := e1
  have e2' : spec_l3DrawLetters c1 3 n = some (l2, c2) := e2
  rw [e1', Option.bind_some, e2', Option.bind_some, e3, Option.bind_some, app8 (by simp; omega), Option.bind_some, e4, Option.bind_some]
  have rest : ∀ w : TWord, w.stem.length ≤ 4 → w.loop.length ≤ 8 → ∃ w' c', spec_l3DrawRight.k0 c4.b c4.i c4.h w.stem w.loop = some (w', c') ∧ CurOk c' ∧ w'.stem.length ≤ 10 ∧ w'.loop.length ≤ 10 := by
    intro w k1 k2
    unfold spec_l3DrawRight.k0
    obtain ⟨b2, c5, e5, h5⟩ := once_ok (c := ⟨c4.b, c4.i, c4.h⟩) h4 (n := 6) (by decide)
    rw [e5, Option.bind_some]
    split
    · obtain ⟨w', b3, t1, t2, t3⟩ := turn_ok (w := w) (by omega) (by omega)
      have t1' : spec_WordTurn ⟨w.stem, w.loop⟩ = some (w', b3) := t1
      rw [t1', Option.bind_some]
      exact ⟨_, _, rfl, h5, by show w'.stem.length ≤ _; omega, by show w'.loop.length ≤ _; omega⟩
    · exact ⟨_, _, rfl, h5, by show w.stem.length ≤ _; omega, by show w.loop.length ≤ _; omega⟩
  dsimp only
  split
  · obtain ⟨w', b3, t1, t2, t3⟩ := power_ok (w := ⟨l1, l2 ++ [x]⟩) (by show l1.length ≤ _; omega) (by simp; omega)
    rw [t1, Option.bind_some]
    exact rest w' (by dsimp only at t2; omega) (by simp at t3; omega)
  · exact rest ⟨l1, l2 ++ [x]⟩ (by show l1.length ≤ _; omega) (by simp; omega)
theorem drawWord_ok {c : Tl1Cur} (hc : CurOk c) : ∃ w c', spec_l3DrawWord c = some (w, c') ∧ CurOk c' ∧ w.stem.length ≤ 50 ∧ w.loop.length ≤ 50 := by
  unfold spec_l3DrawWord
  obtain ⟨n, c1, e1, m1, h1⟩ := pick_ok hc (xs := [1, 2, 2, 3, 8]) (by decide) (by decide)
  have hn : n ≤ 4294967296 := by
    simp only [List.mem_cons, List.not_mem_nil, or_false] at m1; omega
  obtain ⟨w, c2, e2, h2, l1, l2⟩ := wordRight_ok h1 hn
  obtain ⟨x, c3, e3, _, _, h3⟩ := below_ok h2 (n := 25) (by decide)
  rw [e1, Option.bind_some, e2, Option.bind_some, e3, Option.bind_some]
  unfold spec_l3DrawWord.k0
  dsimp only
  split
  · exact ⟨_, _, rfl, h3, by show w.stem.length ≤ _; omega, by simp⟩
  split
  · obtain ⟨z, c4, e4, _, h4⟩ := pick_ok h3 (xs := [-1, 7, 8]) (by decide) (by decide)
    rw [e4, Option.bind_some, app8 (by simp; omega), Option.bind_some]
    exact ⟨_, _, rfl, h4, by simp; omega, by show w.loop.length ≤ _; omega⟩
  split
  · obtain ⟨z, c4, e4, z1, z2, h4⟩ := below_pos h3 (n := 2) (by decide) (by decide)
    have w1 : W (40 + z) = 40 + z := W_eq (by omega) (by omega)
    rw [e4, Option.bind_some]
    dsimp only
    rw [w1, mk_ok (by omega) (by omega), Option.bind_some]
    exact ⟨_, _, rfl, h4, by simp; omega, by show w.loop.length ≤ _; omega⟩
  split
  · obtain ⟨z, c4, e4, z1, z2, h4⟩ := below_pos h3 (n := 2) (by decide) (by decide)
    have w1 : W (40 + z) = 40 + z := W_eq (by omega) (by omega)
    rw [e4, Option.bind_some]
    dsimp only
    rw [w1, mk_ok (by omega) (by omega), Option.bind_some]
    exact ⟨_, _, rfl, h4, by show w.stem.length ≤ _; omega, by simp; omega⟩
  · exact ⟨_, _, rfl, h3, by show w.stem.length ≤ _; omega, by show w.loop.length ≤ _; omega⟩
end Go.Proofs.Ytcmbbpdepobnlaa
end

/- What an automaton takes, by the reference. -/
section
namespace Go.Proofs.Ytcmbbpdepobnlaa
open Go Go.RowKit E
set_option linter.unusedVariables false

noncomputable def genTakes (g : TGen) (w : TWord) : Bool := genOk g && (wordOk w g.letters && (decide (g.states ≠ 0) && dcW (LiveW g w)))
theorem specGenTakes_eq (g : TGen) (w : TWord) : spec_GenTakes g w = some (genTakes g w) := by
  unfold spec_GenTakes genTakes
  rw [specGenOk_eq, Option.bind_some, specWordOk_eq]
  simp only [bnd_eq]
  by_cases h1 : genOk g = true
  · rw [h1, Bool.not_true, Bool.not_false, whenO_t, Option.bind_some, Bool.false_or, Bool.true_and]
    by_cases h2 : wordOk w g.letters = true
    · rw [h2, Bool.not_true, Bool.false_or, Bool.true_and]
      by_cases h3 : g.states = 0
      · rw [if_pos (by simpa using h3), decide_eq_false (fun k => k h3), Bool.false_and]
      · have hw := (wordOk_t h2).1
        have hg := genOk_W h1 h3
        rw [if_neg (by simpa using h3), decide_eq_true h3, Bool.true_and]
        exact takes_core hg hw
    · rw [Bool.eq_false_iff.mpr h2]; rfl
  · rw [Bool.eq_false_iff.mpr h1]; rfl
noncomputable def autoTakes (a : TAuto) (w : TWord) : Bool := autoOk a && (wordOk w a.letters && (decide (a.states ≠ 0) && dcW (LiveW (genOf a) w)))
theorem specAutoTakes_eq (a : TAuto) (w : TWord) : spec_AutoTakes a w = some (autoTakes a w) := by
  unfold spec_AutoTakes autoTakes
  rw [specAutoOk_eq, Option.bind_some]
  by_cases h1 : autoOk a = true
  · rw [h1, whenO_t, specGenOf_eq h1, Option.bind_some, whenO_t, specGenTakes_eq, Option.bind_some, Bool.true_and]
    unfold genTakes
    rw [genOf_ok h1, Bool.true_and]; rfl
  · rw [Bool.eq_false_iff.mpr h1, whenO_f, Option.bind_some, whenO_f, Option.bind_some]; rfl
end Go.Proofs.Ytcmbbpdepobnlaa
end

/- Drawn automata and words. -/
section
namespace Go.Proofs.Ytcmbbpdepobnlaa
open Go Go.RowKit E
set_option linter.unusedVariables false

theorem drawTaken_ok {c : Tl1Cur} (hc : CurOk c) {s : Int} (hs : 1 ≤ s ∧ s ≤ 20) : ∃ a w c', spec_l6DrawTaken c s = some (a, w, c') ∧ CurOk c' ∧ a.edges.length ≤ 10001 ∧ w.stem.length ≤ 50 ∧ w.loop.length ≤ 50 := by
  unfold spec_l6DrawTaken
  obtain ⟨a, c1, e1, h1, l1, _⟩ := drawAuto_ok hc hs
  rw [e1, Option.bind_some]
  dsimp only
  rw [show TAuto.mk a.letters a.states a.start a.edges = a from rfl, specAutoOk_eq, Option.bind_some]
  by_cases hok : autoOk a = true
  · rw [hok, if_neg (by simp)]
    have hlet := (autoOk_A hok).lets
    obtain ⟨w, c2, e2, h2, s2, s3⟩ := wordRight_ok h1 (n := a.letters) (by omega)
    rw [e2, Option.bind_some]
    dsimp only
    obtain ⟨r, er, r1, r2, r3⟩ := loop_inv (body := fun s : List Int × Int × Int × List Int × List Int × Int => spec_l6DrawTaken.b0 (a, c1) s.1 s.2.1 s.2.2.1 s.2.2.2.1 s.2.2.2.2.1 s.2.2.2.2.2) (fun s => CurOk ⟨s.1, s.2.1, s.2.2.1⟩ ∧ s.2.2.2.1.length ≤ 10 ∧ s.2.2.2.2.1.length ≤ 10 ∧ 0 ≤ s.2.2.2.2.2 ∧ s.2.2.2.2.2 ≤ 4) (fun s => 4 - s.2.2.2.2.2.toNat) (fun r => CurOk ⟨r.1, r.2.1, r.2.2.1⟩ ∧ r.2.2.2.1.length ≤ 10 ∧ r.2.2.2.2.length ≤ 10) (by
      rintro ⟨b, i, h, y, z, k⟩ ⟨i1, i2, i3, i4, i5⟩
      dsimp only at i1 i2 i3 i4 i5 ⊢
      unfold spec_l6DrawTaken.b0
      rw [bnd_eq]
      by_cases g : k < 4
      · obtain ⟨b1, c3, e3, h3⟩ := once_ok i1 (n := 3) (by decide)
        rw [decide_eq_true g, whenO_t, specAutoTakes_eq, Option.bind_some, bnd_eq, Bool.true_and]
        cases ht : autoTakes (TAuto.mk (a, c1).1.letters (a, c1).1.states (a, c1).1.start (a, c1).1.edges) (TWord.mk y z) with
        | true =>
          rw [Bool.not_true, whenO_f, Option.bind_some]
          simp only [Bool.false_and, cond_false]
          rw [if_neg (by simp)]
          exact .inl ⟨_, rfl, i1, i2, i3⟩
        | false =>
          rw [Bool.not_false, whenO_t, e3, Option.bind_some]
          simp only [Bool.true_and, cond_true]
          cases b1 with
          | true =>
            rw [if_neg (by simp)]
            exact .inl ⟨_, rfl, h3, i2, i3⟩
          | false =>
            obtain ⟨w', c4, e4, h4, s4, s5⟩ := wordRight_ok h3 (n := a.letters) (by omega)
            have wk : W (k + 1) = k + 1 := W_eq (by omega) (by omega)
            rw [if_pos (by simp), e4, Option.bind_some, wk]
            exact .inr ⟨_, rfl, ⟨h4, s4, s5, by dsimp only; omega, by dsimp only; omega⟩, by dsimp only; omega⟩
      · rw [decide_eq_false g, whenO_f, Option.bind_some, bnd_eq, Bool.false_and, whenO_f, Option.bind_some]
        simp only [Bool.false_and, cond_false]
        rw [if_neg (by simp)]
        exact .inl ⟨_, rfl, i1, i2, i3⟩) (s := (c2.b, c2.i, c2.h, w.stem, w.loop, 0)) ⟨h2, s2, s3, Int.le_refl 0, by dsimp only; omega⟩
    rw [er, Option.bind_some]
    obtain ⟨b, i, h, y, z⟩ := r
    dsimp only at r1 r2 r3 ⊢
    unfold spec_l6DrawTaken.k0 spec_l6DrawTaken.k1
    obtain ⟨b1, c3, e3, h3⟩ := once_ok r1 (n := 15) (by decide)
    rw [e3, Option.bind_some]
    split
    · obtain ⟨w', c4, e4, h4, s4, s5⟩ := drawWord_ok h3
      rw [e4, Option.bind_some]
      exact ⟨_, _, _, rfl, h4, l1, s4, s5⟩
    · exact ⟨_, _, _, rfl, h3, l1, by dsimp only; omega, by dsimp only; omega⟩
  · rw [Bool.eq_false_iff.mpr hok, if_pos (by rfl)]
    obtain ⟨w', c4, e4, h4, s4, s5⟩ := drawWord_ok h1
    rw [e4, Option.bind_some]
    exact ⟨_, _, _, rfl, h4, l1, s4, s5⟩
theorem drawAutoTakes_ok {bs : List Int} (h : bs.length ≤ 1048576) : ∃ a w, spec_DrawAutoTakes bs = some (a, w) ∧ a.edges.length ≤ 10001 ∧ w.stem.length ≤ 50 ∧ w.loop.length ≤ 50 := by
  unfold spec_DrawAutoTakes
  obtain ⟨c0, e0, h0⟩ := new_ok bs h
  obtain ⟨a, w, c1, e1, _, l1, l2, l3⟩ := drawTaken_ok h0 (s := 6) (by decide)
  rw [e0, Option.bind_some, e1, Option.bind_some]
  exact ⟨a, w, rfl, l1, l2, l3⟩
end Go.Proofs.Ytcmbbpdepobnlaa
end

/- A drawn automaton takes a word just if it does by the boxes of its stem and its loop. -/
section
namespace Go.Proofs.Ytcmbbpdepobnlaa
open Go Go.RowKit E Takes
set_option linter.unusedVariables false

theorem bx_len' {m : Nat} {x : List Int} (hm : 1 ≤ m ∧ m ≤ 4) (h : Bx m x) : x.length ≤ 16 := by
  rw [h.1]
  have : m = 1 ∨ m = 2 ∨ m = 3 ∨ m = 4 := by omega
  rcases this with rfl | rfl | rfl | rfl <;> decide
/-- By boxes the same is taken. -/
theorem takes_iff {a : TAuto} (hok : autoOk a = true) (h4 : 1 ≤ a.states ∧ a.states ≤ 4) {w : TWord} (hw : WOk w) : TakesB a.states.toNat a.start.toNat (wordL a.states.toNat a.edges w.stem) (wordL a.states.toNat a.edges w.loop) ↔ LiveW (genOf a) w := by
  have hA := autoOk_A hok
  have hst := hA.start
  have hg := genOk_W (genOf_ok hok) (by show a.states ≠ 0; omega)
  rw [live_turns hg rfl hw]
  have hpos : ∀ x ∈ w.stem, 0 ≤ x := fun x hx => by
    obtain ⟨i, hi, rfl⟩ := List.getElem_of_mem hx
    have := (hw.ls i hi).1
    simpa [hi] using this
  have stem : seqW w w.stem.length 0 = w.stem.map Int.toNat := by
    have := seq_stem hw w.stem.length 0 (by omega)
    rw [List.drop_zero] at this; exact this
  have hst0 : nxI w w.stem.length 0 = w.stem.length := by
    have := hw.one
    rw [nxI_in _ _ (by unfold plN; omega)]; omega
  constructor
  · rintro ⟨s, p, q, hs, hp, hq, hb, h1, h2, h3⟩
    refine ⟨s, p, q, hb, ?_, (turns hok h4.1 hw p q hp hq).1.mpr h2, ?_⟩
    · rw [stem]; exact (word_pth hok w.stem hpos s p hs hp).1.mp h1
    · obtain ⟨k, hk⟩ := (turns hok h4.1 hw q q hq hq).2.mpr h3
      rcases k with _ | k
      · rw [Nat.zero_mul] at hk; exact hk.elim
      · exact ⟨k, hk⟩
  · rintro ⟨s, p, q, hb, h1, ⟨k, h2⟩, k', h3⟩
    have hs : s < a.states.toNat := bit_lt' (k := a.states.toNat) (x := a.start.toNat) (by omega) hb
    have hp : p < a.states.toNat := (pth_rch hg _ _ s p hs h1).1
    have hq : q < a.states.toNat := (pth_rch hg _ _ p q hp h2).1
    refine ⟨s, p, q, hs, hp, hq, hb, ?_, (turns hok h4.1 hw p q hp hq).1.mp ⟨k, h2⟩, (turns hok h4.1 hw q q hq hq).2.mp ⟨k' + 1, h3⟩⟩
    rw [stem] at h1
    exact (word_pth hok w.stem hpos s p hs hp).1.mpr h1
theorem pureBoxWord (bs : List Int) (w : bs.length ≤ 9223372036854775807 ∧ ∀ q ∈ bs, (IntKind.u8.min ≤ q ∧ q ≤ IntKind.u8.max)) : laws_FnBoxWord bs = some true := by
  unfold laws_FnBoxWord
  by_cases hb : laws_big bs = true
  · rw [if_pos hb]
  have h : bs.length ≤ 1048576 := by unfold laws_big at hb; simp at hb; omega
  obtain ⟨a, v, e1, l1, l2, l3⟩ := drawAutoTakes_ok h
  rw [if_neg hb, e1, Option.bind_some]
  dsimp only
  rw [specAutoOk_eq, Option.bind_some, specWordOk_eq]
  simp only [bnd_eq]
  by_cases hc : autoOk a = true ∧ (1 ≤ a.states ∧ a.states ≤ 4) ∧ wordOk v a.letters = true
  · obtain ⟨hok, h4, hw⟩ := hc
    obtain ⟨hwo, hl8, hL1, hL2⟩ := wordOk_t hw
    have b1 : boxOf a v.stem = wordL a.states.toNat a.edges v.stem := by unfold boxOf; rw [if_pos ⟨h4, by have := hwo.stem; omega, hok, hL1⟩]
    have b2 : boxOf a v.loop = wordL a.states.toNat a.edges v.loop := by unfold boxOf; rw [if_pos ⟨h4, by have := hwo.loop; omega, hok, hL2⟩]
    have w1 := word_bx a.states.toNat a.edges v.stem
    have w2 := word_bx a.states.toNat a.edges v.loop
    have n1 := bx_len' (by omega) w1
    have n2 := bx_len' (by omega) w2
    rw [hok, decide_eq_false (show ¬ a.states < 1 by omega), decide_eq_false (show ¬ a.states > 4 by omega), hw]
    simp only [Bool.not_true, Bool.or_self, Bool.not_false, whenO_t, Option.bind_some, Bool.false_eq_true, if_false]
    rw [implBoxOf_eq a _ (by omega), Option.bind_some, implBoxOf_eq a _ (by omega), Option.bind_some, b1, b2, implBoxTakes_eq a _ _ (by omega) (by omega), Option.bind_some, specAutoTakes_eq, Option.bind_some]
    have o1 : boxOk a.states (wordL a.states.toNat a.edges v.stem) = true := by unfold boxOk; rw [decide_eq_true_eq]; exact ⟨h4.1, h4.2, w1⟩
    have o2 : boxOk a.states (wordL a.states.toNat a.edges v.loop) = true := by unfold boxOk; rw [decide_eq_true_eq]; exact ⟨h4.1, h4.2, w2⟩
    unfold boxTakes autoTakes
    rw [hok, o1, o2, hw, decide_eq_true (show a.states ≠ 0 by omega), propext (takes_iff hok h4 hwo)]
    simp
  · have hz : boxTakes a [] [] = false := by
      unfold boxTakes
      have : boxOk a.states [] = false := by
        unfold boxOk
        rw [decide_eq_false]
        rintro ⟨h1, h2, h3⟩
        have := h3.1
        have hm : a.states.toNat = 1 ∨ a.states.toNat = 2 ∨ a.states.toNat = 3 ∨ a.states.toNat = 4 := by omega
        rcases hm with e | e | e | e <;> rw [e] at this <;> exact absurd this (by decide)
      rw [this, Bool.false_and, Bool.and_false]
    have hfin : ((impl_BoxTakes a [] []).bind fun a35 => some (!a35)) = some true := by
      rw [implBoxTakes_eq a [] [] (by simp) (by simp), Option.bind_some, hz]; rfl
    by_cases hok : autoOk a = true
    · by_cases h4 : 1 ≤ a.states ∧ a.states ≤ 4
      · have hw : wordOk v a.letters = false := Bool.eq_false_iff.mpr fun k => hc ⟨hok, h4, k⟩
        rw [hok, decide_eq_false (show ¬ a.states < 1 by omega), decide_eq_false (show ¬ a.states > 4 by omega), hw]
        simp only [Bool.not_true, Bool.or_self, Bool.not_false, whenO_t, Option.bind_some, Bool.false_or, if_true]
        exact hfin
      · have hx : (decide (a.states < 1) || decide (a.states > 4)) = true := by simp; omega
        rw [hok, Bool.not_true, Bool.false_or, hx]
        simp only [Bool.not_true, whenO_f, Option.bind_some, Bool.true_or, if_true]
        exact hfin
    · rw [Bool.eq_false_iff.mpr hok]
      simp only [Bool.not_false, Bool.true_or, Bool.not_true, whenO_f, Option.bind_some, if_true]
      exact hfin
end Go.Proofs.Ytcmbbpdepobnlaa
end
