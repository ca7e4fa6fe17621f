/- Steps, marked or not, put together: what a few rounds reach is what all rounds reach. -/
import Derived.Test.YtcmbbpdepobnlaaQ1
namespace Go.Proofs.Ytcmbbpdepobnlaa.Takes
abbrev R := Nat → Nat → Prop
def comp (n : Nat) (X Y : R) : R := fun p q => ∃ r, r < n ∧ X p r ∧ Y r q
def PP (n : Nat) (A : R) : Nat → R
  | 0 => A
  | k + 1 => fun p q => PP n A k p q ∨ comp n (PP n A k) A p q
def TT (n : Nat) (A B : R) : Nat → R
  | 0 => B
  | k + 1 => fun p q => TT n A B k p q ∨ comp n (TT n A B k) A p q ∨ comp n (PP n A k) B p q
section
variable {n : Nat} {A B : R}
theorem P_mono {k j : Nat} (h : k ≤ j) {p q : Nat} (g : PP n A k p q) : PP n A j p q := by
  induction h with
  | refl => exact g
  | step _ ih => exact .inl ih
theorem T_mono {k j : Nat} (h : k ≤ j) {p q : Nat} (g : TT n A B k p q) : TT n A B j p q := by
  induction h with
  | refl => exact g
  | step _ ih => exact .inl ih
theorem P_comp (i : Nat) : ∀ (j : Nat) {p q : Nat}, comp n (PP n A i) (PP n A j) p q → PP n A (i + j + 1) p q
  | 0, p, q, h => .inr h
  | j + 1, p, q, ⟨r, hr, h1, h2⟩ => by
    rcases h2 with h2 | ⟨s, hs, h2, h3⟩
    · exact .inl (P_comp i j ⟨r, hr, h1, h2⟩)
    · exact .inr ⟨s, hs, P_comp i j ⟨r, hr, h1, h2⟩, h3⟩
theorem T_compP (i : Nat) : ∀ (j : Nat) {p q : Nat}, comp n (TT n A B i) (PP n A j) p q → TT n A B (i + j + 1) p q
  | 0, p, q, h => .inr (.inl h)
  | j + 1, p, q, ⟨r, hr, h1, h2⟩ => by
    rcases h2 with h2 | ⟨s, hs, h2, h3⟩
    · exact .inl (T_compP i j ⟨r, hr, h1, h2⟩)
    · exact .inr (.inl ⟨s, hs, T_compP i j ⟨r, hr, h1, h2⟩, h3⟩)
theorem P_compT (i : Nat) : ∀ (j : Nat) {p q : Nat}, comp n (PP n A i) (TT n A B j) p q → TT n A B (i + j + 1) p q
  | 0, p, q, h => .inr (.inr h)
  | j + 1, p, q, ⟨r, hr, h1, h2⟩ => by
    rcases h2 with h2 | ⟨s, hs, h2, h3⟩ | ⟨s, hs, h2, h3⟩
    · exact .inl (P_compT i j ⟨r, hr, h1, h2⟩)
    · exact .inr (.inl ⟨s, hs, P_compT i j ⟨r, hr, h1, h2⟩, h3⟩)
    · exact .inr (.inr ⟨s, hs, P_comp i j ⟨r, hr, h1, h2⟩, h3⟩)
/-- A marked way is a way, a marked step, and a way. -/
theorem T_split : ∀ (j : Nat) {p q : Nat}, q < n → TT n A B j p q → ∃ u v, (u = p ∨ u < n ∧ PP n A j p u) ∧ B u v ∧ v < n ∧ (v = q ∨ PP n A j v q)
  | 0, p, q, hq, h => ⟨p, q, .inl rfl, h, hq, .inl rfl⟩
  | j + 1, p, q, hq, h => by
    rcases h with h | ⟨r, hr, h1, h2⟩ | ⟨r, hr, h1, h2⟩
    · obtain ⟨u, v, g1, g2, gv, g3⟩ := T_split j hq h
      exact ⟨u, v, g1.imp id (fun x => ⟨x.1, .inl x.2⟩), g2, gv, g3.imp id .inl⟩
    · obtain ⟨u, v, g1, g2, gv, g3⟩ := T_split j hr h1
      refine ⟨u, v, g1.imp id (fun x => ⟨x.1, .inl x.2⟩), g2, gv, .inr ?_⟩
      rcases g3 with rfl | g3
      · exact P_mono (Nat.zero_le (j + 1)) h2
      · exact .inr ⟨r, hr, g3, h2⟩
    · exact ⟨r, q, .inr ⟨hr, .inl h1⟩, h2, hq, .inl rfl⟩

/-- A row that grows no more never grows again. -/
theorem row_still {p k : Nat} (h : ∀ q, q < n → PP n A (k + 1) p q → PP n A k p q) : ∀ j, ∀ q, q < n → PP n A (k + j) p q → PP n A k p q
  | 0, q, _, g => g
  | j + 1, q, hq, g => by
    rcases g with g | ⟨r, hr, g1, g2⟩
    · exact row_still h j q hq g
    · exact h q hq (.inr ⟨r, hr, row_still h j r hr g1, g2⟩)
open Classical in
noncomputable def size (n : Nat) (A : R) (k p : Nat) : Nat := (List.range n).countP fun q => decide (PP n A k p q)
theorem count_le {l : List Nat} {a b : Nat → Bool} (h : ∀ x ∈ l, a x = true → b x = true) : l.countP a ≤ l.countP b := List.countP_mono_left h
theorem count_eq : ∀ {l : List Nat} {a b : Nat → Bool}, (∀ x ∈ l, a x = true → b x = true) → l.countP b ≤ l.countP a → ∀ x ∈ l, b x = true → a x = true
  | [], _, _, _, _, x, hx, _ => by simp at hx
  | y :: l, a, b, h, hc, x, hx, hb => by
    have ih := count_eq (l := l) (a := a) (b := b) fun z hz => h z (List.mem_cons_of_mem _ hz)
    have hle := count_le (l := l) (a := a) (b := b) fun z hz => h z (List.mem_cons_of_mem _ hz)
    rw [List.countP_cons, List.countP_cons] at hc
    have hy := h y List.mem_cons_self
    cases ha : a y with
    | true =>
      rw [ha, hy ha] at hc
      rcases List.mem_cons.mp hx with rfl | hx
      · exact ha
      · exact ih (by simp at hc; omega) x hx hb
    | false =>
      rw [ha] at hc
      cases hby : b y with
      | true => rw [hby] at hc; simp at hc; omega
      | false =>
        rw [hby] at hc
        rcases List.mem_cons.mp hx with rfl | hx
        · rw [hby] at hb; cases hb
        · exact ih (by simp at hc; omega) x hx hb
theorem size_lt {k p : Nat} (h : ¬ ∀ q, q < n → PP n A (k + 1) p q → PP n A k p q) : size n A k p < size n A (k + 1) p := by
  classical
  refine Nat.lt_of_not_le fun hc => h fun q hq g => ?_
  have := count_eq (l := List.range n) (a := fun q => decide (PP n A k p q)) (b := fun q => decide (PP n A (k + 1) p q))
    (fun x _ hx => by simp only [decide_eq_true_eq] at hx ⊢; exact .inl hx) hc q (List.mem_range.mpr hq) (by simpa using g)
  simpa using this
theorem size_le (k p : Nat) : size n A k p ≤ n := by
  unfold size
  exact Nat.le_trans List.countP_le_length (by simp)
theorem size_grow {p : Nat} : ∀ (k : Nat), (∀ i, i < k → ¬ ∀ q, q < n → PP n A (i + 1) p q → PP n A i p q) → size n A 0 p + k ≤ size n A k p
  | 0, _ => Nat.le_refl _
  | k + 1, h => by
    have := size_grow k fun i hi => h i (by omega)
    have := size_lt (h k (by omega))
    omega
/-- All that is reached is reached in n - 1 more steps. -/
theorem reach {p q j : Nat} (hq : q < n) (h : PP n A j p q) : PP n A (n - 1) p q := by
  classical
  by_cases hs : ∃ i, i < n ∧ ∀ q, q < n → PP n A (i + 1) p q → PP n A i p q
  · obtain ⟨i, hi, hs⟩ := hs
    have : PP n A i p q := by
      by_cases hj : j ≤ i
      · exact P_mono hj h
      · have := row_still hs (j - i) q hq
        rw [show i + (j - i) = j by omega] at this
        exact this h
    exact P_mono (by omega) this
  · have hg := size_grow (n := n) (A := A) (p := p) n fun i hi k => hs ⟨i, hi, k⟩
    have hl := size_le (n := n) (A := A) n p
    have h0 : size n A 0 p = 0 := by omega
    -- nothing at all is reached
    have none : ∀ j, ∀ q, q < n → ¬ PP n A j p q := by
      intro j
      induction j with
      | zero =>
        intro q hq g
        unfold size at h0
        rw [List.countP_eq_zero] at h0
        exact h0 q (List.mem_range.mpr hq) (by simpa using g)
      | succ j ih =>
        intro q hq g
        rcases g with g | ⟨r, hr, g1, _⟩
        · exact ih q hq g
        · exact ih r hr g1
    exact absurd h (none j q hq)

/-- Where nothing changes any more, nothing ever changes. -/
theorem still {K : Nat} (hP : ∀ p q, p < n → q < n → PP n A (K + 1) p q → PP n A K p q) (hT : ∀ p q, p < n → q < n → TT n A B (K + 1) p q → TT n A B K p q) :
    ∀ j p q, p < n → q < n → (PP n A j p q → PP n A K p q) ∧ (TT n A B j p q → TT n A B K p q) := by
  have P : ∀ j p q, p < n → q < n → PP n A j p q → PP n A K p q := by
    intro j p q hp hq h
    by_cases hj : j ≤ K
    · exact P_mono hj h
    · have := row_still (fun q hq => hP p q hp hq) (j - K) q hq
      rw [show K + (j - K) = j by omega] at this
      exact this h
  have T : ∀ j p q, p < n → q < n → TT n A B j p q → TT n A B K p q := by
    intro j
    induction j with
    | zero => intro p q _ _ h; exact T_mono (Nat.zero_le _) h
    | succ j ih =>
      intro p q hp hq h
      rcases h with h | ⟨r, hr, h1, h2⟩ | ⟨r, hr, h1, h2⟩
      · exact ih p q hp hq h
      · exact hT p q hp hq (.inr (.inl ⟨r, hr, ih p r hp hr h1, h2⟩))
      · exact hT p q hp hq (.inr (.inr ⟨r, hr, P j p r hp hr h1, h2⟩))
  exact fun j p q hp hq => ⟨P j p q hp hq, T j p q hp hq⟩

/-- The reference's loops: the table of n rounds, put behind itself twice. -/
def LP (n : Nat) (A : R) : R := fun p q => PP n A n p q ∨ comp n (PP n A n) (PP n A n) p q
def LT1 (n : Nat) (A B : R) : R := fun p q => TT n A B n p q ∨ comp n (TT n A B n) (PP n A n) p q ∨ comp n (PP n A n) (TT n A B n) p q
def LT2 (n : Nat) (A B : R) : R := fun p q => LT1 n A B p q ∨ comp n (LT1 n A B) (PP n A n) p q ∨ comp n (LP n A) (TT n A B n) p q
theorem LP_sound {p q : Nat} (h : LP n A p q) : PP n A (n + n + 1) p q := by
  rcases h with h | h
  · exact P_mono (by omega) h
  · exact P_comp n n h
theorem LT1_sound {p q : Nat} (h : LT1 n A B p q) : TT n A B (n + n + 1) p q := by
  rcases h with h | h | h
  · exact T_mono (by omega) h
  · exact T_compP n n h
  · exact P_compT n n h
theorem LT2_sound {p q : Nat} (h : LT2 n A B p q) : TT n A B (n + n + 1 + n + 1) p q := by
  rcases h with h | ⟨r, hr, h1, h2⟩ | ⟨r, hr, h1, h2⟩
  · exact T_mono (by omega) (LT1_sound h)
  · exact T_compP _ n ⟨r, hr, LT1_sound h1, h2⟩
  · exact P_compT _ n ⟨r, hr, LP_sound h1, h2⟩
theorem reach_iff {K : Nat} (hP : ∀ p q, p < n → q < n → PP n A (K + 1) p q → PP n A K p q) (hT : ∀ p q, p < n → q < n → TT n A B (K + 1) p q → TT n A B K p q) {p q : Nat} (hp : p < n) (hq : q < n) : PP n A K p q ↔ PP n A n p q :=
  ⟨fun h => P_mono (by omega) (reach hq h), fun h => (still hP hT n p q hp hq).1 h⟩
theorem loop_iff {K : Nat} (hP : ∀ p q, p < n → q < n → PP n A (K + 1) p q → PP n A K p q) (hT : ∀ p q, p < n → q < n → TT n A B (K + 1) p q → TT n A B K p q) {q : Nat} (hq : q < n) : TT n A B K q q ↔ LT2 n A B q q := by
  constructor
  · intro h
    obtain ⟨u, v, g1, g2, gv, g3⟩ := T_split K hq h
    have h1 : TT n A B n q v := by
      rcases g1 with rfl | ⟨hu, g1⟩
      · exact T_mono (Nat.zero_le _) g2
      · have := reach hu g1
        have k : TT n A B (n - 1 + 1) q v := .inr (.inr ⟨u, hu, this, g2⟩)
        rw [show n - 1 + 1 = n by omega] at k
        exact k
    rcases g3 with rfl | g3
    · exact .inl (.inl h1)
    · exact .inl (.inr (.inl ⟨v, gv, h1, P_mono (by omega) (reach hq g3)⟩))
  · intro h
    exact (still hP hT _ q q hq hq).2 (LT2_sound h)
end
end Go.Proofs.Ytcmbbpdepobnlaa.Takes
