/- Both sides read a formula alike. -/
import Derived.Test.YtgklefbkneomoaaDLtlParse
import Derived.Test.YtgklefbkneomoaaPNode
import Derived.Test.YtgklefbkneomoaaPReader
import Derived.Test.YtgklefbkneomoaaPMark
namespace Go.Proofs.Ytgklefbkneomoaa
open Go Go.RowKit E
set_option linter.unusedVariables false

theorem digit_test {α : Type} {s : ByteArray} {i : Nat} (h : i < s.size) (n : Int) (A B : Option α) : ((whenO (decide (bt s i ≥ 48)) (ixs s (i : Int))).bind fun a => if (decide (bt s i ≥ 48) && decide (IntKind.i64.wrap a < n)) = true then A else B) = if 48 ≤ bt s i ∧ bt s i < n then A else B := by
  have hb := bt_lt s i
  by_cases c : bt s i ≥ 48
  · rw [decide_eq_true c, whenO_t, ixs_bt h, Option.bind_some, byte_i64 hb, Bool.true_and]
    by_cases d : bt s i < n
    · rw [decide_eq_true d, if_pos rfl, if_pos ⟨c, d⟩]
    · rw [decide_eq_false d, if_neg (by simp), if_neg (fun g => d g.2)]
  · rw [decide_eq_false c, whenO_f, Option.bind_some, Bool.false_and, if_neg (by simp), if_neg (fun g => c g.1)]
def AtomAt (s : ByteArray) (d : Nat) : Prop := ∀ j : Nat, j ≤ s.size → s.size - j ≤ d → ∀ K K' : Nat, 5 * (s.size - j) + 1 ≤ K → 5 * (s.size - j) + 1 ≤ K' → Sim s j (fun l => spec_l8Atom K s (j : Int) l) (impl_ltlAtom K')
theorem read3 {s : ByteArray} {d : Nat} (h : AtomAt s d) {j : Nat} (hj : j ≤ s.size) (hd : s.size - j ≤ d) {K K' : Nat} (hK : 5 * (s.size - j) + 2 ≤ K) (hK' : 5 * (s.size - j) + 1 ≤ K') : Sim s j (fun l => spec_l8Read K s (j : Int) 3 l) (impl_ltlAtom K') := fun l hl => by
  obtain ⟨K, rfl⟩ : ∃ k, K = k + 1 := ⟨K - 1, by omega⟩
  obtain ⟨o, t, f1, g1, r⟩ := h j hj hd K K' (by omega) hK' l hl
  refine ⟨o, t, ?_, g1, r⟩
  show spec_l8Read.body (spec_l8Read K) (spec_l8Atom K) s (j : Int) 3 l = _
  unfold spec_l8Read.body
  have f1 : spec_l8Atom K s (j : Int) l = some o := f1
  rw [if_neg (by decide), if_pos rfl, f1]; rfl
theorem Good.back {s : ByteArray} {i j n m : Nat} {o : RdO} {t : Treader} (h : Good s j m o t) (hij : i ≤ j) (hn : m + i ≤ n + j) : Good s i n o t := by
  obtain ⟨j', l, e1, e2, e3, e4, e5, e6⟩ := h
  exact ⟨j', l, e1, e2, by omega, e4, e5, by omega⟩
theorem kind2 (b : Int) : spec_l8Kind b 2 = if b = 85 then 8 else if b = 82 then 9 else 0 := by
  unfold spec_l8Kind; rw [if_neg (by decide)]
theorem kind1 (b : Int) : spec_l8Kind b 1 = if b = 33 then 4 else if b = 88 then 7 else if b = 70 then 10 else if b = 71 then 11 else 0 := by
  unfold spec_l8Kind; rw [if_pos rfl]
theorem read2 {s : ByteArray} (hs : s.size ≤ 200) {d : Nat} (h : AtomAt s d) : ∀ (e j : Nat), s.size - j ≤ e → j ≤ s.size → s.size - j ≤ d → ∀ K K' : Nat, 5 * (s.size - j) + 3 ≤ K → 5 * (s.size - j) + 3 ≤ K' → Sim s j (fun l => spec_l8Read K s (j : Int) 2 l) (impl_ltlTerm K') := by
  intro e
  induction e with
  | zero =>
    intro j he hj hd K K' hK hK' l hl
    obtain ⟨K, rfl⟩ : ∃ k, K = k + 1 := ⟨K - 1, by omega⟩
    obtain ⟨K', rfl⟩ : ∃ k, K' = k + 1 := ⟨K' - 1, by omega⟩
    obtain ⟨o1, t1, f1, g1, j1, l1, e1, e2, e3, e4, e5, e6⟩ := read3 h hj hd (K := K) (K' := K') (by omega) (by omega) l hl
    subst e1
    have f1 : spec_l8Read K s (j : Int) 3 l = some o1 := f1
    show ∃ o t, spec_l8Read.body (spec_l8Read K) (spec_l8Atom K) s (j : Int) 2 l = some o ∧ impl_ltlTerm.body (impl_ltlSum K') (impl_ltlProduct K') (impl_ltlTerm K') (impl_ltlAtom K') ⟨s, (j : Int), 0, l⟩ = some t ∧ _
    unfold spec_l8Read.body impl_ltlTerm.body
    dsimp only
    rw [if_pos rfl, f1, g1]
    simp only [Option.bind_some, bnd_eq]
    by_cases c : o1.2.2 = 0
    · rw [c] at g1 ⊢
      rw [decide_eq_false (by simp : ¬ ((0 : Int) ≠ 0)), Bool.false_or, e2]
      by_cases hj1 : j1 < s.size
      · rw [decide_eq_false (by omega : ¬ ((j1 : Int) ≥ s.size)), Bool.not_false, whenO_t, ixs_bt hj1]
        simp only [Option.bind_some, kind2]
        exact absurd hj1 (by omega)
      · rw [decide_eq_true (by omega : (j1 : Int) ≥ s.size), Bool.not_true, whenO_f]
        simp only [Option.bind_some]
        rw [if_pos (by simp), skip_end (by omega)]
        simp only [Option.bind_some]
        rw [if_neg (by simp), skip_end (by omega)]
        simp only [Option.bind_some]
        rw [if_neg (by simp)]
        exact ⟨_, _, rfl, rfl, j1, l1, rfl, rfl, e3, e4, fun _ => e5 c, e6⟩
    · rw [decide_eq_true c, Bool.true_or, Bool.not_true, whenO_f]
      simp only [Option.bind_some]
      rw [if_pos (by simp), skip_err c]
      simp only [Option.bind_some]
      rw [if_neg (by simp), skip_err c]
      simp only [Option.bind_some]
      rw [if_neg (by simp)]
      exact ⟨_, _, rfl, rfl, j1, l1, rfl, e2, e3, e4, e5, e6⟩
  | succ e ih =>
    intro j he hj hd K K' hK hK' l hl
    obtain ⟨K, rfl⟩ : ∃ k, K = k + 1 := ⟨K - 1, by omega⟩
    obtain ⟨K', rfl⟩ : ∃ k, K' = k + 1 := ⟨K' - 1, by omega⟩
    obtain ⟨o1, t1, f1, g1, j1, l1, e1, e2, e3, e4, e5, e6⟩ := read3 h hj hd (K := K) (K' := K') (by omega) (by omega) l hl
    subst e1
    have f1 : spec_l8Read K s (j : Int) 3 l = some o1 := f1
    show ∃ o t, spec_l8Read.body (spec_l8Read K) (spec_l8Atom K) s (j : Int) 2 l = some o ∧ impl_ltlTerm.body (impl_ltlSum K') (impl_ltlProduct K') (impl_ltlTerm K') (impl_ltlAtom K') ⟨s, (j : Int), 0, l⟩ = some t ∧ _
    unfold spec_l8Read.body impl_ltlTerm.body
    dsimp only
    rw [if_pos rfl, f1, g1]
    simp only [Option.bind_some, bnd_eq]
    by_cases c : o1.2.2 = 0
    · rw [c] at g1 ⊢
      rw [decide_eq_false (by simp : ¬ ((0 : Int) ≠ 0)), Bool.false_or, e2]
      by_cases hj1 : j1 < s.size
      · rw [decide_eq_false (by omega : ¬ ((j1 : Int) ≥ s.size)), Bool.not_false, whenO_t, ixs_bt hj1]
        simp only [Option.bind_some, kind2]
        have e5' := e5 c
        subst e5'
        have recT : ∀ κ : Int, ∃ o t, ((spec_l8Read K s (W ((j1 : Int) + 1)) 2 o1.1).bind fun a63 => if a63.2.2 = 0 then (app 24 a63.1 [TNode.mk κ (W ((o1.1.length : Int) - 1)) (W ((a63.1.length : Int) - 1))]).bind fun z77 => some (z77, a63.2.1, a63.2.2) else some (a63.1, a63.2.1, a63.2.2)) = some o ∧ impl_ltlTerm.k0 (impl_ltlTerm K') ⟨s, (j1 : Int), 0, o1.1⟩ s ((j1 + 1 : Nat) : Int) 0 o1.1 κ = some t ∧ Good s j l.length o t := fun κ => by
          obtain ⟨o2, t2, f2, g2, j2, l2, d1, d2, d3, d4, d5, d6⟩ := ih (j1 + 1) (by omega) (by omega) (by omega) K K' (by omega) (by omega) o1.1 (by omega)
          subst d1
          have f2 : spec_l8Read K s ((j1 + 1 : Nat) : Int) 2 o1.1 = some o2 := f2
          unfold impl_ltlTerm.k0
          rw [WS (by omega), f2, g2]
          simp only [Option.bind_some]
          rw [two_eq (by omega)]
          simp only [Option.bind_some]
          by_cases c2 : o2.2.2 = 0
          · rw [if_pos c2, ← d5 c2, app_small (by simp; omega) (by omega)]
            exact ⟨_, _, rfl, rfl, j2, _, rfl, d2, by omega, d4, fun _ => rfl, by simp; omega⟩
          · rw [if_neg c2]
            exact ⟨_, _, rfl, rfl, j2, _, rfl, d2, by omega, d4, fun x => absurd x c2, by simp; omega⟩
        by_cases h85 : bt s j1 = 85
        · rw [if_pos h85, if_neg (by simp), skip_yes hj1 (by omega) h85]
          simp only [Option.bind_some]
          rw [if_pos (by simp)]
          exact recT 8
        · rw [if_neg h85, skip_no hj1 h85]
          simp only [Option.bind_some]
          rw [if_neg (by simp : ¬ (false = true))]
          by_cases h82 : bt s j1 = 82
          · rw [if_pos h82, if_neg (by simp), skip_yes hj1 (by omega) h82]
            simp only [Option.bind_some]
            rw [if_pos (by simp)]
            exact recT 9
          · rw [if_neg h82, if_pos (by simp), skip_no hj1 h82]
            simp only [Option.bind_some]
            rw [if_neg (by simp)]
            exact ⟨_, _, rfl, rfl, j1, o1.1, rfl, rfl, e3, e4, fun _ => rfl, e6⟩
      · rw [decide_eq_true (by omega : (j1 : Int) ≥ s.size), Bool.not_true, whenO_f]
        simp only [Option.bind_some]
        rw [if_pos (by simp), skip_end (by omega)]
        simp only [Option.bind_some]
        rw [if_neg (by simp), skip_end (by omega)]
        simp only [Option.bind_some]
        rw [if_neg (by simp)]
        exact ⟨_, _, rfl, rfl, j1, l1, rfl, rfl, e3, e4, fun _ => e5 c, e6⟩
    · rw [decide_eq_true c, Bool.true_or, Bool.not_true, whenO_f]
      simp only [Option.bind_some]
      rw [if_pos (by simp), skip_err c]
      simp only [Option.bind_some]
      rw [if_neg (by simp), skip_err c]
      simp only [Option.bind_some]
      rw [if_neg (by simp)]
      exact ⟨_, _, rfl, rfl, j1, l1, rfl, e2, e3, e4, e5, e6⟩
theorem k0_id (x : Option RdO) : (x.bind fun q => spec_l8Read.k0 q.1 q.2.1 q.2.2) = x := by cases x <;> rfl
theorem rd_id (x : Option Treader) : (x.bind fun a => some (Treader.mk a.s a.at_ a.code a.list)) = x := by cases x <;> rfl
theorem read1 {s : ByteArray} (hs : s.size ≤ 200) {d : Nat} (h : AtomAt s d) {j : Nat} (hj : j ≤ s.size) (hd : s.size - j ≤ d) {K K' : Nat} (hK : 5 * (s.size - j) + 4 ≤ K) (hK' : 5 * (s.size - j) + 4 ≤ K') : Sim s j (fun l => spec_l8Read K s (j : Int) 1 l) (impl_ltlProduct K') := by
  obtain ⟨K, rfl⟩ : ∃ k, K = k + 1 := ⟨K - 1, by omega⟩
  obtain ⟨K', rfl⟩ : ∃ k, K' = k + 1 := ⟨K' - 1, by omega⟩
  have hr := row_sim (by omega) 38 5 (fun p l => spec_l8Read K s p (W (1 + 1)) l) (impl_ltlTerm K') j hj fun i h1 h2 => by
    have e : W (1 + 1) = 2 := by decide
    rw [e]; exact read2 hs h (s.size - i) i (Nat.le_refl _) h2 (by omega) K K' (by omega) (by omega)
  intro l hl
  obtain ⟨o, t, f1, g1, r⟩ := hr l hl
  refine ⟨o, t, ?_, ?_, r⟩
  · show spec_l8Read.body (spec_l8Read K) (spec_l8Atom K) s (j : Int) 1 l = _
    unfold spec_l8Read.body
    rw [if_neg (by decide), if_neg (by decide), show ix ([124, 38] : List Int) 1 = some 38 from rfl, Option.bind_some, show ix ([6, 5] : List Int) 1 = some 5 from rfl, Option.bind_some]
    simp only [k0_id]
    exact f1
  · show impl_ltlProduct.body (impl_ltlSum K') (impl_ltlProduct K') (impl_ltlTerm K') (impl_ltlAtom K') ⟨s, (j : Int), 0, l⟩ = _
    unfold impl_ltlProduct.body
    rw [rd_id]; exact g1
theorem read0 {s : ByteArray} (hs : s.size ≤ 200) {d : Nat} (h : AtomAt s d) {j : Nat} (hj : j ≤ s.size) (hd : s.size - j ≤ d) {K K' : Nat} (hK : 5 * (s.size - j) + 5 ≤ K) (hK' : 5 * (s.size - j) + 5 ≤ K') : Sim s j (fun l => spec_l8Read K s (j : Int) 0 l) (impl_ltlSum K') := by
  obtain ⟨K, rfl⟩ : ∃ k, K = k + 1 := ⟨K - 1, by omega⟩
  obtain ⟨K', rfl⟩ : ∃ k, K' = k + 1 := ⟨K' - 1, by omega⟩
  have hr := row_sim (by omega) 124 6 (fun p l => spec_l8Read K s p (W (0 + 1)) l) (impl_ltlProduct K') j hj fun i h1 h2 => by
    have e : W (0 + 1) = 1 := by decide
    rw [e]; exact read1 hs h h2 (by omega) (by omega) (by omega)
  intro l hl
  obtain ⟨o, t, f1, g1, r⟩ := hr l hl
  refine ⟨o, t, ?_, ?_, r⟩
  · show spec_l8Read.body (spec_l8Read K) (spec_l8Atom K) s (j : Int) 0 l = _
    unfold spec_l8Read.body
    rw [if_neg (by decide), if_neg (by decide), show ix ([124, 38] : List Int) 0 = some 124 from rfl, Option.bind_some, show ix ([6, 5] : List Int) 0 = some 6 from rfl, Option.bind_some]
    simp only [k0_id]
    exact f1
  · show impl_ltlSum.body (impl_ltlSum K') (impl_ltlProduct K') (impl_ltlTerm K') (impl_ltlAtom K') ⟨s, (j : Int), 0, l⟩ = _
    unfold impl_ltlSum.body
    rw [rd_id]; exact g1
theorem atom_end {s : ByteArray} (hs : s.size ≤ 200) {K K' : Nat} (hK : 1 ≤ K) (hK' : 1 ≤ K') : Sim s s.size (fun l => spec_l8Atom K s (s.size : Int) l) (impl_ltlAtom K') := fun l hl => by
  obtain ⟨K, rfl⟩ : ∃ k, K = k + 1 := ⟨K - 1, by omega⟩
  obtain ⟨K', rfl⟩ : ∃ k, K' = k + 1 := ⟨K' - 1, by omega⟩
  refine ⟨(l, (s.size : Int), 2), ⟨s, (s.size : Int), 2, l⟩, ?_, ?_, s.size, l, rfl, rfl, Nat.le_refl _, Nat.le_refl _, fun _ => rfl, Nat.le_refl _⟩
  · show spec_l8Atom.body (spec_l8Read K) (spec_l8Atom K) s (s.size : Int) l = _
    unfold spec_l8Atom.body
    rw [if_pos (by omega)]
  · show impl_ltlAtom.body (impl_ltlSum K') (impl_ltlProduct K') (impl_ltlTerm K') (impl_ltlAtom K') ⟨s, (s.size : Int), 0, l⟩ = _
    unfold impl_ltlAtom.body impl_plainAtom
    dsimp only
    rw [skip_end (by omega), Option.bind_some, if_neg (by simp)]
    dsimp only
    rw [skip_end (by omega), Option.bind_some, if_neg (by simp)]
    dsimp only
    rw [skip_end (by omega), Option.bind_some, if_neg (by simp)]
    dsimp only
    rw [skip_end (by omega), Option.bind_some, if_neg (by simp)]
    dsimp only
    rw [peek_end (by omega), Option.bind_some, skip_end (by omega), Option.bind_some, if_neg (by simp)]
    dsimp only
    rw [skip_end (by omega), Option.bind_some, if_neg (by simp)]
    dsimp only
    rw [skip_end (by omega), Option.bind_some, if_neg (by simp), bnd_eq, if_neg (by simp)]
    dsimp only
    rw [fail_end (by omega)]; rfl
theorem atom_all {s : ByteArray} (hs : s.size ≤ 200) : ∀ d, AtomAt s d
  | 0 => fun j hj hd K K' hK hK' => by
    obtain rfl : j = s.size := by omega
    exact atom_end hs (by omega) (by omega)
  | d + 1 => fun j hj hd K K' hK hK' => by
    have ih := atom_all hs d
    by_cases hjs : j = s.size
    · subst hjs; exact atom_end hs (by omega) (by omega)
    have hj : j < s.size := by omega
    intro l hl
    obtain ⟨K, rfl⟩ : ∃ k, K = k + 1 := ⟨K - 1, by omega⟩
    obtain ⟨K', rfl⟩ : ∃ k, K' = k + 1 := ⟨K' - 1, by omega⟩
    have hb := bt_lt s j
    show ∃ o t, spec_l8Atom.body (spec_l8Read K) (spec_l8Atom K) s (j : Int) l = some o ∧ impl_ltlAtom.body (impl_ltlSum K') (impl_ltlProduct K') (impl_ltlTerm K') (impl_ltlAtom K') ⟨s, (j : Int), 0, l⟩ = some t ∧ _
    have leafK : ∀ x : TNode, Good s j l.length (l ++ [x], ((j + 1 : Nat) : Int), 0) ⟨s, ((j + 1 : Nat) : Int), 0, l ++ [x]⟩ := fun x =>
      ⟨j + 1, l ++ [x], rfl, rfl, by omega, by omega, fun _ => rfl, by simp; omega⟩
    unfold spec_l8Atom.body impl_ltlAtom.body impl_plainAtom
    dsimp only
    simp only [bnd_eq]
    rw [if_neg (by omega), ixs_bt hj]
    simp only [Option.bind_some]
    have pre : ∀ κ : Int, ∃ o t, ((spec_l8Atom K s (W ((j : Int) + 1)) l).bind fun a78 => if a78.2.2 = 0 then (app 24 a78.1 [TNode.mk κ (W ((a78.1.length : Int) - 1)) 0]).bind fun z94 => some (z94, a78.2.1, a78.2.2) else some (a78.1, a78.2.1, a78.2.2)) = some o ∧ impl_ltlAtom.k0 (impl_ltlAtom K') s ((j + 1 : Nat) : Int) 0 l κ = some t ∧ Good s j l.length o t := fun κ => by
      obtain ⟨o1, t1, f1, g1, j1, l1, e1, e2, e3, e4, e5, e6⟩ := ih (j + 1) (by omega) (by omega) K K' (by omega) (by omega) l (by omega)
      subst e1
      have f1 : spec_l8Atom K s ((j + 1 : Nat) : Int) l = some o1 := f1
      unfold impl_ltlAtom.k0
      rw [WS (by omega), f1, g1]
      simp only [Option.bind_some]
      rw [one_eq (by omega)]
      simp only [Option.bind_some]
      by_cases c : o1.2.2 = 0
      · rw [if_pos c, ← e5 c, app_small (by simp; omega) (by omega)]
        exact ⟨_, _, rfl, rfl, j1, _, rfl, e2, by omega, e4, fun _ => rfl, by simp; omega⟩
      · rw [if_neg c]
        exact ⟨_, _, rfl, rfl, j1, _, rfl, e2, by omega, e4, fun x => absurd x c, by simp; omega⟩
    by_cases h33 : bt s j = 33
    · rw [if_neg (by omega), if_neg (by omega), ← ixs_bt hj, digit_test hj, if_neg (by omega), kind1, if_pos h33, if_pos (by simp), skip_yes hj (by omega) h33]
      simp only [Option.bind_some]
      rw [if_pos (by simp)]
      exact pre 4
    rw [skip_no hj h33]
    simp only [Option.bind_some]
    rw [if_neg (by simp : ¬ (false = true))]
    by_cases h88 : bt s j = 88
    · rw [if_neg (by omega), if_neg (by omega), ← ixs_bt hj, digit_test hj, if_neg (by omega), kind1, if_neg h33, if_pos h88, if_pos (by simp), skip_yes hj (by omega) h88]
      simp only [Option.bind_some]
      rw [if_pos (by simp)]
      exact pre 7
    rw [skip_no hj h88]
    simp only [Option.bind_some]
    rw [if_neg (by simp : ¬ (false = true))]
    by_cases h70 : bt s j = 70
    · rw [if_neg (by omega), if_neg (by omega), ← ixs_bt hj, digit_test hj, if_neg (by omega), kind1, if_neg h33, if_neg h88, if_pos h70, if_pos (by simp), skip_yes hj (by omega) h70]
      simp only [Option.bind_some]
      rw [if_pos (by simp)]
      exact pre 10
    rw [skip_no hj h70]
    simp only [Option.bind_some]
    rw [if_neg (by simp : ¬ (false = true))]
    by_cases h71 : bt s j = 71
    · rw [if_neg (by omega), if_neg (by omega), ← ixs_bt hj, digit_test hj, if_neg (by omega), kind1, if_neg h33, if_neg h88, if_neg h70, if_pos h71, if_pos (by simp), skip_yes hj (by omega) h71]
      simp only [Option.bind_some]
      rw [if_pos (by simp)]
      exact pre 11
    rw [skip_no hj h71]
    simp only [Option.bind_some]
    rw [if_neg (by simp : ¬ (false = true))]
    have hk1 : ¬ (spec_l8Kind (bt s j) 1 > 0) := by rw [kind1, if_neg h33, if_neg h88, if_neg h70, if_neg h71]; omega
    try dsimp only
    rw [peek_ok hj]
    simp only [Option.bind_some]
    by_cases h116 : bt s j = 116
    · rw [if_pos h116, app_small (by simp; omega) (by omega), WS (by omega), skip_no hj (by omega)]
      simp only [Option.bind_some]
      rw [if_neg (by simp)]
      try dsimp only
      rw [skip_yes hj (by omega) h116]
      simp only [Option.bind_some]
      rw [if_pos (by simp)]
      try dsimp only
      rw [leaf_eq (by omega)]
      exact ⟨_, _, rfl, rfl, leafK _⟩
    rw [if_neg h116]
    by_cases h102 : bt s j = 102
    · rw [if_pos h102, app_small (by simp; omega) (by omega), WS (by omega), skip_no hj (by omega)]
      simp only [Option.bind_some]
      rw [if_neg (by simp)]
      try dsimp only
      rw [skip_no hj h116]
      simp only [Option.bind_some]
      rw [if_neg (by simp)]
      try dsimp only
      rw [skip_yes hj (by omega) h102]
      simp only [Option.bind_some]
      rw [if_pos (by simp)]
      try dsimp only
      rw [leaf_eq (by omega)]
      exact ⟨_, _, rfl, rfl, leafK _⟩
    rw [if_neg h102, ← ixs_bt hj, digit_test hj]
    by_cases hd : 48 ≤ bt s j ∧ bt s j < 51
    · rw [if_pos hd, app_small (by simp; omega) (by omega), WS (by omega), skip_no hj (by omega)]
      simp only [Option.bind_some]
      rw [if_neg (by simp)]
      try dsimp only
      rw [skip_no hj h116]
      simp only [Option.bind_some]
      rw [if_neg (by simp)]
      try dsimp only
      rw [skip_no hj h102]
      simp only [Option.bind_some]
      rw [if_neg (by simp), if_pos (by simp; omega)]
      try dsimp only
      rw [WS (by omega), digit_eq (by omega), leaf_eq (by omega)]
      exact ⟨_, _, rfl, rfl, leafK _⟩
    rw [if_neg hd, if_neg hk1]
    by_cases h40 : bt s j = 40
    · rw [if_pos h40, WS (by omega), skip_yes hj (by omega) h40]
      simp only [Option.bind_some]
      rw [if_pos (by simp)]
      try dsimp only
      obtain ⟨o1, t1, f1, g1, j1, l1, e1, e2, e3, e4, e5, e6⟩ := read0 hs ih (show j + 1 ≤ s.size by omega) (by omega) (K := K) (K' := K') (by omega) (by omega) l (by omega)
      subst e1
      have f1 : spec_l8Read K s ((j + 1 : Nat) : Int) 0 l = some o1 := f1
      rw [f1, Option.bind_some, e2]
      by_cases c : o1.2.2 = 0
      · rw [c] at g1
        rw [if_neg (fun x => x c)]
        by_cases hj1 : j1 < s.size
        · rw [if_neg (by omega), ixs_bt hj1, Option.bind_some]
          by_cases h41 : bt s j1 = 41
          · rw [if_neg (fun x => x h41), bracket_yes (by omega) g1 hj1 h41, WS (by omega)]
            exact ⟨_, _, rfl, rfl, j1 + 1, l1, rfl, rfl, by omega, by omega, fun _ => e5 c, by omega⟩
          · rw [if_pos h41, bracket_no g1 hj1 h41]
            exact ⟨_, _, rfl, rfl, j1, l1, rfl, rfl, by omega, e4, fun x => absurd (show (3 : Int) = 0 from x) (by decide), by omega⟩
        · rw [if_pos (by omega), bracket_end g1 (by omega)]
          exact ⟨_, _, rfl, rfl, j1, l1, rfl, by show (s.size : Int) = _; omega, by omega, e4, fun x => absurd (show (2 : Int) = 0 from x) (by decide), by omega⟩
      · rw [if_pos c, bracket_err g1 c]
        exact ⟨_, _, rfl, rfl, j1, l1, rfl, rfl, by omega, e4, fun x => absurd x c, by omega⟩
    · rw [if_neg h40, skip_no hj h40]
      simp only [Option.bind_some]
      rw [if_neg (by simp)]
      try dsimp only
      rw [skip_no hj h116]
      simp only [Option.bind_some]
      rw [if_neg (by simp)]
      try dsimp only
      rw [skip_no hj h102]
      simp only [Option.bind_some]
      rw [if_neg (by simp), if_neg (by simp; omega)]
      try dsimp only
      rw [fail_in (by omega)]
      exact ⟨_, _, rfl, rfl, j, l, rfl, rfl, by omega, by omega, fun x => absurd (show (3 : Int) = 0 from x) (by decide), by omega⟩
theorem ltlParse_eq (s : ByteArray) : ∃ r : RdO, spec_LtlParse 1100 s = some r ∧ impl_LtlParse 1100 s = some r ∧ r.1.length ≤ 31 := by
  by_cases hs : s.size ≤ 200
  · obtain ⟨o, t, f1, g1, r⟩ := read0 hs (atom_all hs 200) (Nat.zero_le _) (by omega) (K := 1100) (K' := 1100) (by omega) (by omega) [] (by simp)
    have f1 : spec_l8Read 1100 s 0 0 [] = some o := f1
    refine ⟨readAll s o, ?_, ?_, ?_⟩
    · unfold spec_LtlParse readAll
      rw [if_neg (by omega), f1, Option.bind_some]
      repeat' split
      all_goals rfl
    · unfold impl_LtlParse
      rw [parsed_eq hs g1 r]; rfl
    · unfold readAll
      repeat' split
      all_goals (try simp)
      omega
  · refine ⟨([], 0, 1), ?_, ?_, by simp⟩
    · unfold spec_LtlParse; rw [if_pos (by omega)]
    · unfold impl_LtlParse impl_parsed; rw [if_pos (by omega)]; rfl
theorem pureLtlParse (s : ByteArray) (w : s.size ≤ 9223372036854775807) : laws_FnExactLtlParse 1100 s = some true := by
  unfold laws_FnExactLtlParse
  split
  · rfl
  · obtain ⟨r, r1, r2, r3⟩ := ltlParse_eq s
    rw [r1, r2]
    simp only [Option.bind_some, bnd_eq]
    rw [eqNodeS_eq _ _ (by omega), Option.bind_some, mark_eq _ (by omega), Option.bind_some]
    simp only [held_eq _ (show r.1.length ≤ 2000000 by omega), Option.bind_some]
    simp
    rw [if_neg (by omega), if_neg (by omega)]
end Go.Proofs.Ytgklefbkneomoaa
