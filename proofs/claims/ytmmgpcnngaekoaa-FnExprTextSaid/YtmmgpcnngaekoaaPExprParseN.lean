/- Both sides read an expression alike. -/
import Derived.Test.YtmmgpcnngaekoaaDExprText
import Derived.Test.YtmmgpcnngaekoaaPReader
namespace Go.Proofs.Ytmmgpcnngaekoaa
open Go Go.RowKit E
set_option linter.unusedVariables false

theorem digit_test {α : Type} {s : ByteArray} {i : Nat} (h : i < s.size) (n : Int) (A B : Option α) : ((whenO (decide (bt s i ≥ 48)) (ixs s (i : Int))).bind fun a => if (decide (bt s i ≥ 48) && decide (IntKind.i64.wrap a < n)) = true then A else B) = if 48 ≤ bt s i ∧ bt s i < n then A else B := by
  have hb := bt_lt s i
  by_cases c : bt s i ≥ 48
  · rw [decide_eq_true c, whenO_t, ixs_bt h, Option.bind_some, byte_i64 hb, Bool.true_and]
    by_cases d : bt s i < n
    · rw [decide_eq_true d, if_pos rfl, if_pos ⟨c, d⟩]
    · rw [decide_eq_false d, if_neg (by simp), if_neg (fun g => d g.2)]
  · rw [decide_eq_false c, whenO_f, Option.bind_some, Bool.false_and, if_neg (by simp), if_neg (fun g => c g.1)]
def AtomAt (s : ByteArray) (d : Nat) : Prop := ∀ j : Nat, j ≤ s.size → s.size - j ≤ d → ∀ K K' : Nat, 4 * d + 1 ≤ K → 4 * d + 1 ≤ K' → Sim s j (fun l => spec_l2Atom K s (j : Int) l) (impl_exprAtom K')
theorem read2 {s : ByteArray} {d : Nat} (h : AtomAt s d) {j : Nat} (hj : j ≤ s.size) (hd : s.size - j ≤ d) {K K' : Nat} (hK : 4 * d + 2 ≤ K) (hK' : 4 * d + 1 ≤ K') : Sim s j (fun l => spec_l2Read K s (j : Int) 2 l) (impl_exprAtom K') := fun l hl => by
  obtain ⟨K, rfl⟩ : ∃ k, K = k + 1 := ⟨K - 1, by omega⟩
  obtain ⟨o, t, f1, g1, r⟩ := h j hj hd K K' (by omega) hK' l hl
  refine ⟨o, t, ?_, g1, r⟩
  show spec_l2Read.body (spec_l2Read K) (spec_l2Atom K) s (j : Int) 2 l = _
  unfold spec_l2Read.body
  have f1 : spec_l2Atom K s (j : Int) l = some o := f1
  rw [if_pos rfl, f1]; rfl
theorem k0_id (x : Option RdO) : (x.bind fun q => spec_l2Read.k0 q.1 q.2.1 q.2.2) = x := by cases x <;> rfl
theorem rd_id (x : Option Treader) : (x.bind fun a => some (Treader.mk a.s a.at_ a.code a.list)) = x := by cases x <;> rfl
theorem read1 {s : ByteArray} (hs : s.size ≤ 200) {d : Nat} (h : AtomAt s d) {j : Nat} (hj : j ≤ s.size) (hd : s.size - j ≤ d) {K K' : Nat} (hK : 4 * d + 3 ≤ K) (hK' : 4 * d + 2 ≤ K') : Sim s j (fun l => spec_l2Read K s (j : Int) 1 l) (impl_exprProduct K') := by
  obtain ⟨K, rfl⟩ : ∃ k, K = k + 1 := ⟨K - 1, by omega⟩
  obtain ⟨K', rfl⟩ : ∃ k, K' = k + 1 := ⟨K' - 1, by omega⟩
  have hr := row_sim (by omega) 38 5 (fun p l => spec_l2Read K s p (W (1 + 1)) l) (impl_exprAtom K') j hj fun i h1 h2 => by
    have e : W (1 + 1) = 2 := by decide
    rw [e]; exact read2 h h2 (by omega) (by omega) (by omega)
  intro l hl
  obtain ⟨o, t, f1, g1, r⟩ := hr l hl
  refine ⟨o, t, ?_, ?_, r⟩
  · show spec_l2Read.body (spec_l2Read K) (spec_l2Atom K) s (j : Int) 1 l = _
    unfold spec_l2Read.body
    rw [if_neg (by decide), show ix ([124, 38] : List Int) 1 = some 38 from rfl, Option.bind_some, show ix ([6, 5] : List Int) 1 = some 5 from rfl, Option.bind_some]
    simp only [k0_id]
    exact f1
  · show impl_exprProduct.body (impl_exprSum K') (impl_exprProduct K') (impl_exprAtom K') ⟨s, (j : Int), 0, l⟩ = _
    unfold impl_exprProduct.body
    rw [rd_id]; exact g1
theorem read0 {s : ByteArray} (hs : s.size ≤ 200) {d : Nat} (h : AtomAt s d) {j : Nat} (hj : j ≤ s.size) (hd : s.size - j ≤ d) {K K' : Nat} (hK : 4 * d + 4 ≤ K) (hK' : 4 * d + 3 ≤ K') : Sim s j (fun l => spec_l2Read K s (j : Int) 0 l) (impl_exprSum K') := by
  obtain ⟨K, rfl⟩ : ∃ k, K = k + 1 := ⟨K - 1, by omega⟩
  obtain ⟨K', rfl⟩ : ∃ k, K' = k + 1 := ⟨K' - 1, by omega⟩
  have hr := row_sim (by omega) 124 6 (fun p l => spec_l2Read K s p (W (0 + 1)) l) (impl_exprProduct K') j hj fun i h1 h2 => by
    have e : W (0 + 1) = 1 := by decide
    rw [e]; exact read1 hs h h2 (by omega) (by omega) (by omega)
  intro l hl
  obtain ⟨o, t, f1, g1, r⟩ := hr l hl
  refine ⟨o, t, ?_, ?_, r⟩
  · show spec_l2Read.body (spec_l2Read K) (spec_l2Atom K) s (j : Int) 0 l = _
    unfold spec_l2Read.body
    rw [if_neg (by decide), show ix ([124, 38] : List Int) 0 = some 124 from rfl, Option.bind_some, show ix ([6, 5] : List Int) 0 = some 6 from rfl, Option.bind_some]
    simp only [k0_id]
    exact f1
  · show impl_exprSum.body (impl_exprSum K') (impl_exprProduct K') (impl_exprAtom K') ⟨s, (j : Int), 0, l⟩ = _
    unfold impl_exprSum.body
    rw [rd_id]; exact g1
theorem Good.back {s : ByteArray} {i j n m : Nat} {o : RdO} {t : Treader} (h : Good s j m o t) (hij : i ≤ j) (hn : m + i ≤ n + j) : Good s i n o t := by
  obtain ⟨j', l, e1, e2, e3, e4, e5, e6⟩ := h
  exact ⟨j', l, e1, e2, by omega, e4, e5, by omega⟩
theorem atom_end {s : ByteArray} (hs : s.size ≤ 200) {K K' : Nat} (hK : 1 ≤ K) (hK' : 1 ≤ K') : Sim s s.size (fun l => spec_l2Atom K s (s.size : Int) l) (impl_exprAtom K') := fun l hl => by
  obtain ⟨K, rfl⟩ : ∃ k, K = k + 1 := ⟨K - 1, by omega⟩
  obtain ⟨K', rfl⟩ : ∃ k, K' = k + 1 := ⟨K' - 1, by omega⟩
  refine ⟨(l, (s.size : Int), 2), ⟨s, (s.size : Int), 2, l⟩, ?_, ?_, s.size, l, rfl, rfl, Nat.le_refl _, Nat.le_refl _, fun _ => rfl, Nat.le_refl _⟩
  · show spec_l2Atom.body (spec_l2Read K) (spec_l2Atom K) s (s.size : Int) l = _
    unfold spec_l2Atom.body
    rw [if_pos (by omega)]
  · show impl_exprAtom.body (impl_exprSum K') (impl_exprProduct K') (impl_exprAtom K') ⟨s, (s.size : Int), 0, l⟩ = _
    unfold impl_exprAtom.body impl_plainAtom
    dsimp only
    rw [skip_end (by omega), Option.bind_some, if_neg (by simp)]
    dsimp only
    rw [peek_end (by omega), Option.bind_some, skip_end (by omega), Option.bind_some, if_neg (by simp)]
    dsimp only
    rw [skip_end (by omega), Option.bind_some, if_neg (by simp)]
    dsimp only
    rw [skip_end (by omega), Option.bind_some, if_neg (by simp), bnd_eq, if_neg (by simp)]
    dsimp only
    rw [fail_end (by omega)]; rfl
theorem atom_all {s : ByteArray} (hs : s.size ≤ 200) : ∀ d, AtomAt s d
  | 0 => fun j hj hd K K' hK hK' => by
    obtain rfl : j = s.size := by omega
    exact atom_end hs (by omega) (by omega)
  | d + 1 => fun j hj hd K K' hK hK' => by
    have ih := atom_all hs d
    by_cases hjs : j = s.size
    · subst hjs; exact atom_end hs (by omega) (by omega)
    have hj : j < s.size := by omega
    intro l hl
    obtain ⟨K, rfl⟩ : ∃ k, K = k + 1 := ⟨K - 1, by omega⟩
    obtain ⟨K', rfl⟩ : ∃ k, K' = k + 1 := ⟨K' - 1, by omega⟩
    have hb := bt_lt s j
    show ∃ o t, spec_l2Atom.body (spec_l2Read K) (spec_l2Atom K) s (j : Int) l = some o ∧ impl_exprAtom.body (impl_exprSum K') (impl_exprProduct K') (impl_exprAtom K') ⟨s, (j : Int), 0, l⟩ = some t ∧ _
    have leafK : ∀ x : TNode, Good s j l.length (l ++ [x], ((j + 1 : Nat) : Int), 0) ⟨s, ((j + 1 : Nat) : Int), 0, l ++ [x]⟩ := fun x =>
      ⟨j + 1, l ++ [x], rfl, rfl, by omega, by omega, fun _ => rfl, by simp; omega⟩
    unfold spec_l2Atom.body impl_exprAtom.body impl_plainAtom
    dsimp only
    simp only [bnd_eq]
    rw [if_neg (by omega), ixs_bt hj]
    simp only [Option.bind_some]
    by_cases h33 : bt s j = 33
    · rw [if_neg (by omega), if_neg (by omega), ← ixs_bt hj, digit_test hj, if_neg (by omega), if_pos h33, WS (by omega), skip_yes hj (by omega) h33]
      simp only [Option.bind_some]
      rw [if_pos (by simp)]
      try dsimp only
      obtain ⟨o1, t1, f1, g1, j1, l1, e1, e2, e3, e4, e5, e6⟩ := ih (j + 1) (by omega) (by omega) K K' (by omega) (by omega) l (by omega)
      subst e1
      have f1 : spec_l2Atom K s ((j + 1 : Nat) : Int) l = some o1 := f1
      rw [f1, g1]
      simp only [Option.bind_some]
      rw [one_eq (by omega)]
      simp only [Option.bind_some]
      by_cases c : o1.2.2 = 0
      · rw [if_pos c, ← e5 c, app_small (by simp; omega) (by omega)]
        exact ⟨_, _, rfl, rfl, j1, _, rfl, e2, by omega, e4, fun _ => rfl, by simp; omega⟩
      · rw [if_neg c]
        exact ⟨_, _, rfl, rfl, j1, _, rfl, e2, by omega, e4, fun x => absurd x c, by simp; omega⟩
    rw [skip_no hj h33]
    simp only [Option.bind_some]
    rw [if_neg (by simp : ¬ (false = true))]
    try dsimp only
    rw [peek_ok hj]
    simp only [Option.bind_some]
    by_cases h116 : bt s j = 116
    · rw [if_pos h116, app_small (by simp; omega) (by omega), WS (by omega), skip_no hj (by omega)]
      simp only [Option.bind_some]
      rw [if_neg (by simp)]
      try dsimp only
      rw [skip_yes hj (by omega) h116]
      simp only [Option.bind_some]
      rw [if_pos (by simp)]
      try dsimp only
      rw [leaf_eq (by omega)]
      exact ⟨_, _, rfl, rfl, leafK _⟩
    rw [if_neg h116]
    by_cases h102 : bt s j = 102
    · rw [if_pos h102, app_small (by simp; omega) (by omega), WS (by omega), skip_no hj (by omega)]
      simp only [Option.bind_some]
      rw [if_neg (by simp)]
      try dsimp only
      rw [skip_no hj h116]
      simp only [Option.bind_some]
      rw [if_neg (by simp)]
      try dsimp only
      rw [skip_yes hj (by omega) h102]
      simp only [Option.bind_some]
      rw [if_pos (by simp)]
      try dsimp only
      rw [leaf_eq (by omega)]
      exact ⟨_, _, rfl, rfl, leafK _⟩
    rw [if_neg h102, ← ixs_bt hj, digit_test hj]
    by_cases hd : 48 ≤ bt s j ∧ bt s j < 51
    · rw [if_pos hd, app_small (by simp; omega) (by omega), WS (by omega), skip_no hj (by omega)]
      simp only [Option.bind_some]
      rw [if_neg (by simp)]
      try dsimp only
      rw [skip_no hj h116]
      simp only [Option.bind_some]
      rw [if_neg (by simp)]
      try dsimp only
      rw [skip_no hj h102]
      simp only [Option.bind_some]
      rw [if_neg (by simp), if_pos (by simp; omega)]
      try dsimp only
      rw [WS (by omega), digit_eq (by omega), leaf_eq (by omega)]
      exact ⟨_, _, rfl, rfl, leafK _⟩
    rw [if_neg hd, if_neg h33]
    by_cases h40 : bt s j = 40
    · rw [if_pos h40, WS (by omega), skip_yes hj (by omega) h40]
      simp only [Option.bind_some]
      rw [if_pos (by simp)]
      try dsimp only
      obtain ⟨o1, t1, f1, g1, j1, l1, e1, e2, e3, e4, e5, e6⟩ := read0 hs ih (show j + 1 ≤ s.size by omega) (by omega) (K := K) (K' := K') (by omega) (by omega) l (by omega)
      subst e1
      have f1 : spec_l2Read K s ((j + 1 : Nat) : Int) 0 l = some o1 := f1
      rw [f1, Option.bind_some, e2]
      by_cases c : o1.2.2 = 0
      · rw [c] at g1
        rw [if_neg (fun x => x c)]
        by_cases hj1 : j1 < s.size
        · rw [if_neg (by omega), ixs_bt hj1, Option.bind_some]
          by_cases h41 : bt s j1 = 41
          · rw [if_neg (fun x => x h41), bracket_yes (by omega) g1 hj1 h41, WS (by omega)]
            exact ⟨_, _, rfl, rfl, j1 + 1, l1, rfl, rfl, by omega, by omega, fun _ => e5 c, by omega⟩
          · rw [if_pos h41, bracket_no g1 hj1 h41]
            exact ⟨_, _, rfl, rfl, j1, l1, rfl, rfl, by omega, e4, fun x => absurd (show (3 : Int) = 0 from x) (by decide), by omega⟩
        · rw [if_pos (by omega), bracket_end g1 (by omega)]
          exact ⟨_, _, rfl, rfl, j1, l1, rfl, by show (s.size : Int) = _; omega, by omega, e4, fun x => absurd (show (2 : Int) = 0 from x) (by decide), by omega⟩
      · rw [if_pos c, bracket_err g1 c]
        exact ⟨_, _, rfl, rfl, j1, l1, rfl, rfl, by omega, e4, fun x => absurd x c, by omega⟩
    · rw [if_neg h40, skip_no hj h40]
      simp only [Option.bind_some]
      rw [if_neg (by simp)]
      try dsimp only
      rw [skip_no hj h116]
      simp only [Option.bind_some]
      rw [if_neg (by simp)]
      try dsimp only
      rw [skip_no hj h102]
      simp only [Option.bind_some]
      rw [if_neg (by simp), if_neg (by simp; omega)]
      try dsimp only
      rw [fail_in (by omega)]
      exact ⟨_, _, rfl, rfl, j, l, rfl, rfl, by omega, by omega, fun x => absurd (show (3 : Int) = 0 from x) (by decide), by omega⟩
theorem readAll_bad {s : ByteArray} {o : RdO} {t : Treader} (k : Good s 0 0 o t) : (readAll s o).2.2 ≠ 0 → (readAll s o).1.length = 0 ∧ (readAll s o).2.1 ≤ (s.size : Int) := by
  obtain ⟨j, l, e1, e2, e3, e4, e5, e6⟩ := k
  unfold readAll
  split
  · exact fun _ => ⟨rfl, by dsimp only; omega⟩
  · split
    · exact fun _ => ⟨rfl, by dsimp only; omega⟩
    · split
      · exact fun _ => ⟨rfl, by dsimp only; omega⟩
      · exact fun h => absurd rfl h
theorem exprParse_eq (s : ByteArray) : ∃ r : RdO, spec_ExprParse 900 s = some r ∧ impl_ExprParse 900 s = some r ∧ r.1.length ≤ 31 ∧ (r.2.2 ≠ 0 → r.1.length = 0 ∧ r.2.1 ≤ (s.size : Int)) := by
  by_cases hs : s.size ≤ 200
  · obtain ⟨o, t, f1, g1, r⟩ := read0 hs (atom_all hs 200) (Nat.zero_le _) (by omega) (K := 900) (K' := 900) (by omega) (by omega) [] (by simp)
    have f1 : spec_l2Read 900 s 0 0 [] = some o := f1
    refine ⟨readAll s o, ?_, ?_, ?_, readAll_bad r⟩
    · unfold spec_ExprParse readAll
      rw [if_neg (by omega), f1, Option.bind_some]
      repeat' split
      all_goals rfl
    · unfold impl_ExprParse
      rw [parsed_eq hs g1 r]; rfl
    · unfold readAll
      repeat' split
      all_goals (try simp)
      omega
  · refine ⟨([], 0, 1), ?_, ?_, by simp, fun _ => ⟨rfl, by dsimp only; omega⟩⟩
    · unfold spec_ExprParse; rw [if_pos (by omega)]
    · unfold impl_ExprParse impl_parsed; rw [if_pos (by omega)]; rfl
end Go.Proofs.Ytmmgpcnngaekoaa
