/- Both sides read a regex alike. -/
import Derived.Test.YtmmgpcnngaekoaaDReText
import Derived.Test.YtmmgpcnngaekoaaPReader
namespace Go.Proofs.Ytmmgpcnngaekoaa
open Go Go.RowKit E
set_option linter.unusedVariables false

theorem digit_test {α : Type} {s : ByteArray} {i : Nat} (h : i < s.size) (n : Int) (A B : Option α) : ((whenO (decide (bt s i ≥ 48)) (ixs s (i : Int))).bind fun a => if (decide (bt s i ≥ 48) && decide (IntKind.i64.wrap a < n)) = true then A else B) = if 48 ≤ bt s i ∧ bt s i < n then A else B := by
  have hb := bt_lt s i
  by_cases c : bt s i ≥ 48
  · rw [decide_eq_true c, whenO_t, ixs_bt h, Option.bind_some, byte_i64 hb, Bool.true_and]
    by_cases d : bt s i < n
    · rw [decide_eq_true d, if_pos rfl, if_pos ⟨c, d⟩]
    · rw [decide_eq_false d, if_neg (by simp), if_neg (fun g => d g.2)]
  · rw [decide_eq_false c, whenO_f, Option.bind_some, Bool.false_and, if_neg (by simp), if_neg (fun g => c g.1)]
theorem stars {s : ByteArray} (hs : s.size ≤ 200) : ∀ (d j : Nat), s.size - j ≤ d → j ≤ s.size → ∀ l : List TNode, l.length ≤ j →
    ∃ (j' : Nat) (l' : List TNode), loop (fun q : List TNode × Int => spec_l11Atom.b0 s q.1 q.2) (l, (j : Int)) = some (l', (j' : Int)) ∧ loop (fun q : ByteArray × Int × Int × List TNode => impl_reAtom.b0 q.1 q.2.1 q.2.2.1 q.2.2.2) (s, (j : Int), 0, l) = some ⟨s, (j' : Int), 0, l'⟩ ∧ j ≤ j' ∧ j' ≤ s.size ∧ l'.length + j ≤ l.length + j' := by
  intro d
  induction d with
  | zero =>
    intro j h1 h2 l h3
    refine ⟨j, l, loop_end ?_, loop_end ?_, Nat.le_refl _, h2, Nat.le_refl _⟩
    · dsimp only; unfold spec_l11Atom.b0
      rw [bnd_eq, decide_eq_false (by omega : ¬ ((j : Int) < s.size)), whenO_f, Option.bind_some, if_neg (by simp)]
    · dsimp only; unfold impl_reAtom.b0
      rw [skip_end (by omega), Option.bind_some, if_neg (by simp)]
  | succ d ih =>
    intro j h1 h2 l h3
    by_cases hj : j < s.size
    · by_cases hb : bt s j = 42
      · obtain ⟨j', l', r1, r2, r3, r4, r5⟩ := ih (j + 1) (by omega) (by omega) (l ++ [TNode.mk 4 (W ((l.length : Int) - 1)) 0]) (by simp; omega)
        refine ⟨j', l', ?_, ?_, by omega, r4, by simp at r5; omega⟩
        · rw [loop_go (s' := (l ++ [TNode.mk 4 (W ((l.length : Int) - 1)) 0], ((j + 1 : Nat) : Int)))]
          · exact r1
          · dsimp only; unfold spec_l11Atom.b0
            rw [bnd_eq, decide_eq_true (by omega : (j : Int) < s.size), whenO_t, ixs_bt hj, Option.bind_some, hb, if_pos (by rfl), app_small (by simp; omega) (by omega), Option.bind_some, WS (by omega)]
        · rw [loop_go (s' := (s, ((j + 1 : Nat) : Int), (0 : Int), l ++ [TNode.mk 4 (W ((l.length : Int) - 1)) 0]))]
          · exact r2
          · dsimp only; unfold impl_reAtom.b0
            rw [skip_yes hj (by omega) hb, Option.bind_some, if_pos rfl]
            dsimp only
            rw [one_eq (by omega), Option.bind_some]
      · refine ⟨j, l, loop_end ?_, loop_end ?_, Nat.le_refl _, h2, Nat.le_refl _⟩
        · dsimp only; unfold spec_l11Atom.b0
          rw [bnd_eq, decide_eq_true (by omega : (j : Int) < s.size), whenO_t, ixs_bt hj, Option.bind_some, decide_eq_false hb, if_neg (by simp)]
        · dsimp only; unfold impl_reAtom.b0
          rw [skip_no hj hb, Option.bind_some, if_neg (by simp)]
    · refine ⟨j, l, loop_end ?_, loop_end ?_, Nat.le_refl _, h2, Nat.le_refl _⟩
      · dsimp only; unfold spec_l11Atom.b0
        rw [bnd_eq, decide_eq_false (by omega : ¬ ((j : Int) < s.size)), whenO_f, Option.bind_some, if_neg (by simp)]
      · dsimp only; unfold impl_reAtom.b0
        rw [skip_end (by omega), Option.bind_some, if_neg (by simp)]
theorem k0_ok {s : ByteArray} (hs : s.size ≤ 200) {j : Nat} (hj : j ≤ s.size) {l : List TNode} (hl : l.length ≤ j) : ∃ o t, spec_l11Atom.k0 s l (j : Int) = some o ∧ impl_reAtom.k0 s (j : Int) 0 l = some t ∧ Good s j l.length o t := by
  obtain ⟨j', l', r1, r2, r3, r4, r5⟩ := stars hs s.size j (by omega) hj l hl
  refine ⟨(l', (j' : Int), 0), ⟨s, (j' : Int), 0, l'⟩, ?_, ?_, j', l', rfl, rfl, r3, r4, fun _ => rfl, r5⟩
  · unfold spec_l11Atom.k0; rw [r1]; rfl
  · unfold impl_reAtom.k0; rw [r2]; rfl
theorem k0_err {s : ByteArray} {j c : Int} {l : List TNode} (hc : c ≠ 0) : impl_reAtom.k0 s j c l = some ⟨s, j, c, l⟩ := by
  unfold impl_reAtom.k0
  rw [loop_end (r := ⟨s, j, c, l⟩)]
  · rfl
  · dsimp only; unfold impl_reAtom.b0
    rw [skip_err hc, Option.bind_some, if_neg (by simp)]
def AtomAt (s : ByteArray) (d : Nat) : Prop := ∀ j : Nat, j ≤ s.size → s.size - j ≤ d → ∀ K K' : Nat, 4 * d + 1 ≤ K → 4 * d + 1 ≤ K' → Sim s j (fun l => spec_l11Atom K s (j : Int) l) (impl_reAtom K')
theorem read2 {s : ByteArray} {d : Nat} (h : AtomAt s d) {j : Nat} (hj : j ≤ s.size) (hd : s.size - j ≤ d) {K K' : Nat} (hK : 4 * d + 2 ≤ K) (hK' : 4 * d + 1 ≤ K') : Sim s j (fun l => spec_l11Read K s (j : Int) 2 l) (impl_reAtom K') := fun l hl => by
  obtain ⟨K, rfl⟩ : ∃ k, K = k + 1 := ⟨K - 1, by omega⟩
  obtain ⟨o, t, f1, g1, r⟩ := h j hj hd K K' (by omega) hK' l hl
  refine ⟨o, t, ?_, g1, r⟩
  show spec_l11Read.body (spec_l11Read K) (spec_l11Atom K) s (j : Int) 2 l = _
  unfold spec_l11Read.body
  have f1 : spec_l11Atom K s (j : Int) l = some o := f1
  rw [if_pos rfl, f1]; rfl
theorem k0_id (x : Option RdO) : (x.bind fun q => spec_l11Read.k0 q.1 q.2.1 q.2.2) = x := by cases x <;> rfl
theorem rd_id (x : Option Treader) : (x.bind fun a => some (Treader.mk a.s a.at_ a.code a.list)) = x := by cases x <;> rfl
theorem read1 {s : ByteArray} (hs : s.size ≤ 200) {d : Nat} (h : AtomAt s d) {j : Nat} (hj : j ≤ s.size) (hd : s.size - j ≤ d) {K K' : Nat} (hK : 4 * d + 3 ≤ K) (hK' : 4 * d + 2 ≤ K') : Sim s j (fun l => spec_l11Read K s (j : Int) 1 l) (impl_reProduct K') := by
  obtain ⟨K, rfl⟩ : ∃ k, K = k + 1 := ⟨K - 1, by omega⟩
  obtain ⟨K', rfl⟩ : ∃ k, K' = k + 1 := ⟨K' - 1, by omega⟩
  have hr := row_sim (by omega) 46 5 (fun p l => spec_l11Read K s p (W (1 + 1)) l) (impl_reAtom K') j hj fun i h1 h2 => by
    have e : W (1 + 1) = 2 := by decide
    rw [e]; exact read2 h h2 (by omega) (by omega) (by omega)
  intro l hl
  obtain ⟨o, t, f1, g1, r⟩ := hr l hl
  refine ⟨o, t, ?_, ?_, r⟩
  · show spec_l11Read.body (spec_l11Read K) (spec_l11Atom K) s (j : Int) 1 l = _
    unfold spec_l11Read.body
    rw [if_neg (by decide), show ix ([124, 46] : List Int) 1 = some 46 from rfl, Option.bind_some, show ix ([6, 5] : List Int) 1 = some 5 from rfl, Option.bind_some]
    simp only [k0_id]
    exact f1
  · show impl_reProduct.body (impl_reSum K') (impl_reProduct K') (impl_reAtom K') ⟨s, (j : Int), 0, l⟩ = _
    unfold impl_reProduct.body
    rw [rd_id]; exact g1
theorem read0 {s : ByteArray} (hs : s.size ≤ 200) {d : Nat} (h : AtomAt s d) {j : Nat} (hj : j ≤ s.size) (hd : s.size - j ≤ d) {K K' : Nat} (hK : 4 * d + 4 ≤ K) (hK' : 4 * d + 3 ≤ K') : Sim s j (fun l => spec_l11Read K s (j : Int) 0 l) (impl_reSum K') := by
  obtain ⟨K, rfl⟩ : ∃ k, K = k + 1 := ⟨K - 1, by omega⟩
  obtain ⟨K', rfl⟩ : ∃ k, K' = k + 1 := ⟨K' - 1, by omega⟩
  have hr := row_sim (by omega) 124 6 (fun p l => spec_l11Read K s p (W (0 + 1)) l) (impl_reProduct K') j hj fun i h1 h2 => by
    have e : W (0 + 1) = 1 := by decide
    rw [e]; exact read1 hs h h2 (by omega) (by omega) (by omega)
  intro l hl
  obtain ⟨o, t, f1, g1, r⟩ := hr l hl
  refine ⟨o, t, ?_, ?_, r⟩
  · show spec_l11Read.body (spec_l11Read K) (spec_l11Atom K) s (j : Int) 0 l = _
    unfold spec_l11Read.body
    rw [if_neg (by decide), show ix ([124, 46] : List Int) 0 = some 124 from rfl, Option.bind_some, show ix ([6, 5] : List Int) 0 = some 6 from rfl, Option.bind_some]
    simp only [k0_id]
    exact f1
  · show impl_reSum.body (impl_reSum K') (impl_reProduct K') (impl_reAtom K') ⟨s, (j : Int), 0, l⟩ = _
    unfold impl_reSum.body
    rw [rd_id]; exact g1
theorem Good.back {s : ByteArray} {i j n m : Nat} {o : RdO} {t : Treader} (h : Good s j m o t) (hij : i ≤ j) (hn : m + i ≤ n + j) : Good s i n o t := by
  obtain ⟨j', l, e1, e2, e3, e4, e5, e6⟩ := h
  exact ⟨j', l, e1, e2, by omega, e4, e5, by omega⟩
theorem atom_end {s : ByteArray} (hs : s.size ≤ 200) {K K' : Nat} (hK : 1 ≤ K) (hK' : 1 ≤ K') : Sim s s.size (fun l => spec_l11Atom K s (s.size : Int) l) (impl_reAtom K') := fun l hl => by
  obtain ⟨K, rfl⟩ : ∃ k, K = k + 1 := ⟨K - 1, by omega⟩
  obtain ⟨K', rfl⟩ : ∃ k, K' = k + 1 := ⟨K' - 1, by omega⟩
  refine ⟨(l, (s.size : Int), 2), ⟨s, (s.size : Int), 2, l⟩, ?_, ?_, s.size, l, rfl, rfl, Nat.le_refl _, Nat.le_refl _, fun _ => rfl, Nat.le_refl _⟩
  · show spec_l11Atom.body (spec_l11Read K) (spec_l11Atom K) s (s.size : Int) l = _
    unfold spec_l11Atom.body
    rw [if_pos (by omega)]
  · show impl_reAtom.body (impl_reSum K') (impl_reProduct K') (impl_reAtom K') ⟨s, (s.size : Int), 0, l⟩ = _
    unfold impl_reAtom.body
    dsimp only
    rw [peek_end (by omega), Option.bind_some, skip_end (by omega), Option.bind_some, if_neg (by simp)]
    dsimp only
    rw [skip_end (by omega), Option.bind_some, if_neg (by simp)]
    dsimp only
    rw [skip_end (by omega), Option.bind_some, if_neg (by simp), bnd_eq, if_neg (by simp)]
    dsimp only
    rw [fail_end (by omega), Option.bind_some]
    dsimp only
    rw [k0_err (by omega)]
theorem atom_all {s : ByteArray} (hs : s.size ≤ 200) : ∀ d, AtomAt s d
  | 0 => fun j hj hd K K' hK hK' => by
    obtain rfl : j = s.size := by omega
    exact atom_end hs (by omega) (by omega)
  | d + 1 => fun j hj hd K K' hK hK' => by
    have ih := atom_all hs d
    by_cases hjs : j = s.size
    · subst hjs; exact atom_end hs (by omega) (by omega)
    have hj : j < s.size := by omega
    intro l hl
    obtain ⟨K, rfl⟩ : ∃ k, K = k + 1 := ⟨K - 1, by omega⟩
    obtain ⟨K', rfl⟩ : ∃ k, K' = k + 1 := ⟨K' - 1, by omega⟩
    have hb := bt_lt s j
    show ∃ o t, spec_l11Atom.body (spec_l11Read K) (spec_l11Atom K) s (j : Int) l = some o ∧ impl_reAtom.body (impl_reSum K') (impl_reProduct K') (impl_reAtom K') ⟨s, (j : Int), 0, l⟩ = some t ∧ _
    have leafK : ∀ x : TNode, ∃ o t, spec_l11Atom.k0 s (l ++ [x]) ((j + 1 : Nat) : Int) = some o ∧ impl_reAtom.k0 s ((j + 1 : Nat) : Int) 0 (l ++ [x]) = some t ∧ Good s j l.length o t := fun x => by
      obtain ⟨o, t, r1, r2, r3⟩ := k0_ok hs (show j + 1 ≤ s.size by omega) (l := l ++ [x]) (by simp; omega)
      exact ⟨o, t, r1, r2, r3.back (by omega) (by simp; omega)⟩
    unfold spec_l11Atom.body impl_reAtom.body
    try dsimp only
    simp only [bnd_eq]
    rw [if_neg (by omega), ixs_bt hj, peek_ok hj]
    simp only [Option.bind_some]
    by_cases h64 : bt s j = 64
    · rw [if_pos h64, app_small (by simp; omega) (by omega), WS (by omega), skip_no hj (by omega)]
      simp only [Option.bind_some]
      rw [if_neg (by simp)]
      try dsimp only
      rw [skip_yes hj (by omega) h64]
      simp only [Option.bind_some]
      rw [if_pos (by simp)]
      try dsimp only
      rw [leaf_eq (by omega), Option.bind_some]
      exact leafK _
    rw [if_neg h64]
    by_cases h95 : bt s j = 95
    · rw [if_pos h95, app_small (by simp; omega) (by omega), WS (by omega), skip_no hj (by omega)]
      simp only [Option.bind_some]
      rw [if_neg (by simp)]
      try dsimp only
      rw [skip_no hj h64]
      simp only [Option.bind_some]
      rw [if_neg (by simp)]
      try dsimp only
      rw [skip_yes hj (by omega) h95]
      simp only [Option.bind_some]
      rw [if_pos (by simp)]
      try dsimp only
      rw [leaf_eq (by omega), Option.bind_some]
      exact leafK _
    rw [if_neg h95, ← ixs_bt hj, digit_test hj]
    by_cases hd : 48 ≤ bt s j ∧ bt s j < 56
    · rw [if_pos hd, app_small (by simp; omega) (by omega), WS (by omega), skip_no hj (by omega)]
      simp only [Option.bind_some]
      rw [if_neg (by simp)]
      try dsimp only
      rw [skip_no hj h64]
      simp only [Option.bind_some]
      rw [if_neg (by simp)]
      try dsimp only
      rw [skip_no hj h95]
      simp only [Option.bind_some]
      rw [if_neg (by simp), if_pos (by simp; omega)]
      try dsimp only
      rw [WS (by omega), digit_eq (by omega), leaf_eq (by omega), Option.bind_some]
      exact leafK _
    rw [if_neg hd]
    by_cases h40 : bt s j = 40
    · rw [if_pos h40, WS (by omega), skip_yes hj (by omega) h40]
      simp only [Option.bind_some]
      rw [if_pos (by simp)]
      try dsimp only
      obtain ⟨o1, t1, f1, g1, j1, l1, e1, e2, e3, e4, e5, e6⟩ := read0 hs ih (show j + 1 ≤ s.size by omega) (by omega) (K := K) (K' := K') (by omega) (by omega) l (by omega)
      subst e1
      have f1 : spec_l11Read K s ((j + 1 : Nat) : Int) 0 l = some o1 := f1
      rw [f1, Option.bind_some, e2]
      by_cases c : o1.2.2 = 0
      · rw [c] at g1
        rw [if_neg (fun x => x c)]
        by_cases hj1 : j1 < s.size
        · rw [if_neg (by omega), ixs_bt hj1, Option.bind_some]
          by_cases h41 : bt s j1 = 41
          · rw [if_neg (fun x => x h41), bracket_yes (by omega) g1 hj1 h41, Option.bind_some, WS (by omega), e5 c]
            try dsimp only
            have e5' := e5 c
            subst e5'
            obtain ⟨o, t, r1, r2, r3⟩ := k0_ok hs (show j1 + 1 ≤ s.size by omega) (l := o1.1) (by omega)
            exact ⟨o, t, r1, r2, r3.back (by omega) (by omega)⟩
          · rw [if_pos h41, bracket_no g1 hj1 h41, Option.bind_some]
            try dsimp only
            rw [k0_err (by omega)]
            exact ⟨_, _, rfl, rfl, j1, l1, rfl, rfl, by omega, e4, fun x => absurd (show (3 : Int) = 0 from x) (by decide), by omega⟩
        · rw [if_pos (by omega), bracket_end g1 (by omega), Option.bind_some]
          try dsimp only
          rw [k0_err (by omega)]
          exact ⟨_, _, rfl, rfl, j1, l1, rfl, by show (s.size : Int) = _; omega, by omega, e4, fun x => absurd (show (2 : Int) = 0 from x) (by decide), by omega⟩
      · rw [if_pos c, bracket_err g1 c, Option.bind_some]
        try dsimp only
        rw [k0_err c]
        exact ⟨_, _, rfl, rfl, j1, l1, rfl, rfl, by omega, e4, fun x => absurd x c, by omega⟩
    · rw [if_neg h40, skip_no hj h40]
      simp only [Option.bind_some]
      rw [if_neg (by simp)]
      try dsimp only
      rw [skip_no hj h64]
      simp only [Option.bind_some]
      rw [if_neg (by simp)]
      try dsimp only
      rw [skip_no hj h95]
      simp only [Option.bind_some]
      rw [if_neg (by simp), if_neg (by simp; omega)]
      try dsimp only
      rw [fail_in (by omega), Option.bind_some]
      try dsimp only
      rw [k0_err (by omega)]
      exact ⟨_, _, rfl, rfl, j, l, rfl, rfl, by omega, by omega, fun x => absurd (show (3 : Int) = 0 from x) (by decide), by omega⟩
theorem readAll_bad {s : ByteArray} {o : RdO} {t : Treader} (k : Good s 0 0 o t) : (readAll s o).2.2 ≠ 0 → (readAll s o).1.length = 0 ∧ (readAll s o).2.1 ≤ (s.size : Int) := by
  obtain ⟨j, l, e1, e2, e3, e4, e5, e6⟩ := k
  unfold readAll
  split
  · exact fun _ => ⟨rfl, by dsimp only; omega⟩
  · split
    · exact fun _ => ⟨rfl, by dsimp only; omega⟩
    · split
      · exact fun _ => ⟨rfl, by dsimp only; omega⟩
      · exact fun h => absurd rfl h
theorem reParse_eq (s : ByteArray) : ∃ r : RdO, spec_ReParse 900 s = some r ∧ impl_ReParse 900 s = some r ∧ r.1.length ≤ 31 ∧ (r.2.2 ≠ 0 → r.1.length = 0 ∧ r.2.1 ≤ (s.size : Int)) := by
  by_cases hs : s.size ≤ 200
  · obtain ⟨o, t, f1, g1, r⟩ := read0 hs (atom_all hs 200) (Nat.zero_le _) (by omega) (K := 900) (K' := 900) (by omega) (by omega) [] (by simp)
    have f1 : spec_l11Read 900 s 0 0 [] = some o := f1
    refine ⟨readAll s o, ?_, ?_, ?_, readAll_bad r⟩
    · unfold spec_ReParse readAll
      rw [if_neg (by omega), f1, Option.bind_some]
      repeat' split
      all_goals rfl
    · unfold impl_ReParse
      rw [parsed_eq hs g1 r]; rfl
    · unfold readAll
      repeat' split
      all_goals (try simp)
      omega
  · refine ⟨([], 0, 1), ?_, ?_, by simp, fun _ => ⟨rfl, by dsimp only; omega⟩⟩
    · unfold spec_ReParse; rw [if_pos (by omega)]
    · unfold impl_ReParse impl_parsed; rw [if_pos (by omega)]; rfl
end Go.Proofs.Ytmmgpcnngaekoaa
