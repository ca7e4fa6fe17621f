/- Plain texts of FnRankSteps, put together. -/
import Derived.Test.YtllpbgcajgbfbaaDRankSteps
import Derived.Test.YtllpbgcajgbfbaaWf
import Derived.Test.YtllpbgcajgbfbaaQ1

/- Loops that ask whether all are so. -/
section
namespace Go.Proofs.Ytllpbgcajgbfbaa
open Go Go.RowKit E
set_option linter.unusedVariables false

theorem inRg (x a b : Int) : impl_inRange x a b = decide (a ≤ x ∧ x ≤ b) := inR
theorem l1Rg (x a b : Int) : spec_l1In x a b = decide (a ≤ x ∧ x ≤ b) := inR
theorem WN {k : Nat} (h : k < 9223372036854775807) : W ((k : Int) + 1) = ((k + 1 : Nat) : Int) := W_nat h
/-- A loop that asks each place. -/
theorem all_loop {body : Int → Option (Int ⊕ (Unit ⊕ Bool))} (n : Nat) (c : Nat → Bool) (go : ∀ k, k < n → body (k : Int) = some (if c k = true then .inl ((k + 1 : Nat) : Int) else .inr (.inr false))) (fin : body (n : Int) = some (.inr (.inl ()))) : loop body 0 = some (if (List.range n).all c = true then .inl () else .inr false) := by
  have key : ∀ d k, k + d = n → (∀ j, j < k → c j = true) → loop body (k : Int) = some (if (List.range n).all c = true then .inl () else .inr false) := by
    intro d
    induction d with
    | zero =>
      intro k hk he
      obtain rfl : k = n := by omega
      rw [if_pos (List.all_eq_true.mpr fun x hx => he x (List.mem_range.mp hx))]
      exact loop_end fin
    | succ d ih =>
      intro k hk he
      by_cases h : c k = true
      · rw [loop_go (s' := ((k + 1 : Nat) : Int)) (by rw [go k (by omega), if_pos h])]
        refine ih (k + 1) (by omega) fun j hj => ?_
        by_cases e : j = k
        · rw [e]; exact h
        · exact he j (by omega)
      · rw [if_neg (fun g => h (List.all_eq_true.mp g k (List.mem_range.mpr (by omega))))]
        exact loop_end (by rw [go k (by omega), if_neg h])
  exact key n 0 (by omega) (fun j hj => absurd hj (by omega))
end Go.Proofs.Ytllpbgcajgbfbaa
end

/- Powers of two. -/
section
namespace Go.Proofs.Ytllpbgcajgbfbaa
open Go Go.RowKit E
set_option linter.unusedVariables false

theorem pow31 {n : Nat} (h : n ≤ 31) : 2 ^ n ≤ 2147483648 ∧ 1 ≤ 2 ^ n := ⟨by
  have : 2 ^ n ≤ 2 ^ 31 := Nat.pow_le_pow_right (by omega) h
  exact this, Nat.two_pow_pos n⟩
theorem lt31 {n s : Nat} (hn : n ≤ 31) (h : s < 2 ^ n) : s < 2 ^ 31 := Nat.lt_of_lt_of_le h (Nat.pow_le_pow_right (by omega) hn)
end Go.Proofs.Ytllpbgcajgbfbaa
end

/- Sets of states, edges in order, numbers compared. -/
section
namespace Go.Proofs.Ytllpbgcajgbfbaa
open Go Go.RowKit E
set_option linter.unusedVariables false

theorem setIn_eq (x : Int) {n : Nat} (h : n ≤ 31) : spec_SetIn x (W (shl .i64 1 (n : Int) - 1)) = decide (0 ≤ x ∧ x < ((2 ^ n : Nat) : Int)) := by
  have hp := pow31 h
  rw [shl1_i (by omega)]
  have e : W (((2 ^ n : Nat) : Int) - 1) = ((2 ^ n - 1 : Nat) : Int) := by
    generalize 2 ^ n = y at hp ⊢
    rw [W, W_eq (by omega) (by omega)]; omega
  rw [e]
  unfold spec_SetIn spec_SetOk
  rw [l1Rg, l1Rg, bnd_eq, bnd_eq]
  by_cases h0 : 0 ≤ x ∧ x ≤ 2147483647
  · obtain ⟨y, rfl⟩ : ∃ y : Nat, x = y := ⟨x.toNat, by omega⟩
    rw [bAnd_i (by omega) (by omega), Nat.and_two_pow_sub_one_eq_mod]
    rw [decide_eq_true h0, decide_eq_true (by omega), Bool.and_self, Bool.true_and]
    rw [decide_eq_decide]
    constructor
    · intro g
      have g : y % 2 ^ n = y := by omega
      have := (Nat.mod_eq_iff_lt (by omega)).mp g
      omega
    · rintro ⟨_, g⟩
      rw [Nat.mod_eq_of_lt (by omega)]
  · rw [decide_eq_false h0, Bool.false_and, Bool.false_and]
    symm; rw [decide_eq_false_iff_not]; omega
theorem only_eq {n : Nat} (h : n ≤ 31) : impl_only (n : Int) = ((2 ^ n : Nat) : Int) := by
  unfold impl_only
  rw [u64_nat (by omega), shl1_i (by omega)]

/-- Edges in order. -/
def edgeLt (a b : TEdge) : Bool := decide (a.from_ < b.from_ ∨ (a.from_ = b.from_ ∧ (a.letter < b.letter ∨ (a.letter = b.letter ∧ a.to_ < b.to_))))
theorem l4Less_eq (a b : TEdge) : spec_l4Less a b = edgeLt a b := by
  unfold spec_l4Less edgeLt
  split
  · rw [decide_eq_decide]; omega
  · split
    · rw [decide_eq_decide]; omega
    · rw [decide_eq_decide]; omega
theorem cmpInt_eq (x y : Int) : cmp_Compare_int x y = if x < y then -1 else if x > y then 1 else 0 := by
  unfold cmp_Compare_int cmp_isNaN_int
  rw [if_neg (by simp), if_neg (by simp)]
theorem cmpOr_eq (x y z : Int) : cmp_Or_int [x, y, z] = some (if x ≠ 0 then x else if y ≠ 0 then y else z) := by
  unfold cmp_Or_int
  have i0 : ix [x, y, z] (0 : Int) = some x := rfl
  have i1 : ix [x, y, z] (1 : Int) = some y := rfl
  have i2 : ix [x, y, z] (2 : Int) = some z := rfl
  have w0 : W (0 + 1) = 1 := by decide
  have w1 : W (1 + 1) = 2 := by decide
  have w2 : W (2 + 1) = 3 := by decide
  by_cases hx : x ≠ 0
  · rw [loop_end (r := .inr x) (by unfold cmp_Or_int.b0; rw [if_pos (by simp), i0, Option.bind_some, if_pos hx]), if_pos hx]; rfl
  · rw [loop_go (s' := 1) (by unfold cmp_Or_int.b0; rw [if_pos (by simp), i0, Option.bind_some, if_neg hx, w0]), if_neg hx]
    by_cases hy : y ≠ 0
    · rw [loop_end (r := .inr y) (by unfold cmp_Or_int.b0; rw [if_pos (by simp), i1, Option.bind_some, if_pos hy]), if_pos hy]; rfl
    · rw [loop_go (s' := 2) (by unfold cmp_Or_int.b0; rw [if_pos (by simp), i1, Option.bind_some, if_neg hy, w1]), if_neg hy]
      by_cases hz : z ≠ 0
      · rw [loop_end (r := .inr z) (by unfold cmp_Or_int.b0; rw [if_pos (by simp), i2, Option.bind_some, if_pos hz])]; rfl
      · rw [loop_go (s' := 3) (by unfold cmp_Or_int.b0; rw [if_pos (by simp), i2, Option.bind_some, if_neg hz, w2]), loop_end (r := .inl ()) (by unfold cmp_Or_int.b0; rw [if_neg (by simp)])]
        have : z = 0 := by omega
        rw [this]; rfl
end Go.Proofs.Ytllpbgcajgbfbaa
end

/- Automata: both sides' test that an automaton is right. -/
section
namespace Go.Proofs.Ytllpbgcajgbfbaa
open Go Go.RowKit E
set_option linter.unusedVariables false

theorem compareEdges_eq (a b : TEdge) : ∃ x, impl_compareEdges a b = some x ∧ decide (x ≥ 0) = !(edgeLt a b) := by
  unfold impl_compareEdges
  rw [cmpOr_eq, Option.bind_some]
  refine ⟨_, rfl, ?_⟩
  rw [cmpInt_eq, cmpInt_eq, cmpInt_eq]
  unfold edgeLt
  rw [Bool.eq_iff_iff, decide_eq_true_eq, Bool.not_eq_true', decide_eq_false_iff_not]
  repeat' split
  all_goals omega
/-- The k-th edge is right. -/
def edgeOk (a : TAuto) (k : Nat) : Bool :=
  decide (0 ≤ (a.edges.getD k default).from_ ∧ (a.edges.getD k default).from_ ≤ a.states - 1) && decide (0 ≤ (a.edges.getD k default).to_ ∧ (a.edges.getD k default).to_ ≤ a.states - 1) && decide (0 ≤ (a.edges.getD k default).letter ∧ (a.edges.getD k default).letter ≤ a.letters - 1) && (decide (k = 0) || edgeLt (a.edges.getD (k - 1) default) (a.edges.getD k default))
def headOk (a : TAuto) : Bool := decide (1 ≤ a.letters ∧ a.letters ≤ 8) && decide (0 ≤ a.states ∧ a.states ≤ 31) && decide (0 ≤ a.start ∧ a.start < ((2 ^ a.states.toNat : Nat) : Int)) && decide (a.edges.length ≤ 2000)
def autoOk (a : TAuto) : Bool := headOk a && (List.range a.edges.length).all (edgeOk a)
theorem headOk_t {a : TAuto} (h : headOk a = true) : (1 ≤ a.letters ∧ a.letters ≤ 8) ∧ (0 ≤ a.states ∧ a.states ≤ 31) ∧ (0 ≤ a.start ∧ a.start < ((2 ^ a.states.toNat : Nat) : Int)) ∧ a.edges.length ≤ 2000 := by
  unfold headOk at h
  simp only [Bool.and_eq_true, decide_eq_true_eq] at h
  exact ⟨h.1.1.1, h.1.1.2, h.1.2, h.2⟩
theorem specEdge_eq (a : TAuto) (h : headOk a = true) {k : Nat} (hk : k < a.edges.length) : spec_AutoOk.b0 a (k : Int) = some (if edgeOk a k = true then .inl ((k + 1 : Nat) : Int) else .inr (.inr false)) := by
  obtain ⟨h1, h2, h3, h4⟩ := headOk_t h
  unfold spec_AutoOk.b0 edgeOk spec_l4State
  have w1 : W (a.states - 1) = a.states - 1 := W_eq (by omega) (by omega)
  have w2 : W (a.letters - 1) = a.letters - 1 := W_eq (by omega) (by omega)
  simp only [bnd_eq, l1Rg, w1, w2, l4Less_eq]
  rw [if_pos (by omega), ix_nat hk, Option.bind_some, WN (by omega)]
  generalize a.edges.getD k default = e
  by_cases c1 : 0 ≤ e.from_ ∧ e.from_ ≤ a.states - 1
  · by_cases c2 : 0 ≤ e.to_ ∧ e.to_ ≤ a.states - 1
    · by_cases c3 : 0 ≤ e.letter ∧ e.letter ≤ a.letters - 1
      · rw [decide_eq_true c1, decide_eq_true c2, decide_eq_true c3]
        by_cases c4 : k = 0
        · subst c4; rfl
        · rw [decide_eq_true (by omega : (k : Int) > 0), decide_eq_false c4]
          have e1 : W ((k : Int) - 1) = ((k - 1 : Nat) : Int) := by rw [W, W_eq (by omega) (by omega)]; omega
          rw [e1, ix_nat (by omega)]
          simp only [Bool.not_true, Bool.or_self, Bool.not_false, Bool.and_self, whenO_t, Option.bind_some, Bool.false_or, Bool.true_and]
          cases edgeLt (a.edges.getD (k - 1) default) e <;> rfl
      · rw [decide_eq_false c3]; simp [whenO]
    · rw [decide_eq_false c2]; simp [whenO]
  · rw [decide_eq_false c1]; simp [whenO]
theorem implEdge_eq (a : TAuto) (h : headOk a = true) {k : Nat} (hk : k < a.edges.length) : impl_AutoOk.b0 a (k : Int) = some (if edgeOk a k = true then .inl ((k + 1 : Nat) : Int) else .inr (.inr false)) := by
  obtain ⟨h1, h2, h3, h4⟩ := headOk_t h
  unfold impl_AutoOk.b0 edgeOk
  have w1 : W (a.states - 1) = a.states - 1 := W_eq (by omega) (by omega)
  have w2 : W (a.letters - 1) = a.letters - 1 := W_eq (by omega) (by omega)
  simp only [bnd_eq, inRg, w1, w2]
  rw [if_pos (by omega), ix_nat hk, Option.bind_some, WN (by omega)]
  generalize a.edges.getD k default = e
  by_cases c1 : 0 ≤ e.from_ ∧ e.from_ ≤ a.states - 1
  · by_cases c2 : 0 ≤ e.to_ ∧ e.to_ ≤ a.states - 1
    · by_cases c3 : 0 ≤ e.letter ∧ e.letter ≤ a.letters - 1
      · rw [decide_eq_true c1, decide_eq_true c2, decide_eq_true c3]
        rw [if_neg (by simp)]
        by_cases c4 : k = 0
        · subst c4; rfl
        · rw [decide_eq_true (by omega : (k : Int) > 0), decide_eq_false c4]
          have e1 : W ((k : Int) - 1) = ((k - 1 : Nat) : Int) := by rw [W, W_eq (by omega) (by omega)]; omega
          rw [e1, ix_nat (by omega)]
          obtain ⟨x, x1, x2⟩ := compareEdges_eq (a.edges.getD (k - 1) default) e
          rw [whenO_t, Option.bind_some, whenO_t, x1, Option.bind_some, x2]
          cases edgeLt (a.edges.getD (k - 1) default) e <;> rfl
      · rw [decide_eq_false c3]; simp
    · rw [decide_eq_false c2]; simp
  · rw [decide_eq_false c1]; simp
theorem specAutoOk_eq (a : TAuto) : spec_AutoOk a = some (autoOk a) := by
  unfold spec_AutoOk autoOk
  rw [bnd_eq, bnd_eq, bnd_eq, l1Rg, l1Rg]
  by_cases hh : headOk a = true
  · obtain ⟨h1, h2, h3, h4⟩ := headOk_t hh
    rw [decide_eq_true h1, decide_eq_true h2, Bool.not_true, Bool.or_self, Bool.not_false, whenO_t, decide_eq_true h2.1, chk_t, Option.bind_some]
    have e : a.states = ((a.states.toNat : Nat) : Int) := by omega
    have hs := setIn_eq a.start (n := a.states.toNat) (by omega)
    rw [← e] at hs
    rw [hs, decide_eq_true h3, decide_eq_false (by omega : ¬ (a.edges.length : Int) > 2000), if_neg (by simp), hh]
    rw [all_loop a.edges.length (edgeOk a) (fun k hk => specEdge_eq a hh hk) (by unfold spec_AutoOk.b0; rw [if_neg (by omega)]), Option.bind_some]
    cases (List.range a.edges.length).all (edgeOk a) <;> rfl
  · rw [Bool.not_eq_true] at hh
    rw [hh, Bool.false_and]
    by_cases h1 : 1 ≤ a.letters ∧ a.letters ≤ 8
    · by_cases h2 : 0 ≤ a.states ∧ a.states ≤ 31
      · rw [decide_eq_true h1, decide_eq_true h2, Bool.not_true, Bool.or_self, Bool.not_false, whenO_t, decide_eq_true h2.1, chk_t, Option.bind_some]
        have e : a.states = ((a.states.toNat : Nat) : Int) := by omega
        have hs := setIn_eq a.start (n := a.states.toNat) (by omega)
        rw [← e] at hs
        rw [hs]
        unfold headOk at hh
        rw [decide_eq_true h1, decide_eq_true h2] at hh
        rw [if_pos]
        by_cases h3 : 0 ≤ a.start ∧ a.start < ((2 ^ a.states.toNat : Nat) : Int)
        · rw [decide_eq_true h3] at hh
          have : ¬ a.edges.length ≤ 2000 := by simpa using hh
          rw [decide_eq_true (by omega : (a.edges.length : Int) > 2000), Bool.or_true]
        · rw [decide_eq_false h3]; simp
      · rw [decide_eq_false h2]; simp [whenO]
    · rw [decide_eq_false h1]; simp [whenO]
theorem implAutoOk_eq (a : TAuto) : impl_AutoOk a = some (autoOk a) := by
  have hd : (impl_headOk a.letters a.states a.start && decide (a.edges.length ≤ 2000)) = headOk a := by
    unfold impl_headOk headOk impl_isLetters impl_SetOk
    simp only [bnd_eq, inRg]
    by_cases h2 : 0 ≤ a.states ∧ a.states ≤ 31
    · have ho := only_eq (n := a.states.toNat) (by omega)
      rw [show ((a.states.toNat : Nat) : Int) = a.states by omega] at ho
      have hp := pow31 (n := a.states.toNat) (by omega)
      rw [ho]
      congr 1
      rw [Bool.and_assoc]
      congr 1
      rw [← Bool.decide_and, decide_eq_decide]
      omega
    · rw [decide_eq_false h2]; simp
  unfold impl_AutoOk autoOk
  rw [bnd_eq, ← hd]
  by_cases hl : a.edges.length ≤ 2000
  · rw [decide_eq_true hl, decide_eq_false (by omega : ¬ (a.edges.length : Int) > 2000), Bool.and_true, Bool.or_false]
    rw [decide_eq_true hl, Bool.and_true] at hd
    cases hh : impl_headOk a.letters a.states a.start with
    | false => rw [Bool.not_false, if_pos rfl]; rfl
    | true =>
      rw [hh] at hd
      rw [Bool.not_true, if_neg (by simp), all_loop a.edges.length (edgeOk a) (fun k hk => implEdge_eq a hd.symm hk) (by unfold impl_AutoOk.b0; rw [if_neg (by omega)]), Option.bind_some]
      cases (List.range a.edges.length).all (edgeOk a) <;> rfl
  · rw [decide_eq_true (by omega : (a.edges.length : Int) > 2000), Bool.or_true, if_pos rfl, decide_eq_false hl, Bool.and_false]; rfl
/-- What a right automaton's edges are. -/
theorem autoOk_t {a : TAuto} (h : autoOk a = true) : headOk a = true ∧ ∀ k, k < a.edges.length → (0 ≤ (a.edges.getD k default).from_ ∧ (a.edges.getD k default).from_ ≤ 30) ∧ (0 ≤ (a.edges.getD k default).to_ ∧ (a.edges.getD k default).to_ ≤ 30) := by
  unfold autoOk at h
  rw [Bool.and_eq_true] at h
  refine ⟨h.1, fun k hk => ?_⟩
  have h2 := (headOk_t h.1).2.1
  have := List.all_eq_true.mp h.2 k (List.mem_range.mpr hk)
  unfold edgeOk at this
  simp only [Bool.and_eq_true, decide_eq_true_eq] at this
  omega
end Go.Proofs.Ytllpbgcajgbfbaa
end

/- What a right automaton is. -/
section
namespace Go.Proofs.Ytllpbgcajgbfbaa
open Go Go.RowKit E
set_option linter.unusedVariables false

/-- What a right automaton is. -/
structure AOk (a : TAuto) : Prop where
  lets : 1 ≤ a.letters ∧ a.letters ≤ 8
  sts : 0 ≤ a.states ∧ a.states ≤ 31
  start : 0 ≤ a.start ∧ a.start < ((2 ^ a.states.toNat : Nat) : Int)
  num : a.edges.length ≤ 2000
  edge : ∀ e ∈ a.edges, (0 ≤ e.from_ ∧ e.from_ < a.states) ∧ (0 ≤ e.to_ ∧ e.to_ < a.states) ∧ (0 ≤ e.letter ∧ e.letter < a.letters)
theorem autoOk_A {a : TAuto} (h : autoOk a = true) : AOk a := by
  obtain ⟨h1, h2⟩ := autoOk_t h
  obtain ⟨g1, g2, g3, g4⟩ := headOk_t h1
  refine ⟨g1, g2, g3, g4, fun e he => ?_⟩
  obtain ⟨k, hk, rfl⟩ := List.getElem_of_mem he
  unfold autoOk at h
  rw [Bool.and_eq_true] at h
  have := List.all_eq_true.mp h.2 k (List.mem_range.mpr hk)
  unfold edgeOk at this
  simp only [Bool.and_eq_true, decide_eq_true_eq] at this
  have e1 : a.edges.getD k default = a.edges[k] := by simp [List.getD_eq_getElem?_getD, hk]
  rw [e1] at this
  omega
end Go.Proofs.Ytllpbgcajgbfbaa
end

/- Members of sets, by the reference. -/
section
namespace Go.Proofs.Ytllpbgcajgbfbaa
open Go Go.RowKit E
set_option linter.unusedVariables false

theorem and31 {x : Int} (h : 0 ≤ x ∧ x ≤ 30) : bAnd .i64 x 31 = x := by
  obtain ⟨y, rfl⟩ : ∃ y : Nat, x = y := ⟨x.toNat, by omega⟩
  have := bAnd_i (a := y) (b := 31) (by omega) (by omega)
  rw [show ((31 : Nat) : Int) = 31 from rfl] at this
  rw [this, show (31 : Nat) = 2 ^ 5 - 1 from rfl, Nat.and_two_pow_sub_one_eq_mod, Nat.mod_eq_of_lt (by omega)]
theorem l1Bit_eq {x : Int} (h : 0 ≤ x ∧ x ≤ 30) : spec_l1Bit x = some ((2 ^ x.toNat : Nat) : Int) := by
  unfold spec_l1Bit
  rw [and31 h, decide_eq_true h.1, chk_t, Option.bind_some]
  have := shl1_i (n := x.toNat) (by omega)
  rw [show ((x.toNat : Nat) : Int) = x by omega] at this
  rw [this]
theorem and_pow (s n : Nat) : decide (s &&& 2 ^ n ≠ 0) = s.testBit n := by
  cases h : s.testBit n with
  | false =>
    have : s &&& 2 ^ n = 0 := Nat.eq_of_testBit_eq fun i => by
      rw [Nat.testBit_and, Nat.testBit_two_pow, Nat.zero_testBit]
      by_cases e : n = i
      · subst e; rw [h]; rfl
      · simp [e]
    simp [this]
  | true =>
    rw [decide_eq_true_eq]
    intro g
    have := congrArg (fun x => x.testBit n) g
    simp [Nat.testBit_and, h, Nat.testBit_two_pow] at this
theorem l1Has_eq {s : Nat} (hs : s < 2 ^ 31) {x : Int} (h : 0 ≤ x ∧ x ≤ 30) : spec_l1Has (s : Int) x = some (s.testBit x.toNat) := by
  unfold spec_l1Has
  have hp := pow31 (n := x.toNat) (by omega)
  have h31 : (2 : Nat) ^ 31 = 2147483648 := rfl
  rw [bnd_eq, show spec_l1In x 0 30 = decide (0 ≤ x ∧ x ≤ 30) from inR, decide_eq_true h, whenO_t, l1Bit_eq h, Option.bind_some, bAnd_i (by omega) (by omega), Bool.true_and, ← and_pow]
  congr 1
  rw [decide_eq_decide]; omega
end Go.Proofs.Ytllpbgcajgbfbaa
end

/- Members of sets, by the program. -/
section
namespace Go.Proofs.Ytllpbgcajgbfbaa
open Go Go.RowKit E
set_option linter.unusedVariables false

theorem has_eq {s : Nat} (hs : s < 2 ^ 31) {x : Int} (h : 0 ≤ x ∧ x ≤ 30) : impl_has (s : Int) x = s.testBit x.toNat := by
  unfold impl_has
  have h31 : (2 : Nat) ^ 31 = 2147483648 := rfl
  obtain ⟨y, rfl⟩ : ∃ y : Nat, x = y := ⟨x.toNat, by omega⟩
  rw [u64_nat (by omega), bit_i (by omega) (by omega), Int.toNat_natCast]
end Go.Proofs.Ytllpbgcajgbfbaa
end

/- States of ranks that are right, both sides. -/
section
namespace Go.Proofs.Ytllpbgcajgbfbaa
open Go Go.RowKit E
set_option linter.unusedVariables false

def rankedB2 (a : TAuto) : Bool := autoOk a && decide (a.states ≤ 2)
def okAt (a : TAuto) (s : TRankState) (q : Nat) : Bool := decide ((-1 ≤ s.ranks.getD q default ∧ s.ranks.getD q default ≤ 2 * a.states) ∧ (s.owing.toNat.testBit q = true → 0 ≤ s.ranks.getD q default ∧ s.ranks.getD q default % 2 = 0))
def rkB (a : TAuto) (s : TRankState) : Bool := rankedB2 a && (decide ((s.ranks.length : Int) = a.states ∧ (0 ≤ s.owing ∧ s.owing < ((2 ^ a.states.toNat : Nat) : Int))) && (List.range a.states.toNat).all (okAt a s))
theorem tmod2 {r : Int} (h : 0 ≤ r) : Int.tmod r 2 = r % 2 := Int.tmod_eq_emod_of_nonneg h
theorem ranked_A {a : TAuto} (h : rankedB2 a = true) : AOk a ∧ a.states ≤ 2 := by
  unfold rankedB2 at h
  rw [Bool.and_eq_true, decide_eq_true_eq] at h
  exact ⟨autoOk_A h.1, h.2⟩
theorem specRankOk_eq (a : TAuto) (s : TRankState) : spec_RankOk a s = some (rkB a s) := by
  unfold spec_RankOk spec_l13States
  rw [specAutoOk_eq, Option.bind_some, Option.bind_some]
  show (whenO (rankedB2 a) (spec_l13Ok a s)).bind (fun a10 => some (rankedB2 a && a10)) = _
  unfold rkB
  by_cases h : rankedB2 a = true
  · obtain ⟨hA, h2⟩ := ranked_A h
    have h0 := hA.sts
    rw [h, whenO_t, Bool.true_and]
    obtain ⟨n, e0⟩ : ∃ n : Nat, a.states = (n : Int) := ⟨a.states.toNat, by omega⟩
    have hn : n ≤ 2 := by omega
    have hp := pow31 (n := n) (by omega)
    unfold spec_l13Ok
    rw [bnd_eq, e0, Int.toNat_natCast]
    by_cases hl : (s.ranks.length : Int) = (n : Int)
    · have hl' : s.ranks.length = n := by omega
      rw [decide_eq_false (by simp [hl]), Bool.not_false, whenO_t, decide_eq_true (by omega), chk_t, Option.bind_some, Bool.false_or, setIn_eq _ (by omega)]
      by_cases ho : 0 ≤ s.owing ∧ s.owing < ((2 ^ n : Nat) : Int)
      · rw [decide_eq_true ho, if_neg (by simp), decide_eq_true ⟨hl, ho⟩, Bool.true_and]
        obtain ⟨w, ew⟩ : ∃ w : Nat, s.owing = (w : Int) := ⟨s.owing.toNat, by omega⟩
        have hw : w < 2 ^ 31 := lt31 (n := n) (by omega) (by omega)
        have key := all_loop (body := fun x : Int => spec_l13Ok.b0 a s x) n (okAt a s) (fun k hk => by
          try dsimp only
          unfold spec_l13Ok.b0 okAt
          rw [e0, if_pos (by omega), ix_nat (by omega), Option.bind_some, bnd_eq, l1Rg, W, W_eq (by omega) (by omega), ew, l1Has_eq hw (by omega), Int.toNat_natCast, Int.toNat_natCast]
          generalize s.ranks.getD k default = r
          have w4 : IntKind.i64.wrap ((k : Int) + 1) = ((k + 1 : Nat) : Int) := W_nat (by omega)
          by_cases c : -1 ≤ r ∧ r ≤ 2 * (n : Int)
          · rw [decide_eq_true c, Bool.not_true, Bool.not_false, whenO_t, Option.bind_some, bnd_eq, Bool.false_or]
            cases hb : w.testBit k with
            | false => rw [Bool.false_and, if_neg (by simp), decide_eq_true (by exact ⟨c, fun g => by cases g⟩), if_pos rfl, W, w4]
            | true =>
              rw [Bool.true_and]
              by_cases c2 : r < 0
              · rw [decide_eq_true c2, Bool.true_or, if_pos rfl, decide_eq_false (fun g => by have := g.2 rfl; omega), if_neg (by simp)]
              · rw [decide_eq_false c2, Bool.false_or, tmod2 (by omega)]
                by_cases c3 : r % 2 = 1
                · rw [decide_eq_true c3, if_pos rfl, decide_eq_false (fun g => by have := g.2 rfl; omega), if_neg (by simp)]
                · rw [decide_eq_false c3, if_neg (by simp), decide_eq_true (by exact ⟨c, fun _ => by omega⟩), if_pos rfl, W, w4]
          · rw [decide_eq_false c, Bool.not_false, Bool.not_true, whenO_f, Option.bind_some, bnd_eq, Bool.true_or, if_pos rfl, decide_eq_false (fun g => c g.1), if_neg (by simp)]) (by
          try dsimp only
          unfold spec_l13Ok.b0
          rw [e0, if_neg (by omega)])
        rw [key, Option.bind_some]
        by_cases g : (List.range n).all (okAt a s) = true
        · rw [if_pos g, g]; rfl
        · rw [if_neg g, Bool.eq_false_iff.mpr g]; rfl
      · rw [decide_eq_false ho, if_pos (by simp), decide_eq_false (fun g => ho g.2), Bool.false_and]; rfl
    · rw [decide_eq_true (by exact hl), Bool.not_true, whenO_f, Option.bind_some, Bool.true_or, if_pos rfl, decide_eq_false (fun g => hl g.1), Bool.false_and]; rfl
  · rw [Bool.eq_false_iff.mpr h, whenO_f, Option.bind_some, Bool.false_and, Bool.false_and]
theorem implRankOk_eq (a : TAuto) (s : TRankState) (hs : s.ranks.length ≤ 4611686018427387904) : impl_RankOk a s = some (rkB a s) := by
  unfold impl_RankOk impl_isRanked
  rw [implAutoOk_eq, Option.bind_some, Option.bind_some]
  show (bnd (!(rankedB2 a)) _) = _
  unfold rkB
  rw [bnd_eq, bnd_eq, bnd_eq]
  by_cases h : rankedB2 a = true
  · obtain ⟨hA, h2⟩ := ranked_A h
    have h0 := hA.sts
    obtain ⟨n, e0⟩ : ∃ n : Nat, a.states = (n : Int) := ⟨a.states.toNat, by omega⟩
    have hn : n ≤ 2 := by omega
    have hp := pow31 (n := n) (by omega)
    rw [h, Bool.not_true, Bool.false_or, Bool.true_and, e0, Int.toNat_natCast, only_eq (by omega)]
    by_cases hl : (s.ranks.length : Int) = (n : Int)
    · have hl' : s.ranks.length = n := by omega
      rw [decide_eq_false (by simp [hl]), Bool.false_or]
      unfold impl_SetOk
      rw [inRg]
      by_cases ho : 0 ≤ s.owing ∧ s.owing < ((2 ^ n : Nat) : Int)
      · rw [decide_eq_true (by omega), decide_eq_false (by omega), if_neg (by simp), decide_eq_true ⟨hl, ho⟩, Bool.true_and]
        obtain ⟨w, ew⟩ : ∃ w : Nat, s.owing = (w : Int) := ⟨s.owing.toNat, by omega⟩
        have hw : w < 2 ^ 31 := lt31 (n := n) (by omega) (by omega)
        have key := all_loop (body := fun x : Int => impl_RankOk.b0 s a x) n (okAt a s) (fun k hk => by
          try dsimp only
          unfold impl_RankOk.b0 okAt
          rw [if_pos (by omega), ix_nat (by omega), Option.bind_some, bnd_eq, inRg, e0, W, W_eq (by omega) (by omega), ew, has_eq hw (by omega), Int.toNat_natCast, Int.toNat_natCast, bnd_eq, bnd_eq]
          generalize s.ranks.getD k default = r
          have w4 : IntKind.i64.wrap ((k : Int) + 1) = ((k + 1 : Nat) : Int) := W_nat (by omega)
          by_cases c : -1 ≤ r ∧ r ≤ 2 * (n : Int)
          · rw [decide_eq_true c, Bool.not_true, Bool.false_or]
            cases hb : w.testBit k with
            | false => rw [Bool.false_and, if_neg (by simp), decide_eq_true (by exact ⟨c, fun g => by cases g⟩), if_pos rfl, W, w4]
            | true =>
              rw [Bool.true_and]
              by_cases c2 : r < 0
              · rw [decide_eq_true c2, Bool.true_or, if_pos rfl, decide_eq_false (fun g => by have := g.2 rfl; omega), if_neg (by simp)]
              · rw [decide_eq_false c2, Bool.false_or, tmod2 (by omega)]
                by_cases c3 : r % 2 = 0
                · rw [decide_eq_false (by simp [c3]), if_neg (by simp), decide_eq_true (by exact ⟨c, fun _ => by omega⟩), if_pos rfl, W, w4]
                · rw [decide_eq_true (by exact c3), if_pos rfl, decide_eq_false (fun g => by have := g.2 rfl; omega), if_neg (by simp)]
          · rw [decide_eq_false c, Bool.not_false, Bool.true_or, if_pos rfl, decide_eq_false (fun g => c g.1), if_neg (by simp)]) (by
          try dsimp only
          unfold impl_RankOk.b0
          rw [if_neg (by omega)])
        rw [key, Option.bind_some]
        by_cases g : (List.range n).all (okAt a s) = true
        · rw [if_pos g, g]; rfl
        · rw [if_neg g, Bool.eq_false_iff.mpr g]; rfl
      · rw [if_pos (by
          rw [Bool.or_eq_true]
          by_cases c : 0 ≤ s.owing ∧ s.owing ≤ 2147483647
          · right; rw [decide_eq_true_eq]; omega
          · left; rw [decide_eq_false c]; rfl), decide_eq_false (fun g => ho g.2), Bool.false_and]
    · rw [decide_eq_true (by exact hl), Bool.true_or, Bool.true_or, if_pos rfl, decide_eq_false (fun g => hl g.1), Bool.false_and]
  · rw [Bool.eq_false_iff.mpr h, Bool.not_false, Bool.true_or, Bool.true_or, Bool.true_or, if_pos rfl, Bool.false_and]
end Go.Proofs.Ytllpbgcajgbfbaa
end

/- Loops over lists, told by what their states stand for. -/
section
namespace Go.Proofs.Ytllpbgcajgbfbaa
open Go Go.RowKit E
set_option linter.unusedVariables false

theorem fold_loopR {α σ τ ρ : Type} [Inhabited α] (r : τ → σ) (o : τ → ρ) (xs : List α) (f : τ → α → τ) (Inv : Nat → τ → Prop) {body : σ × Int → Option ((σ × Int) ⊕ ρ)} (go : ∀ (k : Nat) (st : τ), k < xs.length → Inv k st → body (r st, (k : Int)) = some (.inl (r (f st (xs.getD k default)), ((k + 1 : Nat) : Int))) ∧ Inv (k + 1) (f st (xs.getD k default)))
    (fin : ∀ st, Inv xs.length st → body (r st, (xs.length : Int)) = some (.inr (o st))) (st : τ) (h0 : Inv 0 st) : loop body (r st, 0) = some (o (xs.foldl f st)) ∧ Inv xs.length (xs.foldl f st) := by
  have key : ∀ post pre, xs = pre ++ post → ∀ st, Inv pre.length st → loop body (r st, (pre.length : Int)) = some (o (post.foldl f st)) ∧ Inv xs.length (post.foldl f st) := by
    intro post
    induction post with
    | nil => intro pre h st hi; simp at h; subst h; exact ⟨loop_end (fin st hi), hi⟩
    | cons a post ih =>
      intro pre h st hi
      have hk : pre.length < xs.length := by rw [h]; simp
      have ha : xs.getD pre.length default = a := by rw [h]; simp
      obtain ⟨g1, g2⟩ := go pre.length st hk hi
      rw [ha] at g1 g2
      have e : (((pre.length + 1 : Nat) : Int)) = ((pre ++ [a]).length : Int) := by simp
      rw [loop_go g1, e, List.foldl_cons]
      exact ih (pre ++ [a]) (by rw [h]; simp) _ (by simpa using g2)
  exact key xs [] rfl st h0
/-- A loop over the numbers below one. -/
theorem range_loopR {σ τ ρ : Type} (r : τ → σ) (o : τ → ρ) (n : Nat) (f : τ → Nat → τ) (Inv : Nat → τ → Prop) {body : σ × Int → Option ((σ × Int) ⊕ ρ)} (go : ∀ (k : Nat) (st : τ), k < n → Inv k st → body (r st, (k : Int)) = some (.inl (r (f st k), ((k + 1 : Nat) : Int))) ∧ Inv (k + 1) (f st k))
    (fin : ∀ st, Inv n st → body (r st, (n : Int)) = some (.inr (o st))) (st : τ) (h0 : Inv 0 st) : loop body (r st, 0) = some (o ((List.range n).foldl f st)) ∧ Inv n ((List.range n).foldl f st) := by
  have h := fold_loopR r o (List.range n) f Inv (body := body) (fun k st hk hi => by
    have hk' : k < n := by simpa using hk
    have e : (List.range n).getD k default = k := by simp [List.getD_eq_getElem?_getD, hk']
    rw [e]; exact go k st hk' hi) (fun st hi => by rw [List.length_range] at hi ⊢; exact fin st hi) st h0
  rw [List.length_range] at h
  exact h
/-- Members put into a set, where asked. -/
def setOf (c : Nat → Bool) (n : Nat) : Nat := (List.range n).foldl (fun s k => if c k = true then s ||| 2 ^ k else s) 0
theorem setOf_bit (c : Nat → Bool) (n : Nat) (i : Nat) : (setOf c n).testBit i = (decide (i < n) && c i) := by
  unfold setOf
  induction n with
  | zero => simp
  | succ n ih =>
    rw [List.range_succ, List.foldl_append, List.foldl_cons, List.foldl_nil]
    by_cases h : c n = true
    · rw [if_pos h, Nat.testBit_or, ih, Nat.testBit_two_pow]
      by_cases e : n = i
      · subst e; simp [h]
      · have : decide (i < n + 1) = decide (i < n) := by rw [decide_eq_decide]; omega
        simp [e, this]
    · rw [if_neg h, ih]
      by_cases e : i = n
      · subst e; simp [h]
      · have : decide (i < n + 1) = decide (i < n) := by rw [decide_eq_decide]; omega
        rw [this]
theorem setOf_lt (c : Nat → Bool) (n : Nat) : setOf c n < 2 ^ n := by
  refine Nat.lt_pow_two_of_testBit _ fun i hi => ?_
  rw [setOf_bit, decide_eq_false (by omega), Bool.false_and]
end Go.Proofs.Ytllpbgcajgbfbaa
end

/- Bits put into a set by a list. -/
section
namespace Go.Proofs.Ytllpbgcajgbfbaa
open Go Go.RowKit E
set_option linter.unusedVariables false

def orL {α : Type} (c : α → Bool) (t : α → Nat) (l : List α) (s : Nat) : Nat := l.foldl (fun s x => if c x = true then s ||| 2 ^ t x else s) s
theorem orL_bit {α : Type} (c : α → Bool) (t : α → Nat) : ∀ (l : List α) (s i : Nat), (orL c t l s).testBit i = true ↔ s.testBit i = true ∨ ∃ x ∈ l, c x = true ∧ t x = i
  | [], s, i => by simp [orL]
  | x :: l, s, i => by
    have e : orL c t (x :: l) s = orL c t l (if c x = true then s ||| 2 ^ t x else s) := rfl
    rw [e, orL_bit c t l]
    by_cases h : c x = true
    · rw [if_pos h, Nat.testBit_or, Bool.or_eq_true, Nat.testBit_two_pow, decide_eq_true_eq]
      constructor
      · rintro ((g | g) | ⟨y, hy, g⟩)
        · exact .inl g
        · exact .inr ⟨x, List.mem_cons_self, h, g⟩
        · exact .inr ⟨y, List.mem_cons_of_mem _ hy, g⟩
      · rintro (g | ⟨y, hy, g⟩)
        · exact .inl (.inl g)
        · rcases List.mem_cons.mp hy with rfl | hy
          · exact .inl (.inr g.2)
          · exact .inr ⟨y, hy, g⟩
    · rw [if_neg h]
      constructor
      · rintro (g | ⟨y, hy, g⟩)
        · exact .inl g
        · exact .inr ⟨y, List.mem_cons_of_mem _ hy, g⟩
      · rintro (g | ⟨y, hy, g⟩)
        · exact .inl g
        · rcases List.mem_cons.mp hy with rfl | hy
          · exact absurd g.1 h
          · exact .inr ⟨y, hy, g⟩
theorem orL_lt {α : Type} {c : α → Bool} {t : α → Nat} {l : List α} {s n : Nat} (hs : s < 2 ^ n) (h : ∀ x ∈ l, t x < n) : orL c t l s < 2 ^ n := by
  refine Nat.lt_pow_two_of_testBit _ fun i hi => ?_
  cases hb : (orL c t l s).testBit i with
  | false => rfl
  | true =>
    rcases (orL_bit c t l s i).mp hb with g | ⟨x, hx, _, g⟩
    · rw [Nat.testBit_lt_two_pow (Nat.lt_of_lt_of_le hs (Nat.pow_le_pow_right (by omega) hi))] at g; cases g
    · have := h x hx; omega
theorem and_ne (x y : Nat) : x &&& y ≠ 0 ↔ ∃ i, x.testBit i = true ∧ y.testBit i = true := by
  constructor
  · intro h
    refine Classical.byContradiction fun g => h (Nat.eq_of_testBit_eq fun i => ?_)
    rw [Nat.testBit_and, Nat.zero_testBit]
    cases hx : x.testBit i with
    | false => rfl
    | true =>
      cases hy : y.testBit i with
      | false => rfl
      | true => exact absurd ⟨i, hx, hy⟩ g
  · rintro ⟨i, hx, hy⟩ h
    have := congrArg (fun z => z.testBit i) h
    simp [Nat.testBit_and, hx, hy] at this
end Go.Proofs.Ytllpbgcajgbfbaa
end

/- One step of an automaton, both sides. -/
section
namespace Go.Proofs.Ytllpbgcajgbfbaa
open Go Go.RowKit E
set_option linter.unusedVariables false

theorem getD_memE {α : Type} [Inhabited α] {xs : List α} {j : Nat} (h : j < xs.length) : xs.getD j default ∈ xs := by simp [List.getD_eq_getElem?_getD, h]
def goE (S : Nat) (x : Int) (e : TEdge) : Bool := decide (e.letter = x) && S.testBit e.from_.toNat
def stepE (a : TAuto) (S : Nat) (x : Int) : Nat := orL (goE S x) (fun e => e.to_.toNat) a.edges 0
theorem stepE_lt {a : TAuto} (h : AOk a) (S : Nat) (x : Int) : stepE a S x < 2 ^ a.states.toNat := orL_lt (Nat.two_pow_pos _) fun e he => by have := h.edge e he; omega
theorem stepE_bit (a : TAuto) (S : Nat) (x : Int) (i : Nat) : (stepE a S x).testBit i = true ↔ ∃ e ∈ a.edges, e.letter = x ∧ S.testBit e.from_.toNat = true ∧ e.to_.toNat = i := by
  unfold stepE
  rw [orL_bit]
  constructor
  · rintro (g | ⟨e, he, g, rfl⟩)
    · simp at g
    · unfold goE at g
      rw [Bool.and_eq_true, decide_eq_true_eq] at g
      exact ⟨e, he, g.1, g.2, rfl⟩
  · rintro ⟨e, he, g1, g2, rfl⟩
    exact .inr ⟨e, he, by unfold goE; rw [Bool.and_eq_true, decide_eq_true_eq]; exact ⟨g1, g2⟩, rfl⟩
theorem l4Next_eq {a : TAuto} (h : AOk a) {S : Nat} (hS : S < 2 ^ a.states.toNat) (x : Int) : spec_l4Next a (S : Int) x = some ((stepE a S x : Nat) : Int) := by
  have h1 := h.sts; have h2 := h.num
  have h31 : (2 : Nat) ^ 31 = 2147483648 := rfl
  have hSl := lt31 (by omega) hS
  unfold spec_l4Next
  have k := fold_loopR (fun s : Nat => (s : Int)) (fun s : Nat => (s : Int)) a.edges (fun s e => if goE S x e = true then s ||| 2 ^ e.to_.toNat else s) (fun _ s => s < 2 ^ a.states.toNat) (body := fun s : Int × Int => spec_l4Next.b0 a x (S : Int) s.1 s.2) (fun k st hk hi => ?_) (fun st _ => by unfold spec_l4Next.b0; rw [if_neg (by simp)]) 0 (Nat.two_pow_pos _)
  · have e : loop (fun s : Int × Int => spec_l4Next.b0 a x (S : Int) s.1 s.2) (0, 0) = some ((stepE a S x : Nat) : Int) := k.1
    rw [e]; rfl
  · have hE := h.edge _ (getD_memE hk)
    have hst := lt31 (by omega) hi
    have hp := pow31 (n := (a.edges.getD k default).to_.toNat) (by omega)
    constructor
    · unfold spec_l4Next.b0
      dsimp only
      rw [if_pos (by omega), ix_nat hk, Option.bind_some, bnd_eq]
      unfold goE
      cases hl : decide ((a.edges.getD k default).letter = x) with
      | false => rw [whenO_f, Option.bind_some, Bool.false_and, if_neg (by simp), Bool.false_and, if_neg (by simp), WN (by omega)]
      | true =>
        rw [whenO_t, l1Has_eq hSl (by omega), Option.bind_some, Bool.true_and]
        split
        · rw [l1Bit_eq (by omega), Option.bind_some, bOr_i (by omega) (by omega), WN (by omega)]
        · rw [WN (by omega)]
    · split
      · exact or_lt hi (Nat.pow_lt_pow_right (by omega) (by omega))
      · exact hi
theorem step_eq {a : TAuto} (h : AOk a) {S : Nat} (hS : S < 2 ^ a.states.toNat) (x : Int) : impl_Auto_step a (S : Int) x = some ((stepE a S x : Nat) : Int) := by
  have h1 := h.sts; have h2 := h.num
  have h31 : (2 : Nat) ^ 31 = 2147483648 := rfl
  have hSl := lt31 (by omega) hS
  unfold impl_Auto_step
  have k := fold_loopR (fun s : Nat => (s : Int)) (fun s : Nat => (s : Int)) a.edges (fun s e => if goE S x e = true then s ||| 2 ^ e.to_.toNat else s) (fun _ s => s < 2 ^ a.states.toNat) (body := fun s : Int × Int => impl_Auto_step.b0 a x (S : Int) s.1 s.2) (fun k st hk hi => ?_) (fun st _ => by unfold impl_Auto_step.b0; rw [if_neg (by simp)]) 0 (Nat.two_pow_pos _)
  · have e : loop (fun s : Int × Int => impl_Auto_step.b0 a x (S : Int) s.1 s.2) (0, 0) = some ((stepE a S x : Nat) : Int) := k.1
    rw [e]; rfl
  · have hE := h.edge _ (getD_memE hk)
    have hst := lt31 (by omega) hi
    have hp := pow31 (n := (a.edges.getD k default).to_.toNat) (by omega)
    constructor
    · unfold impl_Auto_step.b0
      dsimp only
      rw [if_pos (by omega), ix_nat hk, Option.bind_some, bnd_eq, has_eq hSl (by omega)]
      have ho := only_eq (n := (a.edges.getD k default).to_.toNat) (by omega)
      rw [Int.toNat_of_nonneg hE.2.1.1] at ho
      unfold goE
      split
      · rw [ho, bOr_i (by omega) (by omega), WN (by omega)]
      · rw [WN (by omega)]
    · split
      · exact or_lt hi (Nat.pow_lt_pow_right (by omega) (by omega))
      · exact hi
end Go.Proofs.Ytllpbgcajgbfbaa
end

/- The states of ranks that follow, both sides. -/
section
namespace Go.Proofs.Ytllpbgcajgbfbaa
open Go Go.RowKit E
set_option linter.unusedVariables false

theorem cloneR_eq (x : List Int) (h : x.length ≤ 1000000) : slices_Clone_int_int x = some x := by
  unfold slices_Clone_int_int
  split
  · rename_i e; rw [e]
  · rw [app_small (by simp; omega) (by decide), List.nil_append, Option.bind_some]
theorem ix_i {α : Type} [Inhabited α] {xs : List α} {i : Int} (h : 0 ≤ i) (k : i < xs.length) : ix xs i = some (xs.getD i.toNat default) := by unfold ix; rw [if_pos ⟨h, k⟩]
theorem ck_i {n : Nat} {i : Int} (h : 0 ≤ i) (k : i < n) : ck i n = some i.toNat := by unfold ck; rw [if_pos ⟨h, k⟩]
def lowR (g : Bool) (r : Int) : Int := if g = true then r - r % 2 else r
def bStep (s : TRankState) (l : Int) (y : List Int) (e : TEdge) : List Int :=
  if e.letter ≠ l ∨ s.ranks.getD e.from_.toNat default < 0 then y else
    if y.getD e.to_.toNat default < 0 ∨ lowR e.good (s.ranks.getD e.from_.toNat default) < y.getD e.to_.toNat default then y.set e.to_.toNat (lowR e.good (s.ranks.getD e.from_.toNat default)) else y
def boundsL (a : TAuto) (s : TRankState) (l : Int) : List Int := a.edges.foldl (bStep s l) (List.replicate a.states.toNat (-1))
def InB (m : Int) (y : List Int) (n : Nat) : Prop := y.length = n ∧ ∀ v, v < n → -1 ≤ y.getD v default ∧ y.getD v default ≤ m
theorem lowR_in {g : Bool} {r m : Int} (h : 0 ≤ r ∧ r ≤ m) : 0 ≤ lowR g r ∧ lowR g r ≤ m := by unfold lowR; split <;> omega
theorem getD_set' (y : List Int) (i v : Nat) (x : Int) (hi : i < y.length) : (y.set i x).getD v default = if i = v then x else y.getD v default := by
  rw [List.getD_eq_getElem?_getD, List.getD_eq_getElem?_getD, List.getElem?_set]
  by_cases c : i = v
  · rw [if_pos c, if_pos c, if_pos hi]; rfl
  · rw [if_neg c, if_neg c]
theorem bStep_in {s : TRankState} {l m : Int} {y : List Int} {e : TEdge} {n : Nat} (hy : InB m y n) (ht : e.to_.toNat < n) (hr : s.ranks.getD e.from_.toNat default ≤ m) : InB m (bStep s l y e) n := by
  unfold bStep
  split
  · exact hy
  · rename_i c
    split
    · refine ⟨by rw [List.length_set]; exact hy.1, fun v hv => ?_⟩
      rw [getD_set' _ _ _ _ (by rw [hy.1]; exact ht)]
      split
      · have := lowR_in (g := e.good) (r := s.ranks.getD e.from_.toNat default) (m := m) (by omega); omega
      · exact hy.2 v hv
    · exact hy
structure RkOk (a : TAuto) (s : TRankState) : Prop where
  A : AOk a
  few : a.states ≤ 2
  len : (s.ranks.length : Int) = a.states
  owe : 0 ≤ s.owing ∧ s.owing < ((2 ^ a.states.toNat : Nat) : Int)
  rk : ∀ q, q < a.states.toNat → -1 ≤ s.ranks.getD q default ∧ s.ranks.getD q default ≤ 2 * a.states
  ev : ∀ q, q < a.states.toNat → s.owing.toNat.testBit q = true → 0 ≤ s.ranks.getD q default ∧ s.ranks.getD q default % 2 = 0
theorem rkB_ok {a : TAuto} {s : TRankState} (h : rkB a s = true) : RkOk a s := by
  unfold rkB at h
  rw [Bool.and_eq_true, Bool.and_eq_true, decide_eq_true_eq] at h
  obtain ⟨h1, ⟨h2, h3⟩, h4⟩ := h
  obtain ⟨hA, hf⟩ := ranked_A h1
  have h5 : ∀ q, q < a.states.toNat → okAt a s q = true := fun q hq => List.all_eq_true.mp h4 q (List.mem_range.mpr hq)
  exact ⟨hA, hf, h2, h3, fun q hq => (of_decide_eq_true (h5 q hq)).1, fun q hq => (of_decide_eq_true (h5 q hq)).2⟩
theorem bounds_loop {a : TAuto} {s : TRankState} (h : RkOk a s) (l : Int) : impl_bounds.k0 a s l (List.replicate a.states.toNat (-1)) = some (boundsL a s l) ∧ InB (2 * a.states) (boundsL a s l) a.states.toNat := by
  have h1 := h.A.sts; have h2 := h.A.num; have h3 := h.few; have h4 := h.len
  have k := fold_loopR (fun y : List Int => y) (fun y : List Int => y) a.edges (bStep s l) (fun _ y => InB (2 * a.states) y a.states.toNat) (body := fun q : List Int × Int => impl_bounds.b0 a s l q.1 q.2) (fun k y hk hi => ?_) (fun y hi => ?_) (List.replicate a.states.toNat (-1)) ⟨by simp, fun v hv => by simp [List.getD_eq_getElem?_getD, hv]; omega⟩
  · refine ⟨?_, k.2⟩
    unfold impl_bounds.k0
    have e : loop (fun q : List Int × Int => impl_bounds.b0 a s l q.1 q.2) (List.replicate a.states.toNat (-1), 0) = some (boundsL a s l) := k.1
    rw [e]; rfl
  · have hE := h.A.edge _ (getD_memE hk)
    have hr := h.rk (a.edges.getD k default).from_.toNat (by omega)
    refine ⟨?_, bStep_in hi (by omega) hr.2⟩
    unfold impl_bounds.b0
    dsimp only
    rw [if_pos (by omega), ix_nat hk, Option.bind_some, ix_i (by omega) (by omega), Option.bind_some, bnd_eq, W, W_nat (by omega)]
    generalize a.edges.getD k default = e at hE hr ⊢
    have hk2 : ∀ x, impl_bounds.k2 y e (k : Int) x = some (.inl (if y.getD e.to_.toNat default < 0 ∨ x < y.getD e.to_.toNat default then y.set e.to_.toNat x else y, ((k + 1 : Nat) : Int))) := fun x => by
      unfold impl_bounds.k2
      rw [ix_i (by omega) (by rw [hi.1]; omega), Option.bind_some, bnd_eq, W, W_nat (by omega)]
      by_cases c : y.getD e.to_.toNat default < 0
      · rw [decide_eq_true c, Bool.not_true, whenO_f, Option.bind_some, Bool.true_or, if_pos rfl, ck_i (by omega) (by rw [hi.1]; omega), Option.bind_some, if_pos (.inl c)]
      · rw [decide_eq_false c, Bool.not_false, whenO_t, Option.bind_some, Bool.false_or]
        by_cases c2 : x < y.getD e.to_.toNat default
        · rw [decide_eq_true c2, if_pos rfl, ck_i (by omega) (by rw [hi.1]; omega), Option.bind_some, if_pos (.inr c2)]
        · rw [decide_eq_false c2, if_neg (by simp), if_neg (by omega)]
    unfold bStep lowR
    generalize s.ranks.getD e.from_.toNat default = r at hr ⊢
    by_cases c : e.letter ≠ l ∨ r < 0
    · rw [if_pos (by rcases c with c | c <;> simp [c]), if_pos c]
    · have c1 : e.letter = l := Classical.byContradiction fun g => c (.inl g)
      have c2 : ¬ r < 0 := fun g => c (.inr g)
      rw [if_neg (by simp [c1, c2]), if_neg c, hk2, hk2, tmod2 (by omega), W, W_eq (by omega) (by omega)]
      cases e.good <;> rfl
  · unfold impl_bounds.b0
    dsimp only
    rw [if_neg (by omega)]
theorem implBounds_eq {a : TAuto} {s : TRankState} (h : RkOk a s) (l : Int) : impl_bounds a s l = some (boundsL a s l) := by
  have h1 := h.A.sts; have h3 := h.few
  unfold impl_bounds
  rw [mk_ok (by omega) (by omega), Option.bind_some]
  have k := loop_up (body := fun q : List Int × Int => impl_bounds.b1 (List.replicate a.states.toNat 0) q.1 q.2) a.states.toNat (fun k => (List.replicate k (-1) ++ List.replicate (a.states.toNat - k) 0, (k : Int))) (List.replicate a.states.toNat (-1)) (fun k hk => ?_) ?_ 0 (by omega)
  · have e : loop (fun q : List Int × Int => impl_bounds.b1 (List.replicate a.states.toNat 0) q.1 q.2) (List.replicate a.states.toNat 0, 0) = some (List.replicate a.states.toNat (-1)) := by simpa using k
    rw [e, Option.bind_some, (bounds_loop h l).1]
  · unfold impl_bounds.b1
    dsimp only
    rw [if_pos (by simp; omega), ck_nat (by simp; omega), Option.bind_some, W, W_nat (by omega), List.set_append_right _ _ (by simp), show a.states.toNat - k = (a.states.toNat - (k + 1)) + 1 by omega, List.replicate_succ, List.length_replicate, Nat.sub_self, List.set_cons_zero, List.replicate_succ', List.append_assoc]
    rfl
  · unfold impl_bounds.b1
    dsimp only
    rw [if_neg (by simp), Nat.sub_self, List.replicate_zero, List.append_nil]
theorem specBounds_eq {a : TAuto} {s : TRankState} (h : RkOk a s) (l : Int) : spec_l13Bounds a s l = some (boundsL a s l) := by
  have h1 := h.A.sts; have h3 := h.few
  unfold spec_l13Bounds
  have k := loop_up (body := fun q : List Int × Int => spec_l13Bounds.b1 a q.1 q.2) a.states.toNat (fun k => (List.replicate k (-1), (k : Int))) (List.replicate a.states.toNat (-1)) (fun k hk => ?_) ?_ 0 (by omega)
  · have e : loop (fun q : List Int × Int => spec_l13Bounds.b1 a q.1 q.2) ([], 0) = some (List.replicate a.states.toNat (-1)) := by simpa using k
    rw [e, Option.bind_some]
    exact (bounds_loop h l).1
  · unfold spec_l13Bounds.b1
    dsimp only
    rw [if_pos (by omega), app_small (by simp; omega) (by decide), Option.bind_some, W, W_nat (by omega), List.replicate_succ']
  · unfold spec_l13Bounds.b1
    dsimp only
    rw [if_neg (by omega)]
-- rows
def rlist (b : Int) : List Int := (List.range (b - mn b 0 + 1).toNat).map fun k : Nat => mn b 0 + (k : Int)
def rowsStep (rows : List (List Int)) (b : Int) : List (List Int) := rows.flatMap fun row => (rlist b).map fun r => row ++ [r]
def rowsL (bs : List Int) : List (List Int) := bs.foldl rowsStep [[]]
theorem mn0 (b : Int) : mn b 0 = if 0 < b then 0 else b := rfl
theorem rlist_len {b : Int} (h : -1 ≤ b ∧ b ≤ 4) : (rlist b).length ≤ 5 := by
  unfold rlist; rw [List.length_map, List.length_range, mn0]; split <;> omega
theorem mnMin (b : Int) : spec_l1Min 0 b = mn b 0 := rfl
theorem implRow_loop {b : Int} (hb : -1 ≤ b ∧ b ≤ 4) (row : List Int) (y : List (List Int)) (hr : row.length ≤ 100) (hy : y.length ≤ 1000) : loop (fun s : List (List Int) × Int => impl_rankNext.b4 b row s.1 s.2) (y, mn b 0) = some (y ++ (rlist b).map fun r => row ++ [r]) := by
  have hm : -1 ≤ mn b 0 ∧ mn b 0 ≤ b ∧ b - mn b 0 ≤ 4 := by rw [mn0]; split <;> omega
  have k := loop_up (body := fun s : List (List Int) × Int => impl_rankNext.b4 b row s.1 s.2) (b - mn b 0 + 1).toNat (fun k => (y ++ (List.range k).map (fun j : Nat => row ++ [mn b 0 + (j : Int)]), mn b 0 + (k : Int))) (y ++ (rlist b).map fun r => row ++ [r]) (fun k hk => ?_) ?_ 0 (by omega)
  · simpa using k
  · unfold impl_rankNext.b4
    dsimp only
    rw [if_pos (by omega), cloneR_eq _ (by omega), Option.bind_some, app_small (by rw [List.length_singleton]; omega) (by decide), Option.bind_some, app_small (by rw [List.length_append, List.length_map, List.length_range, List.length_singleton]; omega) (by decide), Option.bind_some, W, W_eq (by omega) (by omega), List.range_succ, List.map_append, List.append_assoc]
    rw [show mn b 0 + (k : Int) + 1 = mn b 0 + ((k + 1 : Nat) : Int) by omega]; rfl
  · unfold impl_rankNext.b4
    dsimp only
    rw [if_neg (by omega)]
    unfold rlist; rw [List.map_map]; rfl
theorem foldl_app {α β : Type} (g : α → List β) : ∀ (l : List α) (y : List β), l.foldl (fun y x => y ++ g x) y = y ++ l.flatMap g
  | [], y => by simp
  | x :: l, y => by rw [List.foldl_cons, foldl_app g l, List.flatMap_cons, List.append_assoc]
theorem flat_len {α β : Type} (g : α → List β) (m : Nat) : ∀ (l : List α), (∀ x ∈ l, (g x).length ≤ m) → (l.flatMap g).length ≤ l.length * m
  | [], _ => by simp
  | x :: l, h => by
    have h1 := h x List.mem_cons_self
    have h2 := flat_len g m l fun y hy => h y (List.mem_cons_of_mem _ hy)
    rw [List.flatMap_cons, List.length_append, List.length_cons, Nat.succ_mul]; omega
theorem implRows_loop {b : Int} (hb : -1 ≤ b ∧ b ≤ 4) (rows : List (List Int)) (hr : ∀ row ∈ rows, row.length ≤ 100) (hl : rows.length ≤ 100) : loop (fun s : List (List Int) × Int => impl_rankNext.b3 rows b s.1 s.2) ([], 0) = some (rowsStep rows b) := by
  have k := fold_loopR (fun y : List (List Int) => y) (fun y : List (List Int) => y) rows (fun y row => y ++ (rlist b).map fun r => row ++ [r]) (fun k y => y.length ≤ 5 * k) (body := fun s : List (List Int) × Int => impl_rankNext.b3 rows b s.1 s.2) (fun k y hk hi => ?_) (fun y hi => ?_) [] (Nat.le_refl _)
  · have e := k.1
    rw [foldl_app, List.nil_append] at e
    exact e
  · have hlen := rlist_len hb
    refine ⟨?_, by rw [List.length_append, List.length_map]; omega⟩
    unfold impl_rankNext.b3
    dsimp only
    rw [if_pos (by omega), ix_nat hk, Option.bind_some, implRow_loop hb _ _ (hr _ (getD_memE hk)) (by omega), Option.bind_some]
    unfold impl_rankNext.k7
    rw [W, W_nat (by omega)]
  · unfold impl_rankNext.b3
    dsimp only
    rw [if_neg (by omega)]
def RowsOk (k : Nat) (rows : List (List Int)) : Prop := rows.length ≤ 5 ^ k ∧ ∀ row ∈ rows, row.length = k
theorem rowsStep_ok {k : Nat} {rows : List (List Int)} {b : Int} (hb : -1 ≤ b ∧ b ≤ 4) (h : RowsOk k rows) : RowsOk (k + 1) (rowsStep rows b) := by
  refine ⟨?_, fun row hrow => ?_⟩
  · have := flat_len (fun row : List Int => (rlist b).map fun r => row ++ [r]) 5 rows (fun x _ => by rw [List.length_map]; exact rlist_len hb)
    unfold rowsStep
    rw [Nat.pow_succ]
    exact Nat.le_trans this (Nat.mul_le_mul_right 5 h.1)
  · obtain ⟨x, hx, hrow⟩ := List.mem_flatMap.mp hrow
    obtain ⟨r, _, rfl⟩ := List.mem_map.mp hrow
    rw [List.length_append, List.length_singleton, h.2 x hx]
theorem rowsL_ok {bs : List Int} (hb : ∀ b ∈ bs, -1 ≤ b ∧ b ≤ 4) : RowsOk bs.length (rowsL bs) := by
  have key : ∀ (l : List Int) (k : Nat) (rows : List (List Int)), (∀ b ∈ l, -1 ≤ b ∧ b ≤ 4) → RowsOk k rows → RowsOk (k + l.length) (l.foldl rowsStep rows) := by
    intro l
    induction l with
    | nil => intro k rows _ h; exact h
    | cons b l ih =>
      intro k rows hb h
      have := ih (k + 1) (rowsStep rows b) (fun x hx => hb x (List.mem_cons_of_mem _ hx)) (rowsStep_ok (hb b List.mem_cons_self) h)
      rw [List.foldl_cons, List.length_cons, show k + (l.length + 1) = k + 1 + l.length by omega]; exact this
  have := key bs 0 [[]] hb ⟨by simp, fun row hr => by rw [List.mem_singleton.mp hr]; rfl⟩
  rwa [Nat.zero_add] at this
theorem implAll_loop {bs : List Int} (hb : ∀ b ∈ bs, -1 ≤ b ∧ b ≤ 4) (hl : bs.length ≤ 2) : loop (fun s : List (List Int) × Int => impl_rankNext.b2 bs s.1 s.2) ([[]], 0) = some (rowsL bs) := by
  have p1 : (5 : Nat) ^ 0 = 1 := rfl
  have p2 : (5 : Nat) ^ 1 = 5 := rfl
  have k := fold_loopR (fun y : List (List Int) => y) (fun y : List (List Int) => y) bs rowsStep (fun k y => RowsOk k y) (body := fun s : List (List Int) × Int => impl_rankNext.b2 bs s.1 s.2) (fun k y hk hi => ?_) (fun y hi => ?_) [[]] ⟨by simp, fun row hr => by rw [List.mem_singleton.mp hr]; rfl⟩
  · exact k.1
  · have hbk := hb _ (getD_memE hk)
    refine ⟨?_, rowsStep_ok hbk hi⟩
    unfold impl_rankNext.b2
    dsimp only
    have h5 : (5 : Nat) ^ k ≤ 5 := by
      have : k = 0 ∨ k = 1 := by omega
      rcases this with rfl | rfl <;> simp
    rw [if_pos (by omega), ix_nat hk, Option.bind_some, implRows_loop hbk y (fun row hr => by have := hi.2 row hr; omega) (by have := hi.1; omega), Option.bind_some]
    unfold impl_rankNext.k6 impl_rankNext.k5
    rw [W, W_nat (by omega)]
  · unfold impl_rankNext.b2
    dsimp only
    rw [if_neg (by omega)]
theorem specRow_loop {bs : List Int} {j i : Nat} {rows : List (List Int)} (hj : j < bs.length) (hi : i < rows.length) (hb : -1 ≤ bs.getD j default ∧ bs.getD j default ≤ 4) (y : List (List Int)) (hr : (rows.getD i default).length ≤ 100) (hy : y.length ≤ 1000) : loop (fun s : List (List Int) × Int => spec_l13Next.b4 bs (j : Int) rows (i : Int) s.1 s.2) (y, mn (bs.getD j default) 0) = some (y ++ (rlist (bs.getD j default)).map fun r => rows.getD i default ++ [r]) := by
  have e : (fun s : List (List Int) × Int => spec_l13Next.b4 bs (j : Int) rows (i : Int) s.1 s.2) = fun s : List (List Int) × Int => impl_rankNext.b4 (bs.getD j default) (rows.getD i default) s.1 s.2 := by
    funext s
    unfold spec_l13Next.b4 impl_rankNext.b4
    rw [ix_nat hj, Option.bind_some, ix_nat hi, Option.bind_some, cloneR_eq _ (by omega), app_small (by show 0 + (rows.getD i default).length ≤ _; omega) (by decide), List.nil_append]
  rw [e]
  exact implRow_loop hb _ y hr hy
theorem specRows_loop {bs : List Int} {j : Nat} (hj : j < bs.length) (hb : -1 ≤ bs.getD j default ∧ bs.getD j default ≤ 4) (rows : List (List Int)) (hr : ∀ row ∈ rows, row.length ≤ 100) (hl : rows.length ≤ 100) : loop (fun s : List (List Int) × Int => spec_l13Next.b3 rows bs (j : Int) s.1 s.2) ([], 0) = some (rowsStep rows (bs.getD j default)) := by
  have k := fold_loopR (fun y : List (List Int) => y) (fun y : List (List Int) => y) rows (fun y row => y ++ (rlist (bs.getD j default)).map fun r => row ++ [r]) (fun k y => y.length ≤ 5 * k) (body := fun s : List (List Int) × Int => spec_l13Next.b3 rows bs (j : Int) s.1 s.2) (fun k y hk hi => ?_) (fun y hi => ?_) [] (Nat.le_refl _)
  · have e := k.1
    rw [foldl_app, List.nil_append] at e
    exact e
  · have hlen := rlist_len hb
    refine ⟨?_, by rw [List.length_append, List.length_map]; omega⟩
    unfold spec_l13Next.b3
    dsimp only
    rw [if_pos (by omega), ix_nat hj, Option.bind_some, mnMin, specRow_loop hj hk hb _ (hr _ (getD_memE hk)) (by omega), Option.bind_some]
    unfold spec_l13Next.k7
    rw [W, W_nat (by omega)]
  · unfold spec_l13Next.b3
    dsimp only
    rw [if_neg (by omega)]
theorem specAll_loop {a : TAuto} {bs : List Int} (hb : ∀ b ∈ bs, -1 ≤ b ∧ b ≤ 4) (hl : bs.length ≤ 2) (ha : a.states = (bs.length : Int)) : loop (fun s : List (List Int) × Int => spec_l13Next.b2 a bs s.1 s.2) ([[]], 0) = some (rowsL bs) := by
  have p1 : (5 : Nat) ^ 0 = 1 := rfl
  have p2 : (5 : Nat) ^ 1 = 5 := rfl
  have k := fold_loopR (fun y : List (List Int) => y) (fun y : List (List Int) => y) bs rowsStep (fun k y => RowsOk k y) (body := fun s : List (List Int) × Int => spec_l13Next.b2 a bs s.1 s.2) (fun k y hk hi => ?_) (fun y hi => ?_) [[]] ⟨by simp, fun row hr => by rw [List.mem_singleton.mp hr]; rfl⟩
  · exact k.1
  · have hbk := hb _ (getD_memE hk)
    refine ⟨?_, rowsStep_ok hbk hi⟩
    unfold spec_l13Next.b2
    dsimp only
    have h5 : (5 : Nat) ^ k ≤ 5 := by
      have : k = 0 ∨ k = 1 := by omega
      rcases this with rfl | rfl <;> simp
    rw [if_pos (by omega), specRows_loop hk hbk y (fun row hr => by have := hi.2 row hr; omega) (by have := hi.1; omega), Option.bind_some]
    unfold spec_l13Next.k6 spec_l13Next.k5
    rw [W, W_nat (by omega)]
  · unfold spec_l13Next.b2
    dsimp only
    rw [if_neg (by omega)]
-- what is owed
def cR (S : Nat) (row : List Int) (q : Nat) : Bool := decide (row.getD q default ≥ 0 ∧ row.getD q default % 2 = 0) && S.testBit q
def outL (S : Nat) (rows : List (List Int)) : List TRankState := rows.map fun row => ⟨row, ((setOf (cR S row) row.length : Nat) : Int)⟩
theorem implOwe_loop {S : Nat} (hS : S < 2 ^ 31) (row : List Int) (hr : row.length ≤ 30) : loop (fun s : List Int × Int × Int => impl_rankNext.b1 row (S : Int) s.1 s.2.1 s.2.2) (row, 0, 0) = some (row, ((setOf (cR S row) row.length : Nat) : Int)) := by
  refine loop_up (body := fun s : List Int × Int × Int => impl_rankNext.b1 row (S : Int) s.1 s.2.1 s.2.2) row.length (fun k => (row, ((setOf (cR S row) k : Nat) : Int), (k : Int))) _ (fun k hk => ?_) ?_ 0 (by omega)
  · have hst := lt31 (n := k) (by omega) (setOf_lt (cR S row) k)
    have hp := pow31 (n := k) (by omega)
    unfold impl_rankNext.b1
    dsimp only
    rw [if_pos (by omega), ix_nat hk, Option.bind_some, bnd_eq, bnd_eq, has_eq hS (by omega), Int.toNat_natCast, only_eq (by omega), W, W_nat (by omega)]
    have hs : setOf (cR S row) (k + 1) = if cR S row k = true then setOf (cR S row) k ||| 2 ^ k else setOf (cR S row) k := by unfold setOf; rw [List.range_succ, List.foldl_append]; rfl
    have hc : (decide (row.getD k default ≥ 0) && decide (Int.tmod (row.getD k default) 2 = 0) && S.testBit k) = cR S row k := by
      unfold cR
      by_cases c : row.getD k default ≥ 0
      · rw [tmod2 (by omega), decide_eq_true c, Bool.true_and]
        congr 1
        rw [decide_eq_decide]
        exact ⟨fun g => ⟨c, g⟩, fun g => g.2⟩
      · rw [decide_eq_false c, Bool.false_and, decide_eq_false (fun g => c g.1)]
    rw [hc, hs]
    split
    · rw [bOr_i (by omega) (by omega)]
    · rfl
  · unfold impl_rankNext.b1
    dsimp only
    rw [if_neg (by omega)]
theorem implOut_loop {S : Nat} (hS : S < 2 ^ 31) (rows : List (List Int)) (hr : ∀ row ∈ rows, row.length ≤ 30) (hl : rows.length ≤ 1000) : impl_rankNext.k1 rows (S : Int) = some (outL S rows) := by
  have k := fold_loopR (fun y : List TRankState => y) (fun y : List TRankState => y) rows (fun y row => y ++ [⟨row, ((setOf (cR S row) row.length : Nat) : Int)⟩]) (fun k y => y.length = k) (body := fun s : List TRankState × Int => impl_rankNext.b0 rows (S : Int) s.1 s.2) (fun k y hk hi => ?_) (fun y hi => ?_) [] rfl
  · have e := k.1
    rw [foldl_app, List.nil_append] at e
    unfold impl_rankNext.k1
    rw [e, Option.bind_some]
    unfold impl_rankNext.k2 outL
    congr 1
    exact (List.map_eq_flatMap).symm
  · refine ⟨?_, by rw [List.length_append, List.length_singleton, hi]⟩
    unfold impl_rankNext.b0
    dsimp only
    rw [if_pos (by omega), ix_nat hk, Option.bind_some, implOwe_loop hS _ (hr _ (getD_memE hk)), Option.bind_some]
    unfold impl_rankNext.k4 impl_rankNext.k3
    rw [app_small (by rw [List.length_singleton]; omega) (by decide), Option.bind_some, W, W_nat (by omega)]
  · unfold impl_rankNext.b0
    dsimp only
    rw [if_neg (by omega)]
theorem specOwe_loop {a : TAuto} {S : Nat} (hS : S < 2 ^ 31) {rows : List (List Int)} {i : Nat} (hi : i < rows.length) (hr : (rows.getD i default).length ≤ 30) (ha : a.states = ((rows.getD i default).length : Int)) : loop (fun s : Int × Int => spec_l13Next.b1 a rows (i : Int) (S : Int) s.1 s.2) (0, 0) = some ((setOf (cR S (rows.getD i default)) (rows.getD i default).length : Nat) : Int) := by
  generalize hrow : rows.getD i default = row at hr ha
  refine loop_up (body := fun s : Int × Int => spec_l13Next.b1 a rows (i : Int) (S : Int) s.1 s.2) row.length (fun k => (((setOf (cR S row) k : Nat) : Int), (k : Int))) _ (fun k hk => ?_) ?_ 0 (by omega)
  · have hst := lt31 (n := k) (by omega) (setOf_lt (cR S row) k)
    have hp := pow31 (n := k) (by omega)
    unfold spec_l13Next.b1
    dsimp only
    have w4 : W ((k : Int) + 1) = ((k + 1 : Nat) : Int) := W_nat (by omega)
    rw [if_pos (by omega), ix_nat hi, Option.bind_some, hrow, ix_nat hk, Option.bind_some, bnd_eq, w4]
    have hs : setOf (cR S row) (k + 1) = if cR S row k = true then setOf (cR S row) k ||| 2 ^ k else setOf (cR S row) k := by unfold setOf; rw [List.range_succ, List.foldl_append]; rfl
    have hcR : cR S row k = (decide (row.getD k default ≥ 0 ∧ row.getD k default % 2 = 0) && S.testBit k) := rfl
    rw [hs, hcR]
    by_cases c : row.getD k default ≥ 0
    · rw [decide_eq_true c, whenO_t, Option.bind_some, whenO_t, ix_nat hk, Option.bind_some, bnd_eq, Bool.true_and, tmod2 (by omega)]
      by_cases c2 : row.getD k default % 2 = 0
      · rw [decide_eq_true c2, whenO_t, l1Has_eq hS (by omega), Option.bind_some, Int.toNat_natCast, Bool.true_and, decide_eq_true ⟨c, c2⟩, Bool.true_and]
        cases S.testBit k with
        | true => rw [if_pos rfl, if_pos rfl, l1Bit_eq (by omega), Option.bind_some, Int.toNat_natCast, bOr_i (by omega) (by omega)]
        | false => rw [if_neg (by simp), if_neg (by simp)]
      · rw [decide_eq_false c2, whenO_f, Option.bind_some, Bool.false_and, if_neg (by simp), decide_eq_false (fun g => c2 g.2), Bool.false_and, if_neg (by simp)]
    · rw [decide_eq_false c, whenO_f, Option.bind_some, whenO_f, Option.bind_some, bnd_eq, Bool.false_and, whenO_f, Option.bind_some, Bool.false_and, if_neg (by simp), decide_eq_false (fun g => c g.1), Bool.false_and, if_neg (by simp)]
  · unfold spec_l13Next.b1
    dsimp only
    rw [if_neg (by omega)]
theorem specOut_loop {a : TAuto} {S : Nat} (hS : S < 2 ^ 31) (rows : List (List Int)) (hr : ∀ row ∈ rows, row.length ≤ 30 ∧ a.states = (row.length : Int)) (hl : rows.length ≤ 1000) : spec_l13Next.k1 rows a (S : Int) = some (outL S rows) := by
  have k := fold_loopR (fun y : List TRankState => y) (fun y : List TRankState => y) rows (fun y row => y ++ [⟨row, ((setOf (cR S row) row.length : Nat) : Int)⟩]) (fun k y => y.length = k) (body := fun s : List TRankState × Int => spec_l13Next.b0 rows a (S : Int) s.1 s.2) (fun k y hk hi => ?_) (fun y hi => ?_) [] rfl
  · have e := k.1
    rw [foldl_app, List.nil_append] at e
    unfold spec_l13Next.k1
    rw [e, Option.bind_some]
    unfold spec_l13Next.k2 outL
    congr 1
    exact (List.map_eq_flatMap).symm
  · have hrk := hr _ (getD_memE hk)
    refine ⟨?_, by rw [List.length_append, List.length_singleton, hi]⟩
    unfold spec_l13Next.b0
    dsimp only
    rw [if_pos (by omega), specOwe_loop hS hk hrk.1 hrk.2, Option.bind_some]
    unfold spec_l13Next.k4 spec_l13Next.k3
    rw [ix_nat hk, Option.bind_some, app_small (by rw [List.length_singleton]; omega) (by decide), Option.bind_some, W, W_nat (by omega)]
  · unfold spec_l13Next.b0
    dsimp only
    rw [if_neg (by omega)]
def oweS (a : TAuto) (s : TRankState) (l : Int) : Nat := if s.owing ≠ 0 then stepE a s.owing.toNat l else 2 ^ a.states.toNat - 1
def nextR (a : TAuto) (s : TRankState) (l : Int) : List TRankState := outL (oweS a s l) (rowsL (boundsL a s l))
theorem inB_mem {m : Int} {y : List Int} {n : Nat} (h : InB m y n) : ∀ b ∈ y, -1 ≤ b ∧ b ≤ m := fun b hb => by
  obtain ⟨i, hi, rfl⟩ := List.getElem_of_mem hb
  have := h.2 i (by rw [← h.1]; exact hi)
  rw [List.getD_eq_getElem?_getD, List.getElem?_eq_getElem hi] at this
  exact this
theorem oweS_lt {a : TAuto} {s : TRankState} (h : RkOk a s) (l : Int) : oweS a s l < 2 ^ a.states.toNat := by
  unfold oweS
  split
  · exact stepE_lt h.A _ _
  · have := Nat.two_pow_pos a.states.toNat; omega
theorem rows_facts {a : TAuto} {s : TRankState} (h : RkOk a s) (l : Int) : (∀ b ∈ boundsL a s l, -1 ≤ b ∧ b ≤ 4) ∧ (boundsL a s l).length = a.states.toNat ∧ RowsOk a.states.toNat (rowsL (boundsL a s l)) := by
  have h3 := h.few; have h1 := h.A.sts
  have hI := (bounds_loop h l).2
  have hb : ∀ b ∈ boundsL a s l, -1 ≤ b ∧ b ≤ 4 := fun b hb => by have := inB_mem hI b hb; omega
  have := rowsL_ok hb
  rw [hI.1] at this
  exact ⟨hb, hI.1, this⟩
theorem implNext_eq {a : TAuto} {s : TRankState} (h : RkOk a s) (l : Int) : impl_rankNext a s l = some (nextR a s l) := by
  have h3 := h.few; have h1 := h.A.sts; have ho := h.owe
  obtain ⟨hb, hl, hR⟩ := rows_facts h l
  have hp := pow31 (n := a.states.toNat) (by omega)
  have hS := lt31 (n := a.states.toNat) (by omega) (oweS_lt h l)
  have h25 : (5 : Nat) ^ a.states.toNat ≤ 25 := by
    have : a.states.toNat = 0 ∨ a.states.toNat = 1 ∨ a.states.toNat = 2 := by omega
    rcases this with e | e | e <;> rw [e] <;> decide
  unfold impl_rankNext
  rw [implBounds_eq h, Option.bind_some, implAll_loop hb (by omega), Option.bind_some]
  unfold impl_rankNext.k0 nextR
  have hout := implOut_loop hS (rowsL (boundsL a s l)) (fun row hr => by have := hR.2 row hr; omega) (by have := hR.1; omega)
  rw [← hout]
  by_cases c : s.owing ≠ 0
  · have e0 : s.owing = ((s.owing.toNat : Nat) : Int) := by omega
    rw [if_pos c]
    have := step_eq h.A (S := s.owing.toNat) (by omega) l
    rw [← e0] at this
    rw [this, Option.bind_some]
    unfold oweS; rw [if_pos c]
  · rw [if_neg c]
    unfold oweS; rw [if_neg c]
    have e1 : a.states = ((a.states.toNat : Nat) : Int) := by omega
    have := only_eq (n := a.states.toNat) (by omega)
    rw [← e1] at this
    rw [this, W, W_eq (by omega) (by omega), show ((2 ^ a.states.toNat : Nat) : Int) - 1 = ((2 ^ a.states.toNat - 1 : Nat) : Int) by omega]
theorem specNext_eq {a : TAuto} {s : TRankState} (h : RkOk a s) (l : Int) : spec_l13Next a s l = some (nextR a s l) := by
  have h3 := h.few; have h1 := h.A.sts; have ho := h.owe
  obtain ⟨hb, hl, hR⟩ := rows_facts h l
  have hp := pow31 (n := a.states.toNat) (by omega)
  have hS := lt31 (n := a.states.toNat) (by omega) (oweS_lt h l)
  have h25 : (5 : Nat) ^ a.states.toNat ≤ 25 := by
    have : a.states.toNat = 0 ∨ a.states.toNat = 1 ∨ a.states.toNat = 2 := by omega
    rcases this with e | e | e <;> rw [e] <;> decide
  unfold spec_l13Next
  rw [specBounds_eq h, Option.bind_some, specAll_loop hb (by omega) (by omega), Option.bind_some]
  unfold spec_l13Next.k0 nextR
  rw [decide_eq_true h1.1, chk_t, Option.bind_some]
  have hout := specOut_loop (a := a) hS (rowsL (boundsL a s l)) (fun row hr => by have := hR.2 row hr; omega) (by have := hR.1; omega)
  rw [← hout]
  by_cases c : s.owing ≠ 0
  · have e0 : s.owing = ((s.owing.toNat : Nat) : Int) := by omega
    rw [if_pos c]
    have := l4Next_eq h.A (S := s.owing.toNat) (by omega) l
    rw [← e0] at this
    rw [this, Option.bind_some]
    unfold oweS; rw [if_pos c]
  · rw [if_neg c]
    unfold oweS; rw [if_neg c]
    have e1 : a.states = ((a.states.toNat : Nat) : Int) := by omega
    have := shl1_i (n := a.states.toNat) (by omega)
    rw [← e1] at this
    rw [this, W, W_eq (by omega) (by omega), show ((2 ^ a.states.toNat : Nat) : Int) - 1 = ((2 ^ a.states.toNat - 1 : Nat) : Int) by omega]
end Go.Proofs.Ytllpbgcajgbfbaa
end

/- What is drawn: a byte, a number below a bound. -/
section
namespace Go.Proofs.Ytllpbgcajgbfbaa
open Go Go.RowKit E
set_option linter.unusedVariables false

/-- A cursor that is within its bytes. -/
def CurOk (c : Tl1Cur) : Prop := 0 ≤ c.i ∧ c.b.length ≤ 1048576
theorem and255 (x : Int) : 0 ≤ bAnd .i64 x 255 ∧ bAnd .i64 x 255 ≤ 255 := by
  unfold bAnd
  have h1 : (BitVec.ofInt 64 x &&& BitVec.ofInt 64 255).toNat ≤ 255 := by
    rw [BitVec.toNat_and]
    exact Nat.and_le_right
  have h2 : (BitVec.ofInt IntKind.i64.bits x &&& BitVec.ofInt IntKind.i64.bits 255).toNat ≤ 255 := h1
  have h3 := W_eq (a := ((BitVec.ofInt IntKind.i64.bits x &&& BitVec.ofInt IntKind.i64.bits 255).toNat : Int)) (by omega) (by omega)
  rw [h3]; omega
theorem byte_ok {c : Tl1Cur} (h : CurOk c) : ∃ x c', spec_l1Byte c = some (x, c') ∧ (0 ≤ x ∧ x ≤ 255) ∧ CurOk c' := by
  obtain ⟨h1, h2⟩ := h
  unfold spec_l1Byte
  by_cases k : c.i < (c.b.length : Int)
  · rw [if_pos k, ix_ok h1 k, Option.bind_some]
    exact ⟨_, _, rfl, and255 _, by show 0 ≤ W (c.i + 1); rw [W, W_eq (by omega) (by omega)]; omega, h2⟩
  · rw [if_neg k]
    exact ⟨_, _, rfl, and255 _, h1, h2⟩
theorem below_ok {c : Tl1Cur} (h : CurOk c) {n : Int} (hn : n ≤ 4294967296) : ∃ x c', spec_l1Below c n = some (x, c') ∧ 0 ≤ x ∧ (x < n ∨ x = 0) ∧ CurOk c' := by
  unfold spec_l1Below
  by_cases k : n ≤ 0
  · rw [if_pos k]; exact ⟨_, _, rfl, by omega, .inr rfl, h⟩
  · rw [if_neg k]
    by_cases k2 : n ≤ 256
    · rw [if_pos k2]
      obtain ⟨x, c', e, hx, hc⟩ := byte_ok h
      rw [e, Option.bind_some, decide_eq_true (by omega), chk_t, Option.bind_some]
      exact ⟨_, _, rfl, Int.tmod_nonneg _ hx.1, .inl (Int.tmod_lt_of_pos _ (by omega)), hc⟩
    · rw [if_neg k2]
      obtain ⟨x1, c1, e1, hx1, hc1⟩ := byte_ok h
      obtain ⟨x2, c2, e2, hx2, hc2⟩ := byte_ok hc1
      obtain ⟨x3, c3, e3, hx3, hc3⟩ := byte_ok hc2
      obtain ⟨x4, c4, e4, hx4, hc4⟩ := byte_ok hc3
      rw [e1, Option.bind_some, e2, Option.bind_some, e3, Option.bind_some, e4, Option.bind_some, decide_eq_true (by omega), chk_t, Option.bind_some]
      refine ⟨_, _, rfl, Int.tmod_nonneg _ ?_, .inl (Int.tmod_lt_of_pos _ (by omega)), hc4⟩
      dsimp only
      have w1 : W (x1 * 16777216) = x1 * 16777216 := W_eq (by omega) (by omega)
      have w2 : W (x2 * 65536) = x2 * 65536 := W_eq (by omega) (by omega)
      have w3 : W (x3 * 256) = x3 * 256 := W_eq (by omega) (by omega)
      rw [w1, w2, w3]
      have w4 : W (x1 * 16777216 + x2 * 65536) = x1 * 16777216 + x2 * 65536 := W_eq (by omega) (by omega)
      rw [w4]
      have w5 : W (x1 * 16777216 + x2 * 65536 + x3 * 256) = x1 * 16777216 + x2 * 65536 + x3 * 256 := W_eq (by omega) (by omega)
      rw [w5, W, W_eq (by omega) (by omega)]
      omega
theorem below_pos {c : Tl1Cur} (h : CurOk c) {n : Int} (h0 : 0 < n) (hn : n ≤ 4294967296) : ∃ x c', spec_l1Below c n = some (x, c') ∧ 0 ≤ x ∧ x < n ∧ CurOk c' := by
  obtain ⟨x, c', e, h1, h2, h3⟩ := below_ok h hn
  exact ⟨x, c', e, h1, by omega, h3⟩
theorem new_ok (bs : List Int) (h : bs.length ≤ 1048576) : ∃ c, spec_l1New bs = some c ∧ CurOk c := by
  unfold spec_l1New
  have key := loop_inv (body := fun s : Int × Int => spec_l1New.b0 bs s.1 s.2) (fun s => 0 ≤ s.2) (fun s => bs.length - s.2.toNat) (fun _ => True) (fun s hs => ?_) (s := (W (10277 + (bs.length : Int)), 0)) (Int.le_refl 0)
  · obtain ⟨r, e, _⟩ := key
    rw [e, Option.bind_some]
    exact ⟨_, rfl, Int.le_refl 0, h⟩
  · unfold spec_l1New.b0
    rw [bnd_eq]
    by_cases k : s.2 < (bs.length : Int) ∧ s.2 < 4000
    · right
      rw [if_pos (by simpa using k), ix_ok hs k.1, Option.bind_some]
      have w : W (s.2 + 1) = s.2 + 1 := W_eq (by omega) (by omega)
      exact ⟨_, rfl, by show 0 ≤ W (s.2 + 1); omega, by show bs.length - (W (s.2 + 1)).toNat < _; omega⟩
    · left
      rw [if_neg (by simpa using k)]
      exact ⟨_, rfl, trivial⟩
end Go.Proofs.Ytllpbgcajgbfbaa
end

/- What is drawn: one of a few. -/
section
namespace Go.Proofs.Ytllpbgcajgbfbaa
open Go Go.RowKit E
set_option linter.unusedVariables false

theorem pick_ok {c : Tl1Cur} (h : CurOk c) {xs : List Int} (h0 : 0 < xs.length) (hn : xs.length ≤ 1000) : ∃ x c', spec_l1PickInt c xs = some (x, c') ∧ x ∈ xs ∧ CurOk c' := by
  unfold spec_l1PickInt
  obtain ⟨x, c', e, h1, h2, h3⟩ := below_pos h (n := (xs.length : Int)) (by omega) (by omega)
  rw [e, Option.bind_some, ix_ok h1 h2, Option.bind_some]
  refine ⟨_, _, rfl, ?_, h3⟩
  have hx : x.toNat < xs.length := by omega
  rw [List.getD_eq_getElem?_getD, List.getElem?_eq_getElem hx]
  exact List.getElem_mem hx
end Go.Proofs.Ytllpbgcajgbfbaa
end

/- Drawn automata: what is drawn is some automaton. -/
section
namespace Go.Proofs.Ytllpbgcajgbfbaa
open Go Go.RowKit E
set_option linter.unusedVariables false

theorem app32 {l m : List TEdge} (h : l.length + m.length ≤ 1000000000) : app 32 l m = some (l ++ m) := app_small h (by omega)
theorem autoMake_ok (letters states start : Int) (es : List TEdge) : ∃ a b, spec_AutoMake letters states start es = some (a, b) ∧ a.edges.length ≤ 10000 ∧ (a.states = states ∨ a.states = 0) := by
  unfold spec_AutoMake
  rw [specAutoOk_eq, Option.bind_some, bnd_eq]
  by_cases hok : autoOk ⟨letters, states, start, []⟩ = true
  · have h := autoOk_A hok
    have h1 : 0 ≤ states ∧ states ≤ 31 := h.sts
    have h3 : 1 ≤ letters ∧ letters ≤ 8 := h.lets
    rw [hok, Bool.not_true, Bool.false_or]
    by_cases hl : (es.length : Int) > 2000
    · rw [if_pos (by simpa using hl)]; exact ⟨_, _, rfl, by simp, .inr rfl⟩
    rw [if_neg (by simpa using hl)]
    have m1 : 0 ≤ states * letters ∧ states * letters ≤ 248 := ⟨Int.mul_nonneg h1.1 (by omega), by
      have := Int.mul_le_mul h1.2 h3.2 (by omega) (by omega); omega⟩
    have m2 : 0 ≤ states * letters * states ∧ states * letters * states ≤ 7688 := ⟨Int.mul_nonneg m1.1 h1.1, by
      have := Int.mul_le_mul m1.2 h1.2 h1.1 (by omega); omega⟩
    have w1 : W (states * letters) = states * letters := W_eq (by omega) (by omega)
    have w2 : W (states * letters * states) = states * letters * states := W_eq (by omega) (by omega)
    rw [w1, w2, mk_ok m2.1 (by omega), Option.bind_some]
    have key := loop_inv (body := fun s : Int × Int × Int × List TEdge × List Int × Int => spec_AutoMake.b1 es states letters s.1 s.2.1 s.2.2.1 s.2.2.2.1 s.2.2.2.2.1 s.2.2.2.2.2) (fun s => 0 ≤ s.2.2.2.2.2 ∧ (s.2.2.2.2.1.length : Int) = states * letters * states) (fun s => es.length - s.2.2.2.2.2.toNat)
      (fun r => (∃ q, r = .inl q ∧ (q.2.2.2.2.length : Int) = states * letters * states) ∨ ∃ q, r = .inr q ∧ q.1.edges.length ≤ 10000 ∧ q.1.states = 0) (fun s hs => ?_) (s := (0, 0, 0, [], List.replicate (states * letters * states).toNat (0 : Int), 0)) ⟨Int.le_refl 0, by simp; omega⟩
    · obtain ⟨r, e, hr⟩ := key
      rw [e, Option.bind_some]
      rcases hr with ⟨q, rfl, hq⟩ | ⟨q, rfl, hq⟩
      · show ∃ a b, spec_AutoMake.k0 states letters start q.1 q.2.1 q.2.2.1 q.2.2.2.1 q.2.2.2.2 = some (a, b) ∧ _
        unfold spec_AutoMake.k0
        generalize q.2.2.2.2 = ms at hq
        have key2 := loop_inv (body := fun s : Int × Int × Int × List TEdge × Int => spec_AutoMake.b0 ms states letters s.1 s.2.1 s.2.2.1 s.2.2.2.1 s.2.2.2.2) (fun s => 0 ≤ s.2.2.2.2 ∧ (s.2.2.2.1.length : Int) ≤ s.2.2.2.2 ∧ s.2.2.2.2 ≤ ms.length ∧ s.2.1 = states) (fun s => ms.length - s.2.2.2.2.toNat) (fun r => r.2.2.2.length ≤ 10000 ∧ r.2.1 = states) (fun s hs => ?_) (s := (letters, states, start, [], 0)) ⟨Int.le_refl 0, Int.le_refl 0, by dsimp only; omega, rfl⟩
        · obtain ⟨r2, e2, hr2⟩ := key2
          rw [e2, Option.bind_some]
          exact ⟨_, _, rfl, hr2.1, .inl hr2.2⟩
        · obtain ⟨u1, u2, u3, es', k⟩ := s
          obtain ⟨i1, i2, i3, i4⟩ := hs
          dsimp only at i1 i2 i3 i4 ⊢
          unfold spec_AutoMake.b0
          by_cases c : k < (ms.length : Int)
          · right
            have hst : states ≠ 0 := fun e => by rw [e, Int.mul_zero] at hq; omega
            have w : W (k + 1) = k + 1 := W_eq (by omega) (by omega)
            rw [if_pos c, ix_ok i1 c, Option.bind_some]
            split
            · rw [decide_eq_true hst, chk_t, Option.bind_some, decide_eq_true (by omega : letters ≠ 0), chk_t, Option.bind_some, Option.bind_some, Option.bind_some, Option.bind_some, Option.bind_some, app32 (by simp; omega), Option.bind_some, w]
              exact ⟨_, rfl, ⟨by dsimp only; omega, by simp; omega, by dsimp only; omega, i4⟩, by dsimp only; omega⟩
            · rw [w]
              exact ⟨_, rfl, ⟨by dsimp only; omega, by dsimp only; omega, by dsimp only; omega, i4⟩, by dsimp only; omega⟩
          · left
            rw [if_neg c]
            exact ⟨_, rfl, by dsimp only; omega, i4⟩
      · exact ⟨_, _, rfl, hq.1, .inr hq.2⟩
    · obtain ⟨u1, u2, u3, es', ms, k⟩ := s
      obtain ⟨i1, i2⟩ := hs
      dsimp only at i1 i2 ⊢
      unfold spec_AutoMake.b1
      by_cases c : k < (es.length : Int)
      · rw [if_pos c, ix_ok i1 c, Option.bind_some, bnd_eq, bnd_eq]
        generalize es.getD k.toNat default = e
        have g1 : ∀ x, spec_l4State x states = decide (0 ≤ x ∧ x ≤ states - 1) := fun x => by
          unfold spec_l4State; rw [l1Rg, W, W_eq (by omega) (by omega)]
        rw [g1, g1, l1Rg, W, W_eq (by omega) (by omega)]
        by_cases g : (0 ≤ e.from_ ∧ e.from_ ≤ states - 1) ∧ (0 ≤ e.to_ ∧ e.to_ ≤ states - 1) ∧ (0 ≤ e.letter ∧ e.letter ≤ letters - 1)
        · right
          obtain ⟨ga, gb, gc⟩ := g
          rw [decide_eq_true ga, decide_eq_true gb, decide_eq_true gc, if_neg (by simp)]
          have p1 : 0 ≤ e.from_ * letters ∧ e.from_ * letters ≤ (states - 1) * letters := ⟨Int.mul_nonneg ga.1 (by omega), Int.mul_le_mul_of_nonneg_right ga.2 (by omega)⟩
          have p2 : (states - 1) * letters = states * letters - letters := by rw [Int.sub_mul, Int.one_mul]
          have p3 : 0 ≤ e.from_ * letters + e.letter ∧ e.from_ * letters + e.letter ≤ states * letters - 1 := by omega
          have p4 : 0 ≤ (e.from_ * letters + e.letter) * states ∧ (e.from_ * letters + e.letter) * states ≤ (states * letters - 1) * states := ⟨Int.mul_nonneg p3.1 h1.1, Int.mul_le_mul_of_nonneg_right p3.2 h1.1⟩
          have p5 : (states * letters - 1) * states = states * letters * states - states := by rw [Int.sub_mul, Int.one_mul]
          have v1 : W (e.from_ * letters) = e.from_ * letters := W_eq (by omega) (by omega)
          have v2 : W (e.from_ * letters + e.letter) = e.from_ * letters + e.letter := W_eq (by omega) (by omega)
          have v3 : W ((e.from_ * letters + e.letter) * states) = (e.from_ * letters + e.letter) * states := W_eq (by omega) (by omega)
          have v4 : W ((e.from_ * letters + e.letter) * states + e.to_) = (e.from_ * letters + e.letter) * states + e.to_ := W_eq (by omega) (by omega)
          have hk2 : ∀ x, spec_AutoMake.k2 ms e letters states u1 u2 u3 es' k x = some (.inl (u1, u2, u3, es', ms.set ((e.from_ * letters + e.letter) * states + e.to_).toNat (spec_l1Max (ms.getD ((e.from_ * letters + e.letter) * states + e.to_).toNat default) x), k + 1)) := by
            intro x
            unfold spec_AutoMake.k2
            rw [v1, v2, v3, v4, ix_ok (by omega) (by omega), Option.bind_some]
            have hck : ck ((e.from_ * letters + e.letter) * states + e.to_) ms.length = some ((e.from_ * letters + e.letter) * states + e.to_).toNat := by unfold ck; rw [if_pos ⟨by omega, by omega⟩]
            rw [hck, Option.bind_some, show W (k + 1) = k + 1 from W_eq (by omega) (by omega)]
          rw [hk2, hk2]
          split
          · exact ⟨_, rfl, ⟨by dsimp only; omega, by simp; omega⟩, by dsimp only; omega⟩
          · exact ⟨_, rfl, ⟨by dsimp only; omega, by simp; omega⟩, by dsimp only; omega⟩
        · left
          have c2 : (((!decide (0 ≤ e.from_ ∧ e.from_ ≤ states - 1)) || (!decide (0 ≤ e.to_ ∧ e.to_ ≤ states - 1))) || (!decide (0 ≤ e.letter ∧ e.letter ≤ letters - 1))) = true := by
            simp only [Bool.or_eq_true, Bool.not_eq_true', decide_eq_false_iff_not]; omega
          rw [if_pos c2]
          exact ⟨_, rfl, .inr ⟨_, rfl, by simp, rfl⟩⟩
      · left
        rw [if_neg c]
        exact ⟨_, rfl, .inl ⟨_, rfl, i2⟩⟩
  · rw [Bool.not_eq_true] at hok
    rw [hok, Bool.not_false, Bool.true_or, if_pos rfl]
    exact ⟨_, _, rfl, by simp, .inr rfl⟩
theorem onceA_ok {c : Tl1Cur} (hc : CurOk c) {n : Int} (hn : n ≤ 4294967296) : ∃ b c', spec_l1Once c n = some (b, c') ∧ CurOk c' := by
  unfold spec_l1Once
  obtain ⟨x, c', e, _, _, h⟩ := below_ok hc hn
  rw [e, Option.bind_some]; exact ⟨_, _, rfl, h⟩
theorem drawEdges_ok {c : Tl1Cur} (hc : CurOk c) {l s m : Int} (hl : l ≤ 1000) (hs : s ≤ 1000) (hm : m ≤ 100000) : ∃ es c', spec_l4DrawEdges c l s m = some (es, c') ∧ CurOk c' := by
  unfold spec_l4DrawEdges
  have key := loop_inv (body := fun q : List Int × Int × Int × List TEdge × Int => spec_l4DrawEdges.b0 m s l q.1 q.2.1 q.2.2.1 q.2.2.2.1 q.2.2.2.2) (fun q => CurOk ⟨q.1, q.2.1, q.2.2.1⟩ ∧ 0 ≤ q.2.2.2.2 ∧ (q.2.2.2.1.length : Int) ≤ q.2.2.2.2) (fun q => m.toNat - q.2.2.2.2.toNat) (fun r => CurOk ⟨r.2.1, r.2.2.1, r.2.2.2⟩) (fun q hq => ?_) (s := (c.b, c.i, c.h, [], 0)) ⟨hc, Int.le_refl 0, Int.le_refl 0⟩
  · obtain ⟨r, e, hr⟩ := key
    rw [e, Option.bind_some]
    exact ⟨_, _, rfl, hr⟩
  · obtain ⟨b, i, h, y, k⟩ := q
    obtain ⟨i1, i2, i3⟩ := hq
    dsimp only at i1 i2 i3 ⊢
    unfold spec_l4DrawEdges.b0
    by_cases g : k < m
    · right
      obtain ⟨x1, c1, e1, _, _, h1⟩ := below_ok i1 (n := s) (by omega)
      obtain ⟨x2, c2, e2, _, _, h2⟩ := below_ok h1 (n := l) (by omega)
      obtain ⟨x3, c3, e3, _, _, h3⟩ := below_ok h2 (n := s) (by omega)
      obtain ⟨x4, c4, e4, h4⟩ := onceA_ok h3 (n := 3) (by omega)
      rw [if_pos g, e1, Option.bind_some, e2, Option.bind_some, e3, Option.bind_some, e4, Option.bind_some, app32 (by simp; omega), Option.bind_some, show W (k + 1) = k + 1 from W_eq (by omega) (by omega)]
      exact ⟨_, rfl, ⟨h4, by dsimp only; omega, by simp; omega⟩, by dsimp only; omega⟩
    · left
      rw [if_neg g]
      exact ⟨_, rfl, i1⟩
theorem autoRight_ok {c : Tl1Cur} (hc : CurOk c) {l s : Int} (hl : 0 ≤ l ∧ l ≤ 8) (hs : 1 ≤ s ∧ s ≤ 20) : ∃ a c', spec_l4DrawRight c l s = some (a, c') ∧ CurOk c' ∧ a.edges.length ≤ 10000 ∧ 0 ≤ a.states ∧ a.states ≤ 32 := by
  unfold spec_l4DrawRight
  obtain ⟨x, c1, e1, x1, x2, h1⟩ := below_pos hc (n := s) (by omega) (by omega)
  rw [e1, Option.bind_some]
  dsimp only
  have w : W (1 + x) = 1 + x := W_eq (by omega) (by omega)
  rw [w, decide_eq_true (by omega : 0 ≤ 1 + x), chk_t, Option.bind_some]
  have hsh : shl .i64 1 (1 + x) = ((2 ^ (1 + x).toNat : Nat) : Int) := by
    have := shl1_i (n := (1 + x).toNat) (by omega)
    rw [show (((1 + x).toNat : Nat) : Int) = 1 + x by omega] at this; exact this
  have hp : 2 ^ (1 + x).toNat ≤ 2 ^ 20 := Nat.pow_le_pow_right (by omega) (by omega)
  have h20 : 2 ^ 20 = 1048576 := rfl
  obtain ⟨y, c2, e2, _, _, h2⟩ := below_ok h1 (n := shl .i64 1 (1 + x)) (by rw [hsh]; omega)
  rw [e2, Option.bind_some]
  dsimp only
  have q1 : 0 ≤ 2 * (1 + x) * l ∧ 2 * (1 + x) * l ≤ 40 * 8 := ⟨Int.mul_nonneg (by omega) hl.1, Int.mul_le_mul (by omega) hl.2 hl.1 (by omega)⟩
  have w2 : W (2 * (1 + x)) = 2 * (1 + x) := W_eq (by omega) (by omega)
  have w3 : W (2 * (1 + x) * l) = 2 * (1 + x) * l := W_eq (by omega) (by omega)
  rw [w2, w3]
  obtain ⟨z, c3, e3, z1, z2, h3⟩ := below_ok h2 (n := 2 * (1 + x) * l) (by omega)
  rw [e3, Option.bind_some]
  dsimp only
  have w4 : W (1 + z) = 1 + z := W_eq (by omega) (by omega)
  rw [w4]
  obtain ⟨es, c4, e4, h4⟩ := drawEdges_ok h3 (l := l) (s := 1 + x) (m := 1 + z) (by omega) (by omega) (by omega)
  rw [e4, Option.bind_some]
  dsimp only
  obtain ⟨a, b, e5, h5, h6⟩ := autoMake_ok l (1 + x) (bOr .i64 1 y) es
  rw [e5, Option.bind_some]
  exact ⟨_, _, rfl, h4, h5, by show 0 ≤ a.states; omega, by show a.states ≤ 32; omega⟩
theorem drawAuto_ok {c : Tl1Cur} (hc : CurOk c) {s : Int} (hs : 1 ≤ s ∧ s ≤ 20) : ∃ a c', spec_l4DrawAuto c s = some (a, c') ∧ CurOk c' ∧ a.edges.length ≤ 10001 ∧ -1 ≤ a.states ∧ a.states ≤ 32 := by
  unfold spec_l4DrawAuto
  obtain ⟨l, c1, e1, m1, h1⟩ := pick_ok hc (xs := [1, 2, 2, 2, 3, 4]) (by decide) (by decide)
  have hl : 0 ≤ l ∧ l ≤ 8 := by simp only [List.mem_cons, List.not_mem_nil, or_false] at m1; omega
  obtain ⟨a, c2, e2, h2, la, s1, s2⟩ := autoRight_ok h1 hl hs
  obtain ⟨x, c3, e3, _, _, h3⟩ := below_ok h2 (n := 30) (by decide)
  rw [e1, Option.bind_some, e2, Option.bind_some, e3, Option.bind_some]
  unfold spec_l4DrawAuto.k0
  dsimp only
  split
  · obtain ⟨z, c4, e4, _, h4⟩ := pick_ok h3 (xs := [0, 8, 9]) (by decide) (by decide)
    rw [e4, Option.bind_some]; exact ⟨_, _, rfl, h4, by show a.edges.length ≤ _; omega, by show -1 ≤ a.states; omega, s2⟩
  split
  · obtain ⟨z, c4, e4, mz, h4⟩ := pick_ok h3 (xs := [0, -1, 31, 32]) (by decide) (by decide)
    have hz : -1 ≤ z ∧ z ≤ 32 := by simp only [List.mem_cons, List.not_mem_nil, or_false] at mz; omega
    rw [e4, Option.bind_some]; exact ⟨_, _, rfl, h4, by show a.edges.length ≤ _; omega, hz.1, hz.2⟩
  split
  · obtain ⟨z, c4, e4, _, h4⟩ := pick_ok h3 (xs := [-1, 0, 1048576]) (by decide) (by decide)
    rw [e4, Option.bind_some]; exact ⟨_, _, rfl, h4, by show a.edges.length ≤ _; omega, by show -1 ≤ a.states; omega, s2⟩
  split
  · rw [app32 (by simp; omega), Option.bind_some]; exact ⟨_, _, rfl, h3, by simp; omega, by show -1 ≤ a.states; omega, s2⟩
  split
  · rw [app32 (by simp; omega), Option.bind_some]; exact ⟨_, _, rfl, h3, by simp; omega, by show -1 ≤ a.states; omega, s2⟩
  · exact ⟨_, _, rfl, h3, by show a.edges.length ≤ _; omega, by show -1 ≤ a.states; omega, s2⟩
end Go.Proofs.Ytllpbgcajgbfbaa
end

/- The states of ranks that follow a drawn one: right, all unlike, with no rank above its bound. -/
section
namespace Go.Proofs.Ytllpbgcajgbfbaa
open Go Go.RowKit E
set_option linter.unusedVariables false

theorem belowT {c : Tl1Cur} (h : CurOk c) (n : Int) : ∃ x c', spec_l1Below c n = some (x, c') ∧ 0 ≤ x ∧ (x < n ∨ x = 0) ∧ CurOk c' := by
  unfold spec_l1Below
  by_cases k : n ≤ 0
  · rw [if_pos k]; exact ⟨_, _, rfl, by omega, .inr rfl, h⟩
  · rw [if_neg k]
    by_cases k2 : n ≤ 256
    · rw [if_pos k2]
      obtain ⟨x, c', e, hx, hc⟩ := byte_ok h
      rw [e, Option.bind_some, decide_eq_true (by omega), chk_t, Option.bind_some]
      exact ⟨_, _, rfl, Int.tmod_nonneg _ hx.1, .inl (Int.tmod_lt_of_pos _ (by omega)), hc⟩
    · rw [if_neg k2]
      obtain ⟨x1, c1, e1, hx1, hc1⟩ := byte_ok h
      obtain ⟨x2, c2, e2, hx2, hc2⟩ := byte_ok hc1
      obtain ⟨x3, c3, e3, hx3, hc3⟩ := byte_ok hc2
      obtain ⟨x4, c4, e4, hx4, hc4⟩ := byte_ok hc3
      rw [e1, Option.bind_some, e2, Option.bind_some, e3, Option.bind_some, e4, Option.bind_some, decide_eq_true (by omega), chk_t, Option.bind_some]
      refine ⟨_, _, rfl, Int.tmod_nonneg _ ?_, .inl (Int.tmod_lt_of_pos _ (by omega)), hc4⟩
      dsimp only
      have w1 : W (x1 * 16777216) = x1 * 16777216 := W_eq (by omega) (by omega)
      have w2 : W (x2 * 65536) = x2 * 65536 := W_eq (by omega) (by omega)
      have w3 : W (x3 * 256) = x3 * 256 := W_eq (by omega) (by omega)
      rw [w1, w2, w3]
      have w4 : W (x1 * 16777216 + x2 * 65536) = x1 * 16777216 + x2 * 65536 := W_eq (by omega) (by omega)
      rw [w4]
      have w5 : W (x1 * 16777216 + x2 * 65536 + x3 * 256) = x1 * 16777216 + x2 * 65536 + x3 * 256 := W_eq (by omega) (by omega)
      rw [w5, W, W_eq (by omega) (by omega)]
      omega
-- both sides' RankNext
def rnB (a : TAuto) (s : TRankState) (l : Int) : Bool := rkB a s && decide (0 ≤ l ∧ l ≤ a.letters - 1)
def rankN (a : TAuto) (s : TRankState) (l : Int) : List TRankState := if rnB a s l = true then nextR a s l else []
theorem implRankNext_eq (a : TAuto) (s : TRankState) (l : Int) (hs : s.ranks.length ≤ 4611686018427387904) : impl_RankNext a s l = some (rankN a s l) := by
  unfold impl_RankNext rankN rnB
  rw [implRankOk_eq a s hs, Option.bind_some, bnd_eq]
  cases h : rkB a s with
  | false => rw [Bool.not_false, Bool.true_or, if_pos rfl, Bool.false_and, if_neg (by simp)]
  | true =>
    have hA := (rkB_ok h).A.lets
    rw [Bool.not_true, Bool.false_or, Bool.true_and, inRg, W, W_eq (by omega) (by omega)]
    by_cases c : 0 ≤ l ∧ l ≤ a.letters - 1
    · rw [decide_eq_true c, if_neg (by simp), if_pos rfl, implNext_eq (rkB_ok h), Option.bind_some]
    · rw [decide_eq_false c, if_pos (by simp), if_neg (by simp)]
theorem specRankNext_eq (a : TAuto) (s : TRankState) (l : Int) : spec_RankNext a s l = some (rankN a s l) := by
  unfold spec_RankNext rankN rnB
  rw [specRankOk_eq a s, Option.bind_some, bnd_eq]
  cases h : rkB a s with
  | false => rw [Bool.not_false, Bool.true_or, if_pos rfl, Bool.false_and, if_neg (by simp)]
  | true =>
    have hA := (rkB_ok h).A.lets
    rw [Bool.not_true, Bool.false_or, Bool.true_and, l1Rg, W, W_eq (by omega) (by omega)]
    by_cases c : 0 ≤ l ∧ l ≤ a.letters - 1
    · rw [decide_eq_true c, if_neg (by simp), if_pos rfl, specNext_eq (rkB_ok h), Option.bind_some]
    · rw [decide_eq_false c, if_pos (by simp), if_neg (by simp)]
-- what is drawn
theorem specStart_small (a : TAuto) : ∃ s b, spec_RankStart a = some (s, b) ∧ s.ranks.length ≤ 2 := by
  unfold spec_RankStart spec_l13States
  rw [specAutoOk_eq, Option.bind_some, Option.bind_some]
  show ∃ s b, (if (!(rankedB2 a)) = true then _ else _) = _ ∧ _
  by_cases h : rankedB2 a = true
  · obtain ⟨hA, h2⟩ := ranked_A h
    have h1 := hA.sts; have h3 := hA.start
    have h31 : (2 : Nat) ^ 31 = 2147483648 := rfl
    obtain ⟨S, eS⟩ : ∃ S : Nat, a.start = (S : Int) := ⟨a.start.toNat, by omega⟩
    have hS : S < 2 ^ 31 := lt31 (n := a.states.toNat) (by omega) (by omega)
    rw [h, if_neg (by simp)]
    have hlen : ∀ k : Nat, ((List.range k).foldl (fun y k => y ++ [if S.testBit k = true then 2 * a.states else -1]) ([] : List Int)).length = k := by
      intro k
      induction k with
      | zero => rfl
      | succ k ih => rw [List.range_succ, List.foldl_append]; show (_ ++ [_]).length = _; rw [List.length_append, ih]; rfl
    · have k2 : loop (fun s : List Int × Int × Int => spec_RankStart.b0 a s.1 s.2.1 s.2.2) ([], 0, 0) = some ((List.range a.states.toNat).foldl (fun y k => y ++ [if S.testBit k = true then 2 * a.states else -1]) [], 0) := by
        refine loop_up (body := fun s : List Int × Int × Int => spec_RankStart.b0 a s.1 s.2.1 s.2.2) a.states.toNat (fun k => ((List.range k).foldl (fun y k => y ++ [if S.testBit k = true then 2 * a.states else -1]) [], 0, (k : Int))) _ (fun k hk => ?_) ?_ 0 (by omega)
        · dsimp only
          unfold spec_RankStart.b0
          rw [if_pos (by omega), eS, l1Has_eq hS (by omega), Option.bind_some, Int.toNat_natCast, List.range_succ, List.foldl_append]
          have hl := hlen k
          generalize (List.range k).foldl (fun y k => y ++ [if S.testBit k = true then 2 * a.states else -1]) ([] : List Int) = y at hl
          have hk1 : ∀ x : Int, spec_RankStart.k1 y 0 (k : Int) x = some (.inl (y ++ [x], 0, ((k + 1 : Nat) : Int))) := by
            intro x
            unfold spec_RankStart.k1
            rw [app_small (by rw [hl]; simp; omega) (by omega), Option.bind_some, W, W_nat (by omega)]
          rw [hk1, hk1, W, W_eq (by omega) (by omega)]
          show _ = some (Sum.inl (y ++ [_], _))
          split <;> rfl
        · dsimp only
          unfold spec_RankStart.b0
          rw [if_neg (by omega)]
      rw [k2, Option.bind_some]
      refine ⟨_, _, rfl, ?_⟩
      have := hlen a.states.toNat
      dsimp only; omega
  · rw [Bool.eq_false_iff.mpr h, if_pos (by simp)]
    exact ⟨_, _, rfl, Nat.zero_le _⟩
theorem rankN_small (a : TAuto) (s : TRankState) (l : Int) : (rankN a s l).length ≤ 25 ∧ ∀ x ∈ rankN a s l, x.ranks.length ≤ 2 := by
  unfold rankN
  by_cases h : rnB a s l = true
  · rw [if_pos h]
    have hk : RkOk a s := rkB_ok (by unfold rnB at h; rw [Bool.and_eq_true] at h; exact h.1)
    have h3 := hk.few; have h1 := hk.A.sts
    obtain ⟨_, _, hR⟩ := rows_facts hk l
    have h25 : (5 : Nat) ^ a.states.toNat ≤ 25 := by
      have : a.states.toNat = 0 ∨ a.states.toNat = 1 ∨ a.states.toNat = 2 := by omega
      rcases this with e | e | e <;> rw [e] <;> decide
    unfold nextR outL
    refine ⟨by rw [List.length_map]; exact Nat.le_trans hR.1 h25, fun x hx => ?_⟩
    obtain ⟨row, hrow, rfl⟩ := List.mem_map.mp hx
    have := hR.2 row hrow
    dsimp only; omega
  · rw [if_neg h]; exact ⟨Nat.zero_le _, fun x hx => by cases hx⟩
theorem drawState_ok {c : Tl1Cur} (hc : CurOk c) (a : TAuto) : ∃ s c', spec_l13DrawState c a = some (s, c') ∧ CurOk c' ∧ s.ranks.length ≤ 3 := by
  obtain ⟨s0, b, e0, h0⟩ := specStart_small a
  unfold spec_l13DrawState
  rw [e0, Option.bind_some]
  have key := loop_inv (body := fun s : TRankState × Tl1Cur × Int => spec_l13DrawState.b0 a b s.1 s.2.1 s.2.2) (fun q => q.1.ranks.length ≤ 2 ∧ CurOk q.2.1 ∧ 0 ≤ q.2.2 ∧ q.2.2 ≤ 5) (fun q => 5 - q.2.2.toNat) (fun r => r.1.ranks.length ≤ 2 ∧ CurOk r.2) (fun q hq => ?_) (s := (s0, c, 0)) ⟨h0, hc, Int.le_refl 0, (by show (0 : Int) ≤ 5; decide)⟩
  · obtain ⟨⟨s, c1⟩, e1, h1, h2⟩ := key
    dsimp only at h1 h2
    rw [e1, Option.bind_some]
    unfold spec_l13DrawState.k0
    dsimp only
    obtain ⟨x, c2, e2, x0, _, h3⟩ := belowT h2 20
    rw [e2, Option.bind_some]
    dsimp only
    split
    · obtain ⟨y, c3, e3, _, _, h4⟩ := belowT h3 5
      rw [e3, Option.bind_some]
      exact ⟨_, _, rfl, h4, by dsimp only; omega⟩
    · split
      · split
        · rename_i g
          obtain ⟨y, c3, e3, _, _, h4⟩ := belowT h3 8
          rw [e3, Option.bind_some, show (0 : Int) = ((0 : Nat) : Int) from rfl, ck_nat (by omega), Option.bind_some]
          exact ⟨_, _, rfl, h4, by dsimp only; rw [List.length_set]; omega⟩
        · exact ⟨_, _, rfl, h3, by omega⟩
      · split
        · rw [app_small (by simp; omega) (by decide), Option.bind_some]
          exact ⟨_, _, rfl, h3, by dsimp only; simp; omega⟩
        · exact ⟨_, _, rfl, h3, by omega⟩
  · obtain ⟨s, c1, k⟩ := q
    obtain ⟨i1, i2, i3, i4⟩ := hq
    dsimp only at i1 i2 i3 i4 ⊢
    unfold spec_l13DrawState.b0
    cases b with
    | false => rw [if_neg (by simp)]; exact .inl ⟨_, rfl, i1, i2⟩
    | true =>
      rw [if_pos rfl]
      obtain ⟨x, c2, e2, x0, x1, h2⟩ := belowT i2 5
      rw [e2, Option.bind_some]
      dsimp only
      by_cases g : k < x
      · right
        obtain ⟨y, c3, e3, _, _, h3⟩ := belowT h2 (spec_l1Max a.letters 1)
        have hw : W (k + 1) = k + 1 := W_eq (by omega) (by omega)
        rw [if_pos g, e3, Option.bind_some, specRankNext_eq, Option.bind_some, hw]
        have hsm := rankN_small a s y
        dsimp only
        by_cases g2 : ((rankN a s y).length : Int) > 0
        · obtain ⟨z, c4, e4, z0, z1, h4⟩ := belowT h3 ((rankN a s y).length : Int)
          rw [if_pos g2, e4, Option.bind_some]
          dsimp only
          rw [ix_i z0 (by omega), Option.bind_some]
          refine ⟨_, rfl, ⟨?_, h4, by dsimp only; omega, by dsimp only; omega⟩, by dsimp only; omega⟩
          refine hsm.2 _ ?_
          rw [List.getD_eq_getElem?_getD, List.getElem?_eq_getElem (by omega)]
          exact List.getElem_mem _
        · rw [if_neg g2]
          exact ⟨_, rfl, ⟨i1, h3, by dsimp only; omega, by dsimp only; omega⟩, by dsimp only; omega⟩
      · rw [if_neg g]; exact .inl ⟨_, rfl, i1, h2⟩
theorem drawNext_ok (bs : List Int) (h : bs.length ≤ 1048576) : ∃ a s l, spec_DrawRankNext bs = some (a, s, l) ∧ s.ranks.length ≤ 3 := by
  obtain ⟨c, e, hc⟩ := new_ok bs h
  unfold spec_DrawRankNext spec_l13DrawAuto
  obtain ⟨a1, c1, e1, h1, _⟩ := autoRight_ok hc (l := 2) (s := 2) (by decide) (by decide)
  obtain ⟨b, c2, e2, h2⟩ := onceA_ok h1 (n := 15) (by decide)
  have key : ∃ a c', ((if b = true then (spec_l4DrawAuto c2 4).bind fun a9 => some ((a9.1, a9.2)) else some ((a1, c2))) : Option (TAuto × Tl1Cur)) = some (a, c') ∧ CurOk c' := by
    cases b with
    | true =>
      obtain ⟨a3, c3, e3, h3, _⟩ := drawAuto_ok h2 (s := 4) (by decide)
      exact ⟨a3, c3, by rw [if_pos rfl, e3]; rfl, h3⟩
    | false => exact ⟨a1, c2, by rw [if_neg (by simp)], h2⟩
  obtain ⟨a, c3, e3, h3⟩ := key
  obtain ⟨s, c4, e4, h4, hs⟩ := drawState_ok h3 a
  obtain ⟨x, c5, e5, _, _, h5⟩ := belowT h4 3
  obtain ⟨y, c6, e6, _, _, h6⟩ := belowT h5 20
  rw [e, Option.bind_some, e1, Option.bind_some, e2, Option.bind_some]
  dsimp only
  rw [e3, Option.bind_some]
  dsimp only
  rw [e4, Option.bind_some]
  dsimp only
  rw [e5, Option.bind_some]
  dsimp only
  rw [e6, Option.bind_some]
  exact ⟨_, _, _, rfl, hs⟩
-- rows
theorem rlist_mem {b x : Int} : x ∈ rlist b ↔ mn b 0 ≤ x ∧ x ≤ b := by
  unfold rlist
  rw [List.mem_map]
  constructor
  · rintro ⟨k, hk, rfl⟩
    have := List.mem_range.mp hk
    omega
  · rintro ⟨h1, h2⟩
    exact ⟨(x - mn b 0).toNat, List.mem_range.mpr (by omega), by omega⟩
def FitR (bs row : List Int) : Prop := row.length = bs.length ∧ ∀ q, q < bs.length → mn (bs.getD q default) 0 ≤ row.getD q default ∧ row.getD q default ≤ bs.getD q default
theorem rowsL_fit {bs : List Int} : ∀ row ∈ rowsL bs, FitR bs row := by
  have key : ∀ n (bs : List Int), bs.length = n → ∀ row ∈ rowsL bs, FitR bs row := by
    intro n
    induction n with
    | zero =>
      intro bs hb row hr
      obtain rfl := List.eq_nil_of_length_eq_zero hb
      rw [List.mem_singleton.mp hr]
      exact ⟨rfl, fun q hq => absurd hq (by simp)⟩
    | succ n ih =>
      intro bs hb row hr
      rcases List.eq_nil_or_concat bs with rfl | ⟨l, b, rfl⟩
      · simp at hb
      · rw [List.concat_eq_append] at hb hr ⊢
        have hl : l.length = n := by simpa using hb
        unfold rowsL at hr
        rw [List.foldl_append] at hr
        obtain ⟨x, hx, hr⟩ := List.mem_flatMap.mp (show row ∈ rowsStep (rowsL l) b from hr)
        obtain ⟨v, hv, rfl⟩ := List.mem_map.mp hr
        obtain ⟨f1, f2⟩ := ih l hl x hx
        refine ⟨by simp [f1], fun q hq => ?_⟩
        rw [List.length_append, List.length_singleton] at hq
        by_cases c : q < l.length
        · have := f2 q c
          simp only [List.getD_eq_getElem?_getD] at this ⊢
          rw [List.getElem?_append_left c, List.getElem?_append_left (by omega)]
          exact this
        · have hq' : q = l.length := by omega
          subst hq'
          have := rlist_mem.mp hv
          simp only [List.getD_eq_getElem?_getD]
          rw [List.getElem?_append_right (by omega), List.getElem?_append_right (by omega), f1, Nat.sub_self]
          exact this
  exact key bs.length bs rfl
theorem rowsL_nodup (bs : List Int) : (rowsL bs).Pairwise (· ≠ ·) := by
  have key : ∀ (l : List Int) (rows : List (List Int)), rows.Pairwise (· ≠ ·) → (l.foldl rowsStep rows).Pairwise (· ≠ ·) := by
    intro l
    induction l with
    | nil => intro rows h; exact h
    | cons b l ih =>
      intro rows h
      refine ih _ ?_
      unfold rowsStep
      rw [List.pairwise_flatMap]
      refine ⟨fun row _ => ?_, h.imp fun {r1 r2} hne x hx y hy e => ?_⟩
      · rw [List.pairwise_map]
        unfold rlist
        rw [List.pairwise_map]
        refine List.pairwise_lt_range.imp fun {i j} hij e => ?_
        have := List.append_cancel_left e
        simp only [List.cons.injEq, and_true] at this
        omega
      · obtain ⟨u, _, rfl⟩ := List.mem_map.mp hx
        obtain ⟨v, _, rfl⟩ := List.mem_map.mp hy
        exact hne (List.append_inj_left' e rfl)
  exact key bs [[]] (List.pairwise_singleton _ _)
theorem rowsL_ne {bs : List Int} : rowsL bs ≠ [] := by
  have key : ∀ (l : List Int) (rows : List (List Int)), rows ≠ [] → l.foldl rowsStep rows ≠ [] := by
    intro l
    induction l with
    | nil => intro rows h; exact h
    | cons b l ih =>
      intro rows h
      refine ih _ fun e => ?_
      obtain ⟨row, hr⟩ := List.exists_mem_of_ne_nil _ h
      have hb : mn b 0 ≤ b := by rw [mn0]; split <;> omega
      have : row ++ [b] ∈ rowsStep rows b := List.mem_flatMap.mpr ⟨row, hr, List.mem_map.mpr ⟨b, rlist_mem.mpr ⟨hb, Int.le_refl _⟩, rfl⟩⟩
      rw [e] at this; cases this
  exact key bs [[]] (by simp)
/-- A bound that an edge sets. -/
theorem bound_edge {a : TAuto} {s : TRankState} (h : RkOk a s) (l : Int) {e : TEdge} (he : e ∈ a.edges) (hl : e.letter = l) (hr : 0 ≤ s.ranks.getD e.from_.toNat default) : 0 ≤ (boundsL a s l).getD e.to_.toNat default ∧ (boundsL a s l).getD e.to_.toNat default ≤ lowR e.good (s.ranks.getD e.from_.toNat default) := by
  have h1 := h.A.sts; have h3 := h.few; have h4 := h.len
  have hlow := lowR_in (g := e.good) (r := s.ranks.getD e.from_.toNat default) (m := s.ranks.getD e.from_.toNat default) ⟨hr, Int.le_refl _⟩
  have hto := (h.A.edge e he).2.1
  have keep : ∀ (es : List TEdge) (y : List Int), (∀ x ∈ es, x ∈ a.edges) → InB (2 * a.states) y a.states.toNat → (0 ≤ y.getD e.to_.toNat default ∧ y.getD e.to_.toNat default ≤ lowR e.good (s.ranks.getD e.from_.toNat default)) → (0 ≤ (es.foldl (bStep s l) y).getD e.to_.toNat default ∧ (es.foldl (bStep s l) y).getD e.to_.toNat default ≤ lowR e.good (s.ranks.getD e.from_.toNat default)) := by
    intro es
    induction es with
    | nil => intro y _ _ hy; exact hy
    | cons x es ih =>
      intro y hm hI hy
      have hE := h.A.edge x (hm x List.mem_cons_self)
      have hrk := h.rk x.from_.toNat (by omega)
      refine ih _ (fun z hz => hm z (List.mem_cons_of_mem _ hz)) (bStep_in hI (by omega) hrk.2) ?_
      unfold bStep
      split
      · exact hy
      · rename_i c
        split
        · rename_i c2
          rw [getD_set' _ _ _ _ (by rw [hI.1]; omega)]
          split
          · rename_i c3
            have hx := lowR_in (g := x.good) (r := s.ranks.getD x.from_.toNat default) (m := s.ranks.getD x.from_.toNat default) ⟨by omega, Int.le_refl _⟩
            rw [c3] at c2
            omega
          · exact hy
        · exact hy
  obtain ⟨p, q, hpq⟩ := List.append_of_mem he
  have hI0 : InB (2 * a.states) (p.foldl (bStep s l) (List.replicate a.states.toNat (-1))) a.states.toNat := by
    have g : ∀ (es : List TEdge) (y : List Int), (∀ x ∈ es, x ∈ a.edges) → InB (2 * a.states) y a.states.toNat → InB (2 * a.states) (es.foldl (bStep s l) y) a.states.toNat := by
      intro es
      induction es with
      | nil => intro y _ hI; exact hI
      | cons x es ih =>
        intro y hm hI
        have hE := h.A.edge x (hm x List.mem_cons_self)
        have hrk := h.rk x.from_.toNat (by omega)
        exact ih _ (fun z hz => hm z (List.mem_cons_of_mem _ hz)) (bStep_in hI (by omega) hrk.2)
    exact g p _ (fun x hx => by rw [hpq]; exact List.mem_append_left _ hx) ⟨by simp, fun v hv => by simp [List.getD_eq_getElem?_getD, hv]; omega⟩
  have hE := h.A.edge e he
  have hrk := h.rk e.from_.toNat (by omega)
  unfold boundsL
  rw [hpq, List.foldl_append, List.foldl_cons]
  refine keep q _ (fun x hx => by rw [hpq]; exact List.mem_append_right _ (List.mem_cons_of_mem _ hx)) (bStep_in hI0 (by omega) hrk.2) ?_
  generalize p.foldl (bStep s l) (List.replicate a.states.toNat (-1)) = y at hI0
  unfold bStep
  rw [if_neg (by rintro (g | g); exact g hl; omega)]
  split
  · rw [getD_set' _ _ _ _ (by rw [hI0.1]; omega), if_pos rfl]
    exact ⟨hlow.1, Int.le_refl _⟩
  · rename_i c
    omega
theorem autoEdge_eq {a : TAuto} (h : AOk a) (hok : autoOk a = true) (f l t : Int) : ∃ g x, spec_AutoEdge a f l t = some (g, x) ∧ (x = true → ∃ e ∈ a.edges, e.from_ = f ∧ e.letter = l ∧ e.to_ = t ∧ e.good = g) := by
  have hn := h.num
  unfold spec_AutoEdge
  have key := loop_inv (body := fun s : Int => spec_AutoEdge.b0 a f l t s) (fun k => 0 ≤ k ∧ k ≤ a.edges.length) (fun k => a.edges.length - k.toNat) (fun r => ∀ g x, r = .inr (g, x) → (x = true → ∃ e ∈ a.edges, e.from_ = f ∧ e.letter = l ∧ e.to_ = t ∧ e.good = g)) (fun k hk => ?_) (s := 0) ⟨Int.le_refl 0, by omega⟩
  · obtain ⟨r, e, hr⟩ := key
    rw [e, Option.bind_some]
    cases r with
    | inl u => exact ⟨false, false, rfl, fun g => by cases g⟩
    | inr p => exact ⟨p.1, p.2, rfl, hr p.1 p.2 rfl⟩
  · unfold spec_AutoEdge.b0
    rw [bnd_eq, specAutoOk_eq, hok]
    by_cases c : k < (a.edges.length : Int)
    · rw [decide_eq_true c, whenO_t, Option.bind_some, Bool.true_and, if_pos rfl, ix_i hk.1 c, Option.bind_some, bnd_eq, bnd_eq]
      have hm : a.edges.getD k.toNat default ∈ a.edges := getD_memE (by omega)
      generalize a.edges.getD k.toNat default = e at hm
      by_cases g : ((decide (e.from_ = f) && decide (e.letter = l)) && decide (e.to_ = t)) = true
      · left
        rw [if_pos g]
        simp only [Bool.and_eq_true, decide_eq_true_eq] at g
        exact ⟨_, rfl, fun g' x' e' => by cases e'; exact fun _ => ⟨e, hm, g.1.1, g.1.2, g.2, rfl⟩⟩
      · right
        rw [if_neg g, show W (k + 1) = k + 1 from W_eq (by omega) (by omega)]
        exact ⟨_, rfl, ⟨by omega, by omega⟩, by omega⟩
    · left
      rw [decide_eq_false c, whenO_f, Option.bind_some, Bool.false_and, if_neg (by simp)]
      exact ⟨_, rfl, fun g' x' e' => by cases e'⟩
theorem sameInts_eq (xs ys : List Int) (h : xs.length ≤ 1048576) : laws_sameInts xs ys = some (decide (xs = ys)) := by
  unfold laws_sameInts
  split
  · rename_i k; rw [decide_eq_false]; intro e; subst e; exact k rfl
  · rename_i k
    have h1 := eq_loop (fun a b : Int => some (decide (a = b))) (fun a b => rfl) xs ys (by omega) (by omega)
    have h2 : loop (fun s : Int => laws_sameInts.b0 xs ys s) 0 = some (if xs = ys then (.inl () : Unit ⊕ Bool) else .inr false) := by
      rw [← h1]
      congr 1
      funext s
      unfold laws_sameInts.b0
      split
      · cases ix xs s with
        | none => rfl
        | some a =>
          cases ix ys s with
          | none => rfl
          | some b =>
            simp only [Option.bind_some]
            by_cases e : a = b <;> simp [e]
      · rfl
    rw [h2, Option.bind_some]
    by_cases e : xs = ys
    · rw [if_pos e]; simp [e, laws_sameInts.k0]
    · rw [if_neg e]; simp [e]
-- the law
theorem next_right {a : TAuto} {s : TRankState} (h : RkOk a s) (hr : rankedB2 a = true) (l : Int) : ∀ x ∈ nextR a s l, rkB a x = true := by
  intro x hx
  have h1 := h.A.sts; have h3 := h.few
  obtain ⟨hb, hl, hR⟩ := rows_facts h l
  have hI := (bounds_loop h l).2
  obtain ⟨row, hrow, rfl⟩ := List.mem_map.mp (show x ∈ (rowsL (boundsL a s l)).map _ from hx)
  obtain ⟨f1, f2⟩ := rowsL_fit row hrow
  have hlen : row.length = a.states.toNat := by rw [f1, hl]
  have hlt := setOf_lt (cR (oweS a s l) row) row.length
  unfold rkB
  rw [hr, Bool.true_and, Bool.and_eq_true, decide_eq_true_eq]
  refine ⟨⟨by dsimp only; omega, by dsimp only; rw [hlen] at hlt ⊢; omega⟩, List.all_eq_true.mpr fun q hq => ?_⟩
  have hq := List.mem_range.mp hq
  have f := f2 q (by omega)
  have hbq := hI.2 q hq
  have hm : -1 ≤ mn ((boundsL a s l).getD q default) 0 := by rw [mn0]; split <;> omega
  unfold okAt
  rw [decide_eq_true_eq]
  dsimp only
  refine ⟨by omega, fun g => ?_⟩
  rw [Int.toNat_natCast, setOf_bit, Bool.and_eq_true] at g
  have g2 := g.2
  unfold cR at g2
  rw [Bool.and_eq_true, decide_eq_true_eq] at g2
  omega
theorem inner_ok {a : TAuto} {s : TRankState} (h : RkOk a s) (hok : autoOk a = true) (l : Int) {i : Nat} (hi : i < (nextR a s l).length) {q : Nat} (hq : (q : Int) < a.states) : laws_FnRankSteps.b1 (a, s, l) (nextR a s l) (i : Int) (q : Int) = some (.inl ((q + 1 : Nat) : Int)) := by
  have h1 := h.A.sts; have h3 := h.few; have h4 := h.len
  obtain ⟨hb, hl, hR⟩ := rows_facts h l
  obtain ⟨g, x, eE, hE⟩ := autoEdge_eq h.A hok 0 l (q : Int)
  have hm : (nextR a s l).getD i default ∈ nextR a s l := getD_memE hi
  obtain ⟨row, hrow, hre⟩ := List.mem_map.mp (show (nextR a s l).getD i default ∈ (rowsL (boundsL a s l)).map _ from hm)
  obtain ⟨f1, f2⟩ := rowsL_fit row hrow
  have hlen : row.length = a.states.toNat := by rw [f1, hl]
  have hrk : ((nextR a s l).getD i default).ranks = row := by rw [← hre]
  have f := f2 q (by omega)
  unfold laws_FnRankSteps.b1
  dsimp only
  have w4 : W ((q : Int) + 1) = ((q + 1 : Nat) : Int) := W_nat (by omega)
  have ir : ix s.ranks 0 = some (s.ranks.getD 0 default) := ix_nat (k := 0) (by omega)
  rw [if_pos hq, eE, Option.bind_some, bnd_eq, ir, ix_nat hi, w4]
  dsimp only
  cases x with
  | false =>
    simp only [whenO_f, Option.bind_some, Bool.false_and, bnd_eq, if_false, Bool.false_eq_true]
  | true =>
    obtain ⟨e, he, e1, e2, e3, e4⟩ := hE rfl
    rw [whenO_t, Option.bind_some, Bool.true_and, bnd_eq]
    by_cases c : s.ranks.getD 0 default ≥ 0
    · have hbe := bound_edge h l he e2 (by rw [e1]; exact c)
      rw [e1, e3, Int.toNat_natCast, show Int.toNat 0 = 0 from rfl, e4] at hbe
      have hbl : lowR g (s.ranks.getD 0 default) ≤ s.ranks.getD 0 default := (lowR_in (g := g) (r := s.ranks.getD 0 default) (m := s.ranks.getD 0 default) ⟨c, Int.le_refl _⟩).2
      have hmn : mn ((boundsL a s l).getD q default) 0 = 0 ∨ mn ((boundsL a s l).getD q default) 0 = (boundsL a s l).getD q default := by rw [mn0]; split; exact .inl rfl; exact .inr rfl
      have hv0 : 0 ≤ row.getD q default := by omega
      have hv1 : row.getD q default ≤ lowR g (s.ranks.getD 0 default) := by omega
      have ir2 : ix row (q : Int) = some (row.getD q default) := ix_nat (by omega)
      rw [decide_eq_true c]
      simp only [whenO_t, Option.bind_some, hrk, ir2, bnd_eq, Bool.true_and]
      rw [decide_eq_false (by omega : ¬ row.getD q default < 0)]
      simp only [whenO_t, Option.bind_some, Bool.not_false, Bool.false_or, hrk, ir2]
      rw [decide_eq_false (by omega : ¬ row.getD q default > s.ranks.getD 0 default)]
      simp only [Bool.not_false, Bool.true_and, Bool.false_or]
      cases g with
      | false => simp only [whenO_f, Option.bind_some, Bool.false_and, if_false, Bool.false_eq_true]
      | true =>
        simp only [whenO_t, Option.bind_some, Bool.true_and]
        rw [tmod2 (by omega)]
        by_cases c2 : s.ranks.getD 0 default % 2 = 1
        · rw [decide_eq_true c2]
          simp only [whenO_t, Option.bind_some, hrk, ir2, Bool.true_and]
          unfold lowR at hv1
          rw [if_pos rfl] at hv1
          rw [if_neg (by rw [decide_eq_true_eq]; omega)]
        · rw [decide_eq_false c2]
          simp only [whenO_f, Option.bind_some, Bool.false_and, if_false, Bool.false_eq_true]
    · rw [decide_eq_false c]
      simp only [whenO_f, Option.bind_some, Bool.false_and, bnd_eq, if_false, Bool.false_eq_true]
theorem pureRankSteps_d {bs : List Int} {a : TAuto} {s : TRankState} {l : Int} (hd : spec_DrawRankNext bs = some (a, s, l)) (hs : s.ranks.length ≤ 3) : laws_FnRankSteps bs = some true := by
  unfold laws_FnRankSteps
  by_cases hb : laws_big bs = true
  · rw [if_pos hb]
  rw [if_neg hb, hd, Option.bind_some]
  dsimp only
  rw [implRankNext_eq a s l (by omega), Option.bind_some, specRankNext_eq, Option.bind_some, if_neg (by simp), specRankOk_eq, Option.bind_some, bnd_eq, bnd_eq]
  by_cases hn : rnB a s l = true
  · have hn' := hn
    unfold rnB at hn'
    rw [Bool.and_eq_true, decide_eq_true_eq] at hn'
    have h : RkOk a s := rkB_ok hn'.1
    have hr : rankedB2 a = true := by
      have := hn'.1
      unfold rkB at this
      rw [Bool.and_eq_true] at this
      exact this.1
    have hok : autoOk a = true := by unfold rankedB2 at hr; rw [Bool.and_eq_true] at hr; exact hr.1
    have h1 := h.A.sts
    have hsm := rankN_small a s l
    have eN : rankN a s l = nextR a s l := by unfold rankN; rw [if_pos hn]
    rw [eN] at hsm ⊢
    rw [hn'.1, Bool.not_true, Bool.false_or, decide_eq_false (by omega), Bool.false_or, decide_eq_false (by omega), if_neg (by simp)]
    have key := all_loop (body := fun x : Int => laws_FnRankSteps.b0 (nextR a s l) (a, s, l) x) (nextR a s l).length (fun _ => true) (fun k hk => by
      try dsimp only
      have hmk : (nextR a s l).getD k default ∈ nextR a s l := getD_memE hk
      have hx := hsm.2 _ hmk
      unfold laws_FnRankSteps.b0
      rw [if_pos (by omega), ix_nat hk, Option.bind_some, implRankOk_eq _ _ (by omega), next_right h hr l _ hmk, Option.bind_some, bnd_eq, bnd_eq]
      have inner := all_loop (body := fun x : Int => laws_FnRankSteps.b1 (a, s, l) (nextR a s l) (k : Int) x) a.states.toNat (fun _ => true) (fun q hq => by
        try dsimp only
        rw [inner_ok h hok l hk (by omega), if_pos rfl]) (by
        try dsimp only
        unfold laws_FnRankSteps.b1
        dsimp only
        rw [if_neg (by omega)])
      rw [if_pos (by simp)] at inner
      have w4 : W ((k : Int) + 1) = ((k + 1 : Nat) : Int) := W_nat (by omega)
      have hfin : (if ((!true) || (decide ((k : Int) > 0) && false)) = true then some (Sum.inr (Sum.inr false)) else (loop (fun x : Int => laws_FnRankSteps.b1 (a, s, l) (nextR a s l) (k : Int) x) 0).bind (Sum.elim (fun q => laws_FnRankSteps.k1 (k : Int)) (fun q => some (.inr ((.inr q)))))) = some (.inl ((k + 1 : Nat) : Int) : Int ⊕ (Unit ⊕ Bool)) := by
        rw [if_neg (by simp), inner, Option.bind_some, Sum.elim_inl, laws_FnRankSteps.k1, w4]
      rw [if_pos rfl, Bool.not_true, Bool.not_false, Bool.true_and]
      by_cases c : (k : Int) > 0
      · rw [decide_eq_true c] at hfin ⊢
        have hk1 : W ((k : Int) - 1) = ((k - 1 : Nat) : Int) := by rw [W, W_eq (by omega) (by omega)]; omega
        rw [whenO_t, Option.bind_some, whenO_t, hk1, ix_nat (by omega), Option.bind_some, whenO_t, sameInts_eq _ _ (by omega), Option.bind_some]
        have hne : ¬ ((nextR a s l).getD k default).ranks = ((nextR a s l).getD (k - 1) default).ranks := by
          have hp := rowsL_nodup (boundsL a s l)
          have hlen : (rowsL (boundsL a s l)).length = (nextR a s l).length := by unfold nextR outL; rw [List.length_map]
          have hgr : ∀ j, j < (nextR a s l).length → ((nextR a s l).getD j default).ranks = (rowsL (boundsL a s l)).getD j default := fun j hj => by
            unfold nextR outL
            rw [List.getD_eq_getElem?_getD, List.getD_eq_getElem?_getD, List.getElem?_map, List.getElem?_eq_getElem (by omega)]
            rfl
          rw [hgr k hk, hgr (k - 1) (by omega)]
          rw [List.pairwise_iff_getElem] at hp
          have := hp (k - 1) k (by omega) (by omega) (by omega)
          rw [List.getD_eq_getElem?_getD, List.getD_eq_getElem?_getD, List.getElem?_eq_getElem (by omega), List.getElem?_eq_getElem (by omega)]
          exact fun e => this e.symm
        rw [decide_eq_false hne]
        exact hfin
      · rw [decide_eq_false c] at hfin ⊢
        rw [whenO_f, Option.bind_some, whenO_f, Option.bind_some, whenO_f, Option.bind_some, Bool.false_and]
        rw [Bool.false_and] at hfin
        exact hfin) (by
      try dsimp only
      unfold laws_FnRankSteps.b0
      rw [if_neg (by omega)])
    rw [if_pos (by simp)] at key
    rw [key, Option.bind_some, Sum.elim_inl, laws_FnRankSteps.k0, decide_eq_true]
    have : nextR a s l ≠ [] := by
      unfold nextR outL
      intro e
      exact rowsL_ne (List.map_eq_nil_iff.mp e)
    have := List.length_pos_iff.mpr this
    omega
  · have eN : rankN a s l = [] := by unfold rankN; rw [if_neg hn]
    rw [eN]
    rw [if_pos]
    · rfl
    · cases hk : rkB a s with
      | false => rfl
      | true =>
        rw [Bool.not_true, Bool.false_or, Bool.or_eq_true, decide_eq_true_eq, decide_eq_true_eq]
        unfold rnB at hn
        rw [hk, Bool.true_and, decide_eq_true_eq] at hn
        omega
theorem pureRankSteps (bs : List Int) (w : bs.length ≤ 9223372036854775807 ∧ ∀ q ∈ bs, (IntKind.u8.min ≤ q ∧ q ≤ IntKind.u8.max)) : laws_FnRankSteps bs = some true := by
  by_cases hb : laws_big bs = true
  · unfold laws_FnRankSteps; rw [if_pos hb]
  · have hl : bs.length ≤ 1048576 := by
      unfold laws_big at hb
      simp at hb
      omega
    obtain ⟨a, s, l, hd, hs⟩ := drawNext_ok bs hl
    exact pureRankSteps_d hd hs
end Go.Proofs.Ytllpbgcajgbfbaa
end
