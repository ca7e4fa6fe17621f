/- Plain texts of FnExactRankNext, put together. -/
import Derived.Test.YtllpbgcajgbfbaaDRankNext
import Derived.Test.YtllpbgcajgbfbaaQ1
import Derived.Test.YtllpbgcajgbfbaaQ0

/- Loops that ask whether all are so. -/
section
namespace Go.Proofs.Ytllpbgcajgbfbaa
open Go Go.RowKit E
set_option linter.unusedVariables false

theorem inRg (x a b : Int) : impl_inRange x a b = decide (a ≤ x ∧ x ≤ b) := inR
theorem l1Rg (x a b : Int) : spec_l1In x a b = decide (a ≤ x ∧ x ≤ b) := inR
theorem WN {k : Nat} (h : k < 9223372036854775807) : W ((k : Int) + 1) = ((k + 1 : Nat) : Int) := W_nat h
/-- A loop that asks each place. -/
theorem all_loop {body : Int → Option (Int ⊕ (Unit ⊕ Bool))} (n : Nat) (c : Nat → Bool) (go : ∀ k, k < n → body (k : Int) = some (if c k = true then .inl ((k + 1 : Nat) : Int) else .inr (.inr false))) (fin : body (n : Int) = some (.inr (.inl ()))) : loop body 0 = some (if (List.range n).all c = true then .inl () else .inr false) := by
  have key : ∀ d k, k + d = n → (∀ j, j < k → c j = true) → loop body (k : Int) = some (if (List.range n).all c = true then .inl () else .inr false) := by
    intro d
    induction d with
    | zero =>
      intro k hk he
      obtain rfl : k = n := by omega
      rw [if_pos (List.all_eq_true.mpr fun x hx => he x (List.mem_range.mp hx))]
      exact loop_end fin
    | succ d ih =>
      intro k hk he
      by_cases h : c k = true
      · rw [loop_go (s' := ((k + 1 : Nat) : Int)) (by rw [go k (by omega), if_pos h])]
        refine ih (k + 1) (by omega) fun j hj => ?_
        by_cases e : j = k
        · rw [e]; exact h
        · exact he j (by omega)
      · rw [if_neg (fun g => h (List.all_eq_true.mp g k (List.mem_range.mpr (by omega))))]
        exact loop_end (by rw [go k (by omega), if_neg h])
  exact key n 0 (by omega) (fun j hj => absurd hj (by omega))
end Go.Proofs.Ytllpbgcajgbfbaa
end

/- Powers of two. -/
section
namespace Go.Proofs.Ytllpbgcajgbfbaa
open Go Go.RowKit E
set_option linter.unusedVariables false

theorem pow31 {n : Nat} (h : n ≤ 31) : 2 ^ n ≤ 2147483648 ∧ 1 ≤ 2 ^ n := ⟨by
  have : 2 ^ n ≤ 2 ^ 31 := Nat.pow_le_pow_right (by omega) h
  exact this, Nat.two_pow_pos n⟩
theorem lt31 {n s : Nat} (hn : n ≤ 31) (h : s < 2 ^ n) : s < 2 ^ 31 := Nat.lt_of_lt_of_le h (Nat.pow_le_pow_right (by omega) hn)
end Go.Proofs.Ytllpbgcajgbfbaa
end

/- Sets of states, edges in order, numbers compared. -/
section
namespace Go.Proofs.Ytllpbgcajgbfbaa
open Go Go.RowKit E
set_option linter.unusedVariables false

theorem setIn_eq (x : Int) {n : Nat} (h : n ≤ 31) : spec_SetIn x (W (shl .i64 1 (n : Int) - 1)) = decide (0 ≤ x ∧ x < ((2 ^ n : Nat) : Int)) := by
  have hp := pow31 h
  rw [shl1_i (by omega)]
  have e : W (((2 ^ n : Nat) : Int) - 1) = ((2 ^ n - 1 : Nat) : Int) := by
    generalize 2 ^ n = y at hp ⊢
    rw [W, W_eq (by omega) (by omega)]; omega
  rw [e]
  unfold spec_SetIn spec_SetOk
  rw [l1Rg, l1Rg, bnd_eq, bnd_eq]
  by_cases h0 : 0 ≤ x ∧ x ≤ 2147483647
  · obtain ⟨y, rfl⟩ : ∃ y : Nat, x = y := ⟨x.toNat, by omega⟩
    rw [bAnd_i (by omega) (by omega), Nat.and_two_pow_sub_one_eq_mod]
    rw [decide_eq_true h0, decide_eq_true (by omega), Bool.and_self, Bool.true_and]
    rw [decide_eq_decide]
    constructor
    · intro g
      have g : y % 2 ^ n = y := by omega
      have := (Nat.mod_eq_iff_lt (by omega)).mp g
      omega
    · rintro ⟨_, g⟩
      rw [Nat.mod_eq_of_lt (by omega)]
  · rw [decide_eq_false h0, Bool.false_and, Bool.false_and]
    symm; rw [decide_eq_false_iff_not]; omega
theorem only_eq {n : Nat} (h : n ≤ 31) : impl_only (n : Int) = ((2 ^ n : Nat) : Int) := by
  unfold impl_only
  rw [u64_nat (by omega), shl1_i (by omega)]

/-- Edges in order. -/
def edgeLt (a b : TEdge) : Bool := decide (a.from_ < b.from_ ∨ (a.from_ = b.from_ ∧ (a.letter < b.letter ∨ (a.letter = b.letter ∧ a.to_ < b.to_))))
theorem l4Less_eq (a b : TEdge) : spec_l4Less a b = edgeLt a b := by
  unfold spec_l4Less edgeLt
  split
  · rw [decide_eq_decide]; omega
  · split
    · rw [decide_eq_decide]; omega
    · rw [decide_eq_decide]; omega
theorem cmpInt_eq (x y : Int) : cmp_Compare_int x y = if x < y then -1 else if x > y then 1 else 0 := by
  unfold cmp_Compare_int cmp_isNaN_int
  rw [if_neg (by simp), if_neg (by simp)]
theorem cmpOr_eq (x y z : Int) : cmp_Or_int [x, y, z] = some (if x ≠ 0 then x else if y ≠ 0 then y else z) := by
  unfold cmp_Or_int
  have i0 : ix [x, y, z] (0 : Int) = some x := rfl
  have i1 : ix [x, y, z] (1 : Int) = some y := rfl
  have i2 : ix [x, y, z] (2 : Int) = some z := rfl
  have w0 : W (0 + 1) = 1 := by decide
  have w1 : W (1 + 1) = 2 := by decide
  have w2 : W (2 + 1) = 3 := by decide
  by_cases hx : x ≠ 0
  · rw [loop_end (r := .inr x) (by unfold cmp_Or_int.b0; rw [if_pos (by simp), i0, Option.bind_some, if_pos hx]), if_pos hx]; rfl
  · rw [loop_go (s' := 1) (by unfold cmp_Or_int.b0; rw [if_pos (by simp), i0, Option.bind_some, if_neg hx, w0]), if_neg hx]
    by_cases hy : y ≠ 0
    · rw [loop_end (r := .inr y) (by unfold cmp_Or_int.b0; rw [if_pos (by simp), i1, Option.bind_some, if_pos hy]), if_pos hy]; rfl
    · rw [loop_go (s' := 2) (by unfold cmp_Or_int.b0; rw [if_pos (by simp), i1, Option.bind_some, if_neg hy, w1]), if_neg hy]
      by_cases hz : z ≠ 0
      · rw [loop_end (r := .inr z) (by unfold cmp_Or_int.b0; rw [if_pos (by simp), i2, Option.bind_some, if_pos hz])]; rfl
      · rw [loop_go (s' := 3) (by unfold cmp_Or_int.b0; rw [if_pos (by simp), i2, Option.bind_some, if_neg hz, w2]), loop_end (r := .inl ()) (by unfold cmp_Or_int.b0; rw [if_neg (by simp)])]
        have : z = 0 := by omega
        rw [this]; rfl
end Go.Proofs.Ytllpbgcajgbfbaa
end

/- Automata: both sides' test that an automaton is right. -/
section
namespace Go.Proofs.Ytllpbgcajgbfbaa
open Go Go.RowKit E
set_option linter.unusedVariables false

theorem compareEdges_eq (a b : TEdge) : ∃ x, impl_compareEdges a b = some x ∧ decide (x ≥ 0) = !(edgeLt a b) := by
  unfold impl_compareEdges
  rw [cmpOr_eq, Option.bind_some]
  refine ⟨_, rfl, ?_⟩
  rw [cmpInt_eq, cmpInt_eq, cmpInt_eq]
  unfold edgeLt
  rw [Bool.eq_iff_iff, decide_eq_true_eq, Bool.not_eq_true', decide_eq_false_iff_not]
  repeat' split
  all_goals omega
/-- The k-th edge is right. -/
def edgeOk (a : TAuto) (k : Nat) : Bool :=
  decide (0 ≤ (a.edges.getD k default).from_ ∧ (a.edges.getD k default).from_ ≤ a.states - 1) && decide (0 ≤ (a.edges.getD k default).to_ ∧ (a.edges.getD k default).to_ ≤ a.states - 1) && decide (0 ≤ (a.edges.getD k default).letter ∧ (a.edges.getD k default).letter ≤ a.letters - 1) && (decide (k = 0) || edgeLt (a.edges.getD (k - 1) default) (a.edges.getD k default))
def headOk (a : TAuto) : Bool := decide (1 ≤ a.letters ∧ a.letters ≤ 8) && decide (0 ≤ a.states ∧ a.states ≤ 31) && decide (0 ≤ a.start ∧ a.start < ((2 ^ a.states.toNat : Nat) : Int)) && decide (a.edges.length ≤ 2000)
def autoOk (a : TAuto) : Bool := headOk a && (List.range a.edges.length).all (edgeOk a)
theorem headOk_t {a : TAuto} (h : headOk a = true) : (1 ≤ a.letters ∧ a.letters ≤ 8) ∧ (0 ≤ a.states ∧ a.states ≤ 31) ∧ (0 ≤ a.start ∧ a.start < ((2 ^ a.states.toNat : Nat) : Int)) ∧ a.edges.length ≤ 2000 := by
  unfold headOk at h
  simp only [Bool.and_eq_true, decide_eq_true_eq] at h
  exact ⟨h.1.1.1, h.1.1.2, h.1.2, h.2⟩
theorem specEdge_eq (a : TAuto) (h : headOk a = true) {k : Nat} (hk : k < a.edges.length) : spec_AutoOk.b0 a (k : Int) = some (if edgeOk a k = true then .inl ((k + 1 : Nat) : Int) else .inr (.inr false)) := by
  obtain ⟨h1, h2, h3, h4⟩ := headOk_t h
  unfold spec_AutoOk.b0 edgeOk spec_l4State
  have w1 : W (a.states - 1) = a.states - 1 := W_eq (by omega) (by omega)
  have w2 : W (a.letters - 1) = a.letters - 1 := W_eq (by omega) (by omega)
  simp only [bnd_eq, l1Rg, w1, w2, l4Less_eq]
  rw [if_pos (by omega), ix_nat hk, Option.bind_some, WN (by omega)]
  generalize a.edges.getD k default = e
  by_cases c1 : 0 ≤ e.from_ ∧ e.from_ ≤ a.states - 1
  · by_cases c2 : 0 ≤ e.to_ ∧ e.to_ ≤ a.states - 1
    · by_cases c3 : 0 ≤ e.letter ∧ e.letter ≤ a.letters - 1
      · rw [decide_eq_true c1, decide_eq_true c2, decide_eq_true c3]
        by_cases c4 : k = 0
        · subst c4; rfl
        · rw [decide_eq_true (by omega : (k : Int) > 0), decide_eq_false c4]
          have e1 : W ((k : Int) - 1) = ((k - 1 : Nat) : Int) := by rw [W, W_eq (by omega) (by omega)]; omega
          rw [e1, ix_nat (by omega)]
          simp only [Bool.not_true, Bool.or_self, Bool.not_false, Bool.and_self, whenO_t, Option.bind_some, Bool.false_or, Bool.true_and]
          cases edgeLt (a.edges.getD (k - 1) default) e <;> rfl
      · rw [decide_eq_false c3]; simp [whenO]
    · rw [decide_eq_false c2]; simp [whenO]
  · rw [decide_eq_false c1]; simp [whenO]
theorem implEdge_eq (a : TAuto) (h : headOk a = true) {k : Nat} (hk : k < a.edges.length) : impl_AutoOk.b0 a (k : Int) = some (if edgeOk a k = true then .inl ((k + 1 : Nat) : Int) else .inr (.inr false)) := by
  obtain ⟨h1, h2, h3, h4⟩ := headOk_t h
  unfold impl_AutoOk.b0 edgeOk
  have w1 : W (a.states - 1) = a.states - 1 := W_eq (by omega) (by omega)
  have w2 : W (a.letters - 1) = a.letters - 1 := W_eq (by omega) (by omega)
  simp only [bnd_eq, inRg, w1, w2]
  rw [if_pos (by omega), ix_nat hk, Option.bind_some, WN (by omega)]
  generalize a.edges.getD k default = e
  by_cases c1 : 0 ≤ e.from_ ∧ e.from_ ≤ a.states - 1
  · by_cases c2 : 0 ≤ e.to_ ∧ e.to_ ≤ a.states - 1
    · by_cases c3 : 0 ≤ e.letter ∧ e.letter ≤ a.letters - 1
      · rw [decide_eq_true c1, decide_eq_true c2, decide_eq_true c3]
        rw [if_neg (by simp)]
        by_cases c4 : k = 0
        · subst c4; rfl
        · rw [decide_eq_true (by omega : (k : Int) > 0), decide_eq_false c4]
          have e1 : W ((k : Int) - 1) = ((k - 1 : Nat) : Int) := by rw [W, W_eq (by omega) (by omega)]; omega
          rw [e1, ix_nat (by omega)]
          obtain ⟨x, x1, x2⟩ := compareEdges_eq (a.edges.getD (k - 1) default) e
          rw [whenO_t, Option.bind_some, whenO_t, x1, Option.bind_some, x2]
          cases edgeLt (a.edges.getD (k - 1) default) e <;> rfl
      · rw [decide_eq_false c3]; simp
    · rw [decide_eq_false c2]; simp
  · rw [decide_eq_false c1]; simp
theorem specAutoOk_eq (a : TAuto) : spec_AutoOk a = some (autoOk a) := by
  unfold spec_AutoOk autoOk
  rw [bnd_eq, bnd_eq, bnd_eq, l1Rg, l1Rg]
  by_cases hh : headOk a = true
  · obtain ⟨h1, h2, h3, h4⟩ := headOk_t hh
    rw [decide_eq_true h1, decide_eq_true h2, Bool.not_true, Bool.or_self, Bool.not_false, whenO_t, decide_eq_true h2.1, chk_t, Option.bind_some]
    have e : a.states = ((a.states.toNat : Nat) : Int) := by omega
    have hs := setIn_eq a.start (n := a.states.toNat) (by omega)
    rw [← e] at hs
    rw [hs, decide_eq_true h3, decide_eq_false (by omega : ¬ (a.edges.length : Int) > 2000), if_neg (by simp), hh]
    rw [all_loop a.edges.length (edgeOk a) (fun k hk => specEdge_eq a hh hk) (by unfold spec_AutoOk.b0; rw [if_neg (by omega)]), Option.bind_some]
    cases (List.range a.edges.length).all (edgeOk a) <;> rfl
  · rw [Bool.not_eq_true] at hh
    rw [hh, Bool.false_and]
    by_cases h1 : 1 ≤ a.letters ∧ a.letters ≤ 8
    · by_cases h2 : 0 ≤ a.states ∧ a.states ≤ 31
      · rw [decide_eq_true h1, decide_eq_true h2, Bool.not_true, Bool.or_self, Bool.not_false, whenO_t, decide_eq_true h2.1, chk_t, Option.bind_some]
        have e : a.states = ((a.states.toNat : Nat) : Int) := by omega
        have hs := setIn_eq a.start (n := a.states.toNat) (by omega)
        rw [← e] at hs
        rw [hs]
        unfold headOk at hh
        rw [decide_eq_true h1, decide_eq_true h2] at hh
        rw [if_pos]
        by_cases h3 : 0 ≤ a.start ∧ a.start < ((2 ^ a.states.toNat : Nat) : Int)
        · rw [decide_eq_true h3] at hh
          have : ¬ a.edges.length ≤ 2000 := by simpa using hh
          rw [decide_eq_true (by omega : (a.edges.length : Int) > 2000), Bool.or_true]
        · rw [decide_eq_false h3]; simp
      · rw [decide_eq_false h2]; simp [whenO]
    · rw [decide_eq_false h1]; simp [whenO]
theorem implAutoOk_eq (a : TAuto) : impl_AutoOk a = some (autoOk a) := by
  have hd : (impl_headOk a.letters a.states a.start && decide (a.edges.length ≤ 2000)) = headOk a := by
    unfold impl_headOk headOk impl_isLetters impl_SetOk
    simp only [bnd_eq, inRg]
    by_cases h2 : 0 ≤ a.states ∧ a.states ≤ 31
    · have ho := only_eq (n := a.states.toNat) (by omega)
      rw [show ((a.states.toNat : Nat) : Int) = a.states by omega] at ho
      have hp := pow31 (n := a.states.toNat) (by omega)
      rw [ho]
      congr 1
      rw [Bool.and_assoc]
      congr 1
      rw [← Bool.decide_and, decide_eq_decide]
      omega
    · rw [decide_eq_false h2]; simp
  unfold impl_AutoOk autoOk
  rw [bnd_eq, ← hd]
  by_cases hl : a.edges.length ≤ 2000
  · rw [decide_eq_true hl, decide_eq_false (by omega : ¬ (a.edges.length : Int) > 2000), Bool.and_true, Bool.or_false]
    rw [decide_eq_true hl, Bool.and_true] at hd
    cases hh : impl_headOk a.letters a.states a.start with
    | false => rw [Bool.not_false, if_pos rfl]; rfl
    | true =>
      rw [hh] at hd
      rw [Bool.not_true, if_neg (by simp), all_loop a.edges.length (edgeOk a) (fun k hk => implEdge_eq a hd.symm hk) (by unfold impl_AutoOk.b0; rw [if_neg (by omega)]), Option.bind_some]
      cases (List.range a.edges.length).all (edgeOk a) <;> rfl
  · rw [decide_eq_true (by omega : (a.edges.length : Int) > 2000), Bool.or_true, if_pos rfl, decide_eq_false hl, Bool.and_false]; rfl
/-- What a right automaton's edges are. -/
theorem autoOk_t {a : TAuto} (h : autoOk a = true) : headOk a = true ∧ ∀ k, k < a.edges.length → (0 ≤ (a.edges.getD k default).from_ ∧ (a.edges.getD k default).from_ ≤ 30) ∧ (0 ≤ (a.edges.getD k default).to_ ∧ (a.edges.getD k default).to_ ≤ 30) := by
  unfold autoOk at h
  rw [Bool.and_eq_true] at h
  refine ⟨h.1, fun k hk => ?_⟩
  have h2 := (headOk_t h.1).2.1
  have := List.all_eq_true.mp h.2 k (List.mem_range.mpr hk)
  unfold edgeOk at this
  simp only [Bool.and_eq_true, decide_eq_true_eq] at this
  omega
end Go.Proofs.Ytllpbgcajgbfbaa
end

/- What a right automaton is. -/
section
namespace Go.Proofs.Ytllpbgcajgbfbaa
open Go Go.RowKit E
set_option linter.unusedVariables false

/-- What a right automaton is. -/
structure AOk (a : TAuto) : Prop where
  lets : 1 ≤ a.letters ∧ a.letters ≤ 8
  sts : 0 ≤ a.states ∧ a.states ≤ 31
  start : 0 ≤ a.start ∧ a.start < ((2 ^ a.states.toNat : Nat) : Int)
  num : a.edges.length ≤ 2000
  edge : ∀ e ∈ a.edges, (0 ≤ e.from_ ∧ e.from_ < a.states) ∧ (0 ≤ e.to_ ∧ e.to_ < a.states) ∧ (0 ≤ e.letter ∧ e.letter < a.letters)
theorem autoOk_A {a : TAuto} (h : autoOk a = true) : AOk a := by
  obtain ⟨h1, h2⟩ := autoOk_t h
  obtain ⟨g1, g2, g3, g4⟩ := headOk_t h1
  refine ⟨g1, g2, g3, g4, fun e he => ?_⟩
  obtain ⟨k, hk, rfl⟩ := List.getElem_of_mem he
  unfold autoOk at h
  rw [Bool.and_eq_true] at h
  have := List.all_eq_true.mp h.2 k (List.mem_range.mpr hk)
  unfold edgeOk at this
  simp only [Bool.and_eq_true, decide_eq_true_eq] at this
  have e1 : a.edges.getD k default = a.edges[k] := by simp [List.getD_eq_getElem?_getD, hk]
  rw [e1] at this
  omega
end Go.Proofs.Ytllpbgcajgbfbaa
end

/- Members of sets, by the reference. -/
section
namespace Go.Proofs.Ytllpbgcajgbfbaa
open Go Go.RowKit E
set_option linter.unusedVariables false

theorem and31 {x : Int} (h : 0 ≤ x ∧ x ≤ 30) : bAnd .i64 x 31 = x := by
  obtain ⟨y, rfl⟩ : ∃ y : Nat, x = y := ⟨x.toNat, by omega⟩
  have := bAnd_i (a := y) (b := 31) (by omega) (by omega)
  rw [show ((31 : Nat) : Int) = 31 from rfl] at this
  rw [this, show (31 : Nat) = 2 ^ 5 - 1 from rfl, Nat.and_two_pow_sub_one_eq_mod, Nat.mod_eq_of_lt (by omega)]
theorem l1Bit_eq {x : Int} (h : 0 ≤ x ∧ x ≤ 30) : spec_l1Bit x = some ((2 ^ x.toNat : Nat) : Int) := by
  unfold spec_l1Bit
  rw [and31 h, decide_eq_true h.1, chk_t, Option.bind_some]
  have := shl1_i (n := x.toNat) (by omega)
  rw [show ((x.toNat : Nat) : Int) = x by omega] at this
  rw [this]
theorem and_pow (s n : Nat) : decide (s &&& 2 ^ n ≠ 0) = s.testBit n := by
  cases h : s.testBit n with
  | false =>
    have : s &&& 2 ^ n = 0 := Nat.eq_of_testBit_eq fun i => by
      rw [Nat.testBit_and, Nat.testBit_two_pow, Nat.zero_testBit]
      by_cases e : n = i
      · subst e; rw [h]; rfl
      · simp [e]
    simp [this]
  | true =>
    rw [decide_eq_true_eq]
    intro g
    have := congrArg (fun x => x.testBit n) g
    simp [Nat.testBit_and, h, Nat.testBit_two_pow] at this
theorem l1Has_eq {s : Nat} (hs : s < 2 ^ 31) {x : Int} (h : 0 ≤ x ∧ x ≤ 30) : spec_l1Has (s : Int) x = some (s.testBit x.toNat) := by
  unfold spec_l1Has
  have hp := pow31 (n := x.toNat) (by omega)
  have h31 : (2 : Nat) ^ 31 = 2147483648 := rfl
  rw [bnd_eq, show spec_l1In x 0 30 = decide (0 ≤ x ∧ x ≤ 30) from inR, decide_eq_true h, whenO_t, l1Bit_eq h, Option.bind_some, bAnd_i (by omega) (by omega), Bool.true_and, ← and_pow]
  congr 1
  rw [decide_eq_decide]; omega
end Go.Proofs.Ytllpbgcajgbfbaa
end

/- Members of sets, by the program. -/
section
namespace Go.Proofs.Ytllpbgcajgbfbaa
open Go Go.RowKit E
set_option linter.unusedVariables false

theorem has_eq {s : Nat} (hs : s < 2 ^ 31) {x : Int} (h : 0 ≤ x ∧ x ≤ 30) : impl_has (s : Int) x = s.testBit x.toNat := by
  unfold impl_has
  have h31 : (2 : Nat) ^ 31 = 2147483648 := rfl
  obtain ⟨y, rfl⟩ : ∃ y : Nat, x = y := ⟨x.toNat, by omega⟩
  rw [u64_nat (by omega), bit_i (by omega) (by omega), Int.toNat_natCast]
end Go.Proofs.Ytllpbgcajgbfbaa
end

/- States of ranks that are right, both sides. -/
section
namespace Go.Proofs.Ytllpbgcajgbfbaa
open Go Go.RowKit E
set_option linter.unusedVariables false

def rankedB2 (a : TAuto) : Bool := autoOk a && decide (a.states ≤ 2)
def okAt (a : TAuto) (s : TRankState) (q : Nat) : Bool := decide ((-1 ≤ s.ranks.getD q default ∧ s.ranks.getD q default ≤ 2 * a.states) ∧ (s.owing.toNat.testBit q = true → 0 ≤ s.ranks.getD q default ∧ s.ranks.getD q default % 2 = 0))
def rkB (a : TAuto) (s : TRankState) : Bool := rankedB2 a && (decide ((s.ranks.length : Int) = a.states ∧ (0 ≤ s.owing ∧ s.owing < ((2 ^ a.states.toNat : Nat) : Int))) && (List.range a.states.toNat).all (okAt a s))
theorem tmod2 {r : Int} (h : 0 ≤ r) : Int.tmod r 2 = r % 2 := Int.tmod_eq_emod_of_nonneg h
theorem ranked_A {a : TAuto} (h : rankedB2 a = true) : AOk a ∧ a.states ≤ 2 := by
  unfold rankedB2 at h
  rw [Bool.and_eq_true, decide_eq_true_eq] at h
  exact ⟨autoOk_A h.1, h.2⟩
theorem specRankOk_eq (a : TAuto) (s : TRankState) : spec_RankOk a s = some (rkB a s) := by
  unfold spec_RankOk spec_l13States
  rw [specAutoOk_eq, Option.bind_some, Option.bind_some]
  show (whenO (rankedB2 a) (spec_l13Ok a s)).bind (fun a10 => some (rankedB2 a && a10)) = _
  unfold rkB
  by_cases h : rankedB2 a = true
  · obtain ⟨hA, h2⟩ := ranked_A h
    have h0 := hA.sts
    rw [h, whenO_t, Bool.true_and]
    obtain ⟨n, e0⟩ : ∃ n : Nat, a.states = (n : Int) := ⟨a.states.toNat, by omega⟩
    have hn : n ≤ 2 := by omega
    have hp := pow31 (n := n) (by omega)
    unfold spec_l13Ok
    rw [bnd_eq, e0, Int.toNat_natCast]
    by_cases hl : (s.ranks.length : Int) = (n : Int)
    · have hl' : s.ranks.length = n := by omega
      rw [decide_eq_false (by simp [hl]), Bool.not_false, whenO_t, decide_eq_true (by omega), chk_t, Option.bind_some, Bool.false_or, setIn_eq _ (by omega)]
      by_cases ho : 0 ≤ s.owing ∧ s.owing < ((2 ^ n : Nat) : Int)
      · rw [decide_eq_true ho, if_neg (by simp), decide_eq_true ⟨hl, ho⟩, Bool.true_and]
        obtain ⟨w, ew⟩ : ∃ w : Nat, s.owing = (w : Int) := ⟨s.owing.toNat, by omega⟩
        have hw : w < 2 ^ 31 := lt31 (n := n) (by omega) (by omega)
        have key := all_loop (body := fun x : Int => spec_l13Ok.b0 a s x) n (okAt a s) (fun k hk => by
          try dsimp only
          unfold spec_l13Ok.b0 okAt
          rw [e0, if_pos (by omega), ix_nat (by omega), Option.bind_some, bnd_eq, l1Rg, W, W_eq (by omega) (by omega), ew, l1Has_eq hw (by omega), Int.toNat_natCast, Int.toNat_natCast]
          generalize s.ranks.getD k default = r
          have w4 : IntKind.i64.wrap ((k : Int) + 1) = ((k + 1 : Nat) : Int) := W_nat (by omega)
          by_cases c : -1 ≤ r ∧ r ≤ 2 * (n : Int)
          · rw [decide_eq_true c, Bool.not_true, Bool.not_false, whenO_t, Option.bind_some, bnd_eq, Bool.false_or]
            cases hb : w.testBit k with
            | false => rw [Bool.false_and, if_neg (by simp), decide_eq_true (by exact ⟨c, fun g => by cases g⟩), if_pos rfl, W, w4]
            | true =>
              rw [Bool.true_and]
              by_cases c2 : r < 0
              · rw [decide_eq_true c2, Bool.true_or, if_pos rfl, decide_eq_false (fun g => by have := g.2 rfl; omega), if_neg (by simp)]
              · rw [decide_eq_false c2, Bool.false_or, tmod2 (by omega)]
                by_cases c3 : r % 2 = 1
                · rw [decide_eq_true c3, if_pos rfl, decide_eq_false (fun g => by have := g.2 rfl; omega), if_neg (by simp)]
                · rw [decide_eq_false c3, if_neg (by simp), decide_eq_true (by exact ⟨c, fun _ => by omega⟩), if_pos rfl, W, w4]
          · rw [decide_eq_false c, Bool.not_false, Bool.not_true, whenO_f, Option.bind_some, bnd_eq, Bool.true_or, if_pos rfl, decide_eq_false (fun g => c g.1), if_neg (by simp)]) (by
          try dsimp only
          unfold spec_l13Ok.b0
          rw [e0, if_neg (by omega)])
        rw [key, Option.bind_some]
        by_cases g : (List.range n).all (okAt a s) = true
        · rw [if_pos g, g]; rfl
        · rw [if_neg g, Bool.eq_false_iff.mpr g]; rfl
      · rw [decide_eq_false ho, if_pos (by simp), decide_eq_false (fun g => ho g.2), Bool.false_and]; rfl
    · rw [decide_eq_true (by exact hl), Bool.not_true, whenO_f, Option.bind_some, Bool.true_or, if_pos rfl, decide_eq_false (fun g => hl g.1), Bool.false_and]; rfl
  · rw [Bool.eq_false_iff.mpr h, whenO_f, Option.bind_some, Bool.false_and, Bool.false_and]
theorem implRankOk_eq (a : TAuto) (s : TRankState) (hs : s.ranks.length ≤ 4611686018427387904) : impl_RankOk a s = some (rkB a s) := by
  unfold impl_RankOk impl_isRanked
  rw [implAutoOk_eq, Option.bind_some, Option.bind_some]
  show (bnd (!(rankedB2 a)) _) = _
  unfold rkB
  rw [bnd_eq, bnd_eq, bnd_eq]
  by_cases h : rankedB2 a = true
  · obtain ⟨hA, h2⟩ := ranked_A h
    have h0 := hA.sts
    obtain ⟨n, e0⟩ : ∃ n : Nat, a.states = (n : Int) := ⟨a.states.toNat, by omega⟩
    have hn : n ≤ 2 := by omega
    have hp := pow31 (n := n) (by omega)
    rw [h, Bool.not_true, Bool.false_or, Bool.true_and, e0, Int.toNat_natCast, only_eq (by omega)]
    by_cases hl : (s.ranks.length : Int) = (n : Int)
    · have hl' : s.ranks.length = n := by omega
      rw [decide_eq_false (by simp [hl]), Bool.false_or]
      unfold impl_SetOk
      rw [inRg]
      by_cases ho : 0 ≤ s.owing ∧ s.owing < ((2 ^ n : Nat) : Int)
      · rw [decide_eq_true (by omega), decide_eq_false (by omega), if_neg (by simp), decide_eq_true ⟨hl, ho⟩, Bool.true_and]
        obtain ⟨w, ew⟩ : ∃ w : Nat, s.owing = (w : Int) := ⟨s.owing.toNat, by omega⟩
        have hw : w < 2 ^ 31 := lt31 (n := n) (by omega) (by omega)
        have key := all_loop (body := fun x : Int => impl_RankOk.b0 s a x) n (okAt a s) (fun k hk => by
          try dsimp only
          unfold impl_RankOk.b0 okAt
          rw [if_pos (by omega), ix_nat (by omega), Option.bind_some, bnd_eq, inRg, e0, W, W_eq (by omega) (by omega), ew, has_eq hw (by omega), Int.toNat_natCast, Int.toNat_natCast, bnd_eq, bnd_eq]
          generalize s.ranks.getD k default = r
          have w4 : IntKind.i64.wrap ((k : Int) + 1) = ((k + 1 : Nat) : Int) := W_nat (by omega)
          by_cases c : -1 ≤ r ∧ r ≤ 2 * (n : Int)
          · rw [decide_eq_true c, Bool.not_true, Bool.false_or]
            cases hb : w.testBit k with
            | false => rw [Bool.false_and, if_neg (by simp), decide_eq_true (by exact ⟨c, fun g => by cases g⟩), if_pos rfl, W, w4]
            | true =>
              rw [Bool.true_and]
              by_cases c2 : r < 0
              · rw [decide_eq_true c2, Bool.true_or, if_pos rfl, decide_eq_false (fun g => by have := g.2 rfl; omega), if_neg (by simp)]
              · rw [decide_eq_false c2, Bool.false_or, tmod2 (by omega)]
                by_cases c3 : r % 2 = 0
                · rw [decide_eq_false (by simp [c3]), if_neg (by simp), decide_eq_true (by exact ⟨c, fun _ => by omega⟩), if_pos rfl, W, w4]
                · rw [decide_eq_true (by exact c3), if_pos rfl, decide_eq_false (fun g => by have := g.2 rfl; omega), if_neg (by simp)]
          · rw [decide_eq_false c, Bool.not_false, Bool.true_or, if_pos rfl, decide_eq_false (fun g => c g.1), if_neg (by simp)]) (by
          try dsimp only
          unfold impl_RankOk.b0
          rw [if_neg (by omega)])
        rw [key, Option.bind_some]
        by_cases g : (List.range n).all (okAt a s) = true
        · rw [if_pos g, g]; rfl
        · rw [if_neg g, Bool.eq_false_iff.mpr g]; rfl
      · rw [if_pos (by
          rw [Bool.or_eq_true]
          by_cases c : 0 ≤ s.owing ∧ s.owing ≤ 2147483647
          · right; rw [decide_eq_true_eq]; omega
          · left; rw [decide_eq_false c]; rfl), decide_eq_false (fun g => ho g.2), Bool.false_and]
    · rw [decide_eq_true (by exact hl), Bool.true_or, Bool.true_or, if_pos rfl, decide_eq_false (fun g => hl g.1), Bool.false_and]
  · rw [Bool.eq_false_iff.mpr h, Bool.not_false, Bool.true_or, Bool.true_or, Bool.true_or, if_pos rfl, Bool.false_and]
end Go.Proofs.Ytllpbgcajgbfbaa
end

/- Loops over lists, told by what their states stand for. -/
section
namespace Go.Proofs.Ytllpbgcajgbfbaa
open Go Go.RowKit E
set_option linter.unusedVariables false

theorem fold_loopR {α σ τ ρ : Type} [Inhabited α] (r : τ → σ) (o : τ → ρ) (xs : List α) (f : τ → α → τ) (Inv : Nat → τ → Prop) {body : σ × Int → Option ((σ × Int) ⊕ ρ)} (go : ∀ (k : Nat) (st : τ), k < xs.length → Inv k st → body (r st, (k : Int)) = some (.inl (r (f st (xs.getD k default)), ((k + 1 : Nat) : Int))) ∧ Inv (k + 1) (f st (xs.getD k default)))
    (fin : ∀ st, Inv xs.length st → body (r st, (xs.length : Int)) = some (.inr (o st))) (st : τ) (h0 : Inv 0 st) : loop body (r st, 0) = some (o (xs.foldl f st)) ∧ Inv xs.length (xs.foldl f st) := by
  have key : ∀ post pre, xs = pre ++ post → ∀ st, Inv pre.length st → loop body (r st, (pre.length : Int)) = some (o (post.foldl f st)) ∧ Inv xs.length (post.foldl f st) := by
    intro post
    induction post with
    | nil => intro pre h st hi; simp at h; subst h; exact ⟨loop_end (fin st hi), hi⟩
    | cons a post ih =>
      intro pre h st hi
      have hk : pre.length < xs.length := by rw [h]; simp
      have ha : xs.getD pre.length default = a := by rw [h]; simp
      obtain ⟨g1, g2⟩ := go pre.length st hk hi
      rw [ha] at g1 g2
      have e : (((pre.length + 1 : Nat) : Int)) = ((pre ++ [a]).length : Int) := by simp
      rw [loop_go g1, e, List.foldl_cons]
      exact ih (pre ++ [a]) (by rw [h]; simp) _ (by simpa using g2)
  exact key xs [] rfl st h0
/-- A loop over the numbers below one. -/
theorem range_loopR {σ τ ρ : Type} (r : τ → σ) (o : τ → ρ) (n : Nat) (f : τ → Nat → τ) (Inv : Nat → τ → Prop) {body : σ × Int → Option ((σ × Int) ⊕ ρ)} (go : ∀ (k : Nat) (st : τ), k < n → Inv k st → body (r st, (k : Int)) = some (.inl (r (f st k), ((k + 1 : Nat) : Int))) ∧ Inv (k + 1) (f st k))
    (fin : ∀ st, Inv n st → body (r st, (n : Int)) = some (.inr (o st))) (st : τ) (h0 : Inv 0 st) : loop body (r st, 0) = some (o ((List.range n).foldl f st)) ∧ Inv n ((List.range n).foldl f st) := by
  have h := fold_loopR r o (List.range n) f Inv (body := body) (fun k st hk hi => by
    have hk' : k < n := by simpa using hk
    have e : (List.range n).getD k default = k := by simp [List.getD_eq_getElem?_getD, hk']
    rw [e]; exact go k st hk' hi) (fun st hi => by rw [List.length_range] at hi ⊢; exact fin st hi) st h0
  rw [List.length_range] at h
  exact h
/-- Members put into a set, where asked. -/
def setOf (c : Nat → Bool) (n : Nat) : Nat := (List.range n).foldl (fun s k => if c k = true then s ||| 2 ^ k else s) 0
theorem setOf_bit (c : Nat → Bool) (n : Nat) (i : Nat) : (setOf c n).testBit i = (decide (i < n) && c i) := by
  unfold setOf
  induction n with
  | zero => simp
  | succ n ih =>
    rw [List.range_succ, List.foldl_append, List.foldl_cons, List.foldl_nil]
    by_cases h : c n = true
    · rw [if_pos h, Nat.testBit_or, ih, Nat.testBit_two_pow]
      by_cases e : n = i
      · subst e; simp [h]
      · have : decide (i < n + 1) = decide (i < n) := by rw [decide_eq_decide]; omega
        simp [e, this]
    · rw [if_neg h, ih]
      by_cases e : i = n
      · subst e; simp [h]
      · have : decide (i < n + 1) = decide (i < n) := by rw [decide_eq_decide]; omega
        rw [this]
theorem setOf_lt (c : Nat → Bool) (n : Nat) : setOf c n < 2 ^ n := by
  refine Nat.lt_pow_two_of_testBit _ fun i hi => ?_
  rw [setOf_bit, decide_eq_false (by omega), Bool.false_and]
end Go.Proofs.Ytllpbgcajgbfbaa
end

/- Bits put into a set by a list. -/
section
namespace Go.Proofs.Ytllpbgcajgbfbaa
open Go Go.RowKit E
set_option linter.unusedVariables false

def orL {α : Type} (c : α → Bool) (t : α → Nat) (l : List α) (s : Nat) : Nat := l.foldl (fun s x => if c x = true then s ||| 2 ^ t x else s) s
theorem orL_bit {α : Type} (c : α → Bool) (t : α → Nat) : ∀ (l : List α) (s i : Nat), (orL c t l s).testBit i = true ↔ s.testBit i = true ∨ ∃ x ∈ l, c x = true ∧ t x = i
  | [], s, i => by simp [orL]
  | x :: l, s, i => by
    have e : orL c t (x :: l) s = orL c t l (if c x = true then s ||| 2 ^ t x else s) := rfl
    rw [e, orL_bit c t l]
    by_cases h : c x = true
    · rw [if_pos h, Nat.testBit_or, Bool.or_eq_true, Nat.testBit_two_pow, decide_eq_true_eq]
      constructor
      · rintro ((g | g) | ⟨y, hy, g⟩)
        · exact .inl g
        · exact .inr ⟨x, List.mem_cons_self, h, g⟩
        · exact .inr ⟨y, List.mem_cons_of_mem _ hy, g⟩
      · rintro (g | ⟨y, hy, g⟩)
        · exact .inl (.inl g)
        · rcases List.mem_cons.mp hy with rfl | hy
          · exact .inl (.inr g.2)
          · exact .inr ⟨y, hy, g⟩
    · rw [if_neg h]
      constructor
      · rintro (g | ⟨y, hy, g⟩)
        · exact .inl g
        · exact .inr ⟨y, List.mem_cons_of_mem _ hy, g⟩
      · rintro (g | ⟨y, hy, g⟩)
        · exact .inl g
        · rcases List.mem_cons.mp hy with rfl | hy
          · exact absurd g.1 h
          · exact .inr ⟨y, hy, g⟩
theorem orL_lt {α : Type} {c : α → Bool} {t : α → Nat} {l : List α} {s n : Nat} (hs : s < 2 ^ n) (h : ∀ x ∈ l, t x < n) : orL c t l s < 2 ^ n := by
  refine Nat.lt_pow_two_of_testBit _ fun i hi => ?_
  cases hb : (orL c t l s).testBit i with
  | false => rfl
  | true =>
    rcases (orL_bit c t l s i).mp hb with g | ⟨x, hx, _, g⟩
    · rw [Nat.testBit_lt_two_pow (Nat.lt_of_lt_of_le hs (Nat.pow_le_pow_right (by omega) hi))] at g; cases g
    · have := h x hx; omega
theorem and_ne (x y : Nat) : x &&& y ≠ 0 ↔ ∃ i, x.testBit i = true ∧ y.testBit i = true := by
  constructor
  · intro h
    refine Classical.byContradiction fun g => h (Nat.eq_of_testBit_eq fun i => ?_)
    rw [Nat.testBit_and, Nat.zero_testBit]
    cases hx : x.testBit i with
    | false => rfl
    | true =>
      cases hy : y.testBit i with
      | false => rfl
      | true => exact absurd ⟨i, hx, hy⟩ g
  · rintro ⟨i, hx, hy⟩ h
    have := congrArg (fun z => z.testBit i) h
    simp [Nat.testBit_and, hx, hy] at this
end Go.Proofs.Ytllpbgcajgbfbaa
end

/- One step of an automaton, both sides. -/
section
namespace Go.Proofs.Ytllpbgcajgbfbaa
open Go Go.RowKit E
set_option linter.unusedVariables false

theorem getD_memE {α : Type} [Inhabited α] {xs : List α} {j : Nat} (h : j < xs.length) : xs.getD j default ∈ xs := by simp [List.getD_eq_getElem?_getD, h]
def goE (S : Nat) (x : Int) (e : TEdge) : Bool := decide (e.letter = x) && S.testBit e.from_.toNat
def stepE (a : TAuto) (S : Nat) (x : Int) : Nat := orL (goE S x) (fun e => e.to_.toNat) a.edges 0
theorem stepE_lt {a : TAuto} (h : AOk a) (S : Nat) (x : Int) : stepE a S x < 2 ^ a.states.toNat := orL_lt (Nat.two_pow_pos _) fun e he => by have := h.edge e he; omega
theorem stepE_bit (a : TAuto) (S : Nat) (x : Int) (i : Nat) : (stepE a S x).testBit i = true ↔ ∃ e ∈ a.edges, e.letter = x ∧ S.testBit e.from_.toNat = true ∧ e.to_.toNat = i := by
  unfold stepE
  rw [orL_bit]
  constructor
  · rintro (g | ⟨e, he, g, rfl⟩)
    · simp at g
    · unfold goE at g
      rw [Bool.and_eq_true, decide_eq_true_eq] at g
      exact ⟨e, he, g.1, g.2, rfl⟩
  · rintro ⟨e, he, g1, g2, rfl⟩
    exact .inr ⟨e, he, by unfold goE; rw [Bool.and_eq_true, decide_eq_true_eq]; exact ⟨g1, g2⟩, rfl⟩
theorem l4Next_eq {a : TAuto} (h : AOk a) {S : Nat} (hS : S < 2 ^ a.states.toNat) (x : Int) : spec_l4Next a (S : Int) x = some ((stepE a S x : Nat) : Int) := by
  have h1 := h.sts; have h2 := h.num
  have h31 : (2 : Nat) ^ 31 = 2147483648 := rfl
  have hSl := lt31 (by omega) hS
  unfold spec_l4Next
  have k := fold_loopR (fun s : Nat => (s : Int)) (fun s : Nat => (s : Int)) a.edges (fun s e => if goE S x e = true then s ||| 2 ^ e.to_.toNat else s) (fun _ s => s < 2 ^ a.states.toNat) (body := fun s : Int × Int => spec_l4Next.b0 a x (S : Int) s.1 s.2) (fun k st hk hi => ?_) (fun st _ => by unfold spec_l4Next.b0; rw [if_neg (by simp)]) 0 (Nat.two_pow_pos _)
  · have e : loop (fun s : Int × Int => spec_l4Next.b0 a x (S : Int) s.1 s.2) (0, 0) = some ((stepE a S x : Nat) : Int) := k.1
    rw [e]; rfl
  · have hE := h.edge _ (getD_memE hk)
    have hst := lt31 (by omega) hi
    have hp := pow31 (n := (a.edges.getD k default).to_.toNat) (by omega)
    constructor
    · unfold spec_l4Next.b0
      dsimp only
      rw [if_pos (by omega), ix_nat hk, Option.bind_some, bnd_eq]
      unfold goE
      cases hl : decide ((a.edges.getD k default).letter = x) with
      | false => rw [whenO_f, Option.bind_some, Bool.false_and, if_neg (by simp), Bool.false_and, if_neg (by simp), WN (by omega)]
      | true =>
        rw [whenO_t, l1Has_eq hSl (by omega), Option.bind_some, Bool.true_and]
        split
        · rw [l1Bit_eq (by omega), Option.bind_some, bOr_i (by omega) (by omega), WN (by omega)]
        · rw [WN (by omega)]
    · split
      · exact or_lt hi (Nat.pow_lt_pow_right (by omega) (by omega))
      · exact hi
theorem step_eq {a : TAuto} (h : AOk a) {S : Nat} (hS : S < 2 ^ a.states.toNat) (x : Int) : impl_Auto_step a (S : Int) x = some ((stepE a S x : Nat) : Int) := by
  have h1 := h.sts; have h2 := h.num
  have h31 : (2 : Nat) ^ 31 = 2147483648 := rfl
  have hSl := lt31 (by omega) hS
  unfold impl_Auto_step
  have k := fold_loopR (fun s : Nat => (s : Int)) (fun s : Nat => (s : Int)) a.edges (fun s e => if goE S x e = true then s ||| 2 ^ e.to_.toNat else s) (fun _ s => s < 2 ^ a.states.toNat) (body := fun s : Int × Int => impl_Auto_step.b0 a x (S : Int) s.1 s.2) (fun k st hk hi => ?_) (fun st _ => by unfold impl_Auto_step.b0; rw [if_neg (by simp)]) 0 (Nat.two_pow_pos _)
  · have e : loop (fun s : Int × Int => impl_Auto_step.b0 a x (S : Int) s.1 s.2) (0, 0) = some ((stepE a S x : Nat) : Int) := k.1
    rw [e]; rfl
  · have hE := h.edge _ (getD_memE hk)
    have hst := lt31 (by omega) hi
    have hp := pow31 (n := (a.edges.getD k default).to_.toNat) (by omega)
    constructor
    · unfold impl_Auto_step.b0
      dsimp only
      rw [if_pos (by omega), ix_nat hk, Option.bind_some, bnd_eq, has_eq hSl (by omega)]
      have ho := only_eq (n := (a.edges.getD k default).to_.toNat) (by omega)
      rw [Int.toNat_of_nonneg hE.2.1.1] at ho
      unfold goE
      split
      · rw [ho, bOr_i (by omega) (by omega), WN (by omega)]
      · rw [WN (by omega)]
    · split
      · exact or_lt hi (Nat.pow_lt_pow_right (by omega) (by omega))
      · exact hi
end Go.Proofs.Ytllpbgcajgbfbaa
end

/- The states of ranks that follow, both sides. -/
section
namespace Go.Proofs.Ytllpbgcajgbfbaa
open Go Go.RowKit E
set_option linter.unusedVariables false

theorem cloneR_eq (x : List Int) (h : x.length ≤ 1000000) : slices_Clone_int_int x = some x := by
  unfold slices_Clone_int_int
  split
  · rename_i e; rw [e]
  · rw [app_small (by simp; omega) (by decide), List.nil_append, Option.bind_some]
theorem ix_i {α : Type} [Inhabited α] {xs : List α} {i : Int} (h : 0 ≤ i) (k : i < xs.length) : ix xs i = some (xs.getD i.toNat default) := by unfold ix; rw [if_pos ⟨h, k⟩]
theorem ck_i {n : Nat} {i : Int} (h : 0 ≤ i) (k : i < n) : ck i n = some i.toNat := by unfold ck; rw [if_pos ⟨h, k⟩]
def lowR (g : Bool) (r : Int) : Int := if g = true then r - r % 2 else r
def bStep (s : TRankState) (l : Int) (y : List Int) (e : TEdge) : List Int :=
  if e.letter ≠ l ∨ s.ranks.getD e.from_.toNat default < 0 then y else
    if y.getD e.to_.toNat default < 0 ∨ lowR e.good (s.ranks.getD e.from_.toNat default) < y.getD e.to_.toNat default then y.set e.to_.toNat (lowR e.good (s.ranks.getD e.from_.toNat default)) else y
def boundsL (a : TAuto) (s : TRankState) (l : Int) : List Int := a.edges.foldl (bStep s l) (List.replicate a.states.toNat (-1))
def InB (m : Int) (y : List Int) (n : Nat) : Prop := y.length = n ∧ ∀ v, v < n → -1 ≤ y.getD v default ∧ y.getD v default ≤ m
theorem lowR_in {g : Bool} {r m : Int} (h : 0 ≤ r ∧ r ≤ m) : 0 ≤ lowR g r ∧ lowR g r ≤ m := by unfold lowR; split <;> omega
theorem getD_set' (y : List Int) (i v : Nat) (x : Int) (hi : i < y.length) : (y.set i x).getD v default = if i = v then x else y.getD v default := by
  rw [List.getD_eq_getElem?_getD, List.getD_eq_getElem?_getD, List.getElem?_set]
  by_cases c : i = v
  · rw [if_pos c, if_pos c, if_pos hi]; rfl
  · rw [if_neg c, if_neg c]
theorem bStep_in {s : TRankState} {l m : Int} {y : List Int} {e : TEdge} {n : Nat} (hy : InB m y n) (ht : e.to_.toNat < n) (hr : s.ranks.getD e.from_.toNat default ≤ m) : InB m (bStep s l y e) n := by
  unfold bStep
  split
  · exact hy
  · rename_i c
    split
    · refine ⟨by rw [List.length_set]; exact hy.1, fun v hv => ?_⟩
      rw [getD_set' _ _ _ _ (by rw [hy.1]; exact ht)]
      split
      · have := lowR_in (g := e.good) (r := s.ranks.getD e.from_.toNat default) (m := m) (by omega); omega
      · exact hy.2 v hv
    · exact hy
structure RkOk (a : TAuto) (s : TRankState) : Prop where
  A : AOk a
  few : a.states ≤ 2
  len : (s.ranks.length : Int) = a.states
  owe : 0 ≤ s.owing ∧ s.owing < ((2 ^ a.states.toNat : Nat) : Int)
  rk : ∀ q, q < a.states.toNat → -1 ≤ s.ranks.getD q default ∧ s.ranks.getD q default ≤ 2 * a.states
  ev : ∀ q, q < a.states.toNat → s.owing.toNat.testBit q = true → 0 ≤ s.ranks.getD q default ∧ s.ranks.getD q default % 2 = 0
theorem rkB_ok {a : TAuto} {s : TRankState} (h : rkB a s = true) : RkOk a s := by
  unfold rkB at h
  rw [Bool.and_eq_true, Bool.and_eq_true, decide_eq_true_eq] at h
  obtain ⟨h1, ⟨h2, h3⟩, h4⟩ := h
  obtain ⟨hA, hf⟩ := ranked_A h1
  have h5 : ∀ q, q < a.states.toNat → okAt a s q = true := fun q hq => List.all_eq_true.mp h4 q (List.mem_range.mpr hq)
  exact ⟨hA, hf, h2, h3, fun q hq => (of_decide_eq_true (h5 q hq)).1, fun q hq => (of_decide_eq_true (h5 q hq)).2⟩
theorem bounds_loop {a : TAuto} {s : TRankState} (h : RkOk a s) (l : Int) : impl_bounds.k0 a s l (List.replicate a.states.toNat (-1)) = some (boundsL a s l) ∧ InB (2 * a.states) (boundsL a s l) a.states.toNat := by
  have h1 := h.A.sts; have h2 := h.A.num; have h3 := h.few; have h4 := h.len
  have k := fold_loopR (fun y : List Int => y) (fun y : List Int => y) a.edges (bStep s l) (fun _ y => InB (2 * a.states) y a.states.toNat) (body := fun q : List Int × Int => impl_bounds.b0 a s l q.1 q.2) (fun k y hk hi => ?_) (fun y hi => ?_) (List.replicate a.states.toNat (-1)) ⟨by simp, fun v hv => by simp [List.getD_eq_getElem?_getD, hv]; omega⟩
  · refine ⟨?_, k.2⟩
    unfold impl_bounds.k0
    have e : loop (fun q : List Int × Int => impl_bounds.b0 a s l q.1 q.2) (List.replicate a.states.toNat (-1), 0) = some (boundsL a s l) := k.1
    rw [e]; rfl
  · have hE := h.A.edge _ (getD_memE hk)
    have hr := h.rk (a.edges.getD k default).from_.toNat (by omega)
    refine ⟨?_, bStep_in hi (by omega) hr.2⟩
    unfold impl_bounds.b0
    dsimp only
    rw [if_pos (by omega), ix_nat hk, Option.bind_some, ix_i (by omega) (by omega), Option.bind_some, bnd_eq, W, W_nat (by omega)]
    generalize a.edges.getD k default = e at hE hr ⊢
    have hk2 : ∀ x, impl_bounds.k2 y e (k : Int) x = some (.inl (if y.getD e.to_.toNat default < 0 ∨ x < y.getD e.to_.toNat default then y.set e.to_.toNat x else y, ((k + 1 : Nat) : Int))) := fun x => by
      unfold impl_bounds.k2
      rw [ix_i (by omega) (by rw [hi.1]; omega), Option.bind_some, bnd_eq, W, W_nat (by omega)]
      by_cases c : y.getD e.to_.toNat default < 0
      · rw [decide_eq_true c, Bool.not_true, whenO_f, Option.bind_some, Bool.true_or, if_pos rfl, ck_i (by omega) (by rw [hi.1]; omega), Option.bind_some, if_pos (.inl c)]
      · rw [decide_eq_false c, Bool.not_false, whenO_t, Option.bind_some, Bool.false_or]
        by_cases c2 : x < y.getD e.to_.toNat default
        · rw [decide_eq_true c2, if_pos rfl, ck_i (by omega) (by rw [hi.1]; omega), Option.bind_some, if_pos (.inr c2)]
        · rw [decide_eq_false c2, if_neg (by simp), if_neg (by omega)]
    unfold bStep lowR
    generalize s.ranks.getD e.from_.toNat default = r at hr ⊢
    by_cases c : e.letter ≠ l ∨ r < 0
    · rw [if_pos (by rcases c with c | c <;> simp [c]), if_pos c]
    · have c1 : e.letter = l := Classical.byContradiction fun g => c (.inl g)
      have c2 : ¬ r < 0 := fun g => c (.inr g)
      rw [if_neg (by simp [c1, c2]), if_neg c, hk2, hk2, tmod2 (by omega), W, W_eq (by omega) (by omega)]
      cases e.good <;> rfl
  · unfold impl_bounds.b0
    dsimp only
    rw [if_neg (by omega)]
theorem implBounds_eq {a : TAuto} {s : TRankState} (h : RkOk a s) (l : Int) : impl_bounds a s l = some (boundsL a s l) := by
  have h1 := h.A.sts; have h3 := h.few
  unfold impl_bounds
  rw [mk_ok (by omega) (by omega), Option.bind_some]
  have k := loop_up (body := fun q : List Int × Int => impl_bounds.b1 (List.replicate a.states.toNat 0) q.1 q.2) a.states.toNat (fun k => (List.replicate k (-1) ++ List.replicate (a.states.toNat - k) 0, (k : Int))) (List.replicate a.states.toNat (-1)) (fun k hk => ?_) ?_ 0 (by omega)
  · have e : loop (fun q : List Int × Int => impl_bounds.b1 (List.replicate a.states.toNat 0) q.1 q.2) (List.replicate a.states.toNat 0, 0) = some (List.replicate a.states.toNat (-1)) := by simpa using k
    rw [e, Option.bind_some, (bounds_loop h l).1]
  · unfold impl_bounds.b1
    dsimp only
    rw [if_pos (by simp; omega), ck_nat (by simp; omega), Option.bind_some, W, W_nat (by omega), List.set_append_right _ _ (by simp), show a.states.toNat - k = (a.states.toNat - (k + 1)) + 1 by omega, List.replicate_succ, List.length_replicate, Nat.sub_self, List.set_cons_zero, List.replicate_succ', List.append_assoc]
    rfl
  · unfold impl_bounds.b1
    dsimp only
    rw [if_neg (by simp), Nat.sub_self, List.replicate_zero, List.append_nil]
theorem specBounds_eq {a : TAuto} {s : TRankState} (h : RkOk a s) (l : Int) : spec_l13Bounds a s l = some (boundsL a s l) := by
  have h1 := h.A.sts; have h3 := h.few
  unfold spec_l13Bounds
  have k := loop_up (body := fun q : List Int × Int => spec_l13Bounds.b1 a q.1 q.2) a.states.toNat (fun k => (List.replicate k (-1), (k : Int))) (List.replicate a.states.toNat (-1)) (fun k hk => ?_) ?_ 0 (by omega)
  · have e : loop (fun q : List Int × Int => spec_l13Bounds.b1 a q.1 q.2) ([], 0) = some (List.replicate a.states.toNat (-1)) := by simpa using k
    rw [e, Option.bind_some]
    exact (bounds_loop h l).1
  · unfold spec_l13Bounds.b1
    dsimp only
    rw [if_pos (by omega), app_small (by simp; omega) (by decide), Option.bind_some, W, W_nat (by omega), List.replicate_succ']
  · unfold spec_l13Bounds.b1
    dsimp only
    rw [if_neg (by omega)]
-- rows
def rlist (b : Int) : List Int := (List.range (b - mn b 0 + 1).toNat).map fun k : Nat => mn b 0 + (k : Int)
def rowsStep (rows : List (List Int)) (b : Int) : List (List Int) := rows.flatMap fun row => (rlist b).map fun r => row ++ [r]
def rowsL (bs : List Int) : List (List Int) := bs.foldl rowsStep [[]]
theorem mn0 (b : Int) : mn b 0 = if 0 < b then 0 else b := rfl
theorem rlist_len {b : Int} (h : -1 ≤ b ∧ b ≤ 4) : (rlist b).length ≤ 5 := by
  unfold rlist; rw [List.length_map, List.length_range, mn0]; split <;> omega
theorem mnMin (b : Int) : spec_l1Min 0 b = mn b 0 := rfl
theorem implRow_loop {b : Int} (hb : -1 ≤ b ∧ b ≤ 4) (row : List Int) (y : List (List Int)) (hr : row.length ≤ 100) (hy : y.length ≤ 1000) : loop (fun s : List (List Int) × Int => impl_rankNext.b4 b row s.1 s.2) (y, mn b 0) = some (y ++ (rlist b).map fun r => row ++ [r]) := by
  have hm : -1 ≤ mn b 0 ∧ mn b 0 ≤ b ∧ b - mn b 0 ≤ 4 := by rw [mn0]; split <;> omega
  have k := loop_up (body := fun s : List (List Int) × Int => impl_rankNext.b4 b row s.1 s.2) (b - mn b 0 + 1).toNat (fun k => (y ++ (List.range k).map (fun j : Nat => row ++ [mn b 0 + (j : Int)]), mn b 0 + (k : Int))) (y ++ (rlist b).map fun r => row ++ [r]) (fun k hk => ?_) ?_ 0 (by omega)
  · simpa using k
  · unfold impl_rankNext.b4
    dsimp only
    rw [if_pos (by omega), cloneR_eq _ (by omega), Option.bind_some, app_small (by rw [List.length_singleton]; omega) (by decide), Option.bind_some, app_small (by rw [List.length_append, List.length_map, List.length_range, List.length_singleton]; omega) (by decide), Option.bind_some, W, W_eq (by omega) (by omega), List.range_succ, List.map_append, List.append_assoc]
    rw [show mn b 0 + (k : Int) + 1 = mn b 0 + ((k + 1 : Nat) : Int) by omega]; rfl
  · unfold impl_rankNext.b4
    dsimp only
    rw [if_neg (by omega)]
    unfold rlist; rw [List.map_map]; rfl
theorem foldl_app {α β : Type} (g : α → List β) : ∀ (l : List α) (y : List β), l.foldl (fun y x => y ++ g x) y = y ++ l.flatMap g
  | [], y => by simp
  | x :: l, y => by rw [List.foldl_cons, foldl_app g l, List.flatMap_cons, List.append_assoc]
theorem flat_len {α β : Type} (g : α → List β) (m : Nat) : ∀ (l : List α), (∀ x ∈ l, (g x).length ≤ m) → (l.flatMap g).length ≤ l.length * m
  | [], _ => by simp
  | x :: l, h => by
    have h1 := h x List.mem_cons_self
    have h2 := flat_len g m l fun y hy => h y (List.mem_cons_of_mem _ hy)
    rw [List.flatMap_cons, List.length_append, List.length_cons, Nat.succ_mul]; omega
theorem implRows_loop {b : Int} (hb : -1 ≤ b ∧ b ≤ 4) (rows : List (List Int)) (hr : ∀ row ∈ rows, row.length ≤ 100) (hl : rows.length ≤ 100) : loop (fun s : List (List Int) × Int => impl_rankNext.b3 rows b s.1 s.2) ([], 0) = some (rowsStep rows b) := by
  have k := fold_loopR (fun y : List (List Int) => y) (fun y : List (List Int) => y) rows (fun y row => y ++ (rlist b).map fun r => row ++ [r]) (fun k y => y.length ≤ 5 * k) (body := fun s : List (List Int) × Int => impl_rankNext.b3 rows b s.1 s.2) (fun k y hk hi => ?_) (fun y hi => ?_) [] (Nat.le_refl _)
  · have e := k.1
    rw [foldl_app, List.nil_append] at e
    exact e
  · have hlen := rlist_len hb
    refine ⟨?_, by rw [List.length_append, List.length_map]; omega⟩
    unfold impl_rankNext.b3
    dsimp only
    rw [if_pos (by omega), ix_nat hk, Option.bind_some, implRow_loop hb _ _ (hr _ (getD_memE hk)) (by omega), Option.bind_some]
    unfold impl_rankNext.k7
    rw [W, W_nat (by omega)]
  · unfold impl_rankNext.b3
    dsimp only
    rw [if_neg (by omega)]
def RowsOk (k : Nat) (rows : List (List Int)) : Prop := rows.length ≤ 5 ^ k ∧ ∀ row ∈ rows, row.length = k
theorem rowsStep_ok {k : Nat} {rows : List (List Int)} {b : Int} (hb : -1 ≤ b ∧ b ≤ 4) (h : RowsOk k rows) : RowsOk (k + 1) (rowsStep rows b) := by
  refine ⟨?_, fun row hrow => ?_⟩
  · have := flat_len (fun row : List Int => (rlist b).map fun r => row ++ [r]) 5 rows (fun x _ => by rw [List.length_map]; exact rlist_len hb)
    unfold rowsStep
    rw [Nat.pow_succ]
    exact Nat.le_trans this (Nat.mul_le_mul_right 5 h.1)
  · obtain ⟨x, hx, hrow⟩ := List.mem_flatMap.mp hrow
    obtain ⟨r, _, rfl⟩ := List.mem_map.mp hrow
    rw [List.length_append, List.length_singleton, h.2 x hx]
theorem rowsL_ok {bs : List Int} (hb : ∀ b ∈ bs, -1 ≤ b ∧ b ≤ 4) : RowsOk bs.length (rowsL bs) := by
  have key : ∀ (l : List Int) (k : Nat) (rows : List (List Int)), (∀ b ∈ l, -1 ≤ b ∧ b ≤ 4) → RowsOk k rows → RowsOk (k + l.length) (l.foldl rowsStep rows) := by
    intro l
    induction l with
    | nil => intro k rows _ h; exact h
    | cons b l ih =>
      intro k rows hb h
      have := ih (k + 1) (rowsStep rows b) (fun x hx => hb x (List.mem_cons_of_mem _ hx)) (rowsStep_ok (hb b List.mem_cons_self) h)
      rw [List.foldl_cons, List.length_cons, show k + (l.length + 1) = k + 1 + l.length by omega]; exact this
  have := key bs 0 [[]] hb ⟨by simp, fun row hr => by rw [List.mem_singleton.mp hr]; rfl⟩
  rwa [Nat.zero_add] at this
theorem implAll_loop {bs : List Int} (hb : ∀ b ∈ bs, -1 ≤ b ∧ b ≤ 4) (hl : bs.length ≤ 2) : loop (fun s : List (List Int) × Int => impl_rankNext.b2 bs s.1 s.2) ([[]], 0) = some (rowsL bs) := by
  have p1 : (5 : Nat) ^ 0 = 1 := rfl
  have p2 : (5 : Nat) ^ 1 = 5 := rfl
  have k := fold_loopR (fun y : List (List Int) => y) (fun y : List (List Int) => y) bs rowsStep (fun k y => RowsOk k y) (body := fun s : List (List Int) × Int => impl_rankNext.b2 bs s.1 s.2) (fun k y hk hi => ?_) (fun y hi => ?_) [[]] ⟨by simp, fun row hr => by rw [List.mem_singleton.mp hr]; rfl⟩
  · exact k.1
  · have hbk := hb _ (getD_memE hk)
    refine ⟨?_, rowsStep_ok hbk hi⟩
    unfold impl_rankNext.b2
    dsimp only
    have h5 : (5 : Nat) ^ k ≤ 5 := by
      have : k = 0 ∨ k = 1 := by omega
      rcases this with rfl | rfl <;> simp
    rw [if_pos (by omega), ix_nat hk, Option.bind_some, implRows_loop hbk y (fun row hr => by have := hi.2 row hr; omega) (by have := hi.1; omega), Option.bind_some]
    unfold impl_rankNext.k6 impl_rankNext.k5
    rw [W, W_nat (by omega)]
  · unfold impl_rankNext.b2
    dsimp only
    rw [if_neg (by omega)]
theorem specRow_loop {bs : List Int} {j i : Nat} {rows : List (List Int)} (hj : j < bs.length) (hi : i < rows.length) (hb : -1 ≤ bs.getD j default ∧ bs.getD j default ≤ 4) (y : List (List Int)) (hr : (rows.getD i default).length ≤ 100) (hy : y.length ≤ 1000) : loop (fun s : List (List Int) × Int => spec_l13Next.b4 bs (j : Int) rows (i : Int) s.1 s.2) (y, mn (bs.getD j default) 0) = some (y ++ (rlist (bs.getD j default)).map fun r => rows.getD i default ++ [r]) := by
  have e : (fun s : List (List Int) × Int => spec_l13Next.b4 bs (j : Int) rows (i : Int) s.1 s.2) = fun s : List (List Int) × Int => impl_rankNext.b4 (bs.getD j default) (rows.getD i default) s.1 s.2 := by
    funext s
    unfold spec_l13Next.b4 impl_rankNext.b4
    rw [ix_nat hj, Option.bind_some, ix_nat hi, Option.bind_some, cloneR_eq _ (by omega), app_small (by show 0 + (rows.getD i default).length ≤ _; omega) (by decide), List.nil_append]
  rw [e]
  exact implRow_loop hb _ y hr hy
theorem specRows_loop {bs : List Int} {j : Nat} (hj : j < bs.length) (hb : -1 ≤ bs.getD j default ∧ bs.getD j default ≤ 4) (rows : List (List Int)) (hr : ∀ row ∈ rows, row.length ≤ 100) (hl : rows.length ≤ 100) : loop (fun s : List (List Int) × Int => spec_l13Next.b3 rows bs (j : Int) s.1 s.2) ([], 0) = some (rowsStep rows (bs.getD j default)) := by
  have k := fold_loopR (fun y : List (List Int) => y) (fun y : List (List Int) => y) rows (fun y row => y ++ (rlist (bs.getD j default)).map fun r => row ++ [r]) (fun k y => y.length ≤ 5 * k) (body := fun s : List (List Int) × Int => spec_l13Next.b3 rows bs (j : Int) s.1 s.2) (fun k y hk hi => ?_) (fun y hi => ?_) [] (Nat.le_refl _)
  · have e := k.1
    rw [foldl_app, List.nil_append] at e
    exact e
  · have hlen := rlist_len hb
    refine ⟨?_, by rw [List.length_append, List.length_map]; omega⟩
    unfold spec_l13Next.b3
    dsimp only
    rw [if_pos (by omega), ix_nat hj, Option.bind_some, mnMin, specRow_loop hj hk hb _ (hr _ (getD_memE hk)) (by omega), Option.bind_some]
    unfold spec_l13Next.k7
    rw [W, W_nat (by omega)]
  · unfold spec_l13Next.b3
    dsimp only
    rw [if_neg (by omega)]
theorem specAll_loop {a : TAuto} {bs : List Int} (hb : ∀ b ∈ bs, -1 ≤ b ∧ b ≤ 4) (hl : bs.length ≤ 2) (ha : a.states = (bs.length : Int)) : loop (fun s : List (List Int) × Int => spec_l13Next.b2 a bs s.1 s.2) ([[]], 0) = some (rowsL bs) := by
  have p1 : (5 : Nat) ^ 0 = 1 := rfl
  have p2 : (5 : Nat) ^ 1 = 5 := rfl
  have k := fold_loopR (fun y : List (List Int) => y) (fun y : List (List Int) => y) bs rowsStep (fun k y => RowsOk k y) (body := fun s : List (List Int) × Int => spec_l13Next.b2 a bs s.1 s.2) (fun k y hk hi => ?_) (fun y hi => ?_) [[]] ⟨by simp, fun row hr => by rw [List.mem_singleton.mp hr]; rfl⟩
  · exact k.1
  · have hbk := hb _ (getD_memE hk)
    refine ⟨?_, rowsStep_ok hbk hi⟩
    unfold spec_l13Next.b2
    dsimp only
    have h5 : (5 : Nat) ^ k ≤ 5 := by
      have : k = 0 ∨ k = 1 := by omega
      rcases this with rfl | rfl <;> simp
    rw [if_pos (by omega), specRows_loop hk hbk y (fun row hr => by have := hi.2 row hr; omega) (by have := hi.1; omega), Option.bind_some]
    unfold spec_l13Next.k6 spec_l13Next.k5
    rw [W, W_nat (by omega)]
  · unfold spec_l13Next.b2
    dsimp only
    rw [if_neg (by omega)]
-- what is owed
def cR (S : Nat) (row : List Int) (q : Nat) : Bool := decide (row.getD q default ≥ 0 ∧ row.getD q default % 2 = 0) && S.testBit q
def outL (S : Nat) (rows : List (List Int)) : List TRankState := rows.map fun row => ⟨row, ((setOf (cR S row) row.length : Nat) : Int)⟩
theorem implOwe_loop {S : Nat} (hS : S < 2 ^ 31) (row : List Int) (hr : row.length ≤ 30) : loop (fun s : List Int × Int × Int => impl_rankNext.b1 row (S : Int) s.1 s.2.1 s.2.2) (row, 0, 0) = some (row, ((setOf (cR S row) row.length : Nat) : Int)) := by
  refine loop_up (body := fun s : List Int × Int × Int => impl_rankNext.b1 row (S : Int) s.1 s.2.1 s.2.2) row.length (fun k => (row, ((setOf (cR S row) k : Nat) : Int), (k : Int))) _ (fun k hk => ?_) ?_ 0 (by omega)
  · have hst := lt31 (n := k) (by omega) (setOf_lt (cR S row) k)
    have hp := pow31 (n := k) (by omega)
    unfold impl_rankNext.b1
    dsimp only
    rw [if_pos (by omega), ix_nat hk, Option.bind_some, bnd_eq, bnd_eq, has_eq hS (by omega), Int.toNat_natCast, only_eq (by omega), W, W_nat (by omega)]
    have hs : setOf (cR S row) (k + 1) = if cR S row k = true then setOf (cR S row) k ||| 2 ^ k else setOf (cR S row) k := by unfold setOf; rw [List.range_succ, List.foldl_append]; rfl
    have hc : (decide (row.getD k default ≥ 0) && decide (Int.tmod (row.getD k default) 2 = 0) && S.testBit k) = cR S row k := by
      unfold cR
      by_cases c : row.getD k default ≥ 0
      · rw [tmod2 (by omega), decide_eq_true c, Bool.true_and]
        congr 1
        rw [decide_eq_decide]
        exact ⟨fun g => ⟨c, g⟩, fun g => g.2⟩
      · rw [decide_eq_false c, Bool.false_and, decide_eq_false (fun g => c g.1)]
    rw [hc, hs]
    split
    · rw [bOr_i (by omega) (by omega)]
    · rfl
  · unfold impl_rankNext.b1
    dsimp only
    rw [if_neg (by omega)]
theorem implOut_loop {S : Nat} (hS : S < 2 ^ 31) (rows : List (List Int)) (hr : ∀ row ∈ rows, row.length ≤ 30) (hl : rows.length ≤ 1000) : impl_rankNext.k1 rows (S : Int) = some (outL S rows) := by
  have k := fold_loopR (fun y : List TRankState => y) (fun y : List TRankState => y) rows (fun y row => y ++ [⟨row, ((setOf (cR S row) row.length : Nat) : Int)⟩]) (fun k y => y.length = k) (body := fun s : List TRankState × Int => impl_rankNext.b0 rows (S : Int) s.1 s.2) (fun k y hk hi => ?_) (fun y hi => ?_) [] rfl
  · have e := k.1
    rw [foldl_app, List.nil_append] at e
    unfold impl_rankNext.k1
    rw [e, Option.bind_some]
    unfold impl_rankNext.k2 outL
    congr 1
    exact (List.map_eq_flatMap).symm
  · refine ⟨?_, by rw [List.length_append, List.length_singleton, hi]⟩
    unfold impl_rankNext.b0
    dsimp only
    rw [if_pos (by omega), ix_nat hk, Option.bind_some, implOwe_loop hS _ (hr _ (getD_memE hk)), Option.bind_some]
    unfold impl_rankNext.k4 impl_rankNext.k3
    rw [app_small (by rw [List.length_singleton]; omega) (by decide), Option.bind_some, W, W_nat (by omega)]
  · unfold impl_rankNext.b0
    dsimp only
    rw [if_neg (by omega)]
theorem specOwe_loop {a : TAuto} {S : Nat} (hS : S < 2 ^ 31) {rows : List (List Int)} {i : Nat} (hi : i < rows.length) (hr : (rows.getD i default).length ≤ 30) (ha : a.states = ((rows.getD i default).length : Int)) : loop (fun s : Int × Int => spec_l13Next.b1 a rows (i : Int) (S : Int) s.1 s.2) (0, 0) = some ((setOf (cR S (rows.getD i default)) (rows.getD i default).length : Nat) : Int) := by
  generalize hrow : rows.getD i default = row at hr ha
  refine loop_up (body := fun s : Int × Int => spec_l13Next.b1 a rows (i : Int) (S : Int) s.1 s.2) row.length (fun k => (((setOf (cR S row) k : Nat) : Int), (k : Int))) _ (fun k hk => ?_) ?_ 0 (by omega)
  · have hst := lt31 (n := k) (by omega) (setOf_lt (cR S row) k)
    have hp := pow31 (n := k) (by omega)
    unfold spec_l13Next.b1
    dsimp only
    have w4 : W ((k : Int) + 1) = ((k + 1 : Nat) : Int) := W_nat (by omega)
    rw [if_pos (by omega), ix_nat hi, Option.bind_some, hrow, ix_nat hk, Option.bind_some, bnd_eq, w4]
    have hs : setOf (cR S row) (k + 1) = if cR S row k = true then setOf (cR S row) k ||| 2 ^ k else setOf (cR S row) k := by unfold setOf; rw [List.range_succ, List.foldl_append]; rfl
    have hcR : cR S row k = (decide (row.getD k default ≥ 0 ∧ row.getD k default % 2 = 0) && S.testBit k) := rfl
    rw [hs, hcR]
    by_cases c : row.getD k default ≥ 0
    · rw [decide_eq_true c, whenO_t, Option.bind_some, whenO_t, ix_nat hk, Option.bind_some, bnd_eq, Bool.true_and, tmod2 (by omega)]
      by_cases c2 : row.getD k default % 2 = 0
      · rw [decide_eq_true c2, whenO_t, l1Has_eq hS (by omega), Option.bind_some, Int.toNat_natCast, Bool.true_and, decide_eq_true ⟨c, c2⟩, Bool.true_and]
        cases S.testBit k with
        | true => rw [if_pos rfl, if_pos rfl, l1Bit_eq (by omega), Option.bind_some, Int.toNat_natCast, bOr_i (by omega) (by omega)]
        | false => rw [if_neg (by simp), if_neg (by simp)]
      · rw [decide_eq_false c2, whenO_f, Option.bind_some, Bool.false_and, if_neg (by simp), decide_eq_false (fun g => c2 g.2), Bool.false_and, if_neg (by simp)]
    · rw [decide_eq_false c, whenO_f, Option.bind_some, whenO_f, Option.bind_some, bnd_eq, Bool.false_and, whenO_f, Option.bind_some, Bool.false_and, if_neg (by simp), decide_eq_false (fun g => c g.1), Bool.false_and, if_neg (by simp)]
  · unfold spec_l13Next.b1
    dsimp only
    rw [if_neg (by omega)]
theorem specOut_loop {a : TAuto} {S : Nat} (hS : S < 2 ^ 31) (rows : List (List Int)) (hr : ∀ row ∈ rows, row.length ≤ 30 ∧ a.states = (row.length : Int)) (hl : rows.length ≤ 1000) : spec_l13Next.k1 rows a (S : Int) = some (outL S rows) := by
  have k := fold_loopR (fun y : List TRankState => y) (fun y : List TRankState => y) rows (fun y row => y ++ [⟨row, ((setOf (cR S row) row.length : Nat) : Int)⟩]) (fun k y => y.length = k) (body := fun s : List TRankState × Int => spec_l13Next.b0 rows a (S : Int) s.1 s.2) (fun k y hk hi => ?_) (fun y hi => ?_) [] rfl
  · have e := k.1
    rw [foldl_app, List.nil_append] at e
    unfold spec_l13Next.k1
    rw [e, Option.bind_some]
    unfold spec_l13Next.k2 outL
    congr 1
    exact (List.map_eq_flatMap).symm
  · have hrk := hr _ (getD_memE hk)
    refine ⟨?_, by rw [List.length_append, List.length_singleton, hi]⟩
    unfold spec_l13Next.b0
    dsimp only
    rw [if_pos (by omega), specOwe_loop hS hk hrk.1 hrk.2, Option.bind_some]
    unfold spec_l13Next.k4 spec_l13Next.k3
    rw [ix_nat hk, Option.bind_some, app_small (by rw [List.length_singleton]; omega) (by decide), Option.bind_some, W, W_nat (by omega)]
  · unfold spec_l13Next.b0
    dsimp only
    rw [if_neg (by omega)]
def oweS (a : TAuto) (s : TRankState) (l : Int) : Nat := if s.owing ≠ 0 then stepE a s.owing.toNat l else 2 ^ a.states.toNat - 1
def nextR (a : TAuto) (s : TRankState) (l : Int) : List TRankState := outL (oweS a s l) (rowsL (boundsL a s l))
theorem inB_mem {m : Int} {y : List Int} {n : Nat} (h : InB m y n) : ∀ b ∈ y, -1 ≤ b ∧ b ≤ m := fun b hb => by
  obtain ⟨i, hi, rfl⟩ := List.getElem_of_mem hb
  have := h.2 i (by rw [← h.1]; exact hi)
  rw [List.getD_eq_getElem?_getD, List.getElem?_eq_getElem hi] at this
  exact this
theorem oweS_lt {a : TAuto} {s : TRankState} (h : RkOk a s) (l : Int) : oweS a s l < 2 ^ a.states.toNat := by
  unfold oweS
  split
  · exact stepE_lt h.A _ _
  · have := Nat.two_pow_pos a.states.toNat; omega
theorem rows_facts {a : TAuto} {s : TRankState} (h : RkOk a s) (l : Int) : (∀ b ∈ boundsL a s l, -1 ≤ b ∧ b ≤ 4) ∧ (boundsL a s l).length = a.states.toNat ∧ RowsOk a.states.toNat (rowsL (boundsL a s l)) := by
  have h3 := h.few; have h1 := h.A.sts
  have hI := (bounds_loop h l).2
  have hb : ∀ b ∈ boundsL a s l, -1 ≤ b ∧ b ≤ 4 := fun b hb => by have := inB_mem hI b hb; omega
  have := rowsL_ok hb
  rw [hI.1] at this
  exact ⟨hb, hI.1, this⟩
theorem implNext_eq {a : TAuto} {s : TRankState} (h : RkOk a s) (l : Int) : impl_rankNext a s l = some (nextR a s l) := by
  have h3 := h.few; have h1 := h.A.sts; have ho := h.owe
  obtain ⟨hb, hl, hR⟩ := rows_facts h l
  have hp := pow31 (n := a.states.toNat) (by omega)
  have hS := lt31 (n := a.states.toNat) (by omega) (oweS_lt h l)
  have h25 : (5 : Nat) ^ a.states.toNat ≤ 25 := by
    have : a.states.toNat = 0 ∨ a.states.toNat = 1 ∨ a.states.toNat = 2 := by omega
    rcases this with e | e | e <;> rw [e] <;> decide
  unfold impl_rankNext
  rw [implBounds_eq h, Option.bind_some, implAll_loop hb (by omega), Option.bind_some]
  unfold impl_rankNext.k0 nextR
  have hout := implOut_loop hS (rowsL (boundsL a s l)) (fun row hr => by have := hR.2 row hr; omega) (by have := hR.1; omega)
  rw [← hout]
  by_cases c : s.owing ≠ 0
  · have e0 : s.owing = ((s.owing.toNat : Nat) : Int) := by omega
    rw [if_pos c]
    have := step_eq h.A (S := s.owing.toNat) (by omega) l
    rw [← e0] at this
    rw [this, Option.bind_some]
    unfold oweS; rw [if_pos c]
  · rw [if_neg c]
    unfold oweS; rw [if_neg c]
    have e1 : a.states = ((a.states.toNat : Nat) : Int) := by omega
    have := only_eq (n := a.states.toNat) (by omega)
    rw [← e1] at this
    rw [this, W, W_eq (by omega) (by omega), show ((2 ^ a.states.toNat : Nat) : Int) - 1 = ((2 ^ a.states.toNat - 1 : Nat) : Int) by omega]
theorem specNext_eq {a : TAuto} {s : TRankState} (h : RkOk a s) (l : Int) : spec_l13Next a s l = some (nextR a s l) := by
  have h3 := h.few; have h1 := h.A.sts; have ho := h.owe
  obtain ⟨hb, hl, hR⟩ := rows_facts h l
  have hp := pow31 (n := a.states.toNat) (by omega)
  have hS := lt31 (n := a.states.toNat) (by omega) (oweS_lt h l)
  have h25 : (5 : Nat) ^ a.states.toNat ≤ 25 := by
    have : a.states.toNat = 0 ∨ a.states.toNat = 1 ∨ a.states.toNat = 2 := by omega
    rcases this with e | e | e <;> rw [e] <;> decide
  unfold spec_l13Next
  rw [specBounds_eq h, Option.bind_some, specAll_loop hb (by omega) (by omega), Option.bind_some]
  unfold spec_l13Next.k0 nextR
  rw [decide_eq_true h1.1, chk_t, Option.bind_some]
  have hout := specOut_loop (a := a) hS (rowsL (boundsL a s l)) (fun row hr => by have := hR.2 row hr; omega) (by have := hR.1; omega)
  rw [← hout]
  by_cases c : s.owing ≠ 0
  · have e0 : s.owing = ((s.owing.toNat : Nat) : Int) := by omega
    rw [if_pos c]
    have := l4Next_eq h.A (S := s.owing.toNat) (by omega) l
    rw [← e0] at this
    rw [this, Option.bind_some]
    unfold oweS; rw [if_pos c]
  · rw [if_neg c]
    unfold oweS; rw [if_neg c]
    have e1 : a.states = ((a.states.toNat : Nat) : Int) := by omega
    have := shl1_i (n := a.states.toNat) (by omega)
    rw [← e1] at this
    rw [this, W, W_eq (by omega) (by omega), show ((2 ^ a.states.toNat : Nat) : Int) - 1 = ((2 ^ a.states.toNat - 1 : Nat) : Int) by omega]
end Go.Proofs.Ytllpbgcajgbfbaa
end

/- Edges and automata: copied as they are, held against each other. -/
section
namespace Go.Proofs.Ytllpbgcajgbfbaa
open Go Go.RowKit E
set_option linter.unusedVariables false

theorem toEdgeS_eq (xs : List TEdge) (h : xs.length ≤ 1048576) : laws_toEdgeS xs = some xs := by
  unfold laws_toEdgeS
  rw [mk_ok (by omega) (by omega), Option.bind_some, Int.toNat_natCast]
  have h1 := copy_loop (fun a => some (laws_toEdge a)) laws_toEdge (fun _ => rfl) (TEdge.mk 0 0 0 false) xs (by omega)
  have h2 : loop (fun s : List TEdge × Int => laws_toEdgeS.b0 xs s.1 s.2) (List.replicate xs.length (TEdge.mk 0 0 0 false), 0) = some (xs.map laws_toEdge) := h1
  rw [h2, Option.bind_some]
  have : xs.map laws_toEdge = xs := by
    have : laws_toEdge = id := rfl
    rw [this]; simp
  rw [this]; rfl
theorem eqEdge_eq (a b : TEdge) : laws_eqEdge a b = decide (a = b) := by
  unfold laws_eqEdge
  cases a; cases b
  simp only [TEdge.mk.injEq]
  repeat' split
  all_goals simp_all
theorem eqEdgeS_eq (xs ys : List TEdge) (h : xs.length ≤ 1048576) : laws_eqEdgeS xs ys = some (decide (xs = ys)) := by
  unfold laws_eqEdgeS
  split
  · rename_i k; rw [decide_eq_false]; intro e; subst e; exact k rfl
  · rename_i k
    have h1 := eq_loop (fun a b => some (laws_eqEdge a b)) (fun a b => by rw [eqEdge_eq]) xs ys (by omega) (by omega)
    have h2 : loop (fun s : Int => laws_eqEdgeS.b0 xs ys s) 0 = some (if xs = ys then (.inl () : Unit ⊕ Bool) else .inr false) := h1
    rw [h2, Option.bind_some]
    by_cases e : xs = ys
    · rw [if_pos e]; simp [e, laws_eqEdgeS.k0]
    · rw [if_neg e]; simp [e]
theorem toAuto_eq (a : TAuto) (h : a.edges.length ≤ 1048576) : laws_toAuto a = some a := by
  unfold laws_toAuto
  rw [toEdgeS_eq _ h, Option.bind_some]
theorem eqAuto_eq (a : TAuto) (h : a.edges.length ≤ 1048576) : laws_eqAuto a a = some true := by
  unfold laws_eqAuto
  rw [if_neg (by simp), if_neg (by simp), if_neg (by simp), eqEdgeS_eq _ _ h, Option.bind_some]
  simp
theorem szAuto_eq (a : TAuto) (h : a.edges.length ≤ 9223372036854775807) : laws_szAuto a 1048576 < 0 ↔ ¬ a.edges.length ≤ 1048576 := by
  unfold laws_szAuto laws_szEdgeS
  rw [W, W_eq (by omega) (by omega)]
  (repeat' split) <;> omega
end Go.Proofs.Ytllpbgcajgbfbaa
end

/- Edges marked. -/
section
namespace Go.Proofs.Ytllpbgcajgbfbaa
open Go Go.RowKit E
set_option linter.unusedVariables false

def markEL (c : Nat) : List TEdge → List TEdge
  | [] => []
  | _ :: r => TEdge.mk (c : Int) ((c : Int) + 1) ((c : Int) + 2) (decide (Int.tmod ((c : Int) + 3) 3 = 0)) :: markEL (c + 4) r
theorem markE_loop : ∀ (r pre : List TEdge) (c : Nat), c + 4 * r.length ≤ 1000000000 → pre.length + r.length ≤ 1000000000 → loop (fun s : List TEdge × Int × Int => laws_markEdgeS.b0 s.1 s.2.1 s.2.2) (pre ++ r, (c : Int), (pre.length : Int)) = some (((c + 4 * r.length : Nat) : Int), pre ++ markEL c r)
  | [], pre, c, _, _ => loop_end (by dsimp only; unfold laws_markEdgeS.b0; rw [if_neg (by simp)]; simp [markEL])
  | x :: r, pre, c, h1, h2 => by
    simp only [List.length_cons] at h1 h2
    have w1 : W ((c : Int) + 1) = (c : Int) + 1 := W_eq (by omega) (by omega)
    have w2 : W ((c : Int) + 1 + 1) = (c : Int) + 2 := by rw [W, W_eq (by omega) (by omega)]; omega
    have w3 : W ((c : Int) + 2 + 1) = (c : Int) + 3 := by rw [W, W_eq (by omega) (by omega)]; omega
    have w5 : W ((c : Int) + 3 + 1) = ((c + 4 : Nat) : Int) := by rw [W, W_eq (by omega) (by omega)]; omega
    have w4 : W ((pre.length : Int) + 1) = (((pre ++ [TEdge.mk (c : Int) ((c : Int) + 1) ((c : Int) + 2) (decide (Int.tmod ((c : Int) + 3) 3 = 0))]).length : Nat) : Int) := by rw [W, W_eq (by omega) (by omega)]; simp
    have ih := markE_loop r (pre ++ [TEdge.mk (c : Int) ((c : Int) + 1) ((c : Int) + 2) (decide (Int.tmod ((c : Int) + 3) 3 = 0))]) (c + 4) (by omega) (by simp; omega)
    rw [loop_go (s' := (pre ++ TEdge.mk (c : Int) ((c : Int) + 1) ((c : Int) + 2) (decide (Int.tmod ((c : Int) + 3) 3 = 0)) :: r, ((c + 4 : Nat) : Int), (((pre ++ [TEdge.mk (c : Int) ((c : Int) + 1) ((c : Int) + 2) (decide (Int.tmod ((c : Int) + 3) 3 = 0))]).length : Nat) : Int)))]
    · rw [List.append_assoc, List.singleton_append] at ih
      rw [ih]
      simp only [List.length_cons, markEL, List.append_assoc, List.singleton_append]
      rw [show c + 4 + 4 * r.length = c + 4 * (r.length + 1) by omega]
    · dsimp only; unfold laws_markEdgeS.b0
      rw [if_pos (by simp; omega)]
      simp only [ck_mid, Option.bind_some, set_mid, w1, w2, w3, w4, w5]
      simp
theorem markE_from (xs : List TEdge) (c : Nat) (h : xs.length ≤ 2000000) (hc : c ≤ 20000000) : laws_markEdgeS xs (c : Int) = some (((c + 4 * xs.length : Nat) : Int), markEL c xs) := by
  unfold laws_markEdgeS
  have := markE_loop xs [] c (by omega) (by simp; omega)
  simp only [List.nil_append] at this
  have e : loop (fun s : List TEdge × Int × Int => laws_markEdgeS.b0 s.1 s.2.1 s.2.2) (xs, (c : Int), 0) = _ := this
  rw [e]; rfl
theorem markAuto_eq (a : TAuto) (h : a.edges.length ≤ 2000000) : laws_markAuto a 1 = some (((1 + 4 * a.edges.length : Nat) : Int), { a with edges := markEL 1 a.edges }) := by
  unfold laws_markAuto
  have := markE_from a.edges 1 h (by omega)
  rw [show ((1 : Nat) : Int) = 1 from rfl] at this
  rw [this, Option.bind_some]
end Go.Proofs.Ytllpbgcajgbfbaa
end

/- Numbers marked, and found marked. -/
section
namespace Go.Proofs.Ytllpbgcajgbfbaa
open Go Go.RowKit E
set_option linter.unusedVariables false

def markIL (c : Nat) : List Int → List Int
  | [] => []
  | _ :: r => (c : Int) :: markIL (c + 1) r
theorem markI_loop : ∀ (r pre : List Int) (c : Nat), c + r.length ≤ 1000000000 → pre.length + r.length ≤ 1000000000 → loop (fun s : List Int × Int × Int => laws_markIntS.b0 s.1 s.2.1 s.2.2) (pre ++ r, (c : Int), (pre.length : Int)) = some (((c + r.length : Nat) : Int), pre ++ markIL c r)
  | [], pre, c, _, _ => loop_end (by dsimp only; unfold laws_markIntS.b0; rw [if_neg (by simp)]; simp [markIL])
  | x :: r, pre, c, h1, h2 => by
    simp only [List.length_cons] at h1 h2
    have w3 : W ((c : Int) + 1) = ((c + 1 : Nat) : Int) := by rw [W, W_eq (by omega) (by omega)]; omega
    have w4 : W ((pre.length : Int) + 1) = (((pre ++ [(c : Int)]).length : Nat) : Int) := by rw [W, W_eq (by omega) (by omega)]; simp
    have ih := markI_loop r (pre ++ [(c : Int)]) (c + 1) (by omega) (by simp; omega)
    rw [loop_go (s' := (pre ++ (c : Int) :: r, ((c + 1 : Nat) : Int), (((pre ++ [(c : Int)]).length : Nat) : Int)))]
    · rw [List.append_assoc, List.singleton_append] at ih
      rw [ih]
      simp only [List.length_cons, markIL, List.append_assoc, List.singleton_append]
      rw [show c + 1 + r.length = c + (r.length + 1) by omega]
    · dsimp only; unfold laws_markIntS.b0
      rw [if_pos (by simp; omega)]
      simp only [ck_mid, Option.bind_some, set_mid, w3, w4]
theorem markI_eq (xs : List Int) (h : xs.length ≤ 2000000) : laws_markIntS xs 1 = some (((1 + xs.length : Nat) : Int), markIL 1 xs) := by
  unfold laws_markIntS
  have := markI_loop xs [] 1 (by omega) (by simp; omega)
  simp only [List.nil_append] at this
  have e : loop (fun s : List Int × Int × Int => laws_markIntS.b0 s.1 s.2.1 s.2.2) (xs, 1, 0) = _ := this
  rw [e]; rfl
theorem heldI_loop : ∀ (r pre : List Int) (c : Nat), c + r.length ≤ 1000000000 → pre.length + r.length ≤ 1000000000 → loop (fun s : Int × Int => laws_heldIntS.b0 (pre ++ markIL c r) s.1 s.2) ((c : Int), (pre.length : Int)) = some (.inl ((c + r.length : Nat) : Int))
  | [], pre, c, _, _ => loop_end (by dsimp only; unfold laws_heldIntS.b0; rw [if_neg (by simp [markIL])]; simp)
  | x :: r, pre, c, h1, h2 => by
    simp only [List.length_cons] at h1 h2
    have w3 : W ((c : Int) + 1) = ((c + 1 : Nat) : Int) := by rw [W, W_eq (by omega) (by omega)]; omega
    have w4 : W ((pre.length : Int) + 1) = (((pre ++ [(c : Int)]).length : Nat) : Int) := by rw [W, W_eq (by omega) (by omega)]; simp
    have ih := heldI_loop r (pre ++ [(c : Int)]) (c + 1) (by omega) (by simp; omega)
    rw [List.append_assoc, List.singleton_append] at ih
    unfold markIL
    rw [loop_go (s' := (((c + 1 : Nat) : Int), (((pre ++ [(c : Int)]).length : Nat) : Int)))]
    · rw [ih, List.length_cons, show c + 1 + r.length = c + (r.length + 1) by omega]
    · dsimp only; unfold laws_heldIntS.b0
      rw [if_pos (by simp; omega)]
      simp only [ix_mid, Option.bind_some, w3, w4]
      simp
theorem heldI_eq (xs : List Int) (h : xs.length ≤ 2000000) : laws_heldIntS (markIL 1 xs) 1 = some ((1 + xs.length : Nat) : Int) := by
  unfold laws_heldIntS
  have := heldI_loop xs [] 1 (by omega) (by simp; omega)
  simp only [List.nil_append] at this
  have e : loop (fun s : Int × Int => laws_heldIntS.b0 (markIL 1 xs) s.1 s.2) (1, 0) = _ := this
  rw [e]; rfl
end Go.Proofs.Ytllpbgcajgbfbaa
end

/- Numbers marked on from a number. -/
section
namespace Go.Proofs.Ytllpbgcajgbfbaa
open Go Go.RowKit E
set_option linter.unusedVariables false

theorem markI_from (xs : List Int) (c : Nat) (h : xs.length ≤ 2000000) (hc : c ≤ 20000000) : laws_markIntS xs (c : Int) = some (((c + xs.length : Nat) : Int), markIL c xs) := by
  unfold laws_markIntS
  have := markI_loop xs [] c (by omega) (by simp; omega)
  simp only [List.nil_append] at this
  have e : loop (fun s : List Int × Int × Int => laws_markIntS.b0 s.1 s.2.1 s.2.2) (xs, (c : Int), 0) = _ := this
  rw [e]; rfl
theorem heldI_from (xs : List Int) (c : Nat) (h : xs.length ≤ 2000000) (hc : c ≤ 20000000) : laws_heldIntS (markIL c xs) (c : Int) = some ((c + xs.length : Nat) : Int) := by
  unfold laws_heldIntS
  have := heldI_loop xs [] c (by omega) (by simp; omega)
  simp only [List.nil_append] at this
  have e : loop (fun s : Int × Int => laws_heldIntS.b0 (markIL c xs) s.1 s.2) ((c : Int), 0) = _ := this
  rw [e]; rfl
end Go.Proofs.Ytllpbgcajgbfbaa
end

/- Lists of numbers: copied as they are, held against each other. -/
section
namespace Go.Proofs.Ytllpbgcajgbfbaa
open Go Go.RowKit E
set_option linter.unusedVariables false

theorem toIntS_eq (xs : List Int) (h : xs.length ≤ 1048576) : laws_toIntS xs = some xs := by
  unfold laws_toIntS
  rw [mk_ok (by omega) (by omega), Option.bind_some, Int.toNat_natCast]
  have h1 := copy_loop (fun a : Int => some a) id (fun _ => rfl) 0 xs (by omega)
  have h2 : loop (fun s : List Int × Int => laws_toIntS.b0 xs s.1 s.2) (List.replicate xs.length 0, 0) = some (xs.map id) := h1
  rw [h2, Option.bind_some, List.map_id]; rfl
theorem eqIntS_eq (xs ys : List Int) (h : xs.length ≤ 1048576) : laws_eqIntS xs ys = some (decide (xs = ys)) := by
  unfold laws_eqIntS
  split
  · rename_i k; rw [decide_eq_false]; intro e; subst e; exact k rfl
  · rename_i k
    have h1 := eq_loop (fun a b : Int => some (decide (a = b))) (fun a b => rfl) xs ys (by omega) (by omega)
    have h2 : loop (fun s : Int => laws_eqIntS.b0 xs ys s) 0 = some (if xs = ys then (.inl () : Unit ⊕ Bool) else .inr false) := by
      rw [← h1]
      congr 1
      funext s
      unfold laws_eqIntS.b0
      split
      · cases ix xs s with
        | none => rfl
        | some a =>
          cases ix ys s with
          | none => rfl
          | some b =>
            simp only [Option.bind_some]
            by_cases e : a = b
            · rw [if_neg (by simpa using e), if_neg (by simp [e])]
            · rw [if_pos (by simpa using e), if_pos (by simp [e])]
      · rfl
    rw [h2, Option.bind_some]
    by_cases e : xs = ys
    · rw [if_pos e]; simp [e, laws_eqIntS.k0]
    · rw [if_neg e]; simp [e]
end Go.Proofs.Ytllpbgcajgbfbaa
end

/- The states of ranks that follow: alike on both sides, held against each other, marked, and few. -/
section
namespace Go.Proofs.Ytllpbgcajgbfbaa
open Go Go.RowKit E
set_option linter.unusedVariables false

theorem toRankState_eq (s : TRankState) (h : s.ranks.length ≤ 1048576) : laws_toRankState s = some s := by
  unfold laws_toRankState
  rw [toIntS_eq _ h, Option.bind_some]
theorem sz2 {a : TAuto} {s : TRankState} (wa : a.edges.length ≤ 9223372036854775807) (ws : s.ranks.length ≤ 9223372036854775807) (h1 : ¬ laws_szAuto a 1048576 < 0) (h2 : ¬ laws_szRankState s (laws_szAuto a 1048576) < 0) : a.edges.length ≤ 1048576 ∧ s.ranks.length ≤ 1048576 := by
  have h3 : a.edges.length ≤ 1048576 := Classical.byContradiction fun g => h1 ((szAuto_eq a wa).mpr g)
  have h4 : 0 ≤ laws_szAuto a 1048576 ∧ laws_szAuto a 1048576 ≤ 1048576 := by
    refine ⟨by omega, ?_⟩
    unfold laws_szAuto laws_szEdgeS
    rw [W, W_eq (by omega) (by omega)]
    (repeat' split) <;> omega
  generalize laws_szAuto a 1048576 = k at h2 h4
  refine ⟨h3, Classical.byContradiction fun g => h2 ?_⟩
  unfold laws_szRankState laws_szIntS
  rw [W, W_eq (by omega) (by omega)]
  (repeat' split) <;> omega
def rnB (a : TAuto) (s : TRankState) (l : Int) : Bool := rkB a s && decide (0 ≤ l ∧ l ≤ a.letters - 1)
def rankN (a : TAuto) (s : TRankState) (l : Int) : List TRankState := if rnB a s l = true then nextR a s l else []
theorem implRankNext_eq (a : TAuto) (s : TRankState) (l : Int) (hs : s.ranks.length ≤ 4611686018427387904) : impl_RankNext a s l = some (rankN a s l) := by
  unfold impl_RankNext rankN rnB
  rw [implRankOk_eq a s hs, Option.bind_some, bnd_eq]
  cases h : rkB a s with
  | false => rw [Bool.not_false, Bool.true_or, if_pos rfl, Bool.false_and, if_neg (by simp)]
  | true =>
    have hA := (rkB_ok h).A.lets
    rw [Bool.not_true, Bool.false_or, Bool.true_and, inRg, W, W_eq (by omega) (by omega)]
    by_cases c : 0 ≤ l ∧ l ≤ a.letters - 1
    · rw [decide_eq_true c, if_neg (by simp), if_pos rfl, implNext_eq (rkB_ok h), Option.bind_some]
    · rw [decide_eq_false c, if_pos (by simp), if_neg (by simp)]
theorem specRankNext_eq (a : TAuto) (s : TRankState) (l : Int) : spec_RankNext a s l = some (rankN a s l) := by
  unfold spec_RankNext rankN rnB
  rw [specRankOk_eq a s, Option.bind_some, bnd_eq]
  cases h : rkB a s with
  | false => rw [Bool.not_false, Bool.true_or, if_pos rfl, Bool.false_and, if_neg (by simp)]
  | true =>
    have hA := (rkB_ok h).A.lets
    rw [Bool.not_true, Bool.false_or, Bool.true_and, l1Rg, W, W_eq (by omega) (by omega)]
    by_cases c : 0 ≤ l ∧ l ≤ a.letters - 1
    · rw [decide_eq_true c, if_neg (by simp), if_pos rfl, specNext_eq (rkB_ok h), Option.bind_some]
    · rw [decide_eq_false c, if_pos (by simp), if_neg (by simp)]
theorem rankN_small (a : TAuto) (s : TRankState) (l : Int) : (rankN a s l).length ≤ 25 ∧ ∀ x ∈ rankN a s l, x.ranks.length ≤ 2 := by
  unfold rankN
  by_cases h : rnB a s l = true
  · rw [if_pos h]
    have hk : RkOk a s := rkB_ok (by unfold rnB at h; rw [Bool.and_eq_true] at h; exact h.1)
    have h3 := hk.few; have h1 := hk.A.sts
    obtain ⟨_, _, hR⟩ := rows_facts hk l
    have h25 : (5 : Nat) ^ a.states.toNat ≤ 25 := by
      have : a.states.toNat = 0 ∨ a.states.toNat = 1 ∨ a.states.toNat = 2 := by omega
      rcases this with e | e | e <;> rw [e] <;> decide
    unfold nextR outL
    refine ⟨by rw [List.length_map]; exact Nat.le_trans hR.1 h25, fun x hx => ?_⟩
    obtain ⟨row, hrow, rfl⟩ := List.mem_map.mp hx
    have := hR.2 row hrow
    dsimp only; omega
  · rw [if_neg h]; exact ⟨Nat.zero_le _, fun x hx => by cases hx⟩
theorem eqRankState_self2 (r : TRankState) (h : r.ranks.length ≤ 1048576) : laws_eqRankState r r = some true := by
  unfold laws_eqRankState
  rw [eqIntS_eq _ _ h, Option.bind_some, decide_eq_true rfl, if_neg (by simp), if_neg (by simp)]
theorem eqRankStateS_loop : ∀ (r pre : List TRankState), (∀ x ∈ r, x.ranks.length ≤ 1000000) → pre.length + r.length ≤ 1000000 → loop (fun s : Int => laws_eqRankStateS.b0 (pre ++ r) (pre ++ r) s) (pre.length : Int) = some (.inl ())
  | [], pre, _, _ => loop_end (by unfold laws_eqRankStateS.b0; rw [if_neg (by simp)])
  | x :: r, pre, h, hl => by
    simp only [List.length_cons] at hl
    have ih := eqRankStateS_loop r (pre ++ [x]) (fun y hy => h y (List.mem_cons_of_mem _ hy)) (by simp; omega)
    rw [List.append_assoc, List.singleton_append] at ih
    have hx := h x List.mem_cons_self
    have w4 : W ((pre.length : Int) + 1) = (((pre ++ [x]).length : Nat) : Int) := by rw [W, W_eq (by omega) (by omega)]; simp
    rw [loop_go (s' := (((pre ++ [x]).length : Nat) : Int))]
    · exact ih
    · unfold laws_eqRankStateS.b0
      rw [if_pos (by simp; omega), ix_mid, Option.bind_some, Option.bind_some, eqRankState_self2 x (by omega), Option.bind_some, if_neg (by simp), w4]
theorem eqRankStateS_self (xs : List TRankState) (h : ∀ x ∈ xs, x.ranks.length ≤ 1000000) (hl : xs.length ≤ 1000000) : laws_eqRankStateS xs xs = some true := by
  unfold laws_eqRankStateS
  have h2 : loop (fun s : Int => laws_eqRankStateS.b0 xs xs s) 0 = some (.inl ()) := eqRankStateS_loop xs [] h (by simp; omega)
  rw [if_neg (by simp), h2, Option.bind_some]; rfl
def totK : List TRankState → Nat
  | [] => 0
  | x :: r => x.ranks.length + 1 + totK r
def markK (c : Nat) : List TRankState → List TRankState
  | [] => []
  | x :: r => ⟨markIL c x.ranks, ((c + x.ranks.length : Nat) : Int)⟩ :: markK (c + (x.ranks.length + 1)) r
theorem heldRankStateS_loop : ∀ (r pre : List TRankState) (c : Nat), c + totK r ≤ 2000000 → pre.length + r.length ≤ 1000000 → loop (fun s : Int × Int => laws_heldRankStateS.b0 (pre ++ markK c r) s.1 s.2) ((c : Int), (pre.length : Int)) = some (.inl ((c + totK r : Nat) : Int))
  | [], pre, c, _, _ => loop_end (by dsimp only; unfold laws_heldRankStateS.b0; rw [if_neg (by simp [markK])]; simp [totK])
  | x :: r, pre, c, h1, hl => by
    simp only [List.length_cons] at hl
    have h1 : c + (x.ranks.length + 1 + totK r) ≤ 2000000 := h1
    have ih := heldRankStateS_loop r (pre ++ [⟨markIL c x.ranks, ((c + x.ranks.length : Nat) : Int)⟩]) (c + (x.ranks.length + 1)) (by omega) (by simp; omega)
    rw [List.append_assoc, List.singleton_append] at ih
    have w4 : W ((pre.length : Int) + 1) = (((pre ++ [(⟨markIL c x.ranks, ((c + x.ranks.length : Nat) : Int)⟩ : TRankState)]).length : Nat) : Int) := by rw [W, W_eq (by omega) (by omega)]; simp
    have w5 : W (((c + x.ranks.length : Nat) : Int) + 1) = ((c + (x.ranks.length + 1) : Nat) : Int) := by rw [W, W_eq (by omega) (by omega)]; omega
    unfold markK
    rw [loop_go (s' := (((c + (x.ranks.length + 1) : Nat) : Int), (((pre ++ [(⟨markIL c x.ranks, ((c + x.ranks.length : Nat) : Int)⟩ : TRankState)]).length : Nat) : Int)))]
    · rw [ih, show c + (x.ranks.length + 1) + totK r = c + totK (x :: r) by rw [show totK (x :: r) = x.ranks.length + 1 + totK r from rfl]; omega]
    · dsimp only; unfold laws_heldRankStateS.b0
      rw [if_pos (by simp; omega), ix_mid, Option.bind_some, heldI_from _ _ (by omega) (by omega), Option.bind_some, if_neg (by omega), Option.bind_some, if_neg (by simp), w4, w5]
theorem heldRankStateS_eq (xs : List TRankState) (h : totK xs ≤ 1000000) (hl : xs.length ≤ 1000000) : laws_heldRankStateS (markK 1 xs) 1 = some ((1 + totK xs : Nat) : Int) := by
  unfold laws_heldRankStateS
  have h2 : loop (fun s : Int × Int => laws_heldRankStateS.b0 (markK 1 xs) s.1 s.2) (1, 0) = some (.inl ((1 + totK xs : Nat) : Int)) := heldRankStateS_loop xs [] 1 (by omega) (by simp; omega)
  rw [h2]; rfl
theorem totK_le : ∀ (xs : List TRankState), (∀ x ∈ xs, x.ranks.length ≤ 2) → totK xs ≤ 3 * xs.length
  | [], _ => Nat.le_refl _
  | x :: r, h => by
    have h1 := h x List.mem_cons_self
    have h2 := totK_le r fun y hy => h y (List.mem_cons_of_mem _ hy)
    rw [show totK (x :: r) = x.ranks.length + 1 + totK r from rfl, List.length_cons]; omega
end Go.Proofs.Ytllpbgcajgbfbaa
end
