/- Both sides take the same words. -/
import Derived.Test.YtpikdepigcmfnaaDNfaTakes
import Derived.Test.YtpikdepigcmfnaaWf
import Derived.Test.YtpikdepigcmfnaaPAuto
import Derived.Test.YtpikdepigcmfnaaPInts
namespace Go.Proofs.Ytpikdepigcmfnaa
open Go Go.RowKit E
set_option linter.unusedVariables false

theorem toEdgeS_eq (xs : List TEdge) (h : xs.length ≤ 1048576) : laws_toEdgeS xs = some xs := by
  unfold laws_toEdgeS
  rw [mk_ok (by omega) (by omega), Option.bind_some, Int.toNat_natCast]
  have h1 := copy_loop (fun a => some (laws_toEdge a)) laws_toEdge (fun _ => rfl) (TEdge.mk 0 0 0 false) xs (by omega)
  have h2 : loop (fun s : List TEdge × Int => laws_toEdgeS.b0 xs s.1 s.2) (List.replicate xs.length (TEdge.mk 0 0 0 false), 0) = some (xs.map laws_toEdge) := h1
  rw [h2, Option.bind_some]
  have : xs.map laws_toEdge = xs := by
    have : laws_toEdge = id := rfl
    rw [this]; simp
  rw [this]; rfl
theorem eqEdge_eq (a b : TEdge) : laws_eqEdge a b = decide (a = b) := by
  unfold laws_eqEdge
  cases a; cases b
  simp only [TEdge.mk.injEq]
  repeat' split
  all_goals simp_all
theorem eqEdgeS_eq (xs ys : List TEdge) (h : xs.length ≤ 1048576) : laws_eqEdgeS xs ys = some (decide (xs = ys)) := by
  unfold laws_eqEdgeS
  split
  · rename_i k; rw [decide_eq_false]; intro e; subst e; exact k rfl
  · rename_i k
    have h1 := eq_loop (fun a b => some (laws_eqEdge a b)) (fun a b => by rw [eqEdge_eq]) xs ys (by omega) (by omega)
    have h2 : loop (fun s : Int => laws_eqEdgeS.b0 xs ys s) 0 = some (if xs = ys then (.inl () : Unit ⊕ Bool) else .inr false) := h1
    rw [h2, Option.bind_some]
    by_cases e : xs = ys
    · rw [if_pos e]; simp [e, laws_eqEdgeS.k0]
    · rw [if_neg e]; simp [e]
theorem toNfa_eq (a : TNfa) (h : a.auto.edges.length ≤ 1048576) : laws_toNfa a = some a := by
  unfold laws_toNfa laws_toAuto
  rw [toEdgeS_eq _ h]; rfl
theorem eqNfa_eq (a : TNfa) (h : a.auto.edges.length ≤ 1048576) : laws_eqNfa a a = some true := by
  unfold laws_eqNfa laws_eqAuto
  rw [if_neg (by simp), if_neg (by simp), if_neg (by simp), eqEdgeS_eq _ _ h]
  simp
theorem szNfa_eq (a : TNfa) (h : a.auto.edges.length ≤ 9223372036854775807) : laws_szNfa a 1048576 < 0 ↔ ¬ a.auto.edges.length ≤ 1048576 := by
  unfold laws_szNfa laws_szAuto laws_szEdgeS
  rw [W, W_eq (by omega) (by omega)]
  repeat' split
  all_goals omega

def goodFree (a : TNfa) : Bool := (List.range a.auto.edges.length).all fun k => !(a.auto.edges.getD k default).good
def finalOk (a : TNfa) : Bool := decide (0 ≤ a.final ∧ a.final < ((2 ^ a.auto.states.toNat : Nat) : Int))
def nfaOk (a : TNfa) : Bool := autoOk a.auto && finalOk a && goodFree a
theorem specNfaOk_eq (a : TNfa) (hl : a.auto.edges.length ≤ 1048576) : spec_NfaOk a = some (nfaOk a) := by
  unfold spec_NfaOk nfaOk
  rw [specAutoOk_eq, Option.bind_some, bnd_eq]
  cases h : autoOk a.auto with
  | false => rw [Bool.not_false, Bool.not_true, whenO_f, Option.bind_some, if_pos (by simp)]; rfl
  | true =>
    have h2 := (headOk_t (autoOk_t h).1).2.1
    have e : a.auto.states = ((a.auto.states.toNat : Nat) : Int) := by omega
    have hs := setIn_eq a.final (n := a.auto.states.toNat) (by omega)
    rw [← e] at hs
    rw [Bool.not_true, Bool.not_false, whenO_t, decide_eq_true h2.1, chk_t, Option.bind_some, hs]
    show (if (false || !finalOk a) = true then _ else _) = _
    cases finalOk a with
    | false => rw [if_pos (by simp)]; rfl
    | true =>
      rw [if_neg (by simp), all_loop a.auto.edges.length (fun k => !(a.auto.edges.getD k default).good) (fun k hk => ?_) (by unfold spec_NfaOk.b0; rw [if_neg (by omega)]), Option.bind_some]
      · show _ = some (goodFree a)
        unfold goodFree
        cases (List.range a.auto.edges.length).all fun k => !(a.auto.edges.getD k default).good <;> rfl
      · unfold spec_NfaOk.b0
        rw [if_pos (by omega), ix_nat hk, Option.bind_some, W, W_nat (by omega)]
        cases (a.auto.edges.getD k default).good <;> rfl
theorem implNfaOk_eq (a : TNfa) (hl : a.auto.edges.length ≤ 1048576) : impl_NfaOk a = some (nfaOk a) := by
  unfold impl_NfaOk
  rw [all_loop a.auto.edges.length (fun k => !(a.auto.edges.getD k default).good) (fun k hk => ?_) (by unfold impl_NfaOk.b0; rw [if_neg (by omega)]), Option.bind_some]
  · show Sum.elim _ _ (if goodFree a = true then _ else _) = _
    unfold nfaOk
    cases goodFree a with
    | false => rw [if_neg (by simp), Bool.and_false]; rfl
    | true =>
      rw [if_pos rfl, Sum.elim_inl, Bool.and_true]
      unfold impl_NfaOk.k0
      rw [implAutoOk_eq, Option.bind_some]; simp only [bnd_eq]
      cases h : autoOk a.auto with
      | false => rfl
      | true =>
        have h2 := (headOk_t (autoOk_t h).1).2.1
        have ho := only_eq (n := a.auto.states.toNat) (by omega)
        rw [show ((a.auto.states.toNat : Nat) : Int) = a.auto.states by omega] at ho
        have hp := pow31 (n := a.auto.states.toNat) (by omega)
        rw [ho]
        unfold finalOk impl_SetOk
        rw [inRg, Bool.true_and, Bool.true_and, ← Bool.decide_and]
        congr 1
        rw [decide_eq_decide]; omega
  · unfold impl_NfaOk.b0
    rw [if_pos (by omega), ix_nat hk, Option.bind_some, W, W_nat (by omega)]
    cases (a.auto.edges.getD k default).good <;> rfl

def lettersOk (w : List Int) (n : Int) : Bool := (List.range w.length).all fun k => decide (0 ≤ w.getD k default ∧ w.getD k default ≤ W (n - 1))
theorem specLetters_eq (w : List Int) (n : Int) (hl : w.length ≤ 1048576) : spec_l3Letters w n = some (lettersOk w n) := by
  unfold spec_l3Letters
  rw [all_loop w.length (fun k => decide (0 ≤ w.getD k default ∧ w.getD k default ≤ W (n - 1))) (fun k hk => ?_) (by unfold spec_l3Letters.b0; rw [if_neg (by omega)]), Option.bind_some]
  · show Sum.elim _ _ (if lettersOk w n = true then _ else _) = _
    cases lettersOk w n <;> rfl
  · unfold spec_l3Letters.b0
    rw [if_pos (by omega), ix_nat hk, Option.bind_some, l1Rg, WN (by omega)]
    cases decide (0 ≤ w.getD k default ∧ w.getD k default ≤ W (n - 1)) <;> rfl
theorem implLetters_eq (w : List Int) (n : Int) (hl : w.length ≤ 1048576) : impl_areLetters w n = some (lettersOk w n) := by
  unfold impl_areLetters
  rw [all_loop w.length (fun k => decide (0 ≤ w.getD k default ∧ w.getD k default ≤ W (n - 1))) (fun k hk => ?_) (by unfold impl_areLetters.b0; rw [if_neg (by omega)]), Option.bind_some]
  · show Sum.elim _ _ (if lettersOk w n = true then _ else _) = _
    cases lettersOk w n <;> rfl
  · unfold impl_areLetters.b0
    rw [if_pos (by omega), ix_nat hk, Option.bind_some, inRg, WN (by omega)]
    cases decide (0 ≤ w.getD k default ∧ w.getD k default ≤ W (n - 1)) <;> rfl

/-- Where the first k edges lead. -/
def stepN (a : TAuto) (s : Nat) (l : Int) : Nat → Nat
  | 0 => 0
  | k + 1 => if (a.edges.getD k default).letter = l ∧ s.testBit (a.edges.getD k default).from_.toNat = true then stepN a s l k ||| 2 ^ (a.edges.getD k default).to_.toNat else stepN a s l k
theorem stepN_succ (a : TAuto) (s : Nat) (l : Int) (k : Nat) : stepN a s l (k + 1) = if (a.edges.getD k default).letter = l ∧ s.testBit (a.edges.getD k default).from_.toNat = true then stepN a s l k ||| 2 ^ (a.edges.getD k default).to_.toNat else stepN a s l k := rfl
def EdgesIn (a : TAuto) : Prop := ∀ k, k < a.edges.length → (0 ≤ (a.edges.getD k default).from_ ∧ (a.edges.getD k default).from_ ≤ 30) ∧ (0 ≤ (a.edges.getD k default).to_ ∧ (a.edges.getD k default).to_ ≤ 30)
theorem stepN_lt {a : TAuto} (h : EdgesIn a) (s : Nat) (l : Int) : ∀ k, k ≤ a.edges.length → stepN a s l k < 2 ^ 31
  | 0, _ => by simp [stepN]
  | k + 1, hk => by
    have ih := stepN_lt h s l k (by omega)
    rw [stepN_succ]
    split
    · exact or_lt ih (Nat.pow_lt_pow_right (by omega) (by have := (h k (by omega)).2; omega))
    · exact ih
theorem and31 {x : Int} (h : 0 ≤ x ∧ x ≤ 30) : bAnd .i64 x 31 = x := by
  obtain ⟨y, rfl⟩ : ∃ y : Nat, x = y := ⟨x.toNat, by omega⟩
  have := bAnd_i (a := y) (b := 31) (by omega) (by omega)
  rw [show ((31 : Nat) : Int) = 31 from rfl] at this
  rw [this, show (31 : Nat) = 2 ^ 5 - 1 from rfl, Nat.and_two_pow_sub_one_eq_mod, Nat.mod_eq_of_lt (by omega)]
theorem l1Bit_eq {x : Int} (h : 0 ≤ x ∧ x ≤ 30) : spec_l1Bit x = some ((2 ^ x.toNat : Nat) : Int) := by
  unfold spec_l1Bit
  rw [and31 h, decide_eq_true h.1, chk_t, Option.bind_some]
  have := shl1_i (n := x.toNat) (by omega)
  rw [show ((x.toNat : Nat) : Int) = x by omega] at this
  rw [this]
theorem and_pow (s n : Nat) : decide (s &&& 2 ^ n ≠ 0) = s.testBit n := by
  cases h : s.testBit n with
  | false =>
    have : s &&& 2 ^ n = 0 := Nat.eq_of_testBit_eq fun i => by
      rw [Nat.testBit_and, Nat.testBit_two_pow, Nat.zero_testBit]
      by_cases e : n = i
      · subst e; rw [h]; rfl
      · simp [e]
    simp [this]
  | true =>
    rw [decide_eq_true_eq]
    intro g
    have := congrArg (fun x => x.testBit n) g
    simp [Nat.testBit_and, h, Nat.testBit_two_pow] at this
theorem l1Has_eq {s : Nat} (hs : s < 2 ^ 31) {x : Int} (h : 0 ≤ x ∧ x ≤ 30) : spec_l1Has (s : Int) x = some (s.testBit x.toNat) := by
  unfold spec_l1Has
  have hp := pow31 (n := x.toNat) (by omega)
  have h31 : (2 : Nat) ^ 31 = 2147483648 := rfl
  rw [bnd_eq, l1Rg, decide_eq_true h, whenO_t, l1Bit_eq h, Option.bind_some, bAnd_i (by omega) (by omega), Bool.true_and, ← and_pow]
  congr 1
  rw [decide_eq_decide]; omega
theorem has_eq {s : Nat} (hs : s < 2 ^ 31) {x : Int} (h : 0 ≤ x ∧ x ≤ 30) : impl_has (s : Int) x = s.testBit x.toNat := by
  unfold impl_has
  have h31 : (2 : Nat) ^ 31 = 2147483648 := rfl
  obtain ⟨y, rfl⟩ : ∃ y : Nat, x = y := ⟨x.toNat, by omega⟩
  rw [u64_nat (by omega), bit_i (by omega) (by omega), Int.toNat_natCast]
theorem specNext_eq {a : TAuto} (h : EdgesIn a) (hl : a.edges.length ≤ 1048576) {s : Nat} (hs : s < 2 ^ 31) (l : Int) : spec_l4Next a (s : Int) l = some ((stepN a s l a.edges.length : Nat) : Int) := by
  have h31 : (2 : Nat) ^ 31 = 2147483648 := rfl
  have h1 := loop_up (body := fun q : Int × Int => spec_l4Next.b0 a l (s : Int) q.1 q.2) a.edges.length (fun k => (((stepN a s l k : Nat) : Int), (k : Int))) ((stepN a s l a.edges.length : Nat) : Int) (fun k hk => ?_) ?_ 0 (Nat.zero_le _)
  · unfold spec_l4Next
    have h2 : loop (fun q : Int × Int => spec_l4Next.b0 a l (s : Int) q.1 q.2) (0, 0) = _ := h1
    rw [h2]; rfl
  · dsimp only; unfold spec_l4Next.b0
    obtain ⟨e1, e2⟩ := h k hk
    have hb := stepN_lt h s l k (by omega)
    have hp := pow31 (n := (a.edges.getD k default).to_.toNat) (by omega)
    rw [if_pos (by omega), ix_nat hk, Option.bind_some, bnd_eq, W, W_nat (by omega), l1Has_eq hs e1, l1Bit_eq e2, stepN_succ]
    by_cases c : (a.edges.getD k default).letter = l
    · rw [decide_eq_true c, whenO_t, Option.bind_some, Bool.true_and]
      by_cases d : s.testBit (a.edges.getD k default).from_.toNat = true
      · rw [if_pos d, Option.bind_some, bOr_i (by omega) (by omega), if_pos ⟨c, d⟩]
      · rw [if_neg d, if_neg (fun g => d g.2)]
    · rw [decide_eq_false c, whenO_f, Option.bind_some, if_neg (by simp), if_neg (fun g => c g.1)]
  · dsimp only; unfold spec_l4Next.b0; rw [if_neg (by omega)]
theorem implStep_eq {a : TAuto} (h : EdgesIn a) (hl : a.edges.length ≤ 1048576) {s : Nat} (hs : s < 2 ^ 31) (l : Int) : impl_Auto_step a (s : Int) l = some ((stepN a s l a.edges.length : Nat) : Int) := by
  have h31 : (2 : Nat) ^ 31 = 2147483648 := rfl
  have h1 := loop_up (body := fun q : Int × Int => impl_Auto_step.b0 a l (s : Int) q.1 q.2) a.edges.length (fun k => (((stepN a s l k : Nat) : Int), (k : Int))) ((stepN a s l a.edges.length : Nat) : Int) (fun k hk => ?_) ?_ 0 (Nat.zero_le _)
  · unfold impl_Auto_step
    have h2 : loop (fun q : Int × Int => impl_Auto_step.b0 a l (s : Int) q.1 q.2) (0, 0) = _ := h1
    rw [h2]; rfl
  · dsimp only; unfold impl_Auto_step.b0
    obtain ⟨e1, e2⟩ := h k hk
    have hb := stepN_lt h s l k (by omega)
    have hp := pow31 (n := (a.edges.getD k default).to_.toNat) (by omega)
    have ho := only_eq (n := (a.edges.getD k default).to_.toNat) (by omega)
    rw [show (((a.edges.getD k default).to_.toNat : Nat) : Int) = (a.edges.getD k default).to_ by omega] at ho
    rw [if_pos (by omega), ix_nat hk, Option.bind_some, bnd_eq, W, W_nat (by omega), has_eq hs e1, ho, stepN_succ]
    by_cases c : (a.edges.getD k default).letter = l
    · rw [decide_eq_true c, Bool.true_and]
      by_cases d : s.testBit (a.edges.getD k default).from_.toNat = true
      · rw [if_pos d, bOr_i (by omega) (by omega), if_pos ⟨c, d⟩]
      · rw [if_neg d, if_neg (fun g => d g.2)]
    · rw [decide_eq_false c, if_neg (by simp), if_neg (fun g => c g.1)]
  · dsimp only; unfold impl_Auto_step.b0; rw [if_neg (by omega)]
/-- Where the first k letters lead. -/
def runN (a : TAuto) (w : List Int) : Nat → Nat
  | 0 => a.start.toNat
  | k + 1 => stepN a (runN a w k) (w.getD k default) a.edges.length
theorem runN_lt {a : TAuto} (h : EdgesIn a) (hs : a.start.toNat < 2 ^ 31) (w : List Int) : ∀ k, runN a w k < 2 ^ 31
  | 0 => hs
  | k + 1 => stepN_lt h _ _ _ (Nat.le_refl _)
def nfaTakes (a : TNfa) (w : List Int) : Bool := nfaOk a && decide (w.length ≤ 60) && lettersOk w a.auto.letters && decide (bAnd .i64 ((runN a.auto w w.length : Nat) : Int) a.final ≠ 0)
theorem start_lt {a : TAuto} (h : autoOk a = true) : 0 ≤ a.start ∧ a.start.toNat < 2 ^ 31 := by
  have hh := headOk_t (autoOk_t h).1
  have hp := pow31 (n := a.states.toNat) (by omega)
  have h31 : (2 : Nat) ^ 31 = 2147483648 := rfl
  omega
theorem specNfaTakes_eq (a : TNfa) (w : List Int) (hl : a.auto.edges.length ≤ 1048576) (hw : w.length ≤ 1048576) : spec_NfaTakes a w = some (nfaTakes a w) := by
  unfold spec_NfaTakes nfaTakes
  rw [specNfaOk_eq a hl, Option.bind_some, bnd_eq, bnd_eq, specLetters_eq w _ hw]
  cases h : nfaOk a with
  | false => rw [Bool.not_false, Bool.true_or, Bool.not_true, whenO_f, Option.bind_some, if_pos (by simp)]; rfl
  | true =>
    rw [Bool.not_true, Bool.false_or]
    by_cases h60 : w.length ≤ 60
    · rw [decide_eq_false (by omega : ¬ (w.length : Int) > 60), decide_eq_true h60, Bool.not_false, whenO_t, Option.bind_some]
      cases lettersOk w a.auto.letters with
      | false => rw [if_pos (by simp)]; rfl
      | true =>
        rw [if_neg (by simp)]
        have ha : autoOk a.auto = true := by unfold nfaOk at h; simp only [Bool.and_eq_true] at h; exact h.1.1
        have hE : EdgesIn a.auto := (autoOk_t ha).2
        obtain ⟨s0, s1⟩ := start_lt ha
        have h1 := loop_up (body := fun q : Int × Int => spec_NfaTakes.b0 w a q.1 q.2) w.length (fun k => (((runN a.auto w k : Nat) : Int), (k : Int))) ((runN a.auto w w.length : Nat) : Int) (fun k hk => ?_) ?_ 0 (Nat.zero_le _)
        · have h2 : loop (fun q : Int × Int => spec_NfaTakes.b0 w a q.1 q.2) (((a.auto.start.toNat : Nat) : Int), 0) = _ := h1
          rw [show ((a.auto.start.toNat : Nat) : Int) = a.auto.start by omega] at h2
          rw [h2]; rfl
        · dsimp only; unfold spec_NfaTakes.b0
          rw [if_pos (by omega), ix_nat hk, Option.bind_some, specNext_eq hE hl (runN_lt hE s1 w k), Option.bind_some, W, W_nat (by omega)]; rfl
        · dsimp only; unfold spec_NfaTakes.b0; rw [if_neg (by omega)]
    · rw [decide_eq_true (by omega : (w.length : Int) > 60), decide_eq_false h60, Bool.not_true, whenO_f, Option.bind_some, if_pos (by simp)]; rfl
theorem implNfaTakes_eq (a : TNfa) (w : List Int) (hl : a.auto.edges.length ≤ 1048576) (hw : w.length ≤ 1048576) : impl_NfaTakes a w = some (nfaTakes a w) := by
  unfold impl_NfaTakes nfaTakes
  rw [implNfaOk_eq a hl, bnd_eq, implLetters_eq w _ hw]
  by_cases h60 : w.length ≤ 60
  · rw [decide_eq_false (by omega : ¬ (w.length : Int) > 60), decide_eq_true h60, Bool.not_false, whenO_t, Option.bind_some, bnd_eq, Bool.false_or]
    cases h : nfaOk a with
    | false => rw [Bool.not_false, Bool.not_true, whenO_f, Option.bind_some, if_pos (by simp)]; rfl
    | true =>
      rw [Bool.not_true, Bool.not_false, whenO_t, Option.bind_some]
      cases lettersOk w a.auto.letters with
      | false => rw [if_pos (by simp)]; rfl
      | true =>
        rw [if_neg (by simp)]
        have ha : autoOk a.auto = true := by unfold nfaOk at h; simp only [Bool.and_eq_true] at h; exact h.1.1
        have hE : EdgesIn a.auto := (autoOk_t ha).2
        obtain ⟨s0, s1⟩ := start_lt ha
        have h1 := loop_up (body := fun q : Int × Int => impl_NfaTakes.b0 w a q.1 q.2) w.length (fun k => (((runN a.auto w k : Nat) : Int), (k : Int))) ((runN a.auto w w.length : Nat) : Int) (fun k hk => ?_) ?_ 0 (Nat.zero_le _)
        · have h2 : loop (fun q : Int × Int => impl_NfaTakes.b0 w a q.1 q.2) (((a.auto.start.toNat : Nat) : Int), 0) = _ := h1
          rw [show ((a.auto.start.toNat : Nat) : Int) = a.auto.start by omega] at h2
          rw [h2]; rfl
        · dsimp only; unfold impl_NfaTakes.b0
          rw [if_pos (by omega), ix_nat hk, Option.bind_some, implStep_eq hE hl (runN_lt hE s1 w k), Option.bind_some, W, W_nat (by omega)]; rfl
        · dsimp only; unfold impl_NfaTakes.b0; rw [if_neg (by omega)]
  · rw [decide_eq_true (by omega : (w.length : Int) > 60), decide_eq_false h60, Bool.not_true, whenO_f, Option.bind_some, bnd_eq, Bool.true_or, Bool.not_true, whenO_f, Option.bind_some, if_pos (by simp)]
    simp
theorem pureNfaTakes (a : TNfa) (h1 : TNfa.wf a) (w : List Int) (h2 : w.length ≤ 9223372036854775807 ∧ ∀ q ∈ w, inI q) : laws_FnExactNfaTakes a w = some true := by
  unfold laws_FnExactNfaTakes
  by_cases hw : w.length ≤ 1048576
  · rw [if_neg (by omega)]
    have hz := szNfa_eq a h1.1.2.2.2.1
    by_cases hl : a.auto.edges.length ≤ 1048576
    · rw [if_neg (fun g => hz.mp g hl)]
      simp only [toNfa_eq a hl, toIntS_eq w hw, Option.bind_some, specNfaTakes_eq a w hl hw, implNfaTakes_eq a w hl hw, eqNfa_eq a hl, eqIntS_eq w w hw]
      simp
    · rw [if_pos (hz.mpr hl)]
  · rw [if_pos (by omega)]
end Go.Proofs.Ytpikdepigcmfnaa
