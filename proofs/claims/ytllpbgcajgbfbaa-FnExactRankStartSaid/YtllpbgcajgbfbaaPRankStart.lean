/- The first rank state: the program says what the reference says. -/
import Derived.Test.YtllpbgcajgbfbaaDRankStart
import Derived.Test.YtllpbgcajgbfbaaWf
import Derived.Test.YtllpbgcajgbfbaaPMarkE
import Derived.Test.YtllpbgcajgbfbaaPMarkI
import Derived.Test.YtllpbgcajgbfbaaPHasS
import Derived.Test.YtllpbgcajgbfbaaPHasI
namespace Go.Proofs.Ytllpbgcajgbfbaa
open Go Go.RowKit E
set_option linter.unusedVariables false

theorem eqIntS_self (xs : List Int) (h : xs.length ≤ 1048576) : laws_eqIntS xs xs = some true := by
  unfold laws_eqIntS
  rw [if_neg (by simp)]
  have h1 := eq_loop (fun a b => some (decide (a = b))) (fun a b => rfl) xs xs rfl (by omega)
  have h2 : loop (fun s : Int => laws_eqIntS.b0 xs xs s) 0 = some (if xs = xs then (.inl () : Unit ⊕ Bool) else .inr false) := by
    rw [← h1]; congr 1; funext s
    unfold laws_eqIntS.b0
    split
    · congr 1; funext a; congr 1; funext b
      by_cases e : a = b <;> simp [e]
    · rfl
  rw [h2, Option.bind_some, if_pos rfl]; rfl
def startN (a : TAuto) (k : Nat) : Int := if a.start.toNat.testBit k = true then 2 * a.states else -1
def ranksL (a : TAuto) (n : Nat) : List Int := (List.range n).map (startN a)
theorem ranksL_succ (a : TAuto) (n : Nat) : ranksL a (n + 1) = ranksL a n ++ [startN a n] := by simp [ranksL, List.range_succ]
theorem ranksL_len (a : TAuto) (n : Nat) : (ranksL a n).length = n := by simp [ranksL]
theorem specStart_loop {a : TAuto} (h : AOk a) : loop (fun s : List Int × Int × Int => spec_RankStart.b0 a s.1 s.2.1 s.2.2) ([], 0, 0) = some (ranksL a a.states.toNat, 0) := by
  obtain ⟨_, h2, h3, _, _⟩ := h
  have hp := pow31 (n := a.states.toNat) (by omega)
  have h31 : (2 : Nat) ^ 31 = 2147483648 := rfl
  have e0 : a.start = ((a.start.toNat : Nat) : Int) := by omega
  refine loop_up (body := fun s : List Int × Int × Int => spec_RankStart.b0 a s.1 s.2.1 s.2.2) a.states.toNat (fun k => (ranksL a k, 0, (k : Int))) _ (fun k hk => ?_) ?_ 0 (by omega)
  · dsimp only
    unfold spec_RankStart.b0
    rw [if_pos (by omega), e0, l1Has_eq (by omega) (by omega), Option.bind_some, Int.toNat_natCast]
    have w1 : W ((k : Int) + 1) = ((k + 1 : Nat) : Int) := W_nat (by omega)
    have w2 : W (2 * a.states) = 2 * a.states := W_eq (by omega) (by omega)
    have hk1 : ∀ x : Int, spec_RankStart.k1 (ranksL a k) 0 (k : Int) x = some (.inl (ranksL a k ++ [x], 0, ((k + 1 : Nat) : Int))) := by
      intro x
      unfold spec_RankStart.k1
      rw [app_small (by rw [ranksL_len]; simp; omega) (by omega), Option.bind_some, w1]
    rw [hk1, hk1, w2, ranksL_succ]
    unfold startN
    split <;> rfl
  · dsimp only
    unfold spec_RankStart.b0
    rw [if_neg (by omega)]
theorem implStart_loop {a : TAuto} (h : AOk a) : loop (fun s : List Int × Int × Int => impl_rankStart.b0 a s.1 s.2.1 s.2.2) ([], 0, 0) = some (ranksL a a.states.toNat, 0) := by
  obtain ⟨_, h2, h3, _, _⟩ := h
  have hp := pow31 (n := a.states.toNat) (by omega)
  have h31 : (2 : Nat) ^ 31 = 2147483648 := rfl
  have e0 : a.start = ((a.start.toNat : Nat) : Int) := by omega
  refine loop_up (body := fun s : List Int × Int × Int => impl_rankStart.b0 a s.1 s.2.1 s.2.2) a.states.toNat (fun k => (ranksL a k, 0, (k : Int))) _ (fun k hk => ?_) ?_ 0 (by omega)
  · dsimp only
    unfold impl_rankStart.b0
    rw [if_pos (by omega), e0, has_eq (by omega) (by omega), Int.toNat_natCast]
    have w1 : W ((k : Int) + 1) = ((k + 1 : Nat) : Int) := W_nat (by omega)
    have w2 : W (2 * a.states) = 2 * a.states := W_eq (by omega) (by omega)
    have hk1 : ∀ x : Int, impl_rankStart.k1 (ranksL a k) 0 (k : Int) x = some (.inl (ranksL a k ++ [x], 0, ((k + 1 : Nat) : Int))) := by
      intro x
      unfold impl_rankStart.k1
      rw [app_small (by rw [ranksL_len]; simp; omega) (by omega), Option.bind_some, w1]
    rw [hk1, hk1, w2, ranksL_succ]
    unfold startN
    split <;> rfl
  · dsimp only
    unfold impl_rankStart.b0
    rw [if_neg (by omega)]
def rankedB (a : TAuto) : Bool := autoOk a && decide (a.states ≤ 2)
noncomputable def startP (a : TAuto) : TRankState × Bool := if rankedB a = true then (⟨ranksL a a.states.toNat, 0⟩, true) else (⟨[], 0⟩, false)
theorem specStart_eq (a : TAuto) : spec_RankStart a = some (startP a) := by
  unfold spec_RankStart startP spec_l13States
  rw [specAutoOk_eq, Option.bind_some, Option.bind_some]
  show (if (!rankedB a) = true then _ else _) = _
  by_cases h : rankedB a = true
  · have ha : autoOk a = true := by unfold rankedB at h; simp only [Bool.and_eq_true] at h; exact h.1
    rw [if_neg (by simp [h]), if_pos h, specStart_loop (autoOk_A ha)]; rfl
  · rw [if_pos (by simp [h]), if_neg h]
theorem implStart_eq (a : TAuto) : impl_RankStart a = some (startP a) := by
  unfold impl_RankStart startP impl_isRanked impl_rankStart
  rw [implAutoOk_eq, Option.bind_some, Option.bind_some]
  show (if (!rankedB a) = true then _ else _) = _
  by_cases h : rankedB a = true
  · have ha : autoOk a = true := by unfold rankedB at h; simp only [Bool.and_eq_true] at h; exact h.1
    rw [if_neg (by simp [h]), if_pos h, implStart_loop (autoOk_A ha)]; rfl
  · rw [if_pos (by simp [h]), if_neg h]
theorem startP_len (a : TAuto) (h : autoOk a = true → a.states ≤ 31) : (startP a).1.ranks.length ≤ 31 := by
  unfold startP
  split
  · rename_i g
    have ha : autoOk a = true := by unfold rankedB at g; simp only [Bool.and_eq_true] at g; exact g.1
    have := h ha
    rw [ranksL_len]; omega
  · simp
theorem eqRankState_self (r : TRankState) (h : r.ranks.length ≤ 1048576) : laws_eqRankState r r = some true := by
  unfold laws_eqRankState
  rw [eqIntS_self _ h, Option.bind_some, if_neg (by simp), if_neg (by simp)]
theorem pureRankStart (a : TAuto) (w : TAuto.wf a) : laws_FnExactRankStart a = some true := by
  obtain ⟨_, _, _, wl, _⟩ := w
  unfold laws_FnExactRankStart
  by_cases hs : laws_szAuto a 1048576 < 0
  · rw [if_pos hs]
  · rw [if_neg hs]
    have hl : a.edges.length ≤ 1048576 := Classical.byContradiction fun g => hs ((szAuto_eq a wl).mpr g)
    have hr := startP_len a fun h => (autoOk_A h).sts.2
    have he := eqRankState_self (startP a).1 (by omega)
    have hm := markI_eq (startP a).1.ranks (by omega)
    have hh := heldI_eq (startP a).1.ranks (by omega)
    simp only [toAuto_eq a hl, Option.bind_some, eqAuto_eq a hl, specStart_eq, implStart_eq, he, markAuto_eq a (by omega), laws_markRankState, laws_heldRankState, hm, hh]
    simp only [bnd_eq, Bool.not_true, beq_self_eq_true, Bool.or_self, Bool.false_eq_true, if_false, Option.bind_some]
    rw [show (decide (((1 + 4 * a.edges.length : Nat) : Int) < 0)) = false by simp; omega, Bool.not_false, whenO_t, Option.bind_some]
    have hz : ¬ ((1 + (startP a).1.ranks.length : Nat) : Int) < 0 := by omega
    simp only [hz, Bool.not_true, Bool.or_self, Bool.false_eq_true, if_false, Option.bind_some, ne_eq, not_true_eq_false]
end Go.Proofs.Ytllpbgcajgbfbaa
