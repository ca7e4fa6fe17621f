/- The members of a set in order. -/
import Derived.Test.YthdclobnmicdaaaDPath
import Derived.Test.YthdclobnmicdaaaPGraph
import Derived.Test.YthdclobnmicdaaaPHasI
import Derived.Test.YthdclobnmicdaaaPAll
namespace Go.Proofs.Ythdclobnmicdaaa
open Go Go.RowKit E
set_option linter.unusedVariables false

def wasN (S n : Nat) : List Nat := (List.range n).filter fun s => S.testBit s
theorem wasN_succ (S n : Nat) : wasN S (n + 1) = if S.testBit n = true then wasN S n ++ [n] else wasN S n := by
  unfold wasN
  rw [List.range_succ, List.filter_append]
  by_cases h : S.testBit n = true
  · rw [if_pos h, List.filter_cons_of_pos h]; rfl
  · rw [if_neg h, List.filter_cons_of_neg h]; simp
theorem wasN_len (S n : Nat) : (wasN S n).length ≤ n := Nat.le_trans (List.length_filter_le _ _) (by simp)
theorem wasN_mem {S n s : Nat} : s ∈ wasN S n ↔ s < n ∧ S.testBit s = true := by unfold wasN; rw [List.mem_filter, List.mem_range]
theorem wasN_nodup (S n : Nat) : (wasN S n).Nodup := List.Pairwise.filter _ List.nodup_range
theorem setList_eq {S n : Nat} (hn : n ≤ 31) (hS : S < 2 ^ n) : impl_SetList (S : Int) = some (ints (wasN S n)) := by
  have h31 : (2 : Nat) ^ 31 = 2147483648 := rfl
  have hSl := lt31 hn hS
  have hw : wasN S 31 = wasN S n := by
    have : ∀ d, n + d ≤ 31 → wasN S (n + d) = wasN S n := by
      intro d
      induction d with
      | zero => intro _; rfl
      | succ d ih =>
        intro hd
        rw [← Nat.add_assoc, wasN_succ, if_neg, ih (by omega)]
        rw [Nat.testBit_lt_two_pow (Nat.lt_of_lt_of_le hS (Nat.pow_le_pow_right (by omega) (by omega)))]
        simp
    have := this (31 - n) (by omega)
    rwa [show n + (31 - n) = 31 by omega] at this
  unfold impl_SetList
  rw [if_neg (by unfold impl_SetOk; rw [inRg]; simp; omega)]
  have L := loop_up (body := fun s : List Int × Int => impl_SetList.b0 (S : Int) s.1 s.2) 31 (fun k => (ints (wasN S k), (k : Int))) (ints (wasN S 31)) (fun k hk => ?_) ?_ 0 (Nat.zero_le _)
  · have L' : loop (fun s : List Int × Int => impl_SetList.b0 (S : Int) s.1 s.2) ([], 0) = _ := L
    rw [L', Option.bind_some, hw]; rfl
  · dsimp only
    unfold impl_SetList.b0
    have hr := wasN_len S k
    rw [if_pos (by omega), has_eq hSl (by omega), Int.toNat_natCast, wasN_succ]
    split
    · rw [app_small (by simp [ints]; omega) (by decide), Option.bind_some, WS (by omega), ints_snoc]
    · rw [WS (by omega)]
  · dsimp only
    unfold impl_SetList.b0
    rw [if_neg (by omega)]
end Go.Proofs.Ythdclobnmicdaaa
