/- Words copied, held against each other, and counted. -/
import Derived.Test.YtjjlkncefgfljaaDLtlTable
import Derived.Test.YtjjlkncefgfljaaPWordN
import Derived.Test.YtjjlkncefgfljaaPInts
namespace Go.Proofs.Ytjjlkncefgfljaa
open Go Go.RowKit E
set_option linter.unusedVariables false

theorem toWord_eq (w : TWord) (h1 : w.stem.length ≤ 1048576) (h2 : w.loop.length ≤ 1048576) : laws_toWord w = some w := by
  unfold laws_toWord
  rw [toIntS_eq _ h1, Option.bind_some, toIntS_eq _ h2, Option.bind_some]
theorem eqWord_eq (w : TWord) (h1 : w.stem.length ≤ 1048576) (h2 : w.loop.length ≤ 1048576) : laws_eqWord w w = some true := by
  unfold laws_eqWord
  rw [eqIntS_eq _ _ h1, Option.bind_some]
  simp only [decide_true, Bool.not_true, Bool.false_eq_true, if_false]
  rw [eqIntS_eq _ _ h2, Option.bind_some]
  simp
theorem szIntS_eq (xs : List Int) (k : Int) (h : xs.length ≤ 9223372036854775807) (hk : 0 ≤ k ∧ k ≤ 1048576) : laws_szIntS xs k = if (xs.length : Int) ≤ k then k - xs.length else -1 := by
  unfold laws_szIntS
  rw [W, W_eq (by omega) (by omega)]
  split <;> split <;> omega
theorem szWord_eq (w : TWord) (k : Int) (h1 : w.stem.length ≤ 9223372036854775807) (h2 : w.loop.length ≤ 9223372036854775807) (hk : 0 ≤ k ∧ k ≤ 1048576) : laws_szWord w k = if (w.stem.length : Int) + w.loop.length ≤ k then k - w.stem.length - w.loop.length else -1 := by
  unfold laws_szWord
  rw [szIntS_eq _ _ h1 hk]
  by_cases c : (w.stem.length : Int) ≤ k
  · rw [if_pos c, if_neg (by omega), szIntS_eq _ _ h2 (by omega)]
    split
    · split <;> split <;> omega
    · split <;> omega
  · rw [if_neg c, if_pos (by omega), if_neg (by omega)]
end Go.Proofs.Ytjjlkncefgfljaa
