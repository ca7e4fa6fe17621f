/- Places of the nodes of time; nodes that are too many. -/
import Derived.Test.YtjjlkncefgfljaaDLtlTable
import Derived.Test.YtjjlkncefgfljaaPTempL
namespace Go.Proofs.Ytjjlkncefgfljaa
open Go Go.RowKit E
set_option linter.unusedVariables false

theorem szNodeS_eq (xs : List TNode) (k : Int) (h : xs.length ≤ 9223372036854775807) (hk : 0 ≤ k ∧ k ≤ 1048576) : laws_szNodeS xs k = if (xs.length : Int) ≤ k then k - xs.length else -1 := by
  unfold laws_szNodeS
  rw [W, W_eq (by omega) (by omega)]
  split <;> split <;> omega
end Go.Proofs.Ytjjlkncefgfljaa
