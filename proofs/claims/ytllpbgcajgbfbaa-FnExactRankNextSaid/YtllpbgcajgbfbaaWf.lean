/- What numbers and rows an argument may have. -/
import Derived.Test.YtllpbgcajgbfbaaTy
namespace Go.Proofs.Ytllpbgcajgbfbaa
open Go Go.RowKit E
set_option linter.unusedVariables false
def inI (n : Int) : Prop := -9223372036854775808 ≤ n ∧ n ≤ 9223372036854775807
def TEdge.wf (d : TEdge) : Prop := inI d.from_ ∧ inI d.letter ∧ inI d.to_ ∧ True

def TAuto.wf (d : TAuto) : Prop := inI d.letters ∧ inI d.states ∧ inI d.start ∧ (d.edges.length ≤ 9223372036854775807 ∧ ∀ q ∈ d.edges, TEdge.wf q)

def TRankState.wf (d : TRankState) : Prop := (d.ranks.length ≤ 9223372036854775807 ∧ ∀ q ∈ d.ranks, inI q) ∧ inI d.owing

end Go.Proofs.Ytllpbgcajgbfbaa
