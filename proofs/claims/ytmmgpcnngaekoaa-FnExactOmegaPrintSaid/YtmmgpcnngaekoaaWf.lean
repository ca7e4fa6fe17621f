/- What numbers and rows an argument may have. -/
import Derived.Test.YtmmgpcnngaekoaaTy
namespace Go.Proofs.Ytmmgpcnngaekoaa
open Go Go.RowKit E
set_option linter.unusedVariables false
def inI (n : Int) : Prop := -9223372036854775808 ≤ n ∧ n ≤ 9223372036854775807
def TNode.wf (d : TNode) : Prop := inI d.kind ∧ inI d.a ∧ inI d.b

def TOmega.wf (d : TOmega) : Prop := (d.stem.length ≤ 9223372036854775807 ∧ ∀ q ∈ d.stem, TNode.wf q) ∧ (d.loop.length ≤ 9223372036854775807 ∧ ∀ q ∈ d.loop, TNode.wf q)

end Go.Proofs.Ytmmgpcnngaekoaa
