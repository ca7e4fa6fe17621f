/- What numbers and rows an argument may have. -/
import Derived.Test.YthdoebgikbfndaaTy
namespace Go.Proofs.Ythdoebgikbfndaa
open Go Go.RowKit E
set_option linter.unusedVariables false
def inI (n : Int) : Prop := -9223372036854775808 ≤ n ∧ n ≤ 9223372036854775807
def TNode.wf (d : TNode) : Prop := inI d.kind ∧ inI d.a ∧ inI d.b

end Go.Proofs.Ythdoebgikbfndaa
