/- What numbers and rows an argument may have. -/
import Derived.Test.YtjjlkncefgfljaaTy
namespace Go.Proofs.Ytjjlkncefgfljaa
open Go Go.RowKit E
set_option linter.unusedVariables false
def inI (n : Int) : Prop := -9223372036854775808 ≤ n ∧ n ≤ 9223372036854775807
def TNode.wf (d : TNode) : Prop := inI d.kind ∧ inI d.a ∧ inI d.b

def TWord.wf (d : TWord) : Prop := (d.stem.length ≤ 9223372036854775807 ∧ ∀ q ∈ d.stem, inI q) ∧ (d.loop.length ≤ 9223372036854775807 ∧ ∀ q ∈ d.loop, inI q)

end Go.Proofs.Ytjjlkncefgfljaa
