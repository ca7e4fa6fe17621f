/- What numbers and rows an argument may have. -/
import Derived.Test.YthdclobnmicdaaaTy
namespace Go.Proofs.Ythdclobnmicdaaa
open Go Go.RowKit E
set_option linter.unusedVariables false
def inI (n : Int) : Prop := -9223372036854775808 ≤ n ∧ n ≤ 9223372036854775807
def TGEdge.wf (d : TGEdge) : Prop := inI d.from_ ∧ inI d.letter ∧ inI d.to_ ∧ inI d.marks

def TGen.wf (d : TGen) : Prop := inI d.letters ∧ inI d.states ∧ inI d.start ∧ inI d.sets ∧ (d.edges.length ≤ 9223372036854775807 ∧ ∀ q ∈ d.edges, TGEdge.wf q)

def TWord.wf (d : TWord) : Prop := (d.stem.length ≤ 9223372036854775807 ∧ ∀ q ∈ d.stem, inI q) ∧ (d.loop.length ≤ 9223372036854775807 ∧ ∀ q ∈ d.loop, inI q)

end Go.Proofs.Ythdclobnmicdaaa
