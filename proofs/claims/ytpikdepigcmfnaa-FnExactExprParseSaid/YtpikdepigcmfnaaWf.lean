/- What numbers and rows an argument may have. -/
import Derived.Test.YtpikdepigcmfnaaTy
namespace Go.Proofs.Ytpikdepigcmfnaa
open Go Go.RowKit E
set_option linter.unusedVariables false
def inI (n : Int) : Prop := -9223372036854775808 ≤ n ∧ n ≤ 9223372036854775807
def TNode.wf (d : TNode) : Prop := inI d.kind ∧ inI d.a ∧ inI d.b

def TOmega.wf (d : TOmega) : Prop := (d.stem.length ≤ 9223372036854775807 ∧ ∀ q ∈ d.stem, TNode.wf q) ∧ (d.loop.length ≤ 9223372036854775807 ∧ ∀ q ∈ d.loop, TNode.wf q)

def TEdge.wf (d : TEdge) : Prop := inI d.from_ ∧ inI d.letter ∧ inI d.to_ ∧ True

def TAuto.wf (d : TAuto) : Prop := inI d.letters ∧ inI d.states ∧ inI d.start ∧ (d.edges.length ≤ 9223372036854775807 ∧ ∀ q ∈ d.edges, TEdge.wf q)

def TNfa.wf (d : TNfa) : Prop := TAuto.wf d.auto ∧ inI d.final

end Go.Proofs.Ytpikdepigcmfnaa
