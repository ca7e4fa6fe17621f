/- What a node of a formula says, by its parts, the letter, and what is so from the next place on. -/
import Derived.Test.YtjjlkncefgfljaaPTree2
namespace Go.Proofs.Ytjjlkncefgfljaa
open Go Go.RowKit E
set_option linter.unusedVariables false

def soV (n : TNode) (ts : List Bool) (l : Nat) (bit : Bool) : Bool :=
  if n.kind = 1 then true else if n.kind = 3 then l.testBit n.a.toNat else if n.kind = 4 then !(ts.getD n.a.toNat default)
  else if n.kind = 5 then (ts.getD n.a.toNat default && ts.getD n.b.toNat default) else if n.kind = 6 then (ts.getD n.a.toNat default || ts.getD n.b.toNat default)
  else if n.kind = 7 then bit else if n.kind = 8 then (ts.getD n.b.toNat default || (ts.getD n.a.toNat default && bit))
  else if n.kind = 9 then (ts.getD n.b.toNat default && (ts.getD n.a.toNat default || bit))
  else if n.kind = 10 then (ts.getD n.a.toNat default || bit) else if n.kind = 11 then (ts.getD n.a.toNat default && bit) else false
end Go.Proofs.Ytjjlkncefgfljaa
