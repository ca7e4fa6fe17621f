/- The program's list of nodes: one more, with one part or two. -/
import Derived.Test.YtjjlkncefgfljaaDPair8
import Derived.Test.YtjjlkncefgfljaaQ1
namespace Go.Proofs.Ytjjlkncefgfljaa
open Go Go.RowKit E
set_option linter.unusedVariables false

theorem two_eq {s : ByteArray} {i c : Int} {l : List TNode} {k a : Int} (h : l.length ≤ 1000000000000) : impl_reader_two ⟨s, i, c, l⟩ k a = some ⟨s, i, c, l ++ [TNode.mk k a (W ((l.length : Int) - 1))]⟩ := by
  unfold impl_reader_two
  show (app 24 l _).bind _ = _
  rw [app_ok (by simp; omega) (by simp; omega)]; rfl
end Go.Proofs.Ytjjlkncefgfljaa
