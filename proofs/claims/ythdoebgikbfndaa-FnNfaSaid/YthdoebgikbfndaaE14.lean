/- Rows compared with nil. -/
import Derived.Test.YthdoebgikbfndaaE13
import Derived.WalkSpells
namespace Go.Proofs.Ythdoebgikbfndaa.E
open Go Go.RowKit
set_option linter.unusedVariables false
section
variable {P : Program} {o : Oper} {e : Env} {H : Heap} {K : AV → Heap → Prop}
end
end Go.Proofs.Ythdoebgikbfndaa.E
