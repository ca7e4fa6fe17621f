/- What is appended to, and written no more from then on. -/
import Derived.Test.YthdoebgikbfndaaF7
namespace Go.Proofs.Ythdoebgikbfndaa.E
open Go Go.RowKit
set_option linter.unusedVariables false
section
variable {P : Program} {o : Oper} {e : Env} {H : Heap} {K : AV → Heap → Prop}
end
end Go.Proofs.Ythdoebgikbfndaa.E
