/- Rows of things that hold rows of their own: the rows of them all in one pool. -/
import Derived.Test.YthdoebgikbfndaaF8
namespace Go.Proofs.Ythdoebgikbfndaa.E
open Go Go.RowKit
set_option linter.unusedVariables false
section
variable {P : Program} {o : Oper} {e : Env} {H : Heap}
end
end Go.Proofs.Ythdoebgikbfndaa.E
