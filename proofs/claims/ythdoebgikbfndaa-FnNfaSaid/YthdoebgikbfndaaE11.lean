/- Whole numbers as sets of bits; variables with a place in memory that are written once. -/
import Derived.Test.YthdoebgikbfndaaE10
namespace Go.Proofs.Ythdoebgikbfndaa.E
open Go Go.RowKit
set_option linter.unusedVariables false

section
variable {P : Program} {o : Oper} {e : Env} {H : Heap} {K : AV → Heap → Prop}
end

section
variable {P : Program} {o : Oper} {e : Env} {H H0 : Heap} {K : AV → Heap → Prop}
end

end Go.Proofs.Ythdoebgikbfndaa.E
