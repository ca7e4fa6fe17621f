/- Structs of three whole numbers are compared. -/
import Derived.Test.YthdoebgikbfndaaF6
import Derived.Laws.StructEq
import Derived.Laws.Tables
import Derived.Laws.Cover2
import Derived.KernelRfl
namespace Go.Proofs.Ythdoebgikbfndaa.E
open Go Go.RowKit
set_option linter.unusedVariables false
section
variable {P : Program} {o : Oper} {e : Env} {H : Heap}
abbrev ag3 (a b c : Int) : Value := .agg #[.int .i64 a, .int .i64 b, .int .i64 c]
end
end Go.Proofs.Ythdoebgikbfndaa.E
