/- The program's structures as plain ones, and how they stand to its values. -/
import Derived.Test.YtoeeihjhakacfaaF3
namespace Go.Proofs.Ytoeeihjhakacfaa
open Go Go.RowKit E
set_option linter.unusedVariables false
structure TNode where
  kind : Int
  a : Int
  b : Int
  deriving Inhabited, DecidableEq
def TNode.av (a : TNode) : AV := .agg [(.int .i64 a.kind), (.int .i64 a.a), (.int .i64 a.b)]

end Go.Proofs.Ytoeeihjhakacfaa
