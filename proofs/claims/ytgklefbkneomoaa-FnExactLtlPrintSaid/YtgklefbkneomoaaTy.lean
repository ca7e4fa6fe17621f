/- The program's structures as plain ones, and how they stand to its values. -/
import Derived.Test.YtgklefbkneomoaaF4
namespace Go.Proofs.Ytgklefbkneomoaa
open Go Go.RowKit E
set_option linter.unusedVariables false
structure TNode where
  kind : Int
  a : Int
  b : Int
  deriving Inhabited, DecidableEq
def TNode.av (a : TNode) : AV := .agg [(.int .i64 a.kind), (.int .i64 a.a), (.int .i64 a.b)]

structure Treader where
  s : ByteArray
  at_ : Int
  code : Int
  list : (List TNode)
  deriving Inhabited, DecidableEq
def Treader.av (a : Treader) : AV := .agg [(.str a.s), (.int .i64 a.at_), (.int .i64 a.code), (.list 3 (List.map TNode.av a.list)), .undef]

end Go.Proofs.Ytgklefbkneomoaa
