/- The program's structures as plain ones, and how they stand to its values. -/
import Derived.Test.YtmmgpcnngaekoaaF6
namespace Go.Proofs.Ytmmgpcnngaekoaa
open Go Go.RowKit E
set_option linter.unusedVariables false
structure TNode where
  kind : Int
  a : Int
  b : Int
  deriving Inhabited, DecidableEq
def TNode.av (a : TNode) : AV := .agg [(.int .i64 a.kind), (.int .i64 a.a), (.int .i64 a.b)]

structure TOmega where
  stem : (List TNode)
  loop : (List TNode)
  deriving Inhabited, DecidableEq
def TOmega.av (a : TOmega) : AV := .agg [(.list 3 (List.map TNode.av a.stem)), (.list 3 (List.map TNode.av a.loop))]

end Go.Proofs.Ytmmgpcnngaekoaa
