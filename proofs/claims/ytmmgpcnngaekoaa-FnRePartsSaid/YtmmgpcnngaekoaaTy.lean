/- The program's structures as plain ones, and how they stand to its values. -/
import Derived.Test.YtmmgpcnngaekoaaF6
namespace Go.Proofs.Ytmmgpcnngaekoaa
open Go Go.RowKit E
set_option linter.unusedVariables false
structure Tl1Cur where
  b : (List Int)
  i : Int
  h : Int
  deriving Inhabited, DecidableEq
def Tl1Cur.av (a : Tl1Cur) : AV := .agg [(.list 1 (List.map (AV.int .u8) a.b)), (.int .i64 a.i), (.int .i64 a.h)]

structure TNode where
  kind : Int
  a : Int
  b : Int
  deriving Inhabited, DecidableEq
def TNode.av (a : TNode) : AV := .agg [(.int .i64 a.kind), (.int .i64 a.a), (.int .i64 a.b)]

end Go.Proofs.Ytmmgpcnngaekoaa
