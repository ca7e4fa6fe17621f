/- The program's structures as plain ones, and how they stand to its values. -/
import Derived.Test.YtmmgpcnngaekoaaF6
namespace Go.Proofs.Ytmmgpcnngaekoaa
open Go Go.RowKit E
set_option linter.unusedVariables false
structure Tl1Cur where
  b : (List Int)
  i : Int
  h : Int
  deriving Inhabited, DecidableEq
def Tl1Cur.av (a : Tl1Cur) : AV := .agg [(.list 1 (List.map (AV.int .u8) a.b)), (.int .i64 a.i), (.int .i64 a.h)]

structure TNode where
  kind : Int
  a : Int
  b : Int
  deriving Inhabited, DecidableEq
def TNode.av (a : TNode) : AV := .agg [(.int .i64 a.kind), (.int .i64 a.a), (.int .i64 a.b)]

structure TOmega where
  stem : (List TNode)
  loop : (List TNode)
  deriving Inhabited, DecidableEq
def TOmega.av (a : TOmega) : AV := .agg [(.list 3 (List.map TNode.av a.stem)), (.list 3 (List.map TNode.av a.loop))]

structure Treader where
  s : ByteArray
  at_ : Int
  code : Int
  list : (List TNode)
  deriving Inhabited, DecidableEq
def Treader.av (a : Treader) : AV := .agg [(.str a.s), (.int .i64 a.at_), (.int .i64 a.code), (.list 3 (List.map TNode.av a.list)), .undef]

end Go.Proofs.Ytmmgpcnngaekoaa
