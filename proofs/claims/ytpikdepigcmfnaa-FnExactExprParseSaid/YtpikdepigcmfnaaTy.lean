/- The program's structures as plain ones, and how they stand to its values. -/
import Derived.Test.YtpikdepigcmfnaaF3
namespace Go.Proofs.Ytpikdepigcmfnaa
open Go Go.RowKit E
set_option linter.unusedVariables false
structure TNode where
  kind : Int
  a : Int
  b : Int
  deriving Inhabited, DecidableEq
def TNode.av (a : TNode) : AV := .agg [(.int .i64 a.kind), (.int .i64 a.a), (.int .i64 a.b)]

structure Treader where
  s : ByteArray
  at_ : Int
  code : Int
  list : (List TNode)
  deriving Inhabited, DecidableEq
def Treader.av (a : Treader) : AV := .agg [(.str a.s), (.int .i64 a.at_), (.int .i64 a.code), (.list 3 (List.map TNode.av a.list)), .undef]

structure TOmega where
  stem : (List TNode)
  loop : (List TNode)
  deriving Inhabited, DecidableEq
def TOmega.av (a : TOmega) : AV := .agg [(.list 3 (List.map TNode.av a.stem)), (.list 3 (List.map TNode.av a.loop))]

structure Tl1Cur where
  b : (List Int)
  i : Int
  h : Int
  deriving Inhabited, DecidableEq
def Tl1Cur.av (a : Tl1Cur) : AV := .agg [(.list 1 (List.map (AV.int .u8) a.b)), (.int .i64 a.i), (.int .i64 a.h)]

structure TEdge where
  from_ : Int
  letter : Int
  to_ : Int
  good : Bool
  deriving Inhabited, DecidableEq
def TEdge.av (a : TEdge) : AV := .agg [(.int .i64 a.from_), (.int .i64 a.letter), (.int .i64 a.to_), (.bool a.good)]

structure TAuto where
  letters : Int
  states : Int
  start : Int
  edges : (List TEdge)
  deriving Inhabited, DecidableEq
def TAuto.av (a : TAuto) : AV := .agg [(.int .i64 a.letters), (.int .i64 a.states), (.int .i64 a.start), (.list 4 (List.map TEdge.av a.edges))]

structure TNfa where
  auto : TAuto
  final : Int
  deriving Inhabited, DecidableEq
def TNfa.av (a : TNfa) : AV := .agg [(.int .i64 a.auto.letters), (.int .i64 a.auto.states), (.int .i64 a.auto.start), (.list 4 (List.map TEdge.av a.auto.edges)), (.int .i64 a.final)]

end Go.Proofs.Ytpikdepigcmfnaa
