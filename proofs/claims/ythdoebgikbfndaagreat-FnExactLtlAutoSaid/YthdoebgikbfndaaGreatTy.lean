/- The program's structures as plain ones, and how they stand to its values. -/
import Derived.Test.YthdoebgikbfndaaGreatF6
namespace Go.Proofs.YthdoebgikbfndaaGreat
open Go Go.RowKit E
set_option linter.unusedVariables false
structure TNode where
  kind : Int
  a : Int
  b : Int
  deriving Inhabited, DecidableEq
def TNode.av (a : TNode) : AV := .agg [(.int .i64 a.kind), (.int .i64 a.a), (.int .i64 a.b)]

structure TGEdge where
  from_ : Int
  letter : Int
  to_ : Int
  marks : Int
  deriving Inhabited, DecidableEq
def TGEdge.av (a : TGEdge) : AV := .agg [(.int .i64 a.from_), (.int .i64 a.letter), (.int .i64 a.to_), (.int .i64 a.marks)]

structure TGen where
  letters : Int
  states : Int
  start : Int
  sets : Int
  edges : (List TGEdge)
  deriving Inhabited, DecidableEq
def TGen.av (a : TGen) : AV := .agg [(.int .i64 a.letters), (.int .i64 a.states), (.int .i64 a.start), (.int .i64 a.sets), (.list 4 (List.map TGEdge.av a.edges))]

structure TEdge where
  from_ : Int
  letter : Int
  to_ : Int
  good : Bool
  deriving Inhabited, DecidableEq
def TEdge.av (a : TEdge) : AV := .agg [(.int .i64 a.from_), (.int .i64 a.letter), (.int .i64 a.to_), (.bool a.good)]

structure TAuto where
  letters : Int
  states : Int
  start : Int
  edges : (List TEdge)
  deriving Inhabited, DecidableEq
def TAuto.av (a : TAuto) : AV := .agg [(.int .i64 a.letters), (.int .i64 a.states), (.int .i64 a.start), (.list 4 (List.map TEdge.av a.edges))]

end Go.Proofs.YthdoebgikbfndaaGreat
