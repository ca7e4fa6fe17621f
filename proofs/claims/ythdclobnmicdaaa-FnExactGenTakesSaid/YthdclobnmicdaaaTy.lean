/- The program's structures as plain ones, and how they stand to its values. -/
import Derived.Test.YthdclobnmicdaaaF6
namespace Go.Proofs.Ythdclobnmicdaaa
open Go Go.RowKit E
set_option linter.unusedVariables false
structure TGEdge where
  from_ : Int
  letter : Int
  to_ : Int
  marks : Int
  deriving Inhabited, DecidableEq
def TGEdge.av (a : TGEdge) : AV := .agg [(.int .i64 a.from_), (.int .i64 a.letter), (.int .i64 a.to_), (.int .i64 a.marks)]

structure TGen where
  letters : Int
  states : Int
  start : Int
  sets : Int
  edges : (List TGEdge)
  deriving Inhabited, DecidableEq
def TGen.av (a : TGen) : AV := .agg [(.int .i64 a.letters), (.int .i64 a.states), (.int .i64 a.start), (.int .i64 a.sets), (.list 4 (List.map TGEdge.av a.edges))]

structure TWord where
  stem : (List Int)
  loop : (List Int)
  deriving Inhabited, DecidableEq
def TWord.av (a : TWord) : AV := .agg [(.list 1 (List.map (AV.int .i64) a.stem)), (.list 1 (List.map (AV.int .i64) a.loop))]

structure TEdge where
  from_ : Int
  letter : Int
  to_ : Int
  good : Bool
  deriving Inhabited, DecidableEq
def TEdge.av (a : TEdge) : AV := .agg [(.int .i64 a.from_), (.int .i64 a.letter), (.int .i64 a.to_), (.bool a.good)]

structure Tstep where
  to_ : Int
  marks : Int
  deriving Inhabited, DecidableEq
def Tstep.av (a : Tstep) : AV := .agg [(.int .i64 a.to_), (.int .i64 a.marks)]

structure Tgraph where
  next_ : (List (List Tstep))
  deriving Inhabited, DecidableEq
def Tgraph.av (a : Tgraph) : AV := .agg [(.list 1 (List.map (fun xs : (List Tstep) => AV.list 2 (List.map Tstep.av xs)) a.next_))]

structure Tplace where
  point : Int
  at_ : Int
  deriving Inhabited, DecidableEq
def Tplace.av (a : Tplace) : AV := .agg [(.int .i64 a.point), (.int .i64 a.at_)]

end Go.Proofs.Ythdclobnmicdaaa
