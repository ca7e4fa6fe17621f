/- The program's structures as plain ones, and how they stand to its values. -/
import Derived.Test.YtcmbbpdepobnlaaF6
namespace Go.Proofs.Ytcmbbpdepobnlaa
open Go Go.RowKit E
set_option linter.unusedVariables false
structure TEdge where
  from_ : Int
  letter : Int
  to_ : Int
  good : Bool
  deriving Inhabited, DecidableEq
def TEdge.av (a : TEdge) : AV := .agg [(.int .i64 a.from_), (.int .i64 a.letter), (.int .i64 a.to_), (.bool a.good)]

structure TAuto where
  letters : Int
  states : Int
  start : Int
  edges : (List TEdge)
  deriving Inhabited, DecidableEq
def TAuto.av (a : TAuto) : AV := .agg [(.int .i64 a.letters), (.int .i64 a.states), (.int .i64 a.start), (.list 4 (List.map TEdge.av a.edges))]

structure TBoxed where
  word : (List Int)
  box : (List Int)
  deriving Inhabited, DecidableEq
def TBoxed.av (a : TBoxed) : AV := .agg [(.list 1 (List.map (AV.int .i64) a.word)), (.list 1 (List.map (AV.int .i64) a.box))]

structure Ttwin where
  word : (List Int)
  a : (List Int)
  b : (List Int)
  deriving Inhabited, DecidableEq
def Ttwin.av (a : Ttwin) : AV := .agg [(.list 1 (List.map (AV.int .i64) a.word)), (.list 1 (List.map (AV.int .i64) a.a)), (.list 1 (List.map (AV.int .i64) a.b))]

end Go.Proofs.Ytcmbbpdepobnlaa
