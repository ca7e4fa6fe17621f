/- The program's structures as plain ones, and how they stand to its values. -/
import Derived.Test.YtllpbgcajgbfbaaF6
namespace Go.Proofs.Ytllpbgcajgbfbaa
open Go Go.RowKit E
set_option linter.unusedVariables false
structure Tl1Cur where
  b : (List Int)
  i : Int
  h : Int
  deriving Inhabited, DecidableEq
def Tl1Cur.av (a : Tl1Cur) : AV := .agg [(.list 1 (List.map (AV.int .u8) a.b)), (.int .i64 a.i), (.int .i64 a.h)]

structure TEdge where
  from_ : Int
  letter : Int
  to_ : Int
  good : Bool
  deriving Inhabited, DecidableEq
def TEdge.av (a : TEdge) : AV := .agg [(.int .i64 a.from_), (.int .i64 a.letter), (.int .i64 a.to_), (.bool a.good)]

structure TAuto where
  letters : Int
  states : Int
  start : Int
  edges : (List TEdge)
  deriving Inhabited, DecidableEq
def TAuto.av (a : TAuto) : AV := .agg [(.int .i64 a.letters), (.int .i64 a.states), (.int .i64 a.start), (.list 4 (List.map TEdge.av a.edges))]

structure TRankState where
  ranks : (List Int)
  owing : Int
  deriving Inhabited, DecidableEq
def TRankState.av (a : TRankState) : AV := .agg [(.list 1 (List.map (AV.int .i64) a.ranks)), (.int .i64 a.owing)]

end Go.Proofs.Ytllpbgcajgbfbaa
