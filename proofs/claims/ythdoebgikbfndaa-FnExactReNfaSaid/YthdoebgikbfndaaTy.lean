/- The program's structures as plain ones, and how they stand to its values. -/
import Derived.Test.YthdoebgikbfndaaF6
namespace Go.Proofs.Ythdoebgikbfndaa
open Go Go.RowKit E
set_option linter.unusedVariables false
structure TNode where
  kind : Int
  a : Int
  b : Int
  deriving Inhabited, DecidableEq
def TNode.av (a : TNode) : AV := .agg [(.int .i64 a.kind), (.int .i64 a.a), (.int .i64 a.b)]

structure TEdge where
  from_ : Int
  letter : Int
  to_ : Int
  good : Bool
  deriving Inhabited, DecidableEq
def TEdge.av (a : TEdge) : AV := .agg [(.int .i64 a.from_), (.int .i64 a.letter), (.int .i64 a.to_), (.bool a.good)]

structure TAuto where
  letters : Int
  states : Int
  start : Int
  edges : (List TEdge)
  deriving Inhabited, DecidableEq
def TAuto.av (a : TAuto) : AV := .agg [(.int .i64 a.letters), (.int .i64 a.states), (.int .i64 a.start), (.list 4 (List.map TEdge.av a.edges))]

structure TNfa where
  auto : TAuto
  final : Int
  deriving Inhabited, DecidableEq
def TNfa.av (a : TNfa) : AV := .agg [(.int .i64 a.auto.letters), (.int .i64 a.auto.states), (.int .i64 a.auto.start), (.list 4 (List.map TEdge.av a.auto.edges)), (.int .i64 a.final)]

structure Tglance where
  null : Bool
  first : Int
  last : Int
  behind : (Nat → Int)
  deriving Inhabited
def Tglance.av (a : Tglance) : AV := .agg [(.bool a.null), (.int .i64 a.first), (.int .i64 a.last), (.int .i64 (a.behind 0)), (.int .i64 (a.behind 1)), (.int .i64 (a.behind 2)), (.int .i64 (a.behind 3)), (.int .i64 (a.behind 4)), (.int .i64 (a.behind 5)), (.int .i64 (a.behind 6)), (.int .i64 (a.behind 7)), (.int .i64 (a.behind 8)), (.int .i64 (a.behind 9)), (.int .i64 (a.behind 10)), (.int .i64 (a.behind 11)), (.int .i64 (a.behind 12)), (.int .i64 (a.behind 13)), (.int .i64 (a.behind 14)), (.int .i64 (a.behind 15)), (.int .i64 (a.behind 16)), (.int .i64 (a.behind 17)), (.int .i64 (a.behind 18)), (.int .i64 (a.behind 19)), (.int .i64 (a.behind 20)), (.int .i64 (a.behind 21)), (.int .i64 (a.behind 22)), (.int .i64 (a.behind 23)), (.int .i64 (a.behind 24)), (.int .i64 (a.behind 25)), (.int .i64 (a.behind 26)), (.int .i64 (a.behind 27)), (.int .i64 (a.behind 28)), (.int .i64 (a.behind 29)), (.int .i64 (a.behind 30)), (.int .i64 (a.behind 31))]

end Go.Proofs.Ythdoebgikbfndaa
