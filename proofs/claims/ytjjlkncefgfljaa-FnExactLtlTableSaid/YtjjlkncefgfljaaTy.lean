/- The program's structures as plain ones, and how they stand to its values. -/
import Derived.Test.YtjjlkncefgfljaaF6
namespace Go.Proofs.Ytjjlkncefgfljaa
open Go Go.RowKit E
set_option linter.unusedVariables false
structure TNode where
  kind : Int
  a : Int
  b : Int
  deriving Inhabited, DecidableEq
def TNode.av (a : TNode) : AV := .agg [(.int .i64 a.kind), (.int .i64 a.a), (.int .i64 a.b)]

structure TWord where
  stem : (List Int)
  loop : (List Int)
  deriving Inhabited, DecidableEq
def TWord.av (a : TWord) : AV := .agg [(.list 1 (List.map (AV.int .i64) a.stem)), (.list 1 (List.map (AV.int .i64) a.loop))]

end Go.Proofs.Ytjjlkncefgfljaa
