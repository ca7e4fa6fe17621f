/- The program's structures as plain ones, and how they stand to its values. -/
import Derived.Test.YtjjlkncefgfljaaF6
namespace Go.Proofs.Ytjjlkncefgfljaa
open Go Go.RowKit E
set_option linter.unusedVariables false
structure Tl1Cur where
  b : (List Int)
  i : Int
  h : Int
  deriving Inhabited, DecidableEq
def Tl1Cur.av (a : Tl1Cur) : AV := .agg [(.list 1 (List.map (AV.int .u8) a.b)), (.int .i64 a.i), (.int .i64 a.h)]

structure TNode where
  kind : Int
  a : Int
  b : Int
  deriving Inhabited, DecidableEq
def TNode.av (a : TNode) : AV := .agg [(.int .i64 a.kind), (.int .i64 a.a), (.int .i64 a.b)]

structure TWord where
  stem : (List Int)
  loop : (List Int)
  deriving Inhabited, DecidableEq
def TWord.av (a : TWord) : AV := .agg [(.list 1 (List.map (AV.int .i64) a.stem)), (.list 1 (List.map (AV.int .i64) a.loop))]

structure Treader where
  s : ByteArray
  at_ : Int
  code : Int
  list : (List TNode)
  deriving Inhabited, DecidableEq
def Treader.av (a : Treader) : AV := .agg [(.str a.s), (.int .i64 a.at_), (.int .i64 a.code), (.list 3 (List.map TNode.av a.list)), .undef]

end Go.Proofs.Ytjjlkncefgfljaa
