/- Regions in which several heavy operations may come first: each order is walked. -/
import Derived.Test.YthdoebgikbfndaaF4
namespace Go.Proofs.Ythdoebgikbfndaa.E
open Go Go.RowKit
set_option linter.unusedVariables false

/-- Orders of a region: a quiet operation, a heavy one, or a choice. -/
inductive Sch | fin | q (i : Nat) (k : Sch) | h (i : Nat) (k : Sch) | fork (a b : Sch)
namespace Sch
def heads : Sch → List Nat
  | h i _ => [i]
  | fork a b => heads a ++ heads b
  | _ => []
def deep : Sch → Nat
  | fin => 0
  | q _ k => deep k + 1
  | h _ k => deep k + 1
  | fork a b => max (deep a) (deep b)
def ok (ops : Array Oper) : Bool → Array Bool → Sch → Bool
  | top, l, fin => top && (Region.ready .any ops l).isEmpty
  | top, l, q i k => top && (Region.ready .any ops l).contains i && ok ops true (l.setIfInBounds i true) k
  | top, l, h i k => (!top || (Region.ready .any ops l) == [i]) && ok ops true (l.setIfInBounds i true) k
  | top, l, fork a b => (!top || ((Region.ready .any ops l) == heads a ++ heads b && !(heads a ++ heads b).isEmpty)) && ok ops false l a && ok ops false l b
end Sch

section
variable {P : Program} {n : Nat} {ops : Array Oper} {Q : Exit → Env → Heap → Prop}
def ART (P : Program) (ops : Array Oper) (Q : Env → Heap → Prop) : Sch → List (Nat × List Nat) → Env → Heap → Prop
  | .fin, D, e, H => Q e H
  | .q i k, D, e, H => ∃ o, ops[i]? = some o ∧
      ((want ops o e = some false ∧ ART P ops Q k D (putE e o.dst (.tup [])) H) ∨
       (want ops o e = some true ∧ ∃ v Db, Quiet P o e H v Db ∧ (∀ b ∈ Db, H b ≠ none) ∧ ART P ops Q k ((i, Db) :: D) (putE e o.dst v) H))
  | .h i k, D, e, H => ∃ o, ops[i]? = some o ∧ want ops o e = some true ∧
      Heavy P o e H fun v G => (∀ d ∈ D, depT ops ops.size o d.1 = true ∨ ∀ b ∈ d.2, H b ≠ none → G b = H b) ∧ ART P ops Q k D (putE e o.dst v) G
  | .fork a b, D, e, H => ART P ops Q a D e H ∧ ART P ops Q b D e H

end
namespace ART
variable {P : Program} {ops : Array Oper} {K : Env → Heap → Prop} {o : Oper} {e : Env} {H : Heap} {i : Nat} {r : Sch} {D : List (Nat × List Nat)}
end ART
/-- What was read ahead lies apart from what is written. -/
def DBl (ops : Array Oper) (o : Oper) (bs : List Nat) : List (Nat × List Nat) → Prop
  | [] => True
  | d :: r => (depT ops ops.size o d.1 = true ∨ ∀ b ∈ d.2, b ∉ bs) ∧ DBl ops o bs r
def BesL (bs : List Nat) (H G : Heap) : Prop := ∀ c x, c ∉ bs → H c = some x → G c = some x
section
variable {P : Program} {o : Oper} {e : Env} {H : Heap} {ops : Array Oper}
variable {K : AV → Heap → Prop}
end
/-- What was read ahead lies in what a call does not reach. -/
def DFl (ops : Array Oper) (o : Oper) (fs : List Res) : List (Nat × List Nat) → Prop
  | [] => True
  | d :: r => (depT ops ops.size o d.1 = true ∨ ∀ b ∈ d.2, b ∈ fs.flatMap Res.blks) ∧ DFl ops o fs r
def KeepF (F : List Res) (H G : Heap) : Prop := ∀ c ∈ F.flatMap Res.blks, ∀ x, H c = some x → G c = some x
section
variable {P : Program} {o : Oper} {e : Env} {H : Heap} {ops : Array Oper}
end
section
variable {P : Program} {ops : Array Oper} {K : Env → Heap → Prop} {o : Oper} {e : Env} {H : Heap}
end
end Go.Proofs.Ythdoebgikbfndaa.E
