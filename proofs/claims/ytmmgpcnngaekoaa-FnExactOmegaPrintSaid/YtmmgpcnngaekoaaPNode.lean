/- Lists of nodes: copied as they are, held against each other. -/
import Derived.Test.YtmmgpcnngaekoaaDOmegaPrint
import Derived.Test.YtmmgpcnngaekoaaQ0
namespace Go.Proofs.Ytmmgpcnngaekoaa
open Go Go.RowKit E
set_option linter.unusedVariables false

theorem toNodeS_eq (xs : List TNode) (h : xs.length ≤ 1048576) : laws_toNodeS xs = some xs := by
  unfold laws_toNodeS
  rw [mk_ok (by omega) (by omega), Option.bind_some, Int.toNat_natCast]
  have h1 := copy_loop (fun a => some (laws_toNode a)) laws_toNode (fun _ => rfl) (TNode.mk 0 0 0) xs (by omega)
  have h2 : loop (fun s : List TNode × Int => laws_toNodeS.b0 xs s.1 s.2) (List.replicate xs.length (TNode.mk 0 0 0), 0) = some (xs.map laws_toNode) := h1
  rw [h2, Option.bind_some]
  have : xs.map laws_toNode = xs := by
    have : laws_toNode = id := rfl
    rw [this]; simp
  rw [this]; rfl
theorem eqNode_eq (a b : TNode) : laws_eqNode a b = decide (a = b) := by
  unfold laws_eqNode
  cases a; cases b
  simp only [TNode.mk.injEq]
  split
  · simp_all
  · split
    · simp_all
    · split <;> simp_all
theorem eqNodeS_eq (xs ys : List TNode) (h : xs.length ≤ 1048576) : laws_eqNodeS xs ys = some (decide (xs = ys)) := by
  unfold laws_eqNodeS
  split
  · rename_i k; rw [decide_eq_false]; intro e; subst e; exact k rfl
  · rename_i k
    have h1 := eq_loop (fun a b => some (laws_eqNode a b)) (fun a b => by rw [eqNode_eq]) xs ys (by omega) (by omega)
    have h2 : loop (fun s : Int => laws_eqNodeS.b0 xs ys s) 0 = some (if xs = ys then (.inl () : Unit ⊕ Bool) else .inr false) := h1
    rw [h2, Option.bind_some]
    by_cases e : xs = ys
    · rw [if_pos e]; simp [e, laws_eqNodeS.k0]
    · rw [if_neg e]; simp [e]
end Go.Proofs.Ytmmgpcnngaekoaa
