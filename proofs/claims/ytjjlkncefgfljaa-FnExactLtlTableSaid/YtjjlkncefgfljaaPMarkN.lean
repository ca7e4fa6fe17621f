/- Nodes marked. -/
import Derived.Test.YtjjlkncefgfljaaDLtlTable
import Derived.Test.YtjjlkncefgfljaaQ1
namespace Go.Proofs.Ytjjlkncefgfljaa
open Go Go.RowKit E
set_option linter.unusedVariables false

def markL (c : Nat) : List TNode → List TNode
  | [] => []
  | _ :: r => TNode.mk (c : Int) ((c : Int) + 1) ((c : Int) + 2) :: markL (c + 3) r
theorem markL_len : ∀ (r : List TNode) (c : Nat), (markL c r).length = r.length
  | [], c => rfl
  | _ :: r, c => by simp [markL, markL_len r]
theorem mark_loop : ∀ (r pre : List TNode) (c : Nat), c + 3 * r.length ≤ 1000000000 → pre.length + r.length ≤ 1000000000 → loop (fun s : List TNode × Int × Int => laws_markNodeS.b0 s.1 s.2.1 s.2.2) (pre ++ r, (c : Int), (pre.length : Int)) = some (((c + 3 * r.length : Nat) : Int), pre ++ markL c r)
  | [], pre, c, _, _ => loop_end (by dsimp only; unfold laws_markNodeS.b0; rw [if_neg (by simp)]; simp [markL])
  | x :: r, pre, c, h1, h2 => by
    simp only [List.length_cons] at h1 h2
    have w1 : W ((c : Int) + 1) = (c : Int) + 1 := W_eq (by omega) (by omega)
    have w2 : W ((c : Int) + 1 + 1) = (c : Int) + 2 := by rw [W, W_eq (by omega) (by omega)]; omega
    have w3 : W ((c : Int) + 2 + 1) = ((c + 3 : Nat) : Int) := by rw [W, W_eq (by omega) (by omega)]; omega
    have w4 : W ((pre.length : Int) + 1) = (((pre ++ [TNode.mk (c : Int) ((c : Int) + 1) ((c : Int) + 2)]).length : Nat) : Int) := by rw [W, W_eq (by omega) (by omega)]; simp
    have ih := mark_loop r (pre ++ [TNode.mk (c : Int) ((c : Int) + 1) ((c : Int) + 2)]) (c + 3) (by omega) (by simp; omega)
    rw [loop_go (s' := (pre ++ TNode.mk (c : Int) ((c : Int) + 1) ((c : Int) + 2) :: r, ((c + 3 : Nat) : Int), (((pre ++ [TNode.mk (c : Int) ((c : Int) + 1) ((c : Int) + 2)]).length : Nat) : Int)))]
    · rw [List.append_assoc, List.singleton_append] at ih
      rw [ih]
      simp only [List.length_cons, markL, List.append_assoc, List.singleton_append]
      rw [show c + 3 + 3 * r.length = c + 3 * (r.length + 1) by omega]
    · dsimp only; unfold laws_markNodeS.b0
      rw [if_pos (by simp; omega)]
      simp only [ck_mid, Option.bind_some, set_mid, w1, w2, w3, w4]
      simp
theorem mark_from (xs : List TNode) (c : Nat) (h : xs.length ≤ 2000000) (hc : c ≤ 20000000) : laws_markNodeS xs (c : Int) = some (((c + 3 * xs.length : Nat) : Int), markL c xs) := by
  unfold laws_markNodeS
  have := mark_loop xs [] c (by omega) (by simp; omega)
  simp only [List.nil_append] at this
  have e : loop (fun s : List TNode × Int × Int => laws_markNodeS.b0 s.1 s.2.1 s.2.2) (xs, (c : Int), 0) = _ := this
  rw [e]; rfl
theorem mark_eq (xs : List TNode) (h : xs.length ≤ 2000000) : laws_markNodeS xs 1 = some (((1 + 3 * xs.length : Nat) : Int), markL 1 xs) := mark_from xs 1 h (by omega)
end Go.Proofs.Ytjjlkncefgfljaa
