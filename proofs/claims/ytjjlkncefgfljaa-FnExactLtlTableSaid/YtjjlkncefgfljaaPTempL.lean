/- Places of the nodes of time. -/
import Derived.Test.YtjjlkncefgfljaaQ1
import Derived.Test.YtjjlkncefgfljaaTy
namespace Go.Proofs.Ytjjlkncefgfljaa
open Go Go.RowKit E
set_option linter.unusedVariables false

def tempL : Nat → List TNode → List Int
  | _, [] => []
  | k, n :: r => if n.kind ≥ 7 then (k : Int) :: tempL (k + 1) r else tempL (k + 1) r
theorem tempL_len : ∀ (r : List TNode) (k : Nat), (tempL k r).length ≤ r.length
  | [], _ => Nat.le_refl _
  | n :: r, k => by
    have := tempL_len r (k + 1)
    unfold tempL
    split
    · simp; omega
    · simp; omega
theorem temp_loop {body : List Int × Int → Option ((List Int × Int) ⊕ List Int)} (e : List TNode) (he : e.length ≤ 31) (hb : ∀ y x, body (y, x) = if x < (e.length : Int) then (ix e x).bind fun a => if a.kind ≥ 7 then (app 8 y [x]).bind fun z => some (.inl (z, W (x + 1))) else some (.inl (y, W (x + 1))) else some (.inr y)) : ∀ (r pre : List TNode) (y : List Int), e = pre ++ r → y.length ≤ pre.length → loop body (y, (pre.length : Int)) = some (y ++ tempL pre.length r)
  | [], pre, y, h, hy => loop_end (by rw [hb, if_neg (by rw [h]; simp)]; simp [tempL])
  | n :: r, pre, y, h, hy => by
    have hl : pre.length + (r.length + 1) = e.length := by rw [h]; simp
    have w4 : W ((pre.length : Int) + 1) = (((pre ++ [n]).length : Nat) : Int) := by rw [W, W_eq (by omega) (by omega)]; simp
    have hix : ix e (pre.length : Int) = some n := by rw [h]; exact ix_mid pre n r
    by_cases c : n.kind ≥ 7
    · rw [loop_go (s' := (y ++ [(pre.length : Int)], (((pre ++ [n]).length : Nat) : Int)))]
      · rw [temp_loop e he hb r (pre ++ [n]) _ (by rw [h]; simp) (by simp; omega)]
        simp [tempL, c]
      · rw [hb, if_pos (by omega), hix, Option.bind_some, if_pos c, app_small (by simp; omega) (by omega), Option.bind_some, w4]
    · rw [loop_go (s' := (y, (((pre ++ [n]).length : Nat) : Int)))]
      · rw [temp_loop e he hb r (pre ++ [n]) _ (by rw [h]; simp) (by simp; omega)]
        simp [tempL, c]
      · rw [hb, if_pos (by omega), hix, Option.bind_some, if_neg c, w4]
end Go.Proofs.Ytjjlkncefgfljaa
