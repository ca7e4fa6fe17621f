/- Sizes of trees put together. -/
import Derived.Test.YtmmgpcnngaekoaaPTree2
namespace Go.Proofs.Ytmmgpcnngaekoaa
open Go Go.RowKit E
set_option linter.unusedVariables false

theorem sizesFrom_app (p : TNode → Int) : ∀ (a b : List TNode) (ss s1 : List Int), sizesFrom p ss a = some s1 → sizesFrom p ss (a ++ b) = sizesFrom p s1 b
  | [], b, ss, s1, h => by unfold sizesFrom at h; cases h; rfl
  | n :: a, b, ss, s1, h => by
    unfold sizesFrom at h
    show sizesFrom p ss (n :: (a ++ b)) = _
    rw [sizesFrom]
    cases hs : sizeStep p ss n with
    | none => rw [hs] at h; cases h
    | some s => rw [hs] at h; exact sizesFrom_app p a b s s1 h
theorem getD_shift (s0 ss : List Int) (j : Nat) : (s0 ++ ss).getD (s0.length + j) 0 = ss.getD j 0 := by
  rw [List.getD_eq_getElem?_getD, List.getD_eq_getElem?_getD, List.getElem?_append_right (by omega)]
  congr 2; omega
theorem treeOk_sizes {p : TNode → Int} {e : List TNode} (h : treeOk p e = true) : ∃ s, sizesFrom p [] e = some s ∧ s.length = e.length ∧ s.getD (e.length - 1) 0 = e.length ∧ 1 ≤ e.length ∧ e.length ≤ 31 := by
  unfold treeOk at h
  rw [Bool.and_eq_true, decide_eq_true_eq] at h
  obtain ⟨h1, h2⟩ := h
  cases hs : sizesFrom p [] e with
  | none => rw [hs] at h2; cases h2
  | some s =>
    rw [hs] at h2
    have := (sizesFrom_sized Sized.nil hs).2
    exact ⟨s, rfl, by simpa using this, of_decide_eq_true h2, h1⟩
theorem treeOk_of {p : TNode → Int} {e : List TNode} {s : List Int} (h : sizesFrom p [] e = some s) (h1 : 1 ≤ e.length) (h2 : e.length ≤ 31) (h3 : s.getD (e.length - 1) 0 = e.length) : treeOk p e = true := by
  unfold treeOk
  rw [h]
  simp only [Bool.and_eq_true, decide_eq_true_eq]
  exact ⟨⟨h1, h2⟩, h3⟩
theorem getD_last (s : List Int) (x : Int) : (s ++ [x]).getD s.length 0 = x := by rw [getD_app]; simp
end Go.Proofs.Ytmmgpcnngaekoaa
