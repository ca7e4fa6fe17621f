/- Regexes: the program and the reference find the same ones right. -/
import Derived.Test.YtmmgpcnngaekoaaDOmegaPrint
import Derived.Test.YtmmgpcnngaekoaaPTree
import Derived.Test.YtmmgpcnngaekoaaPTree2
namespace Go.Proofs.Ytmmgpcnngaekoaa
open Go Go.RowKit E
set_option linter.unusedVariables false

theorem reLeaf_eq (n : TNode) (m : Int) : impl_leaf n m = if n.b = 0 ∧ 0 ≤ n.a ∧ n.a ≤ m then 0 else -1 := by
  unfold impl_leaf
  simp only [bnd, inRange_eq, Bool.and_eq_true, decide_eq_true_eq]
noncomputable abbrev reP : TNode → Int := impl_reParts
theorem reP_eq (n : TNode) : reP n = if n.kind = 1 ∨ n.kind = 2 then (if n.b = 0 ∧ n.a = 0 then 0 else -1) else if n.kind = 3 then (if n.b = 0 ∧ 0 ≤ n.a ∧ n.a ≤ 7 then 0 else -1) else if n.kind = 4 then 1 else if n.kind = 5 ∨ n.kind = 6 then 2 else -1 := by
  unfold reP impl_reParts impl_reParts.k0
  simp only [reLeaf_eq, decide_eq_true_eq]
  (repeat' split) <;> first | rfl | omega
theorem l11Parts_eq (k : Int) : spec_l11Parts k = if k = 1 ∨ k = 2 ∨ k = 3 then 0 else if k = 4 then 1 else if k = 5 ∨ k = 6 then 2 else -1 := by
  unfold spec_l11Parts spec_l11Parts.k0
  simp only [decide_eq_true_eq]
  (repeat' split) <;> first | rfl | omega
noncomputable def reBad (n : TNode) : Bool := decide (spec_l11Parts n.kind < 0) || (decide (spec_l11Parts n.kind = 0) && ((decide (n.kind = 3) && !(spec_l2Letter n.a)) || (decide (n.kind ≠ 3) && decide (n.a ≠ 0))))
theorem reBad_iff (n : TNode) : reBad n = true ↔ ¬ ((n.kind = 1 ∨ n.kind = 2) ∧ n.a = 0 ∨ n.kind = 3 ∧ 0 ≤ n.a ∧ n.a ≤ 7 ∨ n.kind = 4 ∨ n.kind = 5 ∨ n.kind = 6) := by
  unfold reBad spec_l2Letter
  rw [l1In_eq, l11Parts_eq]
  simp only [Bool.or_eq_true, Bool.and_eq_true, decide_eq_true_eq, Bool.not_eq_true', decide_eq_false_iff_not]
  split
  · omega
  · split
    · omega
    · split <;> omega
theorem specReOk_eq (e : List TNode) : spec_ReOk e = some (treeOk reP e) := by
  unfold spec_ReOk
  rw [l1In_eq]
  by_cases h : 1 ≤ e.length ∧ e.length ≤ 31
  · rw [if_neg (by simp; omega)]
    have h1 := parts_loop reBad (fun n => spec_l11Parts n.kind) e h.2
    have h2 : loop (fun s : List Int × Int => spec_ReOk.b0 e s.1 s.2) ([], 0) = some (if e.any reBad = true then (.inr false : List Int ⊕ Bool) else .inl (e.map fun n => spec_l11Parts n.kind)) := h1
    rw [h2, Option.bind_some]
    by_cases hb : e.any reBad = true
    · rw [if_pos hb, Sum.elim_inr]
      obtain ⟨n, hn, hbn⟩ := List.any_eq_true.mp hb
      rw [reBad_iff] at hbn
      unfold treeOk
      rw [sizesFrom_bad ⟨n, hn, by rw [reP_eq]; split <;> (try split) <;> (try split) <;> (try split) <;> omega⟩]
      simp
    · rw [if_neg hb, Sum.elim_inl]
      have hg : ∀ n ∈ e, ¬ reBad n = true := fun n hn k => hb (List.any_eq_true.mpr ⟨n, hn, k⟩)
      refine sizes_end reP (fun n => spec_l11Parts n.kind) e h.1 h.2 (fun n hn => ?_) (fun n hn => ?_) (fun n hn => ?_)
      · have := hg n hn
        rw [reBad_iff] at this
        rw [reP_eq, l11Parts_eq]
        split <;> (try split) <;> (try split) <;> (try split) <;> omega
      · have := hg n hn
        rw [reBad_iff] at this
        rw [l11Parts_eq]
        split <;> (try split) <;> (try split) <;> omega
      · rw [reP_eq] at hn
        split at hn <;> (try split at hn) <;> (try split at hn) <;> (try split at hn) <;> omega
  · rw [if_pos (by simp; omega)]; unfold treeOk; simp; omega
theorem implReOk_eq (e : List TNode) : impl_ReOk e = some (treeOk reP e) := by
  unfold impl_ReOk
  rw [isTree_eq]; rfl
theorem reKinds {i : Nat} {n : TNode} (hn : NodeAt reP i n) :
    (n.kind = 1 ∨ n.kind = 2 ∨ n.kind = 3) ∨ (n.kind = 4 ∧ 1 ≤ i ∧ n.a = (i : Int) - 1) ∨ ((n.kind = 5 ∨ n.kind = 6) ∧ 1 ≤ i ∧ n.b = (i : Int) - 1 ∧ 0 ≤ n.a ∧ n.a < (i : Int) - 1) := by
  have hk := reP_eq n
  unfold NodeAt at hn
  by_cases k1 : n.kind = 1 ∨ n.kind = 2
  · exact .inl (by omega)
  rw [if_neg k1] at hk
  by_cases k3 : n.kind = 3
  · exact .inl (by omega)
  rw [if_neg k3] at hk
  by_cases k4 : n.kind = 4
  · rw [if_pos k4] at hk
    exact .inr (.inl (by omega))
  rw [if_neg k4] at hk
  by_cases k5 : n.kind = 5 ∨ n.kind = 6
  · rw [if_pos k5] at hk
    exact .inr (.inr (by omega))
  · rw [if_neg k5] at hk; omega
end Go.Proofs.Ytmmgpcnngaekoaa
