/- Formulas: the program and the reference find the same ones right. -/
import Derived.Test.YtjjlkncefgfljaaDLtlTable
import Derived.Test.YtjjlkncefgfljaaPTree2
namespace Go.Proofs.Ytjjlkncefgfljaa
open Go Go.RowKit E
set_option linter.unusedVariables false

theorem lleaf_eq (n : TNode) (m : Int) : impl_leaf n m = if n.b = 0 ∧ 0 ≤ n.a ∧ n.a ≤ m then 0 else -1 := by
  unfold impl_leaf
  simp only [bnd, inRange_eq, Bool.and_eq_true, decide_eq_true_eq]
noncomputable abbrev ltP : TNode → Int := impl_ltlParts
theorem ltP_eq (n : TNode) : ltP n = if n.kind = 1 ∨ n.kind = 2 then (if n.b = 0 ∧ n.a = 0 then 0 else -1) else if n.kind = 3 then (if n.b = 0 ∧ 0 ≤ n.a ∧ n.a ≤ 2 then 0 else -1) else if n.kind = 4 ∨ n.kind = 7 ∨ n.kind = 10 ∨ n.kind = 11 then 1 else if n.kind = 5 ∨ n.kind = 6 ∨ n.kind = 8 ∨ n.kind = 9 then 2 else -1 := by
  unfold ltP impl_ltlParts impl_exprParts impl_exprParts.k0
  simp only [lleaf_eq, decide_eq_true_eq]
  (repeat' split) <;> first | rfl | omega
theorem l8Parts_eq (k : Int) : spec_l8Parts k = if k = 1 ∨ k = 2 ∨ k = 3 then 0 else if k = 4 ∨ k = 7 ∨ k = 10 ∨ k = 11 then 1 else if k = 5 ∨ k = 6 ∨ k = 8 ∨ k = 9 then 2 else -1 := by
  unfold spec_l8Parts spec_l8Parts.k0 spec_l8Parts.k1
  simp only [decide_eq_true_eq]
  (repeat' split) <;> first | rfl | omega
theorem l2Leaf_eq (n : TNode) : spec_l2Leaf n = decide ((n.kind = 3 ∧ 0 ≤ n.a ∧ n.a ≤ 2) ∨ (n.kind ≠ 3 ∧ n.a = 0)) := by
  unfold spec_l2Leaf
  simp only [l1In_eq]
  split <;> rw [decide_eq_decide] <;> omega
noncomputable def ltBad (n : TNode) : Bool := decide (spec_l8Parts n.kind < 0) || (decide (spec_l8Parts n.kind = 0) && !(spec_l2Leaf n))
theorem ltBad_iff (n : TNode) : ltBad n = true ↔ ¬ ((n.kind = 1 ∨ n.kind = 2) ∧ n.a = 0 ∨ n.kind = 3 ∧ 0 ≤ n.a ∧ n.a ≤ 2 ∨ (4 ≤ n.kind ∧ n.kind ≤ 11)) := by
  unfold ltBad
  rw [l2Leaf_eq, l8Parts_eq]
  simp only [Bool.or_eq_true, Bool.and_eq_true, decide_eq_true_eq, Bool.not_eq_true', decide_eq_false_iff_not]
  split
  · omega
  · split
    · omega
    · split <;> omega
theorem specLtlOk_eq (e : List TNode) : spec_LtlOk e = some (treeOk ltP e) := by
  unfold spec_LtlOk
  rw [l1In_eq]
  by_cases h : 1 ≤ e.length ∧ e.length ≤ 31
  · rw [if_neg (by simp; omega)]
    have h1 := parts_loop ltBad (fun n => spec_l8Parts n.kind) e h.2
    have h2 : loop (fun s : List Int × Int => spec_LtlOk.b0 e s.1 s.2) ([], 0) = some (if e.any ltBad = true then (.inr false : List Int ⊕ Bool) else .inl (e.map fun n => spec_l8Parts n.kind)) := by
      rw [← h1]
      congr 1
      funext s
      unfold spec_LtlOk.b0
      split
      · cases ix e s.2 with
        | none => rfl
        | some a =>
          simp only [Option.bind_some, bnd_eq]
          unfold ltBad
          by_cases c1 : spec_l8Parts a.kind < 0
          · rw [decide_eq_true c1, Bool.not_true, Bool.false_and, whenO_f]; rfl
          · rw [decide_eq_false c1, Bool.not_false, Bool.true_and]
            by_cases c2 : spec_l8Parts a.kind = 0
            · rw [decide_eq_true c2, whenO_t]; rfl
            · rw [decide_eq_false c2, whenO_f]; rfl
      · rfl
    rw [h2, Option.bind_some]
    by_cases hb : e.any ltBad = true
    · rw [if_pos hb, Sum.elim_inr]
      obtain ⟨n, hn, hbn⟩ := List.any_eq_true.mp hb
      rw [ltBad_iff] at hbn
      unfold treeOk
      rw [sizesFrom_bad ⟨n, hn, by rw [ltP_eq]; split <;> (try split) <;> (try split) <;> (try split) <;> omega⟩]
      simp
    · rw [if_neg hb, Sum.elim_inl]
      have hg : ∀ n ∈ e, ¬ ltBad n = true := fun n hn k => hb (List.any_eq_true.mpr ⟨n, hn, k⟩)
      refine sizes_end ltP (fun n => spec_l8Parts n.kind) e h.1 h.2 (fun n hn => ?_) (fun n hn => ?_) (fun n hn => ?_)
      · have := hg n hn
        rw [ltBad_iff] at this
        rw [ltP_eq, l8Parts_eq]
        split <;> (try split) <;> (try split) <;> (try split) <;> omega
      · have := hg n hn
        rw [ltBad_iff] at this
        rw [l8Parts_eq]
        split <;> (try split) <;> (try split) <;> omega
      · rw [ltP_eq] at hn
        split at hn <;> (try split at hn) <;> (try split at hn) <;> (try split at hn) <;> omega
  · rw [if_pos (by simp; omega)]; unfold treeOk; simp; omega
theorem implLtlOk_eq (e : List TNode) : impl_LtlOk e = some (treeOk ltP e) := by
  unfold impl_LtlOk
  rw [isTree_eq]; rfl
theorem ltKinds {i : Nat} {n : TNode} (hn : NodeAt ltP i n) :
    (((n.kind = 1 ∨ n.kind = 2) ∧ n.a = 0 ∨ n.kind = 3 ∧ 0 ≤ n.a ∧ n.a ≤ 2) ∧ n.b = 0) ∨ ((n.kind = 4 ∨ n.kind = 7 ∨ n.kind = 10 ∨ n.kind = 11) ∧ 1 ≤ i ∧ n.a = (i : Int) - 1 ∧ n.b = 0) ∨ ((n.kind = 5 ∨ n.kind = 6 ∨ n.kind = 8 ∨ n.kind = 9) ∧ 1 ≤ i ∧ n.b = (i : Int) - 1 ∧ 0 ≤ n.a ∧ n.a < (i : Int) - 1) := by
  have hk := ltP_eq n
  unfold NodeAt at hn
  by_cases k1 : n.kind = 1 ∨ n.kind = 2
  · rw [if_pos k1] at hk
    by_cases c : n.b = 0 ∧ n.a = 0
    · exact .inl (by omega)
    · rw [if_neg c] at hk; omega
  rw [if_neg k1] at hk
  by_cases k3 : n.kind = 3
  · rw [if_pos k3] at hk
    by_cases c : n.b = 0 ∧ 0 ≤ n.a ∧ n.a ≤ 2
    · exact .inl (by omega)
    · rw [if_neg c] at hk; omega
  rw [if_neg k3] at hk
  by_cases k4 : n.kind = 4 ∨ n.kind = 7 ∨ n.kind = 10 ∨ n.kind = 11
  · rw [if_pos k4] at hk
    exact .inr (.inl (by omega))
  rw [if_neg k4] at hk
  by_cases k5 : n.kind = 5 ∨ n.kind = 6 ∨ n.kind = 8 ∨ n.kind = 9
  · rw [if_pos k5] at hk
    exact .inr (.inr (by omega))
  · rw [if_neg k5] at hk; omega
end Go.Proofs.Ytjjlkncefgfljaa
