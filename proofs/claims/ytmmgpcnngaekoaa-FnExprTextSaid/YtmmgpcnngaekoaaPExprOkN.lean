/- Expressions: the program and the reference find the same ones right. -/
import Derived.Test.YtmmgpcnngaekoaaDExprText
import Derived.Test.YtmmgpcnngaekoaaPTree
import Derived.Test.YtmmgpcnngaekoaaPTree2
import Derived.Test.YtmmgpcnngaekoaaPGT
namespace Go.Proofs.Ytmmgpcnngaekoaa
open Go Go.RowKit E
set_option linter.unusedVariables false

theorem exleaf_eq (n : TNode) (m : Int) : impl_leaf n m = if n.b = 0 ∧ 0 ≤ n.a ∧ n.a ≤ m then 0 else -1 := by
  unfold impl_leaf
  simp only [bnd, inRange_eq, Bool.and_eq_true, decide_eq_true_eq]
noncomputable abbrev exP : TNode → Int := impl_exprParts
theorem exP_eq (n : TNode) : exP n = if n.kind = 1 ∨ n.kind = 2 then (if n.b = 0 ∧ n.a = 0 then 0 else -1) else if n.kind = 3 then (if n.b = 0 ∧ 0 ≤ n.a ∧ n.a ≤ 2 then 0 else -1) else if n.kind = 4 then 1 else if n.kind = 5 ∨ n.kind = 6 then 2 else -1 := by
  unfold exP impl_exprParts impl_exprParts.k0
  simp only [exleaf_eq, decide_eq_true_eq]
  (repeat' split) <;> first | rfl | omega
theorem l2Parts_eq (k : Int) : spec_l2Parts k = if k = 1 ∨ k = 2 ∨ k = 3 then 0 else if k = 4 then 1 else if k = 5 ∨ k = 6 then 2 else -1 := by
  unfold spec_l2Parts spec_l2Parts.k0
  simp only [decide_eq_true_eq]
  (repeat' split) <;> first | rfl | omega
noncomputable def exBad (n : TNode) : Bool := decide (spec_l2Parts n.kind < 0) || (decide (spec_l2Parts n.kind = 0) && !(spec_l2Leaf n))
theorem exBad_iff (n : TNode) : exBad n = true ↔ ¬ ((n.kind = 1 ∨ n.kind = 2) ∧ n.a = 0 ∨ n.kind = 3 ∧ 0 ≤ n.a ∧ n.a ≤ 2 ∨ n.kind = 4 ∨ n.kind = 5 ∨ n.kind = 6) := by
  unfold exBad spec_l2Leaf
  rw [l1In_eq, l2Parts_eq]
  by_cases k3 : n.kind = 3
  · rw [if_pos k3, if_pos (by omega)]
    by_cases g : 0 ≤ n.a ∧ n.a ≤ 2
    · simp [g]; omega
    · simp [g]; omega
  · rw [if_neg k3]
    simp only [Bool.or_eq_true, Bool.and_eq_true, decide_eq_true_eq, Bool.not_eq_true', decide_eq_false_iff_not]
    (repeat' split) <;> omega
theorem exBody (e : List TNode) : (fun s : List Int × Int => spec_ExprOk.b0 e s.1 s.2) = (fun s : List Int × Int => if s.2 < (e.length : Int) then (ix e s.2).bind fun n => if exBad n = true then some (.inr (.inr false)) else (app 8 s.1 [spec_l2Parts n.kind]).bind fun z => some (.inl (z, W (s.2 + 1))) else some (.inr (.inl s.1))) := by
  funext s
  unfold spec_ExprOk.b0
  split
  · cases h : ix e s.2 with
    | none => rfl
    | some n =>
      simp only [Option.bind_some, bnd_eq]
      unfold exBad
      cases c1 : decide (spec_l2Parts n.kind < 0) with
      | true => simp [whenO_f]
      | false =>
        cases c2 : decide (spec_l2Parts n.kind = 0) with
        | true => simp [whenO_t]
        | false => simp [whenO_f]
  · rfl
theorem specExprOk_eq (e : List TNode) : spec_ExprOk e = some (treeOk exP e) := by
  unfold spec_ExprOk
  rw [l1In_eq]
  by_cases h : 1 ≤ e.length ∧ e.length ≤ 31
  · rw [if_neg (by simp; omega), exBody, parts_loop exBad (fun n => spec_l2Parts n.kind) e h.2, Option.bind_some]
    by_cases hb : e.any exBad = true
    · rw [if_pos hb, Sum.elim_inr]
      obtain ⟨n, hn, hbn⟩ := List.any_eq_true.mp hb
      rw [exBad_iff] at hbn
      unfold treeOk
      rw [sizesFrom_bad ⟨n, hn, by rw [exP_eq]; split <;> (try split) <;> (try split) <;> (try split) <;> omega⟩]
      simp
    · rw [if_neg hb, Sum.elim_inl]
      have hg : ∀ n ∈ e, ¬ exBad n = true := fun n hn k => hb (List.any_eq_true.mpr ⟨n, hn, k⟩)
      refine sizes_end exP (fun n => spec_l2Parts n.kind) e h.1 h.2 (fun n hn => ?_) (fun n hn => ?_) (fun n hn => ?_)
      · have := hg n hn
        rw [exBad_iff] at this
        rw [exP_eq, l2Parts_eq]
        split <;> (try split) <;> (try split) <;> (try split) <;> omega
      · have := hg n hn
        rw [exBad_iff] at this
        rw [l2Parts_eq]
        split <;> (try split) <;> (try split) <;> omega
      · rw [exP_eq] at hn
        split at hn <;> (try split at hn) <;> (try split at hn) <;> (try split at hn) <;> omega
  · rw [if_pos (by simp; omega)]; unfold treeOk; simp; omega
theorem implExprOk_eq (e : List TNode) : impl_ExprOk e = some (treeOk exP e) := by
  unfold impl_ExprOk
  rw [isTree_eq]; rfl
theorem exKinds {i : Nat} {n : TNode} (hn : NodeAt exP i n) :
    (((n.kind = 1 ∨ n.kind = 2) ∧ n.a = 0 ∨ n.kind = 3 ∧ 0 ≤ n.a ∧ n.a ≤ 2) ∧ n.b = 0) ∨ (n.kind = 4 ∧ 1 ≤ i ∧ n.a = (i : Int) - 1) ∨ ((n.kind = 5 ∨ n.kind = 6) ∧ 1 ≤ i ∧ n.b = (i : Int) - 1 ∧ 0 ≤ n.a ∧ n.a < (i : Int) - 1) := by
  have hk := exP_eq n
  unfold NodeAt at hn
  by_cases k1 : n.kind = 1 ∨ n.kind = 2
  · rw [if_pos k1] at hk
    split at hk <;> omega
  rw [if_neg k1] at hk
  by_cases k3 : n.kind = 3
  · rw [if_pos k3] at hk
    split at hk <;> omega
  rw [if_neg k3] at hk
  by_cases k4 : n.kind = 4
  · rw [if_pos k4] at hk
    exact .inr (.inl (by omega))
  rw [if_neg k4] at hk
  by_cases k5 : n.kind = 5 ∨ n.kind = 6
  · rw [if_pos k5] at hk
    exact .inr (.inr (by omega))
  · rw [if_neg k5] at hk; omega
theorem exKinded : Kinded exP where
  b0 := fun n h => by
    rw [exP_eq] at h
    split at h
    · split at h
      · rename_i k; exact k.1
      · cases h
    · split at h
      · split at h
        · rename_i k; exact k.1
        · cases h
      · split at h
        · cases h
        · split at h <;> cases h
  k1 := fun k a b h c d => by
    rw [exP_eq] at h ⊢
    dsimp only at h ⊢
    (repeat' split at h) <;> first | cases h | skip
    rw [if_neg (by assumption), if_neg (by assumption), if_pos (by assumption)]
  k2 := fun k a b h c d => by
    rw [exP_eq] at h ⊢
    dsimp only at h ⊢
    (repeat' split at h) <;> first | cases h | skip
    rw [if_neg (by assumption), if_neg (by assumption), if_neg (by assumption), if_pos (by assumption)]
theorem ex0 {k a : Int} (h : exP (TNode.mk k a 0) = 0) : (k = 1 ∧ a = 0) ∨ (k = 2 ∧ a = 0) ∨ (k = 3 ∧ 0 ≤ a ∧ a ≤ 2) := by
  rw [exP_eq] at h
  dsimp only at h
  (repeat' split at h) <;> first | cases h | skip
  · omega
  · omega
theorem ex1 {k : Int} (h : ∀ a b, exP (TNode.mk k a b) = 1) : k = 4 := by
  have h := h 0 0
  rw [exP_eq] at h
  dsimp only at h
  (repeat' split at h) <;> first | exact absurd h (by decide) | assumption
theorem ex2 {k : Int} (h : ∀ a b, exP (TNode.mk k a b) = 2) : k = 5 ∨ k = 6 := by
  have h := h 0 0
  rw [exP_eq] at h
  dsimp only at h
  (repeat' split at h) <;> first | exact absurd h (by decide) | assumption
theorem ex1' : ∀ a b, exP (TNode.mk 4 a b) = 1 := fun a b => by rw [exP_eq]; rfl
theorem ex5' : ∀ a b, exP (TNode.mk 5 a b) = 2 := fun a b => by rw [exP_eq]; rfl
theorem ex6' : ∀ a b, exP (TNode.mk 6 a b) = 2 := fun a b => by rw [exP_eq]; rfl
theorem ex0' {k a : Int} (h : (k = 1 ∧ a = 0) ∨ (k = 2 ∧ a = 0) ∨ (k = 3 ∧ 0 ≤ a ∧ a ≤ 2)) : exP (TNode.mk k a 0) = 0 := by
  rw [exP_eq]
  dsimp only
  rcases h with ⟨rfl, rfl⟩ | ⟨rfl, rfl⟩ | ⟨rfl, h⟩
  · rfl
  · rfl
  · rw [if_neg (by decide), if_pos rfl, if_pos ⟨rfl, h⟩]
end Go.Proofs.Ytmmgpcnngaekoaa
