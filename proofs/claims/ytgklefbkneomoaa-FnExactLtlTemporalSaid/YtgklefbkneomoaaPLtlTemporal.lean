/- The nodes of a formula that speak of time. -/
import Derived.Test.YtgklefbkneomoaaDLtlTemporal
import Derived.Test.YtgklefbkneomoaaWf
import Derived.Test.YtgklefbkneomoaaPLtlOk
import Derived.Test.YtgklefbkneomoaaPNode
import Derived.Test.YtgklefbkneomoaaPIntE
import Derived.Test.YtgklefbkneomoaaPMark
import Derived.Test.YtgklefbkneomoaaPMarkI
namespace Go.Proofs.Ytgklefbkneomoaa
open Go Go.RowKit E
set_option linter.unusedVariables false

theorem szNodeS_eq (xs : List TNode) (k : Int) (h : xs.length ≤ 9223372036854775807) (hk : 0 ≤ k ∧ k ≤ 1048576) : laws_szNodeS xs k = if (xs.length : Int) ≤ k then k - xs.length else -1 := by
  unfold laws_szNodeS
  rw [W, W_eq (by omega) (by omega)]
  split <;> split <;> omega
def tempL : Nat → List TNode → List Int
  | _, [] => []
  | k, n :: r => if n.kind ≥ 7 then (k : Int) :: tempL (k + 1) r else tempL (k + 1) r
theorem tempL_len : ∀ (r : List TNode) (k : Nat), (tempL k r).length ≤ r.length
  | [], _ => Nat.le_refl _
  | n :: r, k => by
    have := tempL_len r (k + 1)
    unfold tempL
    split
    · simp; omega
    · simp; omega
theorem temp_loop {body : List Int × Int → Option ((List Int × Int) ⊕ List Int)} (e : List TNode) (he : e.length ≤ 31) (hb : ∀ y x, body (y, x) = if x < (e.length : Int) then (ix e x).bind fun a => if a.kind ≥ 7 then (app 8 y [x]).bind fun z => some (.inl (z, W (x + 1))) else some (.inl (y, W (x + 1))) else some (.inr y)) : ∀ (r pre : List TNode) (y : List Int), e = pre ++ r → y.length ≤ pre.length → loop body (y, (pre.length : Int)) = some (y ++ tempL pre.length r)
  | [], pre, y, h, hy => loop_end (by rw [hb, if_neg (by rw [h]; simp)]; simp [tempL])
  | n :: r, pre, y, h, hy => by
    have hl : pre.length + (r.length + 1) = e.length := by rw [h]; simp
    have w4 : W ((pre.length : Int) + 1) = (((pre ++ [n]).length : Nat) : Int) := by rw [W, W_eq (by omega) (by omega)]; simp
    have hix : ix e (pre.length : Int) = some n := by rw [h]; exact ix_mid pre n r
    by_cases c : n.kind ≥ 7
    · rw [loop_go (s' := (y ++ [(pre.length : Int)], (((pre ++ [n]).length : Nat) : Int)))]
      · rw [temp_loop e he hb r (pre ++ [n]) _ (by rw [h]; simp) (by simp; omega)]
        simp [tempL, c]
      · rw [hb, if_pos (by omega), hix, Option.bind_some, if_pos c, app_small (by simp; omega) (by omega), Option.bind_some, w4]
    · rw [loop_go (s' := (y, (((pre ++ [n]).length : Nat) : Int)))]
      · rw [temp_loop e he hb r (pre ++ [n]) _ (by rw [h]; simp) (by simp; omega)]
        simp [tempL, c]
      · rw [hb, if_pos (by omega), hix, Option.bind_some, if_neg c, w4]
noncomputable def ltTemporal (e : List TNode) : List Int := if treeOk ltP e = true then tempL 0 e else []
theorem specTemporal_eq (e : List TNode) : spec_LtlTemporal e = some (ltTemporal e) := by
  unfold spec_LtlTemporal ltTemporal
  rw [specLtlOk_eq, Option.bind_some]
  by_cases h : treeOk ltP e = true
  · have hn := (treeOk_nodes h).2.1
    rw [if_neg (by rw [h]; simp), if_pos h]
    unfold spec_l8Temporal
    have := temp_loop (body := fun s : List Int × Int => spec_l8Temporal.b0 e s.1 s.2) e hn (fun y x => rfl) e [] [] rfl (by simp)
    have h2 : loop (fun s : List Int × Int => spec_l8Temporal.b0 e s.1 s.2) ([], 0) = some (tempL 0 e) := this
    rw [h2]; rfl
  · rw [if_pos (by simpa using h), if_neg h]
theorem implTemporal_eq (e : List TNode) : impl_LtlTemporal e = some (ltTemporal e) := by
  unfold impl_LtlTemporal ltTemporal
  rw [implLtlOk_eq, Option.bind_some]
  by_cases h : treeOk ltP e = true
  · have hn := (treeOk_nodes h).2.1
    rw [if_neg (by rw [h]; simp), if_pos h]
    unfold impl_temporal
    have := temp_loop (body := fun s : List Int × Int => impl_temporal.b0 e s.1 s.2) e hn (fun y x => rfl) e [] [] rfl (by simp)
    have h2 : loop (fun s : List Int × Int => impl_temporal.b0 e s.1 s.2) ([], 0) = some (tempL 0 e) := this
    rw [h2]; rfl
  · rw [if_pos (by simpa using h), if_neg h]
theorem ltTemporal_len (e : List TNode) (h : e.length ≤ 1048576) : (ltTemporal e).length ≤ 1048576 := by
  unfold ltTemporal
  split
  · exact Nat.le_trans (tempL_len e 0) h
  · simp
theorem pureLtlTemporal (e : List TNode) (w : e.length ≤ 9223372036854775807 ∧ ∀ q ∈ e, TNode.wf q) : laws_FnExactLtlTemporal e = some true := by
  unfold laws_FnExactLtlTemporal
  rw [szNodeS_eq e _ w.1 (by omega)]
  by_cases hl : e.length ≤ 1048576
  · rw [if_neg (by rw [if_pos (by omega)]; omega)]
    have ht := ltTemporal_len e hl
    simp only [toNodeS_eq e hl, Option.bind_some, specTemporal_eq, implTemporal_eq, eqNodeS_eq e e hl, eqIntS_eq _ _ ht, mark_eq e (by omega : e.length ≤ 2000000), markI_eq _ (by omega : (ltTemporal e).length ≤ 2000000), heldI_eq _ (by omega : (ltTemporal e).length ≤ 2000000), bnd_eq]
    rw [decide_eq_false (by omega : ¬ ((1 + 3 * e.length : Nat) : Int) < 0)]
    simp only [Bool.not_false, whenO_t, Option.bind_some, decide_true, Bool.not_true, Bool.or_self]
    rw [if_neg (by simp), if_neg (by simp), if_neg (by simp), if_neg (by omega), if_neg (by simp), if_neg (by simp), if_neg (by omega), if_neg (by simp)]
  · rw [if_pos (by rw [if_neg (by omega)]; omega)]
end Go.Proofs.Ytgklefbkneomoaa
