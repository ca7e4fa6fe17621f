/- The table of a formula on a word: the program says what the reference says. -/
import Derived.Test.YtjjlkncefgfljaaDLtlTable
import Derived.Test.YtjjlkncefgfljaaWf
import Derived.Test.YtjjlkncefgfljaaPLtlRows
import Derived.Test.YtjjlkncefgfljaaPWord
import Derived.Test.YtjjlkncefgfljaaPNode
import Derived.Test.YtjjlkncefgfljaaPTemp
import Derived.Test.YtjjlkncefgfljaaPMarkN
import Derived.Test.YtjjlkncefgfljaaPMarkIM
import Derived.Test.YtjjlkncefgfljaaPBools
namespace Go.Proofs.Ytjjlkncefgfljaa
open Go Go.RowKit E
set_option linter.unusedVariables false

theorem markB_from (xs : List Bool) (c : Nat) (h : xs.length ≤ 2000000) (hc : c ≤ 20000000) : laws_markBoolS xs (c : Int) = some (((c + xs.length : Nat) : Int), markBL c xs) := by
  unfold laws_markBoolS
  have := markB_loop xs [] c (by omega) (by simp; omega)
  simp only [List.nil_append] at this
  have e : loop (fun s : List Bool × Int × Int => laws_markBoolS.b0 s.1 s.2.1 s.2.2) (xs, (c : Int), 0) = _ := this
  rw [e]; rfl
theorem heldB_from (xs : List Bool) (c : Nat) (h : xs.length ≤ 2000000) (hc : c ≤ 20000000) : laws_heldBoolS (markBL c xs) (c : Int) = some ((c + xs.length : Nat) : Int) := by
  unfold laws_heldBoolS
  have := heldB_loop xs [] c (by omega) (by simp; omega)
  simp only [List.nil_append] at this
  have e : loop (fun s : Int × Int => laws_heldBoolS.b0 (markBL c xs) s.1 s.2) ((c : Int), 0) = _ := this
  rw [e]; rfl
def markBB (c : Nat) : List (List Bool) → List (List Bool)
  | [] => []
  | r :: rs => markBL c r :: markBB (c + r.length) rs
def sumL : List (List Bool) → Nat
  | [] => 0
  | r :: rs => r.length + sumL rs
theorem markBB_loop : ∀ (r pre : List (List Bool)) (c : Nat), c + sumL r ≤ 1000000 → pre.length + r.length ≤ 1000000 → loop (fun s : List (List Bool) × Int × Int => laws_markBoolSS.b0 s.1 s.2.1 s.2.2) (pre ++ r, (c : Int), (pre.length : Int)) = some (((c + sumL r : Nat) : Int), pre ++ markBB c r)
  | [], pre, c, _, _ => loop_end (by dsimp only; unfold laws_markBoolSS.b0; rw [if_neg (by simp)]; simp [markBB, sumL])
  | x :: r, pre, c, h1, h2 => by
    simp only [List.length_cons, sumL] at h1 h2
    have w4 : W ((pre.length : Int) + 1) = (((pre ++ [markBL c x]).length : Nat) : Int) := by rw [W, W_eq (by omega) (by omega)]; simp
    have ih := markBB_loop r (pre ++ [markBL c x]) (c + x.length) (by omega) (by simp; omega)
    rw [loop_go (s' := (pre ++ markBL c x :: r, ((c + x.length : Nat) : Int), (((pre ++ [markBL c x]).length : Nat) : Int)))]
    · rw [List.append_assoc, List.singleton_append] at ih
      rw [ih]
      simp only [markBB, sumL, List.append_assoc, List.singleton_append]
      rw [Nat.add_assoc]
    · dsimp only; unfold laws_markBoolSS.b0
      have hg : (pre ++ x :: r).getD pre.length [] = x := by simp
      rw [if_pos (by simp; omega), ck_mid, Option.bind_some, hg, markB_from x c (by omega) (by omega), Option.bind_some, set_mid, w4]
theorem heldBB_loop : ∀ (r pre : List (List Bool)) (c : Nat), c + sumL r ≤ 1000000 → pre.length + r.length ≤ 1000000 → loop (fun s : Int × Int => laws_heldBoolSS.b0 (pre ++ markBB c r) s.1 s.2) ((c : Int), (pre.length : Int)) = some (.inl ((c + sumL r : Nat) : Int))
  | [], pre, c, _, _ => loop_end (by dsimp only; unfold laws_heldBoolSS.b0; rw [if_neg (by simp [markBB])]; simp [sumL])
  | x :: r, pre, c, h1, h2 => by
    simp only [List.length_cons, sumL] at h1 h2
    have w4 : W ((pre.length : Int) + 1) = (((pre ++ [markBL c x]).length : Nat) : Int) := by rw [W, W_eq (by omega) (by omega)]; simp
    have ih := heldBB_loop r (pre ++ [markBL c x]) (c + x.length) (by omega) (by simp; omega)
    rw [List.append_assoc, List.singleton_append] at ih
    unfold markBB
    rw [loop_go (s' := (((c + x.length : Nat) : Int), (((pre ++ [markBL c x]).length : Nat) : Int)))]
    · rw [ih]; simp only [sumL]; rw [Nat.add_assoc]
    · dsimp only; unfold laws_heldBoolSS.b0
      rw [if_pos (by simp; omega), ix_mid, Option.bind_some, heldB_from x c (by omega) (by omega), Option.bind_some, if_neg (by omega), w4]
theorem eqBB_self (xs : List (List Bool)) (h : xs.length ≤ 1000000) (hr : ∀ r ∈ xs, r.length ≤ 1048576) : laws_eqBoolSS xs xs = some true := by
  unfold laws_eqBoolSS
  rw [if_neg (by simp)]
  have hall := all_loop (body := fun s : Int => laws_eqBoolSS.b0 xs xs s) xs.length (fun _ => true) (fun k hk => ?_) ?_
  · rw [hall, if_pos (by simp)]; rfl
  · unfold laws_eqBoolSS.b0
    have hix : ix xs (k : Int) = some (xs.getD k default) := ix_nat hk
    have hm : xs.getD k default ∈ xs := by rw [List.getD_eq_getElem?_getD, List.getElem?_eq_getElem hk]; exact List.getElem_mem hk
    rw [if_pos (by omega), hix, Option.bind_some, Option.bind_some, eqBoolS_eq _ _ (hr _ hm), decide_eq_true rfl, Option.bind_some, if_neg (by simp), if_pos rfl, WN (by omega)]
  · unfold laws_eqBoolSS.b0
    rw [if_neg (by omega)]
theorem implTable_eq (f : List TNode) (w : TWord) : impl_LtlTable f w = some (ltTable f w) := by
  unfold impl_LtlTable ltTable
  rw [implLtlOk_eq, Option.bind_some, bnd_eq, isRight_eq]
  by_cases a : treeOk ltP f = true
  · by_cases b : wordOk w 8 = true
    · rw [if_pos ⟨a, b⟩, a, b, Bool.not_true, Bool.not_false, whenO_t, Option.bind_some, if_neg (by simp), tableOf_eq (treeOk_nodes a) (wordOk_t b).1]; rfl
    · rw [Bool.not_eq_true] at b
      rw [if_neg (by simp [b]), a, b, Bool.not_true, Bool.not_false, whenO_t, Option.bind_some, if_pos (by simp)]
  · rw [Bool.not_eq_true] at a
    rw [if_neg (by simp [a]), a, Bool.not_false, Bool.not_true, whenO_f, Option.bind_some, if_pos (by simp)]
theorem sumL_le : ∀ (r : List (List Bool)), (∀ x ∈ r, x.length ≤ 80) → sumL r ≤ 80 * r.length
  | [], _ => Nat.le_refl _
  | x :: r, h => by
    have h1 := h x List.mem_cons_self
    have h2 := sumL_le r fun y hy => h y (List.mem_cons_of_mem _ hy)
    simp only [sumL, List.length_cons]; omega
theorem ltTable_small (f : List TNode) (w : TWord) : (ltTable f w).length ≤ 31 ∧ ∀ x ∈ ltTable f w, x.length ≤ 80 := by
  unfold ltTable
  by_cases h : treeOk ltP f = true ∧ wordOk w 8 = true
  · rw [if_pos h]
    have hn := treeOk_nodes h.1
    have hw := (wordOk_t h.2).1
    have h1 := hw.stem
    have h2 := hw.loop
    refine ⟨by rw [tabN_len]; exact hn.2.1, fun x hx => ?_⟩
    obtain ⟨i, hi, rfl⟩ := List.getElem_of_mem hx
    have hr := tabN_rows w f f.length (Nat.le_refl _)
    rw [List.take_length] at hr
    have hl : i < (tabN w f).length := hi
    have : ((tabN w f).getD i default).length = plN w := hr i hl
    rw [List.getD_eq_getElem?_getD, List.getElem?_eq_getElem hi] at this
    have e : (tabN w f)[i].length = plN w := this
    rw [e]; unfold plN; omega
  · rw [if_neg h]; exact ⟨by simp, by simp⟩
theorem pureLtlTable (e : List TNode) (we : e.length ≤ 9223372036854775807 ∧ ∀ q ∈ e, TNode.wf q) (w : TWord) (ww : TWord.wf w) : laws_FnExactLtlTable e w = some true := by
  obtain ⟨⟨w1, _⟩, w2, _⟩ := ww
  unfold laws_FnExactLtlTable
  rw [szNodeS_eq e _ we.1 (by omega)]
  by_cases hl : e.length ≤ 1048576
  · have hs : (if (e.length : Int) ≤ 1048576 then (1048576 : Int) - e.length else -1) = 1048576 - e.length := if_pos (by omega)
    rw [hs, if_neg (by omega), szWord_eq w _ w1 w2 (by omega)]
    by_cases hw : (w.stem.length : Int) + w.loop.length ≤ 1048576 - e.length
    · rw [if_neg (by rw [if_pos hw]; omega)]
      have l1 : w.stem.length ≤ 1048576 := by omega
      have l2 : w.loop.length ≤ 1048576 := by omega
      obtain ⟨t1, t2⟩ := ltTable_small e w
      have hsum := sumL_le _ t2
      have heq := eqBB_self (ltTable e w) (by omega) fun r hr => by have := t2 r hr; omega
      have hm : laws_markBoolSS (ltTable e w) 1 = some (((1 + sumL (ltTable e w) : Nat) : Int), markBB 1 (ltTable e w)) := by
        unfold laws_markBoolSS
        have := markBB_loop (ltTable e w) [] 1 (by omega) (by simp; omega)
        simp only [List.nil_append] at this
        have e1 : loop (fun s : List (List Bool) × Int × Int => laws_markBoolSS.b0 s.1 s.2.1 s.2.2) (ltTable e w, 1, 0) = _ := this
        rw [e1]; rfl
      have hh : laws_heldBoolSS (markBB 1 (ltTable e w)) 1 = some ((1 + sumL (ltTable e w) : Nat) : Int) := by
        unfold laws_heldBoolSS
        have := heldBB_loop (ltTable e w) [] 1 (by omega) (by simp; omega)
        simp only [List.nil_append] at this
        have e1 : loop (fun s : Int × Int => laws_heldBoolSS.b0 (markBB 1 (ltTable e w)) s.1 s.2) (1, 0) = _ := this
        rw [e1]; rfl
      have hmn := mark_eq e (by omega : e.length ≤ 2000000)
      have hmw : laws_markWord w ((1 + 3 * e.length : Nat) : Int) = some (((1 + 3 * e.length + w.stem.length + w.loop.length : Nat) : Int), TWord.mk (markIL (1 + 3 * e.length) w.stem) (markIL (1 + 3 * e.length + w.stem.length) w.loop)) := by
        unfold laws_markWord
        rw [markI_from w.stem _ (by omega) (by omega), Option.bind_some]
        dsimp only
        rw [markI_from w.loop _ (by omega) (by omega), Option.bind_some]
      simp only [toNodeS_eq e hl, toWord_eq w l1 l2, Option.bind_some, specTable_eq, implTable_eq, heq, eqNodeS_eq e e hl, eqWord_eq w l1 l2, hmn, decide_true, Bool.not_true, Bool.false_eq_true, if_false, bnd_eq, hm, hh]
      rw [hmw, Option.bind_some]
      dsimp only
      rw [decide_eq_false (by omega), Bool.not_false, whenO_t, Option.bind_some]
      have hz : ¬ ((1 + sumL (ltTable e w) : Nat) : Int) < 0 := by omega
      simp only [hz, Bool.not_true, Bool.or_self, Bool.false_eq_true, if_false, Option.bind_some, ne_eq, not_true_eq_false]
    · rw [if_pos (by rw [if_neg hw]; omega)]
  · rw [if_pos (by rw [if_neg (by omega)]; omega)]
end Go.Proofs.Ytjjlkncefgfljaa
