/- FnReParts: the star of a regex takes the empty word, the word and the word twice; either of it and a letter takes what one of them takes. -/
import Derived.Test.YtmmgpcnngaekoaaDReParts
import Derived.Test.YtmmgpcnngaekoaaWf
import Derived.Test.YtmmgpcnngaekoaaPReTabs
import Derived.Test.YtmmgpcnngaekoaaPSizes0
import Derived.Test.YtmmgpcnngaekoaaPDraw11
namespace Go.Proofs.Ytmmgpcnngaekoaa
open Go Go.RowKit E
set_option linter.unusedVariables false

theorem star_le {r : Nat → Nat → Prop} (h : ∀ p q, r p q → p ≤ q) {p q : Nat} (k : StarR r p q) : p ≤ q := by
  induction k with
  | refl p => exact Nat.le_refl _
  | step h1 _ ih => have := h _ _ h1; omega
theorem spans_loc {e : List TNode} (h : Nodes reP e) (a w b : List Int) : ∀ i, i < e.length → ∀ p q, q ≤ w.length → (spans w e).getD i noSpn p q → (spans (a ++ w ++ b) e).getD i noSpn (a.length + p) (a.length + q) := by
  intro i
  induction i using Nat.strongRecOn with
  | _ i ih =>
    intro hi p q hq hs
    rw [spans_step h hi] at hs ⊢
    have hk := reKinds (h.2.2 i hi)
    have le := spans_le (w := w) h
    generalize e.getD i default = n at hs hk ⊢
    unfold reSpan at hs ⊢
    by_cases k2 : n.kind = 2
    · rw [if_pos k2] at hs ⊢; omega
    rw [if_neg k2] at hs ⊢
    by_cases k3 : n.kind = 3
    · rw [if_pos k3] at hs ⊢
      obtain ⟨h1, h2, h3⟩ := hs
      refine ⟨by omega, by simp; omega, ?_⟩
      rw [← h3, List.getD_eq_getElem?_getD, List.getD_eq_getElem?_getD, List.append_assoc, List.getElem?_append_right (by omega), show a.length + p - a.length = p by omega, List.getElem?_append_left h2]
    rw [if_neg k3] at hs ⊢
    by_cases k4 : n.kind = 4
    · rw [if_pos k4] at hs ⊢
      have ha := ih n.a.toNat (by omega) (by omega)
      have la := le n.a.toNat (by omega)
      clear ih
      induction hs with
      | refl p => exact .refl _
      | step h1 k ih2 =>
        have := star_le (fun p q hh => (la p q hh).1) k
        exact .step (ha _ _ (by omega) h1) (ih2 hq)
    rw [if_neg k4] at hs ⊢
    by_cases k5 : n.kind = 5
    · rw [if_pos k5] at hs ⊢
      obtain ⟨r, h1, h2⟩ := hs
      have l2 := le n.b.toNat (by omega) _ _ h2
      exact ⟨a.length + r, ih n.a.toNat (by omega) (by omega) _ _ (by omega) h1, ih n.b.toNat (by omega) (by omega) _ _ hq h2⟩
    rw [if_neg k5] at hs ⊢
    by_cases k6 : n.kind = 6
    · rw [if_pos k6] at hs ⊢
      rcases hs with h1 | h1
      · exact .inl (ih n.a.toNat (by omega) (by omega) _ _ hq h1)
      · exact .inr (ih n.b.toNat (by omega) (by omega) _ _ hq h1)
    · rw [if_neg k6] at hs; exact hs.elim
def reStar (e : List TNode) : List TNode := e ++ [TNode.mk 4 (W ((e.length : Int) - 1)) 0]
def reEither (e : List TNode) : List TNode := e ++ [TNode.mk 3 1 0, TNode.mk 6 (W ((e.length : Int) - 1)) (e.length : Int)]
theorem star_tree {e : List TNode} (he : treeOk reP e = true) (hl : e.length < 31) : treeOk reP (reStar e) = true := by
  obtain ⟨s1, a1, a2, a3, a4, a5⟩ := treeOk_sizes he
  have w1 : W ((e.length : Int) - 1) = (e.length : Int) - 1 := W_eq (by omega) (by omega)
  unfold reStar
  refine treeOk_of (s := s1 ++ [1 + (e.length : Int)]) ?_ (by simp) (by simp; omega) ?_
  · rw [sizesFrom_app reP e _ [] s1 a1, sizesFrom]
    have step : sizeStep reP s1 (TNode.mk 4 (W ((e.length : Int) - 1)) 0) = some (s1 ++ [1 + (e.length : Int)]) := by
      have hp : reP (TNode.mk 4 (W ((e.length : Int) - 1)) 0) = 1 := by rw [reP_eq]; simp
      unfold sizeStep
      rw [w1] at hp ⊢
      rw [hp, if_neg (by decide), if_pos rfl]
      dsimp only
      rw [a2, a3, if_pos (by omega)]
    rw [step]; rfl
  · rw [List.length_append, List.length_singleton, Nat.add_sub_cancel, ← a2, getD_last]; omega
theorem either_tree {e : List TNode} (he : treeOk reP e = true) (hl : e.length < 29) : treeOk reP (reEither e) = true := by
  obtain ⟨s1, a1, a2, a3, a4, a5⟩ := treeOk_sizes he
  have w1 : W ((e.length : Int) - 1) = (e.length : Int) - 1 := W_eq (by omega) (by omega)
  unfold reEither
  refine treeOk_of (s := s1 ++ [1] ++ [2 + (e.length : Int)]) ?_ (by simp) (by simp; omega) ?_
  · rw [sizesFrom_app reP e _ [] s1 a1, sizesFrom]
    have step1 : sizeStep reP s1 (TNode.mk 3 1 0) = some (s1 ++ [1]) := by
      have hp : reP (TNode.mk 3 1 0) = 0 := by rw [reP_eq]; simp
      unfold sizeStep
      rw [hp, if_pos rfl]
    have step2 : sizeStep reP (s1 ++ [1]) (TNode.mk 6 (W ((e.length : Int) - 1)) (e.length : Int)) = some (s1 ++ [1] ++ [2 + (e.length : Int)]) := by
      have hp : reP (TNode.mk 6 (W ((e.length : Int) - 1)) (e.length : Int)) = 2 := by rw [reP_eq]; simp
      have hlen : (s1 ++ [1]).length = e.length + 1 := by simp [a2]
      have hlast : (s1 ++ [1]).getD (e.length + 1 - 1) 0 = 1 := by rw [Nat.add_sub_cancel, ← a2, getD_last]
      unfold sizeStep
      rw [w1] at hp ⊢
      rw [hp, if_neg (by decide), if_neg (by decide), if_pos rfl]
      dsimp only
      rw [hlen, hlast, if_pos (by omega), show ((e.length : Int) - 1).toNat = e.length - 1 by omega]
      have : (s1 ++ [1]).getD (e.length - 1) 0 = (e.length : Int) := by
        rw [List.getD_eq_getElem?_getD, List.getElem?_append_left (by omega), ← List.getD_eq_getElem?_getD, a3]
      rw [this]
      congr 3
    rw [step1]
    dsimp only
    rw [sizesFrom, step2]; rfl
  · rw [List.length_append, show ([TNode.mk 3 1 0, TNode.mk 6 (W ((e.length : Int) - 1)) (e.length : Int)] : List TNode).length = 2 from rfl, show e.length + 2 - 1 = (s1 ++ [1]).length by simp [a2], getD_last]; omega
theorem spans_len (w : List Int) (e : List TNode) : (spans w e).length = e.length := by unfold spans; rw [accum_len]; simp
theorem star_root (w : List Int) {e : List TNode} (h1 : 1 ≤ e.length) (h2 : e.length ≤ 31) (p q : Nat) : (spans w (reStar e)).getD ((reStar e).length - 1) noSpn p q ↔ StarR ((spans w e).getD (e.length - 1) noSpn) p q := by
  have w1 : W ((e.length : Int) - 1) = (e.length : Int) - 1 := W_eq (by omega) (by omega)
  have hs : spans w (reStar e) = spans w e ++ [reSpan w (TNode.mk 4 (W ((e.length : Int) - 1)) 0) (spans w e)] := by
    unfold spans reStar; rw [accum_app]; rfl
  have hg : (spans w (reStar e)).getD ((reStar e).length - 1) noSpn = reSpan w (TNode.mk 4 (W ((e.length : Int) - 1)) 0) (spans w e) := by
    rw [hs, show (reStar e).length - 1 = (spans w e).length by rw [spans_len]; unfold reStar; simp, List.getD_eq_getElem?_getD, List.getElem?_append_right (by omega), Nat.sub_self]; rfl
  rw [hg]
  unfold reSpan
  dsimp only
  rw [if_neg (by decide), if_neg (by decide), if_pos rfl, w1, show ((e.length : Int) - 1).toNat = e.length - 1 by omega]
theorem either_root (w : List Int) {e : List TNode} (h1 : 1 ≤ e.length) (h2 : e.length ≤ 31) (p q : Nat) : (spans w (reEither e)).getD ((reEither e).length - 1) noSpn p q ↔ (spans w e).getD (e.length - 1) noSpn p q ∨ (q = p + 1 ∧ p < w.length ∧ w.getD p 0 = 1) := by
  have w1 : W ((e.length : Int) - 1) = (e.length : Int) - 1 := W_eq (by omega) (by omega)
  have hs : spans w (reEither e) = spans w e ++ [reSpan w (TNode.mk 3 1 0) (spans w e)] ++ [reSpan w (TNode.mk 6 (W ((e.length : Int) - 1)) (e.length : Int)) (spans w e ++ [reSpan w (TNode.mk 3 1 0) (spans w e)])] := by
    unfold spans reEither; rw [accum_app]; rfl
  have hg : (spans w (reEither e)).getD ((reEither e).length - 1) noSpn = reSpan w (TNode.mk 6 (W ((e.length : Int) - 1)) (e.length : Int)) (spans w e ++ [reSpan w (TNode.mk 3 1 0) (spans w e)]) := by
    rw [hs, show (reEither e).length - 1 = (spans w e ++ [reSpan w (TNode.mk 3 1 0) (spans w e)]).length by rw [List.length_append, spans_len]; unfold reEither; simp, List.getD_eq_getElem?_getD, List.getElem?_append_right (by omega), Nat.sub_self]; rfl
  rw [hg]
  have sl := spans_len w e
  have ga : (spans w e ++ [reSpan w (TNode.mk 3 1 0) (spans w e)]).getD (e.length - 1) noSpn = (spans w e).getD (e.length - 1) noSpn := by
    rw [List.getD_eq_getElem?_getD, List.getElem?_append_left (by omega), ← List.getD_eq_getElem?_getD]
  have gb : (spans w e ++ [reSpan w (TNode.mk 3 1 0) (spans w e)]).getD e.length noSpn = reSpan w (TNode.mk 3 1 0) (spans w e) := by
    rw [List.getD_eq_getElem?_getD, List.getElem?_append_right (by omega), sl, Nat.sub_self]; rfl
  unfold reSpan at ga gb ⊢
  dsimp only at ga gb ⊢
  rw [if_neg (by decide), if_neg (by decide), if_neg (by decide), if_neg (by decide), if_pos rfl, w1, show ((e.length : Int) - 1).toNat = e.length - 1 by omega, Int.toNat_natCast, ga, gb]
  dsimp only
  rw [if_neg (by decide), if_pos rfl]
theorem dc_iff {a b : Prop} (h : a ↔ b) : dc a = dc b := by rw [propext h]
theorem reTakes_star {e : List TNode} (he : treeOk reP e = true) (hl : e.length < 31) {w : List Int} (hw : w.length ≤ 60) : reTakes (reStar e) w = true ↔ StarR ((spans w e).getD (e.length - 1) noSpn) 0 w.length := by
  have hn := treeOk_nodes he
  unfold reTakes
  rw [star_tree he hl, decide_eq_true hw, Bool.true_and, Bool.true_and, dc_t, star_root w hn.1 hn.2.1]
theorem reTakes_either {e : List TNode} (he : treeOk reP e = true) (hl : e.length < 29) {w : List Int} (hw : w.length ≤ 60) : reTakes (reEither e) w = true ↔ reTakes e w = true ∨ (w.length = 1 ∧ w.getD 0 0 = 1) := by
  have hn := treeOk_nodes he
  unfold reTakes
  rw [either_tree he hl, he, decide_eq_true hw, Bool.true_and, Bool.true_and, Bool.true_and, dc_t, dc_t, either_root w hn.1 hn.2.1]
  constructor
  · rintro (h | ⟨h1, h2, h3⟩)
    · exact .inl h
    · exact .inr ⟨by omega, h3⟩
  · rintro (h | ⟨h1, h3⟩)
    · exact .inl h
    · exact .inr ⟨by omega, by omega, h3⟩
theorem reTakes_twice {e : List TNode} (he : treeOk reP e = true) (hl : e.length < 31) {w : List Int} (hw : w.length ≤ 20) (h : reTakes e w = true) : reTakes (reStar e) (w ++ w) = true := by
  have hn := treeOk_nodes he
  have h1 := hn.1
  unfold reTakes at h
  rw [he, decide_eq_true (by omega), Bool.true_and, Bool.true_and, dc_t] at h
  rw [reTakes_star he hl (by simp; omega)]
  have a := spans_loc hn [] w w (e.length - 1) (by omega) 0 w.length (Nat.le_refl _) h
  have b := spans_loc hn w w [] (e.length - 1) (by omega) 0 w.length (Nat.le_refl _) h
  simp only [List.nil_append, List.append_nil, List.length_nil, Nat.zero_add, Nat.add_zero] at a b
  rw [List.length_append]
  exact .step a (.step b (.refl _))
theorem reTakes_once {e : List TNode} (he : treeOk reP e = true) (hl : e.length < 31) {w : List Int} (hw : w.length ≤ 20) (h : reTakes e w = true) : reTakes (reStar e) w = true := by
  unfold reTakes at h
  rw [he, decide_eq_true (by omega), Bool.true_and, Bool.true_and, dc_t] at h
  rw [reTakes_star he hl (by omega)]
  exact .step h (.refl _)
theorem pureReParts (bs : List Int) (w : bs.length ≤ 9223372036854775807 ∧ ∀ q ∈ bs, (IntKind.u8.min ≤ q ∧ q ≤ IntKind.u8.max)) : laws_FnReParts 40 bs = some true := by
  unfold laws_FnReParts
  by_cases hb : laws_big bs = true
  · rw [if_pos hb]
  have h : bs.length ≤ 1048576 := by unfold laws_big at hb; simp at hb; omega
  obtain ⟨e, v, hd, he, hv⟩ := drawReTakes_ok h (K := 40) (by decide)
  rw [if_neg hb, hd, Option.bind_some]
  dsimp only
  rw [specReOk_eq, Option.bind_some]
  simp only [bnd_eq]
  by_cases hc : treeOk reP e = true ∧ e.length ≤ 14 ∧ v.length ≤ 20
  · obtain ⟨c1, c2, c3⟩ := hc
    have hn := treeOk_nodes c1
    rw [if_neg (by simp [c1]; omega)]
    rw [appN (l := []) (m := e) (by simp; omega), Option.bind_some, List.nil_append, appN (by simp; omega), Option.bind_some, Option.bind_some, appN (by simp; omega), Option.bind_some, app_small (xs := []) (ys := v) (by simp; omega) (by decide), Option.bind_some, List.nil_append, app_small (xs := v) (ys := v) (by omega) (by decide), Option.bind_some]
    have f1 : e ++ [TNode.mk 4 (W ((e.length : Int) - 1)) 0] = reStar e := rfl
    have f2 : e ++ [TNode.mk 3 1 0, TNode.mk 6 (W ((e.length : Int) - 1)) (e.length : Int)] = reEither e := rfl
    have t0 : reTakes (reStar e) [] = true := (reTakes_star c1 (by omega) (by simp)).mpr (.refl _)
    simp only [List.nil_append, f1, f2, specReTakes_eq, implReOk_eq, implReTakes_eq, Option.bind_some, star_tree c1 (show e.length < 31 by omega), either_tree c1 (show e.length < 29 by omega), Bool.not_true, Bool.not_false, whenO_t, Bool.false_or, Bool.or_self, t0, Bool.false_eq_true, if_false]
    have hix : (whenO (decide ((v.length : Int) = 1)) (ix v 0)) = some (if v.length = 1 then v.getD 0 0 else 0) := by
      by_cases k : v.length = 1
      · rw [decide_eq_true (by omega), whenO_t, ix_ok (by omega) (by omega), if_pos k]; rfl
      · rw [decide_eq_false (by omega), if_neg k]; rfl
    rw [hix, Option.bind_some]
    have hlast : reTakes (reEither e) v = (reTakes e v || decide ((v.length : Int) = 1) && decide ((if v.length = 1 then v.getD 0 0 else 0) = 1)) := by
      rw [Bool.eq_iff_iff, reTakes_either c1 (by omega) (by omega), Bool.or_eq_true, Bool.and_eq_true, decide_eq_true_eq, decide_eq_true_eq]
      constructor
      · rintro (g | ⟨g1, g2⟩)
        · exact .inl g
        · exact .inr ⟨by omega, by rw [if_pos g1]; exact g2⟩
      · rintro (g | ⟨g1, g2⟩)
        · exact .inl g
        · rw [if_pos (by omega)] at g2; exact .inr ⟨by omega, g2⟩
    rw [hlast]
    cases ht : reTakes e v with
    | false => simp [whenO_t, whenO_f]
    | true => simp [whenO_t, whenO_f, reTakes_once c1 (by omega) c3 ht, reTakes_twice c1 (by omega) c3 ht]
  · rw [if_pos]
    · rw [implReTakes_eq, Option.bind_some]
      have : reTakes [] v = false := by unfold reTakes treeOk; simp
      rw [this]; rfl
    · simp only [Bool.or_eq_true, Bool.not_eq_true', decide_eq_true_eq]
      by_cases k : treeOk reP e = true
      · by_cases k2 : e.length ≤ 14
        · right
          by_cases k3 : v.length ≤ 20
          · exact absurd ⟨k, k2, k3⟩ hc
          · omega
        · left; right; omega
      · left; left; simpa using k
end Go.Proofs.Ytmmgpcnngaekoaa
