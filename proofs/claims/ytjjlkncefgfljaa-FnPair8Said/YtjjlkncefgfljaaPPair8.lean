/- A pair of two drawn formulas, and the contrary of one. -/
import Derived.Test.YtjjlkncefgfljaaDPair8
import Derived.Test.YtjjlkncefgfljaaWf
import Derived.Test.YtjjlkncefgfljaaPPairN
import Derived.Test.YtjjlkncefgfljaaPTempN
import Derived.Test.YtjjlkncefgfljaaPPrintI
import Derived.Test.YtjjlkncefgfljaaPDraw8
namespace Go.Proofs.Ytjjlkncefgfljaa
open Go Go.RowKit E
set_option linter.unusedVariables false

theorem sizesFrom_app (p : TNode → Int) : ∀ (a b : List TNode) (ss s1 : List Int), sizesFrom p ss a = some s1 → sizesFrom p ss (a ++ b) = sizesFrom p s1 b
  | [], b, ss, s1, h => by unfold sizesFrom at h; cases h; rfl
  | n :: a, b, ss, s1, h => by
    unfold sizesFrom at h
    show sizesFrom p ss (n :: (a ++ b)) = _
    rw [sizesFrom]
    cases hs : sizeStep p ss n with
    | none => rw [hs] at h; cases h
    | some s => rw [hs] at h; exact sizesFrom_app p a b s s1 h
theorem getD_shift (s0 ss : List Int) (j : Nat) : (s0 ++ ss).getD (s0.length + j) 0 = ss.getD j 0 := by
  rw [List.getD_eq_getElem?_getD, List.getD_eq_getElem?_getD, List.getElem?_append_right (by omega)]
  congr 2; omega
theorem ltP_mv (y : Int) (n : TNode) : ltP (mv y n) = ltP n := by
  have hn := ltP_eq n
  unfold mv
  split
  · rename_i h
    have hk : n.kind = 4 ∨ n.kind = 7 ∨ n.kind = 10 ∨ n.kind = 11 := by
      rw [h] at hn; (repeat' split at hn) <;> first | assumption | omega
    rw [h, ltP_eq, if_neg (by dsimp only; omega), if_neg (by dsimp only; omega), if_pos hk]
  · split
    · rename_i h
      have hk : n.kind = 5 ∨ n.kind = 6 ∨ n.kind = 8 ∨ n.kind = 9 := by
        rw [h] at hn; (repeat' split at hn) <;> first | assumption | omega
      rw [h, ltP_eq, if_neg (by dsimp only; omega), if_neg (by dsimp only; omega), if_neg (by dsimp only; omega), if_pos hk]
    · rfl
theorem sizeStep_mv {s0 ss ss' : List Int} {n : TNode} (h : sizeStep ltP ss n = some ss') : sizeStep ltP (s0 ++ ss) (mv s0.length n) = some (s0 ++ ss') := by
  unfold sizeStep at h ⊢
  rw [ltP_mv]
  by_cases k0 : ltP n = 0
  · rw [if_pos k0] at h ⊢
    cases h; simp
  rw [if_neg k0] at h ⊢
  by_cases k1 : ltP n = 1
  · rw [if_pos k1] at h ⊢
    split at h
    · rename_i g
      cases h
      have e : mv s0.length n = ⟨n.kind, n.a + s0.length, n.b⟩ := by unfold mv; rw [if_pos k1]
      rw [e, if_pos (by simp only [List.length_append]; omega)]
      have := getD_shift s0 ss (ss.length - 1)
      rw [show (s0 ++ ss).length - 1 = s0.length + (ss.length - 1) by simp; omega, this, List.append_assoc]
    · cases h
  rw [if_neg k1] at h ⊢
  by_cases k2 : ltP n = 2
  · rw [if_pos k2] at h ⊢
    split at h
    · rename_i g
      cases h
      have e : mv s0.length n = ⟨n.kind, n.a + s0.length, n.b + s0.length⟩ := by unfold mv; rw [if_neg k1, if_pos k2]
      have h1 := getD_shift s0 ss (ss.length - 1)
      have h2 := getD_shift s0 ss n.a.toNat
      have e1 : (s0 ++ ss).length - 1 = s0.length + (ss.length - 1) := by simp; omega
      have e2 : (n.a + (s0.length : Int)).toNat = s0.length + n.a.toNat := by omega
      rw [e]
      dsimp only
      rw [e1, e2, h1, h2, if_pos (by simp only [List.length_append]; omega), List.append_assoc]
    · cases h
  · rw [if_neg k2] at h; cases h
theorem sizesFrom_mv {s0 : List Int} : ∀ (r : List TNode) (ss s1 : List Int), sizesFrom ltP ss r = some s1 → sizesFrom ltP (s0 ++ ss) (r.map (mv s0.length)) = some (s0 ++ s1)
  | [], ss, s1, h => by unfold sizesFrom at h; cases h; rfl
  | n :: r, ss, s1, h => by
    unfold sizesFrom at h
    cases hs : sizeStep ltP ss n with
    | none => rw [hs] at h; cases h
    | some s =>
      rw [hs] at h
      show sizesFrom ltP (s0 ++ ss) (mv s0.length n :: r.map (mv s0.length)) = _
      rw [sizesFrom, sizeStep_mv hs]
      exact sizesFrom_mv r s s1 h
theorem treeOk_sizes {p : TNode → Int} {e : List TNode} (h : treeOk p e = true) : ∃ s, sizesFrom p [] e = some s ∧ s.length = e.length ∧ s.getD (e.length - 1) 0 = e.length ∧ 1 ≤ e.length ∧ e.length ≤ 31 := by
  unfold treeOk at h
  rw [Bool.and_eq_true, decide_eq_true_eq] at h
  obtain ⟨h1, h2⟩ := h
  cases hs : sizesFrom p [] e with
  | none => rw [hs] at h2; cases h2
  | some s =>
    rw [hs] at h2
    have := (sizesFrom_sized Sized.nil hs).2
    exact ⟨s, rfl, by simpa using this, of_decide_eq_true h2, h1⟩
theorem treeOk_of {p : TNode → Int} {e : List TNode} {s : List Int} (h : sizesFrom p [] e = some s) (h1 : 1 ≤ e.length) (h2 : e.length ≤ 31) (h3 : s.getD (e.length - 1) 0 = e.length) : treeOk p e = true := by
  unfold treeOk
  rw [h]
  simp only [Bool.and_eq_true, decide_eq_true_eq]
  exact ⟨⟨h1, h2⟩, h3⟩
theorem getD_last (s : List Int) (x : Int) : (s ++ [x]).getD s.length 0 = x := by rw [getD_app]; simp
theorem ltP2' {k a b : Int} (h : k = 5 ∨ k = 6 ∨ k = 8 ∨ k = 9) : ltP ⟨k, a, b⟩ = 2 := by rw [ltP_eq, if_neg (by dsimp only; omega), if_neg (by dsimp only; omega), if_neg (by dsimp only; omega), if_pos h]
theorem ltP1' {a b : Int} : ltP ⟨4, a, b⟩ = 1 := by rw [ltP_eq, if_neg (by dsimp only; omega), if_neg (by dsimp only; omega), if_pos (by dsimp only; omega)]
theorem pair_tree {k : Int} {f g : List TNode} (hk : k = 5 ∨ k = 6 ∨ k = 8 ∨ k = 9) (hf : treeOk ltP f = true) (hg : treeOk ltP g = true) (hl : f.length + g.length < 31) :
    treeOk ltP ((f ++ g.map (mv f.length)) ++ [TNode.mk k (W ((f.length : Int) - 1)) (W (((f ++ g.map (mv f.length)).length : Int) - 1))]) = true := by
  obtain ⟨s1, a1, a2, a3, a4, a5⟩ := treeOk_sizes hf
  obtain ⟨s2, b1, b2, b3, b4, b5⟩ := treeOk_sizes hg
  have hlen : (f ++ g.map (mv f.length)).length = f.length + g.length := by simp
  have w1 : W ((f.length : Int) - 1) = (f.length : Int) - 1 := W_eq (by omega) (by omega)
  have w2 : W (((f ++ g.map (mv f.length)).length : Int) - 1) = ((f.length + g.length : Nat) : Int) - 1 := by rw [hlen, W, W_eq (by omega) (by omega)]
  have h2 := sizesFrom_mv (s0 := s1) g [] s2 b1
  rw [a2, List.append_nil] at h2
  have hlast : (s1 ++ s2).getD ((s1 ++ s2).length - 1) 0 = g.length := by
    have := getD_shift s1 s2 (s2.length - 1)
    rw [show (s1 ++ s2).length - 1 = s1.length + (s2.length - 1) by simp; omega, this, b2, b3]
  have hfirst : (s1 ++ s2).getD ((f.length : Int) - 1).toNat 0 = f.length := by
    rw [List.getD_eq_getElem?_getD, List.getElem?_append_left (by omega), ← List.getD_eq_getElem?_getD, show ((f.length : Int) - 1).toNat = f.length - 1 by omega, a3]
  have hsl : (s1 ++ s2).length = f.length + g.length := by simp; omega
  have step : sizeStep ltP (s1 ++ s2) (TNode.mk k (W ((f.length : Int) - 1)) (W (((f ++ g.map (mv f.length)).length : Int) - 1))) = some ((s1 ++ s2) ++ [1 + (g.length : Int) + (f.length : Int)]) := by
    unfold sizeStep
    rw [w1, w2, ltP2' hk, if_neg (by decide), if_neg (by decide), if_pos rfl]
    dsimp only
    rw [hlast, hfirst, hsl, if_pos (by omega)]
  refine treeOk_of (s := (s1 ++ s2) ++ [1 + (g.length : Int) + (f.length : Int)]) ?_ (by simp; omega) (by simp; omega) ?_
  · rw [List.append_assoc, sizesFrom_app ltP f _ [] s1 a1, sizesFrom_app ltP (g.map (mv f.length)) _ s1 (s1 ++ s2) h2]
    rw [sizesFrom, step]; rfl
  · rw [List.length_append, hlen, List.length_singleton, Nat.add_sub_cancel, ← hsl, getD_last, hsl]; omega
theorem not_tree {f : List TNode} (hf : treeOk ltP f = true) (hl : f.length < 31) : treeOk ltP (f ++ [TNode.mk 4 (W ((f.length : Int) - 1)) 0]) = true := by
  obtain ⟨s1, a1, a2, a3, a4, a5⟩ := treeOk_sizes hf
  have w1 : W ((f.length : Int) - 1) = (f.length : Int) - 1 := W_eq (by omega) (by omega)
  refine treeOk_of (s := s1 ++ [1 + (f.length : Int)]) ?_ (by simp) (by simp; omega) ?_
  · rw [sizesFrom_app ltP f _ [] s1 a1, sizesFrom]
    have step : sizeStep ltP s1 (TNode.mk 4 (W ((f.length : Int) - 1)) 0) = some (s1 ++ [1 + (f.length : Int)]) := by
      unfold sizeStep
      rw [w1, ltP1', if_neg (by decide), if_pos rfl]
      dsimp only
      rw [a2, a3, if_pos (by omega)]
    rw [step]; rfl
  · rw [List.length_append, List.length_singleton, Nat.add_sub_cancel, ← a2, getD_last]; omega
noncomputable def ltNot (f : List TNode) : List TNode × Bool := if treeOk ltP f = true ∧ f.length < 31 then (f ++ [TNode.mk 4 (W ((f.length : Int) - 1)) 0], true) else ([], false)
theorem specNot_eq (f : List TNode) : spec_LtlNot f = some (ltNot f) := by
  unfold spec_LtlNot ltNot
  rw [specLtlOk_eq, Option.bind_some, bnd_eq]
  by_cases h : treeOk ltP f = true
  · have h2 := (treeOk_nodes h).2.1
    by_cases k : f.length < 31
    · rw [if_neg (by simp [h]; omega), if_pos ⟨h, k⟩, app24L (by simp; omega), Option.bind_some, List.nil_append, app24L (by simp; omega), Option.bind_some]
    · rw [if_pos (by simp [h]; omega), if_neg (fun x => k x.2)]
  · rw [if_pos (by simp [h]), if_neg (fun x => h x.1)]
theorem implNot_eq (f : List TNode) : impl_LtlNot f = some (ltNot f) := by
  unfold impl_LtlNot ltNot
  rw [implLtlOk_eq, Option.bind_some]
  by_cases h : treeOk ltP f = true
  · have h2 := (treeOk_nodes h).2.1
    rw [if_neg (by simp [h]), app24L (by simp; omega), Option.bind_some, List.nil_append]
    unfold impl_reader_one
    dsimp only
    rw [app24L (by simp; omega), Option.bind_some, Option.bind_some]
    unfold impl_fitting
    by_cases k : f.length < 31
    · rw [if_neg (by simp; omega), if_pos ⟨h, k⟩]; rfl
    · rw [if_pos (by simp; omega), if_neg (fun x => k x.2)]; rfl
  · rw [if_pos (by simp [h]), if_neg (fun x => h x.1)]
theorem print_size {e : List TNode} (h : treeOk ltP e = true) : (ltPrint e).size ≤ 4611686018427387904 := by
  have hn := treeOk_nodes h
  have h1 := hn.1
  have h2 := hn.2.1
  unfold ltPrint
  rw [if_pos h]
  exact Nat.le_trans (ltTexts_size hn (e.length - 1) (by omega)) (pow4 (by omega))
theorem print_not {f : List TNode} (hf : treeOk ltP f = true) (hl : f.length < 31) : ltPrint (f ++ [TNode.mk 4 (W ((f.length : Int) - 1)) 0]) = (⟨#[33]⟩ : ByteArray) ++ ltPrint f := by
  have h1 := (treeOk_nodes hf).1
  have w1 : W ((f.length : Int) - 1) = (f.length : Int) - 1 := W_eq (by omega) (by omega)
  have hT : (ltTexts f).length = f.length := by unfold ltTexts; rw [accum_len]; simp
  unfold ltPrint
  rw [if_pos (not_tree hf hl), if_pos hf]
  have e : ltTexts (f ++ [TNode.mk 4 (W ((f.length : Int) - 1)) 0]) = ltTexts f ++ [ltText (TNode.mk 4 (W ((f.length : Int) - 1)) 0) (ltTexts f)] := by
    unfold ltTexts
    rw [accum_app]; rfl
  rw [e, List.length_append, List.length_singleton, Nat.add_sub_cancel, List.getD_eq_getElem?_getD, List.getElem?_append_right (by omega), hT, Nat.sub_self]
  show ltText _ _ = _
  unfold ltText
  rw [if_neg (by dsimp only; omega), if_neg (by dsimp only; omega), if_neg (by dsimp only; omega), if_pos (by dsimp only; omega), w1]
  dsimp only
  rw [show ((f.length : Int) - 1).toNat = f.length - 1 by omega]
  rfl
def timeN (r : List TNode) : Nat := (r.filter fun n => decide (n.kind ≥ 7)).length
theorem tempL_n : ∀ (r : List TNode) (k : Nat), (tempL k r).length = timeN r
  | [], _ => rfl
  | n :: r, k => by
    unfold tempL timeN
    by_cases h : n.kind ≥ 7
    · rw [if_pos h, List.filter_cons_of_pos (by simpa using h), List.length_cons, List.length_cons, tempL_n r]; rfl
    · rw [if_neg h, List.filter_cons_of_neg (by simpa using h), tempL_n r]; rfl
theorem timeN_app (a b : List TNode) : timeN (a ++ b) = timeN a + timeN b := by simp [timeN]
theorem mv_kind (y : Int) (n : TNode) : (mv y n).kind = n.kind := by unfold mv; (repeat' split) <;> rfl
theorem timeN_mv (y : Int) : ∀ r : List TNode, timeN (r.map (mv y)) = timeN r
  | [] => rfl
  | n :: r => by
    have ih := timeN_mv y r
    unfold timeN at ih ⊢
    rw [List.map_cons]
    by_cases h : n.kind ≥ 7
    · rw [List.filter_cons_of_pos (by simpa [mv_kind] using h), List.filter_cons_of_pos (by simpa using h), List.length_cons, List.length_cons, ih]
    · rw [List.filter_cons_of_neg (by simpa [mv_kind] using h), List.filter_cons_of_neg (by simpa using h), ih]
theorem temporal_n {e : List TNode} (h : treeOk ltP e = true) : (ltTemporal e).length = timeN e := by unfold ltTemporal; rw [if_pos h, tempL_n]
theorem timeN_le (e : List TNode) : timeN e ≤ e.length := List.length_filter_le _ _
theorem purePair8_fg (k : Int) (f g : List TNode) (hf : f.length ≤ 33) (hg : g.length ≤ 33) {K : Nat} {bs : List Int} (hd : spec_DrawLtlPair K bs = some (k, f, g)) : laws_FnPair8 K bs = some true := by
  unfold laws_FnPair8
  by_cases hb : laws_big bs = true
  · rw [if_pos hb]
  rw [if_neg hb, hd, Option.bind_some]
  dsimp only
  rw [implPair_eq, Option.bind_some, specPair_eq, Option.bind_some, implNot_eq, Option.bind_some, specNot_eq, Option.bind_some]
  simp only [bnd_eq, beq_self_eq_true, Bool.not_true, Bool.or_self, Bool.false_eq_true, if_false]
  -- the contrary
  have hnot : ∀ Z : Option Bool, ((whenO (ltNot f).2 (impl_LtlOk (ltNot f).1)).bind fun a58 => (whenO ((ltNot f).2 && (!((!a58) || (decide ((((ltNot f).1.length : Int)) ≠ ((W (((f.length : Int)) + 1)))))))) (impl_LtlPrint (ltNot f).1)).bind fun a70 => (whenO ((ltNot f).2 && (!((!a58) || (decide ((((ltNot f).1.length : Int)) ≠ ((W (((f.length : Int)) + 1)))))))) (impl_LtlPrint f)).bind fun a72 => (whenO ((ltNot f).2 && (!((!a58) || (decide ((((ltNot f).1.length : Int)) ≠ ((W (((f.length : Int)) + 1)))))))) (cat ({ data := #[33] }) a72)).bind fun a73 => (if ((ltNot f).2 && (((!a58) || (decide ((((ltNot f).1.length : Int)) ≠ ((W (((f.length : Int)) + 1)))))) || (!(a70.toList == a73.toList)))) = true then some false else Z)) = Z := by
    intro Z
    by_cases h : treeOk ltP f = true ∧ f.length < 31
    · have e : ltNot f = (f ++ [TNode.mk 4 (W ((f.length : Int) - 1)) 0], true) := by unfold ltNot; rw [if_pos h]
      have w : W ((f.length : Int) + 1) = ((f.length + 1 : Nat) : Int) := W_nat (by omega)
      rw [e]
      dsimp only
      rw [whenO_t, implLtlOk_eq, Option.bind_some, not_tree h.1 h.2, w, decide_eq_false (by simp), Bool.not_true, Bool.or_self, Bool.not_false, Bool.and_self, whenO_t, implLtlPrint_eq, Option.bind_some, whenO_t, implLtlPrint_eq, Option.bind_some, whenO_t]
      have hz := print_size h.1
      rw [cat_ok (by show 1 + _ ≤ _; omega), Option.bind_some, print_not h.1 h.2]
      simp
    · have e : ltNot f = ([], false) := by unfold ltNot; rw [if_neg h]
      rw [e]
      dsimp only
      rw [whenO_f, Option.bind_some, Bool.false_and, whenO_f, Option.bind_some, whenO_f, Option.bind_some, whenO_f, Option.bind_some, Bool.false_and, if_neg (by simp)]
  rw [hnot]
  -- the pair
  by_cases h : (k = 5 ∨ k = 6 ∨ k = 8 ∨ k = 9) ∧ treeOk ltP f = true ∧ treeOk ltP g = true ∧ f.length + g.length < 31
  · have e : ltPair k f g = ((f ++ g.map (mv f.length)) ++ [TNode.mk k (W ((f.length : Int) - 1)) (W (((f ++ g.map (mv f.length)).length : Int) - 1))], true) := by unfold ltPair; rw [if_pos h]
    obtain ⟨h1, h2, h3, h4⟩ := h
    have ht := pair_tree h1 h2 h3 h4
    have e1 : (ltPair k f g).1 = _ := congrArg Prod.fst e
    have e2 : (ltPair k f g).2 = true := congrArg Prod.snd e
    have hlen : (ltPair k f g).1.length = f.length + g.length + 1 := by rw [e1]; simp; omega
    have hT : timeN (ltPair k f g).1 = timeN f + timeN g + (if k = 8 ∨ k = 9 then 1 else 0) := by
      rw [e1, timeN_app, timeN_app, timeN_mv]
      congr 1
      unfold timeN
      by_cases c : k = 8 ∨ k = 9
      · rw [if_pos c, List.filter_cons_of_pos (by simp; omega)]; rfl
      · rw [if_neg c, List.filter_cons_of_neg (by simp; omega)]; rfl
    have hto : treeOk ltP (ltPair k f g).1 = true := by rw [e1]; exact ht
    have t1 := timeN_le f
    have t2 := timeN_le g
    have key : ∀ m : Int, m = (if k = 8 ∨ k = 9 then 1 else 0) → laws_FnPair8.k0 (ltPair k f g) (k, f, g) m = some true := by
      intro m hm
      unfold laws_FnPair8.k0
      have w1 : W ((f.length : Int) + (g.length : Int)) = (f.length : Int) + g.length := W_eq (by omega) (by omega)
      have w2 : W ((f.length : Int) + (g.length : Int) + 1) = (f.length : Int) + g.length + 1 := W_eq (by omega) (by omega)
      have w3 : W ((timeN f : Int) + (timeN g : Int)) = (timeN f : Int) + timeN g := W_eq (by omega) (by omega)
      have w4 : W ((timeN f : Int) + (timeN g : Int) + m) = (timeN f : Int) + timeN g + m := W_eq (by split at hm <;> omega) (by split at hm <;> omega)
      dsimp only
      rw [implLtlOk_eq, Option.bind_some, hto, bnd_eq, w1, w2, hlen, decide_eq_true (by omega), Bool.and_self, whenO_t, implTemporal_eq, Option.bind_some, whenO_t, specTemporal_eq, Option.bind_some, whenO_t, specTemporal_eq, Option.bind_some, temporal_n hto, temporal_n h2, temporal_n h3, w3, w4, hT, decide_eq_true (by rw [hm]; split <;> omega), Bool.and_self]
    rw [e2, if_neg (by simp)]
    by_cases c : k = 8 ∨ k = 9
    · rw [if_pos (by simpa using c)]; exact key 1 (by rw [if_pos c])
    · rw [if_neg (by simpa using c)]; exact key 0 (by rw [if_neg c])
  · have e : ltPair k f g = ([], false) := by unfold ltPair; rw [if_neg h]
    rw [e]; rfl
theorem drawPair_ok {bs : List Int} (h : bs.length ≤ 1048576) {K : Nat} (hK : 5 ≤ K) : ∃ k f g, spec_DrawLtlPair K bs = some (k, f, g) ∧ f.length ≤ 33 ∧ g.length ≤ 33 := by
  unfold spec_DrawLtlPair
  obtain ⟨c0, e0, h0⟩ := new_ok bs h
  obtain ⟨x, c1, e1, _, h1⟩ := pick_ok h0 (xs := [5, 6, 8, 9, 8, 4, 0, 7]) (by decide) (by decide)
  obtain ⟨f, c2, e2, h2, l2⟩ := drawAny_ok hK h1
  obtain ⟨g, c3, e3, h3, l3⟩ := drawAny_ok hK h2
  rw [e0, Option.bind_some, e1, Option.bind_some, e2, Option.bind_some, e3, Option.bind_some]
  exact ⟨_, _, _, rfl, l2, l3⟩
theorem purePair8 (bs : List Int) (w : bs.length ≤ 9223372036854775807 ∧ ∀ q ∈ bs, (IntKind.u8.min ≤ q ∧ q ≤ IntKind.u8.max)) : laws_FnPair8 40 bs = some true := by
  by_cases hb : laws_big bs = true
  · unfold laws_FnPair8; rw [if_pos hb]
  · have h : bs.length ≤ 1048576 := by unfold laws_big at hb; simp at hb; omega
    obtain ⟨k, f, g, e, h1, h2⟩ := drawPair_ok h (K := 40) (by decide)
    exact purePair8_fg k f g h1 h2 e
end Go.Proofs.Ytjjlkncefgfljaa
