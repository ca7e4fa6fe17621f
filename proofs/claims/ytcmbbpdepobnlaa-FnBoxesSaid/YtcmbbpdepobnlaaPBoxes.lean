/- Boxes are put together as words are. -/
import Derived.Test.YtcmbbpdepobnlaaDBoxes
import Derived.Test.YtcmbbpdepobnlaaWf
import Derived.Test.YtcmbbpdepobnlaaPBoxS
import Derived.Test.YtcmbbpdepobnlaaPDraw4
import Derived.Test.YtcmbbpdepobnlaaPDraw3L
namespace Go.Proofs.Ytcmbbpdepobnlaa
open Go Go.RowKit E
set_option linter.unusedVariables false

theorem same_eq (x y : List Int) (h : x.length ≤ 1000000) : laws_sameInts x y = some (decide (x = y)) := by
  unfold laws_sameInts
  by_cases hl : x.length = y.length
  · rw [if_neg (by omega)]
    have hb : (fun s : Int => laws_sameInts.b0 x y s) = (fun s : Int => if s < (x.length : Int) then (ix x s).bind fun a => (ix y s).bind fun b => ((fun a b : Int => some (decide (a = b))) a b).bind fun c => if (!c) = true then some (.inr (.inr false)) else some (.inl (W (s + 1))) else some (.inr (.inl ()))) := by
      funext s
      unfold laws_sameInts.b0
      split
      · congr 1; funext a; congr 1; funext b
        simp
      · rfl
    rw [hb, eq_loop (fun a b : Int => some (decide (a = b))) (fun _ _ => rfl) x y hl (by omega), Option.bind_some]
    by_cases e : x = y
    · rw [if_pos e, Sum.elim_inl, laws_sameInts.k0, decide_eq_true e]
    · rw [if_neg e, Sum.elim_inr, decide_eq_false e]
  · rw [if_pos (by omega), decide_eq_false (fun e => hl (by rw [e]))]
noncomputable def boxMul (n : Int) (x y : List Int) : List Int := if boxOk n x = true ∧ boxOk n y = true then boxMulL n.toNat x y else []
theorem boxOk_t {n : Int} {x : List Int} (h : boxOk n x = true) : (1 ≤ n ∧ n ≤ 4) ∧ Bx n.toNat x := by
  unfold boxOk at h
  rw [decide_eq_true_eq] at h
  exact ⟨⟨h.1, h.2.1⟩, h.2.2⟩
theorem boxOk_of {n : Int} {x : List Int} (h : 1 ≤ n ∧ n ≤ 4) (k : Bx n.toNat x) : boxOk n x = true := by
  unfold boxOk
  rw [decide_eq_true_eq]
  exact ⟨h.1, h.2, k⟩
theorem implBoxMul_eq (n : Int) (x y : List Int) (hx : x.length ≤ 1000000) (hy : y.length ≤ 1000000) : impl_BoxMul n x y = some (boxMul n x y) := by
  unfold impl_BoxMul boxMul
  rw [implBoxOk_eq n x (by omega), Option.bind_some, implBoxOk_eq n y (by omega)]
  simp only [bnd_eq]
  by_cases h1 : boxOk n x = true
  · rw [h1, Bool.not_true, Bool.not_false, whenO_t, Option.bind_some]
    by_cases h2 : boxOk n y = true
    · obtain ⟨g1, g2⟩ := boxOk_t h1
      obtain ⟨_, g3⟩ := boxOk_t h2
      have := implMul_eq (m := n.toNat) (by omega) g2 g3
      rw [show ((n.toNat : Nat) : Int) = n by omega] at this
      rw [h2, if_neg (by simp), this, Option.bind_some, if_pos (by simp)]
    · rw [if_pos (by simp [h2]), if_neg (fun k => h2 k.2)]
  · rw [Bool.eq_false_iff.mpr h1, Bool.not_false, Bool.not_true, whenO_f, Option.bind_some, if_pos (by simp), if_neg (by simp)]
theorem specBoxMul_eq (n : Int) (x y : List Int) (hx : x.length ≤ 1000000) (hy : y.length ≤ 1000000) : spec_BoxMul n x y = some (boxMul n x y) := by
  unfold spec_BoxMul boxMul
  rw [specBoxOk_eq n x (by omega), Option.bind_some, specBoxOk_eq n y (by omega)]
  simp only [bnd_eq]
  by_cases h1 : boxOk n x = true
  · rw [h1, Bool.not_true, Bool.not_false, whenO_t, Option.bind_some]
    by_cases h2 : boxOk n y = true
    · obtain ⟨g1, g2⟩ := boxOk_t h1
      obtain ⟨_, g3⟩ := boxOk_t h2
      have := specMul_eq (m := n.toNat) (by omega) g2 g3
      rw [show ((n.toNat : Nat) : Int) = n by omega] at this
      rw [h2, if_neg (by simp), this, Option.bind_some, if_pos (by simp)]
    · rw [if_pos (by simp [h2]), if_neg (fun k => h2 k.2)]
  · rw [Bool.eq_false_iff.mpr h1, Bool.not_false, Bool.not_true, whenO_f, Option.bind_some, if_pos (by simp), if_neg (by simp)]
theorem implBoxOne_eq {n : Int} (h : 1 ≤ n ∧ n ≤ 4) : impl_BoxOne n = some (oneL n.toNat) := by
  unfold impl_BoxOne
  rw [boxed_eq, decide_eq_true h, if_neg (by simp)]
  have := implOne_eq (m := n.toNat) (by omega)
  rw [show ((n.toNat : Nat) : Int) = n by omega] at this
  rw [this, Option.bind_some]
theorem bx_len {m : Nat} {x : List Int} (hm : 1 ≤ m ∧ m ≤ 4) (h : Bx m x) : 1 ≤ x.length ∧ x.length ≤ 16 := by
  rw [h.1]
  have : m = 1 ∨ m = 2 ∨ m = 3 ∨ m = 4 := by omega
  rcases this with rfl | rfl | rfl | rfl <;> decide
theorem drawBox_ok {c : Tl1Cur} (hc : CurOk c) {n : Nat} (hn : n ≤ 10) : ∃ x c', spec_l14DrawBox c (n : Int) = some (x, c') ∧ CurOk c' ∧ x.length ≤ 1000 := by
  unfold spec_l14DrawBox
  have hnn : n * n ≤ 100 := Nat.mul_le_mul hn hn
  have w : W ((n : Int) * (n : Int)) = ((n * n : Nat) : Int) := by rw [W, W_eq (by omega) (by omega)]; simp
  obtain ⟨r, e, r1, r2⟩ := loop_inv (body := fun s : List Int × Int × Int × List Int × Int => spec_l14DrawBox.b0 (n : Int) s.1 s.2.1 s.2.2.1 s.2.2.2.1 s.2.2.2.2) (fun s => CurOk ⟨s.1, s.2.1, s.2.2.1⟩ ∧ 0 ≤ s.2.2.2.2 ∧ s.2.2.2.2 ≤ ((n * n : Nat) : Int) ∧ (s.2.2.2.1.length : Int) = s.2.2.2.2) (fun s => n * n - s.2.2.2.2.toNat) (fun r => CurOk ⟨r.1, r.2.1, r.2.2.1⟩ ∧ r.2.2.2.length ≤ 100) (by
    rintro ⟨b, i, h, y, k⟩ ⟨i1, i2, i3, i4⟩
    dsimp only at i1 i2 i3 i4 ⊢
    unfold spec_l14DrawBox.b0
    rw [w]
    by_cases g : k < ((n * n : Nat) : Int)
    · right
      obtain ⟨z, c2, e2, _, _, hc2⟩ := below_ok i1 (n := 5) (by decide)
      have wk : W (k + 1) = k + 1 := W_eq (by omega) (by omega)
      rw [if_pos g, e2, Option.bind_some, app_small (by simp; omega) (by decide), Option.bind_some, wk]
      exact ⟨_, rfl, ⟨hc2, by dsimp only; omega, by dsimp only; omega, by simp; omega⟩, by dsimp only; omega⟩
    · left
      rw [if_neg g]
      exact ⟨_, rfl, i1, by dsimp only; omega⟩) (s := (c.b, c.i, c.h, [], 0)) ⟨hc, Int.le_refl 0, by dsimp only; omega, rfl⟩
  rw [e, Option.bind_some]
  obtain ⟨b, i, h, y⟩ := r
  dsimp only at r1 r2 ⊢
  have k1 : ∀ (c : Tl1Cur) (y : List Int), CurOk c → y.length ≤ 100 → ∃ x c', spec_l14DrawBox.k1 c.b c.i c.h y = some (x, c') ∧ CurOk c' ∧ x.length ≤ 1000 := by
    intro c y hc hy
    unfold spec_l14DrawBox.k1
    have hc' : CurOk (Tl1Cur.mk c.b c.i c.h) := hc
    obtain ⟨b, c3, e3, h3⟩ := onceA_ok hc' (n := 20) (by decide)
    rw [e3, Option.bind_some]
    split
    · rw [app_small (by simp; omega) (by decide), Option.bind_some]
      exact ⟨_, _, rfl, h3, by simp; omega⟩
    · exact ⟨_, _, rfl, h3, by omega⟩
  unfold spec_l14DrawBox.k0
  rw [bnd_eq]
  by_cases hy : (y.length : Int) > 0
  · obtain ⟨b1, c3, e3, h3⟩ := onceA_ok r1 (n := 15) (by decide)
    rw [decide_eq_true hy, whenO_t, e3, Option.bind_some]
    simp only [Bool.true_and, cond_true]
    by_cases hb : b1 = true
    · obtain ⟨z, c4, e4, _, _, h4⟩ := below_ok h3 (n := 5) (by decide)
      rw [if_pos hb, e4, Option.bind_some, show (0 : Int) = ((0 : Nat) : Int) from rfl, ck_nat (by omega), Option.bind_some]
      exact k1 c4 _ h4 (by rw [List.length_set]; exact r2)
    · rw [if_neg hb]
      exact k1 c3 y h3 r2
  · rw [decide_eq_false hy, whenO_f, Option.bind_some]
    simp only [Bool.false_and, cond_false]
    rw [if_neg (by simp)]
    exact k1 ⟨b, i, h⟩ y r1 r2
theorem drawMul_ok {bs : List Int} (h : bs.length ≤ 1048576) : ∃ n x y, spec_DrawBoxMul bs = some (n, x, y) ∧ x.length ≤ 1000 ∧ y.length ≤ 1000 ∧ 1 ≤ n := by
  unfold spec_DrawBoxMul
  obtain ⟨c0, e0, h0⟩ := new_ok bs h
  obtain ⟨z, c1, e1, z1, z2, h1⟩ := below_pos h0 (n := 5) (by decide) (by decide)
  have w : W (1 + z) = (((1 + z).toNat : Nat) : Int) := by rw [W, W_eq (by omega) (by omega)]; omega
  obtain ⟨x, c2, e2, h2, l2⟩ := drawBox_ok h1 (n := (1 + z).toNat) (by omega)
  obtain ⟨y, c3, e3, h3, l3⟩ := drawBox_ok h2 (n := (1 + z).toNat) (by omega)
  rw [e0, Option.bind_some, e1, Option.bind_some]
  dsimp only
  rw [w, e2, Option.bind_some]
  dsimp only
  rw [e3, Option.bind_some]
  exact ⟨_, _, _, rfl, l2, l3, by omega⟩
theorem drawBoxAuto_ok {c : Tl1Cur} (hc : CurOk c) : ∃ a c', spec_l14DrawAuto c = some (a, c') ∧ CurOk c' := by
  unfold spec_l14DrawAuto
  obtain ⟨a, c1, e1, h1, _⟩ := autoRight_ok hc (l := 2) (s := 3) (by decide) (by decide)
  obtain ⟨b, c2, e2, h2⟩ := onceA_ok h1 (n := 12) (by decide)
  obtain ⟨a2, c3, e3, h3, _⟩ := drawAuto_ok h2 (s := 6) (by decide)
  rw [e1, Option.bind_some, e2, Option.bind_some]
  split
  · rw [e3, Option.bind_some]; exact ⟨_, _, rfl, h3⟩
  · exact ⟨_, _, rfl, h2⟩
theorem drawBoxOf_ok {bs : List Int} (h : bs.length ≤ 1048576) : ∃ a w, spec_DrawBoxOf bs = some (a, w) ∧ w.length ≤ 100 := by
  unfold spec_DrawBoxOf
  obtain ⟨c0, e0, h0⟩ := new_ok bs h
  obtain ⟨a, c1, e1, h1⟩ := drawBoxAuto_ok h0
  obtain ⟨b, c2, e2, h2⟩ := onceA_ok h1 (n := 25) (by decide)
  rw [e0, Option.bind_some, e1, Option.bind_some, e2, Option.bind_some]
  split
  · obtain ⟨y, c3, e3, y1, y2, h3⟩ := below_pos h2 (n := 2) (by decide) (by decide)
    have w : W (60 + y) = 60 + y := W_eq (by omega) (by omega)
    rw [e3, Option.bind_some]
    dsimp only
    rw [w, mk_ok (by omega) (by omega), Option.bind_some]
    exact ⟨_, _, rfl, by simp; omega⟩
  · obtain ⟨l, c3, e3, _, l3⟩ := letters_ok h2 (most := 6) (by decide) (n := 2) (by decide)
    have e3' : spec_l3DrawLetters c2 6 2 = some (l, c3) := e3
    rw [e3', Option.bind_some]
    exact ⟨_, _, rfl, by show l.length ≤ 100; omega⟩
theorem at_ok {bs : List Int} (h : bs.length ≤ 1048576) (w : ∀ q ∈ bs, (IntKind.u8.min ≤ q ∧ q ≤ IntKind.u8.max)) : ∃ v, laws_at bs 1 = some v ∧ 0 ≤ v ∧ v ≤ 1000 := by
  unfold laws_at
  by_cases k : (1 : Int) < bs.length
  · have hm := w _ (List.getElem_mem (show 1 < bs.length by omega))
    have h0 : IntKind.u8.min = 0 := by decide
    have h1 : IntKind.u8.max = 255 := by decide
    rw [h0, h1] at hm
    rw [if_pos k, show (1 : Int) = ((1 : Nat) : Int) from rfl, ix_nat (by omega), Option.bind_some]
    have e : bs.getD 1 default = bs[1]'(by omega) := by rw [List.getD_eq_getElem?_getD, List.getElem?_eq_getElem (by omega)]; rfl
    rw [e, W_eq (by omega) (by omega)]
    exact ⟨_, rfl, by omega, by omega⟩
  · rw [if_neg k]
    have w1 : W (1 * 7) = 7 := by decide
    have w2 : W (7 + (bs.length : Int)) = 7 + (bs.length : Int) := W_eq (by omega) (by omega)
    rw [w1, w2]
    exact ⟨_, rfl, Int.tmod_nonneg _ (by omega), by have := Int.tmod_lt_of_pos (7 + (bs.length : Int)) (show (0 : Int) < 256 by decide); omega⟩
noncomputable def tailB (bs : List Int) : Option Bool := ((spec_DrawBoxOf bs).bind fun a76 => (impl_BoxOf a76.1 a76.2).bind fun a81 => (spec_BoxOf a76.1 a76.2).bind fun a86 => (if ((a81.length : Int)) ≠ ((a86.length : Int)) then some false else (if ((a81.length : Int)) = 0 then some true else (laws_at bs 1).bind fun a93 => (chk (decide (((W (((a76.2.length : Int)) + 1))) ≠ 0))).bind fun u9 => (cut a76.2 0 ((Int.tmod a93 ((W (((a76.2.length : Int)) + 1)))))).bind fun a104 => (impl_BoxOf a76.1 a104).bind fun a105 => (cut a76.2 ((Int.tmod a93 ((W (((a76.2.length : Int)) + 1))))) ((a76.2.length : Int))).bind fun a109 => (impl_BoxOf a76.1 a109).bind fun a110 => (impl_BoxMul a76.1.states a105 a110).bind fun a111 => (laws_sameInts a81 a111).bind fun a112 => some a112)))
theorem tailB_ok {bs : List Int} (h : bs.length ≤ 1048576) (w : ∀ q ∈ bs, (IntKind.u8.min ≤ q ∧ q ≤ IntKind.u8.max)) : tailB bs = some true := by
  obtain ⟨a, v, e2, lv⟩ := drawBoxOf_ok h
  unfold tailB
  rw [e2, Option.bind_some]
  dsimp only
  rw [implBoxOf_eq a v (by omega), Option.bind_some, specBoxOf_eq a v (by omega), Option.bind_some, if_neg (by simp)]
  by_cases hok : (1 ≤ a.states ∧ a.states ≤ 4) ∧ v.length ≤ 60 ∧ autoOk a = true ∧ lettersOk v a.letters = true
  · obtain ⟨s4, v60, hA, hL⟩ := hok
    have hw := word_bx a.states.toNat a.edges v
    have hlw := bx_len (by omega) hw
    have eb : boxOf a v = wordL a.states.toNat a.edges v := by unfold boxOf; rw [if_pos ⟨s4, v60, hA, hL⟩]
    obtain ⟨t, et, t0, t1⟩ := at_ok h w
    have wl : W ((v.length : Int) + 1) = (v.length : Int) + 1 := W_eq (by omega) (by omega)
    rw [eb, if_neg (by omega), et, Option.bind_some, wl, decide_eq_true (by omega), chk_t, Option.bind_some]
    obtain ⟨k, hk, kl⟩ : ∃ k : Nat, Int.tmod t ((v.length : Int) + 1) = (k : Int) ∧ k ≤ v.length := by
      have g1 := Int.tmod_nonneg ((v.length : Int) + 1) t0
      have g2 := Int.tmod_lt_of_pos t (show (0 : Int) < (v.length : Int) + 1 by omega)
      exact ⟨(Int.tmod t ((v.length : Int) + 1)).toNat, by omega, by omega⟩
    rw [hk]
    have c1 : cut v 0 (k : Int) = some (v.take k) := by
      unfold cut; rw [if_pos ⟨by omega, by omega, by omega⟩]; simp
    have c2 : cut v (k : Int) (v.length : Int) = some (v.drop k) := by
      unfold cut; rw [if_pos ⟨by omega, by omega, by omega⟩]
      rw [Int.toNat_natCast, List.take_of_length_le (by rw [List.length_drop]; omega)]
    have hL2 : lettersOk (v.take k) a.letters = true ∧ lettersOk (v.drop k) a.letters = true := lettersOk_app.mp (by rw [List.take_append_drop]; exact hL)
    have eb1 : boxOf a (v.take k) = wordL a.states.toNat a.edges (v.take k) := by unfold boxOf; rw [if_pos ⟨s4, by simp; omega, hA, hL2.1⟩]
    have eb2 : boxOf a (v.drop k) = wordL a.states.toNat a.edges (v.drop k) := by unfold boxOf; rw [if_pos ⟨s4, by simp; omega, hA, hL2.2⟩]
    have w1 := word_bx a.states.toNat a.edges (v.take k)
    have w2 := word_bx a.states.toNat a.edges (v.drop k)
    have l1 := bx_len (by omega) w1
    have l2 := bx_len (by omega) w2
    rw [c1, Option.bind_some, implBoxOf_eq a _ (by simp; omega), Option.bind_some, c2, Option.bind_some, implBoxOf_eq a _ (by simp; omega), Option.bind_some, eb1, eb2, implBoxMul_eq _ _ _ (by omega) (by omega), Option.bind_some, same_eq _ _ (by omega), Option.bind_some]
    have em : boxMul a.states (wordL a.states.toNat a.edges (v.take k)) (wordL a.states.toNat a.edges (v.drop k)) = wordL a.states.toNat a.edges v := by
      unfold boxMul
      rw [if_pos ⟨boxOk_of s4 w1, boxOk_of s4 w2⟩, ← word_app, List.take_append_drop]
    rw [em, decide_eq_true rfl]
  · have eb : boxOf a v = [] := by unfold boxOf; rw [if_neg hok]
    rw [eb, if_pos (by simp)]
noncomputable def headB (R : Option Bool) (p0 : List Int) : Option Bool := (if (laws_big p0) = true then some true else (spec_DrawBoxMul p0).bind fun a15 => (impl_BoxMul a15.1 a15.2.1 a15.2.2).bind fun a22 => (spec_BoxMul a15.1 a15.2.1 a15.2.2).bind fun a27 => (laws_sameInts a22 a27).bind fun a28 => (if (!a28) = true then some false else bnd ((decide (((a22.length : Int)) > 0))) fun c33 => (whenO c33 (impl_BoxMul a15.1 a22 a15.2.1)).bind fun a37 => (whenO c33 (impl_BoxMul a15.1 a15.2.2 a15.2.1)).bind fun a43 => (whenO c33 (impl_BoxMul a15.1 a15.2.1 a43)).bind fun a44 => (whenO c33 (laws_sameInts a37 a44)).bind fun a45 => bnd ((!a45)) fun c47 => (whenO (c33 && (!c47)) (impl_BoxOne a15.1)).bind fun a51 => (whenO (c33 && (!c47)) (impl_BoxMul a15.1 a15.2.1 a51)).bind fun a52 => (whenO (c33 && (!c47)) (laws_sameInts a52 a15.2.1)).bind fun a54 => bnd ((c47 || (!a54))) fun c57 => (whenO (c33 && (!c57)) (impl_BoxOne a15.1)).bind fun a60 => (whenO (c33 && (!c57)) (impl_BoxMul a15.1 a60 a15.2.1)).bind fun a62 => (whenO (c33 && (!c57)) (laws_sameInts a62 a15.2.1)).bind fun a64 => bnd ((c57 || (!a64))) fun c67 => (whenO (c33 && (!c67)) (impl_BoxOk a15.1 a22)).bind fun a70 => (if (c33 && (c67 || (!a70))) = true then some false else R)))
theorem boxes_parts (bs : List Int) : laws_FnBoxes bs = headB (tailB bs) bs := rfl
theorem pureBoxes (bs : List Int) (w : bs.length ≤ 9223372036854775807 ∧ ∀ q ∈ bs, (IntKind.u8.min ≤ q ∧ q ≤ IntKind.u8.max)) : laws_FnBoxes bs = some true := by
  rw [boxes_parts]
  by_cases hb : laws_big bs = true
  · unfold headB; rw [if_pos hb]
  have h : bs.length ≤ 1048576 := by unfold laws_big at hb; simp at hb; omega
  obtain ⟨n, x, y, e1, lx, ly, n1⟩ := drawMul_ok h
  rw [tailB_ok h w.2]
  unfold headB
  rw [if_neg hb, e1, Option.bind_some]
  dsimp only
  rw [implBoxMul_eq n x y (by omega) (by omega), Option.bind_some, specBoxMul_eq n x y (by omega) (by omega), Option.bind_some]
  have hsame : (boxMul n x y).length ≤ 1000000 := by
    unfold boxMul
    split
    · rename_i k
      obtain ⟨g1, g2⟩ := boxOk_t k.1
      obtain ⟨_, g3⟩ := boxOk_t k.2
      have := bx_len (by omega) (mul_bx g2 g3)
      omega
    · simp
  rw [same_eq _ _ hsame, Option.bind_some, decide_eq_true rfl, if_neg (by simp)]
  by_cases hok : boxOk n x = true ∧ boxOk n y = true
  · obtain ⟨n4, bx⟩ := boxOk_t hok.1
    obtain ⟨_, byy⟩ := boxOk_t hok.2
    have bxy := mul_bx bx byy
    have byx := mul_bx byy bx
    have lxy := bx_len (by omega) bxy
    have lyx := bx_len (by omega) byx
    have e1 : boxMul n x y = boxMulL n.toNat x y := by unfold boxMul; rw [if_pos hok]
    have e2 : boxMul n (boxMulL n.toNat x y) x = boxMulL n.toNat (boxMulL n.toNat x y) x := by unfold boxMul; rw [if_pos ⟨boxOk_of n4 bxy, hok.1⟩]
    have e3 : boxMul n y x = boxMulL n.toNat y x := by unfold boxMul; rw [if_pos ⟨hok.2, hok.1⟩]
    have e4 : boxMul n x (boxMulL n.toNat y x) = boxMulL n.toNat (boxMulL n.toNat x y) x := by unfold boxMul; rw [if_pos ⟨hok.1, boxOk_of n4 byx⟩, mul_assoc' bx byy bx]
    have lxyx := bx_len (by omega) (mul_bx bxy bx)
    have ho := one_bx n.toNat
    have lo := bx_len (by omega) ho
    have e5 : boxMul n x (oneL n.toNat) = x := by unfold boxMul; rw [if_pos ⟨hok.1, boxOk_of n4 ho⟩, mul_one' bx]
    have e6 : boxMul n (oneL n.toNat) x = x := by unfold boxMul; rw [if_pos ⟨boxOk_of n4 ho, hok.1⟩, one_mul' bx]
    rw [e1]
    simp only [bnd_eq]
    rw [decide_eq_true (show ((boxMulL n.toNat x y).length : Int) > 0 by omega)]
    simp only [whenO_t, Bool.true_and, implBoxMul_eq n (boxMulL n.toNat x y) x (by omega) (by omega), implBoxMul_eq n y x (by omega) (by omega), Option.bind_some, e2, e3, implBoxMul_eq n x (boxMulL n.toNat y x) (by omega) (by omega), e4, same_eq (boxMulL n.toNat (boxMulL n.toNat x y) x) _ (by omega), decide_true, Bool.not_true, Bool.not_false, implBoxOne_eq n4, implBoxMul_eq n x (oneL n.toNat) (by omega) (by omega), e5, same_eq x x (by omega), Bool.or_self, implBoxMul_eq n (oneL n.toNat) x (by omega) (by omega), e6, implBoxOk_eq n (boxMulL n.toNat x y) (by omega), boxOk_of n4 bxy, Bool.false_eq_true, if_false]
  · have e1 : boxMul n x y = [] := by unfold boxMul; rw [if_neg hok]
    rw [e1]
    rw [bnd_eq, decide_eq_false (show ¬ ((([] : List Int).length : Int) > 0) by decide)]
    rw [whenO_f, Option.bind_some, whenO_f, Option.bind_some, whenO_f, Option.bind_some, whenO_f, Option.bind_some]
    rw [bnd_eq, Bool.false_and, whenO_f, Option.bind_some, whenO_f, Option.bind_some, whenO_f, Option.bind_some]
    rw [bnd_eq, Bool.false_and, whenO_f, Option.bind_some, whenO_f, Option.bind_some, whenO_f, Option.bind_some]
    rw [bnd_eq, Bool.false_and, whenO_f, Option.bind_some, Bool.false_and, if_neg (by simp)]
end Go.Proofs.Ytcmbbpdepobnlaa
