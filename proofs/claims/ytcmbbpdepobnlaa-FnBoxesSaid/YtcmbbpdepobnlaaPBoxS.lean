/- The reference's product of boxes, its box of a word. -/
import Derived.Test.YtcmbbpdepobnlaaDBoxes
import Derived.Test.YtcmbbpdepobnlaaPBoxO
namespace Go.Proofs.Ytcmbbpdepobnlaa
open Go Go.RowKit E
set_option linter.unusedVariables false

theorem l1Max_eq (a b : Int) : spec_l1Max a b = max a b := by unfold spec_l1Max; omega
theorem specMul_r {m : Nat} (hm : 1 ≤ m ∧ m ≤ 4) {x y : List Int} (hx : Bx m x) (hy : Bx m y) {p q : Nat} (hp : p < m) (hq : q < m) {zs : List Int} (hz : TabL zs m (valS x y m p q 0)) :
    ∃ zs', loop (fun s : List Int × Int => spec_l14Mul.b2 (m : Int) x (p : Int) y (q : Int) s.1 s.2) (zs, 0) = some zs' ∧ TabL zs' m (valS x y m p q m) := by
  refine loop_inv (I := fun s : List Int × Int => ∃ r : Nat, s.2 = r ∧ r ≤ m ∧ TabL s.1 m (valS x y m p q r)) (μ := fun s => m - s.2.toNat) (R := fun z => TabL z m (valS x y m p q m)) ?_ (s := (zs, 0)) ⟨0, rfl, Nat.zero_le _, hz⟩
  rintro ⟨z, q'⟩ ⟨r, e, hr, hT⟩
  dsimp only at e hT ⊢
  subst e
  unfold spec_l14Mul.b2
  by_cases k : r < m
  · right
    have c1 := cell_lt hp k
    have c2 := cell_lt k hq
    have c3 := cell_lt hp hq
    have wq : W ((r : Int) + 1) = ((r + 1 : Nat) : Int) := W_nat (by omega)
    rw [if_pos (by omega), cellI hm hp k, ix_nat (by rw [hx.1]; exact c1), Option.bind_some, show (default : Int) = 0 from rfl, bnd_eq, cellI hm k hq, cellI hm hp hq, ix_nat (xs := y) (by rw [hy.1]; exact c2), show (default : Int) = 0 from rfl, wq]
    by_cases g1 : x.getD (p * m + r) 0 > 0
    · rw [decide_eq_true g1, whenO_t, Option.bind_some]
      by_cases g2 : y.getD (r * m + q) 0 > 0
      · rw [if_pos (by simpa using g2), ix_nat (by rw [hT.1]; exact c3), Option.bind_some, Option.bind_some, Option.bind_some, ck_nat (by rw [hT.1]; exact c3), Option.bind_some, l1Max_eq, l1Max_eq]
        exact ⟨_, rfl, ⟨r + 1, rfl, k, valS_yes hT hp hq g1 g2⟩, by dsimp only; omega⟩
      · rw [if_neg (by simpa using g2)]
        exact ⟨_, rfl, ⟨r + 1, rfl, k, valS_no hT (fun h => g2 h.2)⟩, by dsimp only; omega⟩
    · rw [decide_eq_false g1, whenO_f, Option.bind_some, if_neg (by simp)]
      exact ⟨_, rfl, ⟨r + 1, rfl, k, valS_no hT (fun h => g1 h.1)⟩, by dsimp only; omega⟩
  · left
    rw [if_neg (by omega)]
    have : r = m := by omega
    subst this
    exact ⟨_, rfl, hT⟩
theorem specMul_q {m : Nat} (hm : 1 ≤ m ∧ m ≤ 4) {x y : List Int} (hx : Bx m x) (hy : Bx m y) {p : Nat} (hp : p < m) {zs : List Int} (hz : TabL zs m (valS x y m p 0 0)) :
    ∃ zs', loop (fun s : List Int × Int => spec_l14Mul.b1 (m : Int) x (p : Int) y s.1 s.2) (zs, 0) = some zs' ∧ TabL zs' m (valS x y m p m 0) := by
  refine loop_inv (I := fun s : List Int × Int => ∃ q : Nat, s.2 = q ∧ q ≤ m ∧ TabL s.1 m (valS x y m p q 0)) (μ := fun s => m - s.2.toNat) (R := fun z => TabL z m (valS x y m p m 0)) ?_ (s := (zs, 0)) ⟨0, rfl, Nat.zero_le _, hz⟩
  rintro ⟨z, q'⟩ ⟨q, e, hq, hT⟩
  dsimp only at e hT ⊢
  subst e
  unfold spec_l14Mul.b1
  by_cases k : q < m
  · right
    have wq : W ((q : Int) + 1) = ((q + 1 : Nat) : Int) := W_nat (by omega)
    obtain ⟨zs', e1, e2⟩ := specMul_r hm hx hy hp k hT
    rw [if_pos (by omega), e1, Option.bind_some]
    unfold spec_l14Mul.k2
    rw [wq]
    exact ⟨_, rfl, ⟨q + 1, rfl, k, valS_q e2 rfl⟩, by dsimp only; omega⟩
  · left
    rw [if_neg (by omega)]
    have : q = m := by omega
    subst this
    exact ⟨_, rfl, hT⟩
theorem specMul_eq {m : Nat} (hm : 1 ≤ m ∧ m ≤ 4) {x y : List Int} (hx : Bx m x) (hy : Bx m y) : spec_l14Mul (m : Int) x y = some (boxMulL m x y) := by
  obtain ⟨h1, h2⟩ := mmI hm
  unfold spec_l14Mul
  rw [h1, mk_ok (by omega) (by omega), Option.bind_some, Int.toNat_natCast]
  obtain ⟨zs, e1, e2⟩ := loop_inv (body := fun s : List Int × Int => spec_l14Mul.b0 (m : Int) x y s.1 s.2) (fun s : List Int × Int => ∃ p : Nat, s.2 = p ∧ p ≤ m ∧ TabL s.1 m (valS x y m p 0 0)) (fun s => m - s.2.toNat) (fun z => z = boxMulL m x y) (by
    rintro ⟨z, q'⟩ ⟨p, e, hq, hT⟩
    dsimp only at e hT ⊢
    subst e
    unfold spec_l14Mul.b0
    by_cases k : p < m
    · right
      have wq : W ((p : Int) + 1) = ((p + 1 : Nat) : Int) := W_nat (by omega)
      obtain ⟨zs', e1, e2⟩ := specMul_q hm hx hy k hT
      rw [if_pos (by omega), e1, Option.bind_some]
      unfold spec_l14Mul.k1
      rw [wq]
      exact ⟨_, rfl, ⟨p + 1, rfl, k, valS_p e2 rfl⟩, by dsimp only; omega⟩
    · left
      rw [if_neg (by omega)]
      exact ⟨_, rfl, valS_end hT (by omega)⟩) (s := (List.replicate (m * m) 0, 0)) ⟨0, rfl, Nat.zero_le _, TabL.zero m rfl _ valS_0⟩
  rw [e1, Option.bind_some, e2]; rfl
theorem l1In_eq (x a b : Int) : spec_l1In x a b = decide (a ≤ x ∧ x ≤ b) := inR
theorem specBoxOk_eq (n : Int) (x : List Int) (hx : x.length ≤ 4611686018427387904) : spec_BoxOk n x = some (boxOk n x) := by
  unfold spec_BoxOk boxOk
  rw [bnd_eq, l1In_eq]
  by_cases hn : 1 ≤ n ∧ n ≤ 4
  · obtain ⟨m, rfl⟩ : ∃ m : Nat, n = m := ⟨n.toNat, by omega⟩
    have hm : 1 ≤ m ∧ m ≤ 4 := by omega
    rw [decide_eq_true hn, (mmI hm).1]
    by_cases hl : x.length = m * m
    · rw [if_neg (by simp [hl]), okLoop (fun a => spec_l1In a 0 2) (fun s : Int => spec_BoxOk.b0 x s) x hx (fun i => rfl), Option.bind_some]
      by_cases hA : x.all (fun a => spec_l1In a 0 2) = true
      · rw [if_pos hA, Sum.elim_inl, spec_BoxOk.k0, decide_eq_true]
        refine ⟨hn.1, hn.2, ?_⟩
        rw [Int.toNat_natCast, bx_iff]
        refine ⟨hl, fun k hk => ?_⟩
        have := List.all_eq_true.mp hA k hk
        rw [l1In_eq] at this
        simpa using this
      · rw [if_neg hA, Sum.elim_inr, decide_eq_false]
        rintro ⟨_, _, h⟩
        rw [Int.toNat_natCast, bx_iff] at h
        refine hA (List.all_eq_true.mpr fun k hk => ?_)
        rw [l1In_eq]; simpa using h.2 k hk
    · rw [if_pos (by simp; omega), decide_eq_false]
      rintro ⟨_, _, h⟩
      rw [Int.toNat_natCast] at h
      exact hl h.1
  · rw [decide_eq_false hn, if_pos (by simp), decide_eq_false]
    rintro ⟨h1, h2, _⟩
    exact hn ⟨h1, h2⟩
theorem specOne_eq {m : Nat} (hm : 1 ≤ m ∧ m ≤ 4) : spec_BoxOne (m : Int) = some (oneL m) := by
  unfold spec_BoxOne
  obtain ⟨h1, h2⟩ := mmI hm
  have hlen : (oneL m).length = m * m := by simp [oneL]
  have key := loop_up (body := fun s : List Int × Int => spec_BoxOne.b0 (m : Int) s.1 s.2) (m * m) (fun k => ((oneL m).take k, (k : Int))) (oneL m) (fun k hk => ?_) ?_ 0 (Nat.zero_le _)
  · have key : loop (fun s : List Int × Int => spec_BoxOne.b0 (m : Int) s.1 s.2) ([], 0) = some (oneL m) := key
    rw [key, Option.bind_some]; rfl
  · (try dsimp only); unfold spec_BoxOne.b0
    have hd : quo .i64 (k : Int) (m : Int) = ((k / m : Nat) : Int) := by
      unfold quo
      have h3 := Nat.div_le_self k m
      rw [show ((k : Int).tdiv (m : Int)) = ((k / m : Nat) : Int) from rfl]
      generalize k / m = d at h3 ⊢
      rw [W_eq (by omega) (by omega)]
    have hmod : Int.tmod (k : Int) (m : Int) = ((k % m : Nat) : Int) := rfl
    have ht : (oneL m).take (k + 1) = (oneL m).take k ++ [if k / m = k % m then 1 else 0] := by
      rw [List.take_succ_eq_append_getElem (by omega)]; simp [oneL]
    rw [h1, bnd_eq, decide_eq_true (by omega), l1In_eq, decide_eq_true (by omega), if_pos (by rfl), decide_eq_true (by omega), chk_t, Option.bind_some, Option.bind_some, hd, hmod, ht, W, W_nat (by omega)]
    by_cases g : k / m = k % m
    · rw [if_pos (by omega), if_pos g, app_small (by simp; omega) (by decide), Option.bind_some]
    · rw [if_neg (by omega), if_neg g, app_small (by simp; omega) (by decide), Option.bind_some]
  · (try dsimp only); unfold spec_BoxOne.b0
    rw [h1, bnd_eq, decide_eq_false (by omega), Bool.false_and, if_neg (by simp), List.take_of_length_le (by omega)]
theorem specLetter_eq {a : TAuto} (h : AOk a) (h4 : 1 ≤ a.states ∧ a.states ≤ 4) (x : Int) : spec_l14Letter a x = some (letL a.states.toNat x a.edges) := by
  obtain ⟨g1, g2⟩ := stN h4
  have hn := h.num
  unfold spec_l14Letter
  rw [g1, mk_ok (by omega) (by omega), Option.bind_some, Int.toNat_natCast]
  have hL : loop (fun s : List Int × Int => spec_l14Letter.b0 a x s.1 s.2) (List.replicate (a.states.toNat * a.states.toNat) 0, 0) = some (letL a.states.toNat x a.edges) := letter_loop h h4 x (fun z i hi hz => by
    (try dsimp only); unfold spec_l14Letter.b0
    obtain ⟨c1, c2⟩ := edge_cell h h4 (edge_mem hi)
    rw [if_pos (by omega), ix_nat hi, Option.bind_some, WN (by omega)]
    unfold letStep
    by_cases g : (a.edges.getD i default).letter = x
    · rw [if_pos g, if_pos g, c1, ck_nat (by omega), Option.bind_some]
      by_cases k : (a.edges.getD i default).good = true
      · rw [if_pos k, if_pos k, ck_nat (by rw [List.length_set]; omega), Option.bind_some, List.set_set]
      · rw [if_neg k, if_neg k]
    · rw [if_neg g, if_neg g]) (fun z => by (try dsimp only); unfold spec_l14Letter.b0; rw [if_neg (by omega)])
  rw [hL, Option.bind_some]; rfl
theorem right_eq (a : TAuto) : spec_l14Right a = some (autoOk a && decide (1 ≤ a.states ∧ a.states ≤ 4)) := by
  unfold spec_l14Right; rw [specAutoOk_eq, Option.bind_some, l1In_eq]
theorem specBoxOf_eq (a : TAuto) (w : List Int) (hw : w.length ≤ 1048576) : spec_BoxOf a w = some (boxOf a w) := by
  unfold spec_BoxOf boxOf
  simp only [bnd_eq, right_eq, Option.bind_some]
  by_cases h4 : 1 ≤ a.states ∧ a.states ≤ 4
  · by_cases hA : autoOk a = true
    · have hok := autoOk_A hA
      by_cases h60 : w.length ≤ 60
      · rw [hA, decide_eq_true h4, decide_eq_false (show ¬ (w.length : Int) > 60 by omega)]
        simp only [Bool.and_self, Bool.not_true, Bool.or_self, Bool.not_false, whenO_t, specLetters_eq w a.letters hw, Option.bind_some, Bool.false_or]
        by_cases hL : lettersOk w a.letters = true
        · rw [hL, if_neg (by simp), if_pos (by exact ⟨h4, h60, by simp⟩)]
          have h1 := specOne_eq (m := a.states.toNat) (by omega)
          rw [show ((a.states.toNat : Nat) : Int) = a.states by omega] at h1
          rw [h1, Option.bind_some]
          have hLp : loop (fun s : List Int × Int => spec_BoxOf.b0 w a s.1 s.2) (oneL a.states.toNat, 0) = some (wordL a.states.toNat a.edges w) := fold_loopW (fun z i hi hz => by
            (try dsimp only); unfold spec_BoxOf.b0
            have hm := specMul_eq (m := a.states.toNat) (by omega) hz (let_bx a.states.toNat (w.getD i default) a.edges)
            rw [show ((a.states.toNat : Nat) : Int) = a.states by omega] at hm
            rw [if_pos (by omega), ix_nat hi, Option.bind_some, specLetter_eq hok h4, Option.bind_some, hm, Option.bind_some, W, W_nat (by omega)]) (fun z => by (try dsimp only); unfold spec_BoxOf.b0; rw [if_neg (by omega)])
          rw [hLp, Option.bind_some]; rfl
        · rw [if_pos (by simpa using hL), if_neg (fun k => hL k.2.2.2)]
      · rw [hA, decide_eq_true h4, decide_eq_true (show (w.length : Int) > 60 by omega)]
        simp only [Bool.and_self, Bool.or_true, Bool.not_true, whenO_f, Option.bind_some, Bool.true_or, if_true]
        rw [if_neg (fun k => h60 k.2.1)]
    · simp only [hA, Bool.false_and, Bool.not_false, Bool.true_or, Bool.not_true, whenO_f, Option.bind_some, if_true]
      rw [if_neg (fun k => by exact absurd k.2.2.1 (by simp))]
  · rw [decide_eq_false h4]
    simp only [Bool.and_false, Bool.not_false, Bool.true_or, Bool.not_true, whenO_f, Option.bind_some, if_true]
    rw [if_neg (fun k => h4 k.1)]
end Go.Proofs.Ytcmbbpdepobnlaa
