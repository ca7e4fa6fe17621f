/- The word told leads to the state, and no shorter one does. -/
import Derived.Test.YthdclobnmicdaaaDPath
import Derived.Test.YthdclobnmicdaaaWf
import Derived.Test.YthdclobnmicdaaaPPathEq
import Derived.Test.YthdclobnmicdaaaPDraw4
namespace Go.Proofs.Ythdclobnmicdaaa
open Go Go.RowKit E
set_option linter.unusedVariables false

theorem setHas_eq {X T n : Nat} (hn : n ≤ 31) (hX : X < 2 ^ n) (hT : T < n) : impl_SetHas (X : Int) (T : Int) = X.testBit T := by
  have h31 : (2 : Nat) ^ 31 = 2147483648 := rfl
  have hl := lt31 hn hX
  unfold impl_SetHas impl_SetOk impl_isMember
  rw [bnd_eq, bnd_eq, inRg, inRg, decide_eq_true (by omega), decide_eq_true (by omega), has_eq hl (by omega), Int.toNat_natCast]; rfl
theorem next_eq {a : TAuto} (hok : autoOk a = true) {X : Nat} (hX : X < 2 ^ a.states.toNat) (x : Int) : impl_AutoNext a (X : Int) x = some ((stepE a X x : Nat) : Int) := by
  have h := autoOk_A hok
  have h1 := h.sts
  have h31 : (2 : Nat) ^ 31 = 2147483648 := rfl
  have hl := lt31 (by omega) hX
  unfold impl_AutoNext impl_SetOk
  rw [bnd_eq, inRg, decide_eq_true (by omega), Bool.not_true, Bool.not_false, whenO_t, implAutoOk_eq, hok, Option.bind_some, if_neg (by simp), step_eq h hX]; rfl
theorem folds_lt {a : TAuto} (h : AOk a) : ∀ (l : List Int) (S : Nat), S < 2 ^ a.states.toNat → l.foldl (stepE a) S < 2 ^ a.states.toNat
  | [], S, hS => hS
  | x :: l, S, hS => folds_lt h l _ (stepE_lt h S x)
theorem purePath_d {bs : List Int} {a : TAuto} {s t : Int} (hd : spec_DrawPathWord bs = some (a, s, t)) : laws_FnPath bs = some true := by
  have h31 : (2 : Nat) ^ 31 = 2147483648 := rfl
  unfold laws_FnPath
  by_cases hb : laws_big bs = true
  · rw [if_pos hb]
  rw [if_neg hb, hd, Option.bind_some]
  dsimp only
  obtain ⟨r, b, r1, r2, r3, r4, r5⟩ := path_same a s t
  rw [r2, Option.bind_some, r1, Option.bind_some, if_neg (by simp)]
  cases b with
  | false => rw [if_pos (by simp), r4 rfl]; rfl
  | true =>
    obtain ⟨hok, S, T, far, rfl, rfl, hS, hT, hF, hl, hfar, hend⟩ := r5 rfl
    have h := autoOk_A hok
    have h1 := h.sts
    have h3 := h.lets
    rw [if_neg (by simp)]
    have key := loop_inv (body := fun q : Int × Int × Int => laws_FnPath.b0 (r, true) (a, (S : Int), (T : Int)) q.1 q.2.1 q.2.2) (fun q => ∃ (i A : Nat), q = ((((r.take i).foldl (stepE a) S : Nat) : Int), (A : Int), (i : Int)) ∧ i ≤ r.length ∧ A < 2 ^ a.states.toNat ∧ ∀ v, v < a.states.toNat → A.testBit v = true → far.getD v default < 0 ∨ (r.length : Int) - i ≤ far.getD v default) (fun q => r.length - q.2.2.toNat) (fun q => q = .inl ((r.foldl (stepE a) S : Nat) : Int)) (fun q hq => ?_) (s := ((S : Int), (S : Int), 0)) ⟨0, S, rfl, Nat.zero_le _, hS, fun v hv hb => by have := hfar v hv hb; omega⟩
    · obtain ⟨q, e, rfl⟩ := key
      rw [e, Option.bind_some]
      show laws_FnPath.k0 (a, (S : Int), (T : Int)) (r, true) _ = _
      unfold laws_FnPath.k0
      dsimp only
      rw [bnd_eq, setHas_eq (by omega) (folds_lt h r S hS) hT, hend, show W (a.states + 1) = a.states + 1 from W_eq (by omega) (by omega), decide_eq_true (by omega)]; rfl
    · obtain ⟨i, A, rfl, hi, hA, hAf⟩ := hq
      dsimp only
      unfold laws_FnPath.b0
      dsimp only
      by_cases c : i < r.length
      · right
        have hno : A.testBit T = false := by
          cases hb2 : A.testBit T with
          | false => rfl
          | true =>
            have := hAf T hT hb2
            rw [far_self hF hT] at this; omega
        have hnow := folds_lt h (r.take i) S hS
        have hix : ix r (i : Int) = some (r.getD i default) := ix_nat c
        rw [if_pos (by omega), setHas_eq (by omega) hA hT, hno, if_neg (by simp), hix, Option.bind_some, next_eq hok hnow, Option.bind_some]
        have inner := loop_inv (body := fun q : Int × Int => laws_FnPath.b1 (a, (S : Int), (T : Int)) (A : Int) q.1 q.2) (fun q => ∃ (k B : Nat), q = ((B : Int), (k : Int)) ∧ (k : Int) ≤ a.letters ∧ B < 2 ^ a.states.toNat ∧ ∀ v, v < a.states.toNat → B.testBit v = true → far.getD v default < 0 ∨ (r.length : Int) - (i + 1 : Nat) ≤ far.getD v default) (fun q => a.letters.toNat - q.2.toNat) (fun q => ∃ B : Nat, q = (B : Int) ∧ B < 2 ^ a.states.toNat ∧ ∀ v, v < a.states.toNat → B.testBit v = true → far.getD v default < 0 ∨ (r.length : Int) - (i + 1 : Nat) ≤ far.getD v default) (fun q hq => ?_) (s := ((A : Int), 0)) ⟨0, A, rfl, by omega, hA, fun v hv hb => by have := hAf v hv hb; omega⟩
        · obtain ⟨q, e, B, rfl, hB1, hB2⟩ := inner
          rw [e, Option.bind_some]
          unfold laws_FnPath.k2 laws_FnPath.k1
          rw [WS (by omega)]
          refine ⟨_, rfl, ⟨i + 1, B, ?_, c, hB1, hB2⟩, by dsimp only; omega⟩
          have ht : r.take (i + 1) = r.take i ++ [r.getD i default] := by
            rw [List.take_succ_eq_append_getElem c]; simp [List.getD_eq_getElem?_getD, c]
          rw [ht, List.foldl_append]; rfl
        · obtain ⟨k, B, rfl, hk, hB1, hB2⟩ := hq
          dsimp only
          unfold laws_FnPath.b1
          dsimp only
          by_cases c2 : (k : Int) < a.letters
          · right
            have hsl := stepE_lt h A (k : Int)
            have l1 := lt31 (by omega) hB1
            have l2 := lt31 (by omega) hsl
            rw [if_pos c2, next_eq hok hA, Option.bind_some, bOr_i (by omega) (by omega), WS (by omega)]
            refine ⟨_, rfl, ⟨k + 1, B ||| stepE a A (k : Int), rfl, by omega, or_lt hB1 hsl, fun v hv hb => ?_⟩, by dsimp only; omega⟩
            rw [Nat.testBit_or, Bool.or_eq_true] at hb
            rcases hb with hb | hb
            · exact hB2 v hv hb
            · obtain ⟨e, he, _, e2, e3⟩ := (stepE_bit _ _ _ _).mp hb
              have hE := h.edge e he
              by_cases c3 : 0 ≤ far.getD e.to_.toNat default
              · have g1 := (far_edge h hF he c3)
                have g2 := hAf e.from_.toNat (by omega) e2
                rw [e3] at g1 c3; omega
              · rw [e3] at c3; omega
          · left
            rw [if_neg c2]
            exact ⟨_, rfl, B, rfl, hB1, hB2⟩
      · left
        obtain rfl : i = r.length := by omega
        rw [if_neg (by omega), List.take_length]
        exact ⟨_, rfl, rfl⟩
theorem drawPath_ok {bs : List Int} (h : bs.length ≤ 1048576) : ∃ a s t, spec_DrawPathWord bs = some (a, s, t) := by
  unfold spec_DrawPathWord
  obtain ⟨c0, e0, h0⟩ := new_ok bs h
  obtain ⟨a, c1, e1, h1, _, s1, s2⟩ := drawAuto_ok h0 (s := 8) (by decide)
  obtain ⟨x, c2, e2, _, _, h2⟩ := below_ok h1 (n := 256) (by decide)
  rw [e0, Option.bind_some, e1, Option.bind_some, e2, Option.bind_some, specAutoOk_eq, Option.bind_some]
  dsimp only
  have rest : ∀ (c : Tl1Cur) (y : Int), CurOk c → a.states ≤ 1000 → -1000 ≤ a.states → ∃ q, spec_DrawPathWord.k0 (a, c1) c.b c.i c.h y = some q := by
    intro c y hc hs1 hs2
    unfold spec_DrawPathWord.k0
    dsimp only
    have w : W (a.states + 1) = a.states + 1 := W_eq (by omega) (by omega)
    obtain ⟨u, c3, e3, _, _, h3⟩ := below_ok (c := ⟨c.b, c.i, c.h⟩) hc (n := a.states + 1) (by omega)
    obtain ⟨v, c4, e4, _, _, h4⟩ := below_ok h3 (n := 20) (by decide)
    rw [w, e3, Option.bind_some, e4, Option.bind_some]
    exact ⟨_, rfl⟩
  by_cases hok : autoOk a = true
  · obtain ⟨b, c3, e3, h3⟩ := onceA_ok h2 (n := 8) (by decide)
    have hs := (autoOk_A hok).sts
    rw [hok, whenO_t, e3, Option.bind_some]
    have fin : ∀ y, ∃ a' s t, spec_DrawPathWord.k0 (a, c1) c3.b c3.i c3.h y = some (a', s, t) := fun y => by
      obtain ⟨q, e⟩ := rest c3 y h3 (by omega) (by omega)
      exact ⟨q.1, q.2.1, q.2.2, e⟩
    by_cases g : (true && !b) = true
    · rw [if_pos g, decide_eq_true hs.1, chk_t, Option.bind_some]; exact fin _
    · rw [if_neg g]; exact fin _
  · rw [Bool.not_eq_true] at hok
    rw [hok, whenO_f, Option.bind_some, if_neg (by simp)]
    obtain ⟨q, e⟩ := rest c2 x h2 (by omega) (by omega)
    exact ⟨q.1, q.2.1, q.2.2, e⟩
theorem purePath (bs : List Int) (w : bs.length ≤ 9223372036854775807 ∧ ∀ q ∈ bs, (IntKind.u8.min ≤ q ∧ q ≤ IntKind.u8.max)) : laws_FnPath bs = some true := by
  by_cases hb : laws_big bs = true
  · unfold laws_FnPath; rw [if_pos hb]
  · have h : bs.length ≤ 1048576 := by unfold laws_big at hb; simp at hb; omega
    obtain ⟨a, s, t, e⟩ := drawPath_ok h
    exact purePath_d e
end Go.Proofs.Ythdclobnmicdaaa
