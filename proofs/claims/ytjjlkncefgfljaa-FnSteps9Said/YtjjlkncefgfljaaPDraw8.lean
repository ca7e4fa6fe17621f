/- Drawn formulas: some nodes, not too many. -/
import Derived.Test.YtjjlkncefgfljaaDPair8
import Derived.Test.YtjjlkncefgfljaaPDraw
import Derived.Test.YtjjlkncefgfljaaPTempL
namespace Go.Proofs.Ytjjlkncefgfljaa
open Go Go.RowKit E
set_option linter.unusedVariables false

theorem temp_some {body : List Int × Int → Option ((List Int × Int) ⊕ List Int)} (e : List TNode) (he : e.length ≤ 1000000) (hb : ∀ y x, body (y, x) = if x < (e.length : Int) then (ix e x).bind fun a => if a.kind ≥ 7 then (app 8 y [x]).bind fun z => some (.inl (z, W (x + 1))) else some (.inl (y, W (x + 1))) else some (.inr y)) : ∃ r, loop body ([], 0) = some r := by
  have key := loop_inv (body := body) (fun s => 0 ≤ s.2 ∧ (s.1.length : Int) ≤ s.2) (fun s => e.length - s.2.toNat) (fun _ => True) (fun s hs => ?_) (s := ([], 0)) (by simp)
  · obtain ⟨r, h, _⟩ := key; exact ⟨r, h⟩
  · obtain ⟨y, x⟩ := s
    obtain ⟨h1, h2⟩ := hs
    dsimp only at h1 h2 ⊢
    rw [hb]
    by_cases k : x < (e.length : Int)
    · right
      have w : W (x + 1) = x + 1 := W_eq (by omega) (by omega)
      rw [if_pos k, ix_ok h1 k, Option.bind_some]
      split
      · rw [app_small (by simp; omega) (by omega), Option.bind_some, w]
        exact ⟨_, rfl, ⟨by dsimp only; omega, by simp; omega⟩, by dsimp only; omega⟩
      · rw [w]
        exact ⟨_, rfl, ⟨by dsimp only; omega, by dsimp only; omega⟩, by dsimp only; omega⟩
    · left; rw [if_neg k]; exact ⟨_, rfl, trivial⟩
theorem l8Temporal_some (e : List TNode) (he : e.length ≤ 1000000) : ∃ r, spec_l8Temporal e = some r := by
  unfold spec_l8Temporal
  obtain ⟨r, h⟩ := temp_some (body := fun s : List Int × Int => spec_l8Temporal.b0 e s.1 s.2) e he (fun y x => rfl)
  rw [h]; exact ⟨_, rfl⟩
theorem appN {l m : List TNode} (h : l.length + m.length ≤ 1000000000) : app 24 l m = some (l ++ m) := app_small h (by omega)
/-- A tree is drawn behind nodes. -/
theorem drawTree_ok : ∀ (d K : Nat) {c : Tl1Cur} {e : List TNode} {most : Int}, d < K → CurOk c → d ≤ 10 → e.length + 2 ^ (d + 1) ≤ 100000 → ∃ e' c', spec_l8DrawTree K c (d : Int) e most = some (e', c') ∧ CurOk c' ∧ e.length < e'.length ∧ e'.length < e.length + 2 ^ (d + 1) := by
  intro d
  induction d with
  | zero =>
    intro K c e most hK hc _ hl
    obtain ⟨K, rfl⟩ : ∃ k, K = k + 1 := ⟨K - 1, by omega⟩
    unfold spec_l8DrawTree spec_l8DrawTree.body
    obtain ⟨x, c1, e1, h1, h2, hc1⟩ := below_pos hc (n := 14) (by decide) (by decide)
    obtain ⟨x2, c2, e2, h3, h4, hc2⟩ := below_pos hc1 (n := 4) (by decide) (by decide)
    rw [e1, Option.bind_some, if_pos (by simp), e2, Option.bind_some]
    unfold spec_l8DrawTree.k0
    rw [bnd_eq, decide_eq_false (by dsimp only; omega), whenO_f, Option.bind_some, if_neg (by simp)]
    unfold spec_l8DrawTree.k1
    obtain ⟨x3, c3, e3, h5, h6, hc3⟩ := below_pos hc2 (n := 2) (by decide) (by decide)
    have hp : 2 ^ (0 + 1) = 2 := rfl
    by_cases k : x2 < 3
    · rw [if_pos k, e3, Option.bind_some, appN (by simp; omega), Option.bind_some]
      exact ⟨_, _, rfl, hc3, by simp, by simp⟩
    · rw [if_neg k, if_pos (by dsimp only; omega), e3, Option.bind_some, appN (by simp; omega), Option.bind_some]
      exact ⟨_, _, rfl, hc3, by simp, by simp⟩
  | succ d ih =>
    intro K c e most hK hc hd hl
    obtain ⟨K, rfl⟩ : ∃ k, K = k + 1 := ⟨K - 1, by omega⟩
    have hp : 2 ^ (d + 1 + 1) = 2 ^ (d + 1) + 2 ^ (d + 1) := by rw [Nat.pow_succ]; omega
    have hp2 : 2 ≤ 2 ^ (d + 1) := by rw [Nat.pow_succ]; have := Nat.two_pow_pos d; omega
    unfold spec_l8DrawTree spec_l8DrawTree.body
    obtain ⟨x, c1, e1, h1, h2, hc1⟩ := below_pos hc (n := 14) (by decide) (by decide)
    rw [e1, Option.bind_some, if_neg (by omega)]
    have wd : W (((d + 1 : Nat) : Int) - 1) = (d : Int) := by rw [W, W_eq (by omega) (by omega)]; omega
    have step : ∀ z : Int, 0 ≤ z → z < 14 → ∃ e' c', spec_l8DrawTree.k1 c1.b c1.i c1.h e (spec_l8DrawTree K) ((d + 1 : Nat) : Int) most z = some (e', c') ∧ CurOk c' ∧ e.length < e'.length ∧ e'.length < e.length + 2 ^ (d + 1 + 1) := by
      intro z hz1 hz2
      unfold spec_l8DrawTree.k1
      have hc1' : CurOk (Tl1Cur.mk c1.b c1.i c1.h) := hc1
      obtain ⟨x3, c3, e3, h5, h6, hc3⟩ := below_pos hc1' (n := 2) (by decide) (by decide)
      have two : ∀ (c4 : Tl1Cur) (m k : Int), CurOk c4 → ∃ e' c', spec_l8DrawTree.k2 (spec_l8DrawTree K) ((d + 1 : Nat) : Int) e c4.b c4.i c4.h m k = some (e', c') ∧ CurOk c' ∧ e.length < e'.length ∧ e'.length < e.length + 2 ^ (d + 1 + 1) := by
        intro c4 m k hc4
        unfold spec_l8DrawTree.k2
        have hc4' : CurOk (Tl1Cur.mk c4.b c4.i c4.h) := hc4
        obtain ⟨e5, c5, g1, g2, g3, g4⟩ := ih K (e := e) (most := m) (by omega) hc4' (by omega) (by omega)
        obtain ⟨e6, c6, i1, i2, i3, i4⟩ := ih K (e := e5) (most := m) (by omega) g2 (by omega) (by omega)
        rw [wd, g1, Option.bind_some, i1, Option.bind_some]
        unfold spec_l8Two
        rw [appN (by simp; omega), Option.bind_some, Option.bind_some]
        exact ⟨_, _, rfl, i2, by simp; omega, by simp; omega⟩
      by_cases k1 : z < 3
      · rw [if_pos k1, e3, Option.bind_some, appN (by simp; omega), Option.bind_some]
        exact ⟨_, _, rfl, hc3, by simp, by simp <;> omega⟩
      by_cases k2 : z = 3
      · rw [if_neg k1, if_pos k2, e3, Option.bind_some, appN (by simp; omega), Option.bind_some]
        exact ⟨_, _, rfl, hc3, by simp, by simp <;> omega⟩
      by_cases k3 : z = 4
      · obtain ⟨e5, c5, g1, g2, g3, g4⟩ := ih K (e := e) (most := most) (by omega) hc1' (by omega) (by omega)
        rw [if_neg k1, if_neg k2, if_pos k3, wd, g1, Option.bind_some, appN (by simp; omega), Option.bind_some]
        exact ⟨_, _, rfl, g2, by simp; omega, by simp; omega⟩
      by_cases k4 : z ≥ 10
      · obtain ⟨e5, c5, g1, g2, g3, g4⟩ := ih K (e := e) (most := W (most - 1)) (by omega) hc1' (by omega) (by omega)
        obtain ⟨x6, c6, g5, _, g7⟩ := pick_ok g2 (xs := [7, 10, 11]) (by decide) (by decide)
        rw [if_neg k1, if_neg k2, if_neg k3, if_pos k4, wd, g1, Option.bind_some, g5, Option.bind_some, appN (by simp; omega), Option.bind_some]
        exact ⟨_, _, rfl, g7, by simp; omega, by simp; omega⟩
      rw [if_neg k1, if_neg k2, if_neg k3, if_neg k4, e3, Option.bind_some]
      by_cases k5 : z ≥ 7
      · obtain ⟨x7, c7, e7, _, _, hc7⟩ := below_pos hc3 (n := 2) (by decide) (by decide)
        rw [if_pos k5, e7, Option.bind_some]
        exact two c7 _ _ hc7
      · rw [if_neg k5]
        exact two c3 _ _ hc3
    unfold spec_l8DrawTree.k0
    obtain ⟨ts, ht⟩ := l8Temporal_some e (by omega)
    rw [bnd_eq]
    have go : ∀ b : Bool, ∀ q : List Int, ∃ e' c', (if (b && decide (((q.length : Int)) ≥ most)) = true then spec_l8DrawTree.k1 c1.b c1.i c1.h e (spec_l8DrawTree K) ((d + 1 : Nat) : Int) most (W (4 + Int.tmod x 3)) else spec_l8DrawTree.k1 c1.b c1.i c1.h e (spec_l8DrawTree K) ((d + 1 : Nat) : Int) most x) = some (e', c') ∧ CurOk c' ∧ e.length < e'.length ∧ e'.length < e.length + 2 ^ (d + 1 + 1) := by
      intro b q
      split
      · have := Int.tmod_nonneg 3 h1
        have := Int.tmod_lt_of_pos x (b := 3) (by decide)
        have w : W (4 + Int.tmod x 3) = 4 + Int.tmod x 3 := W_eq (by omega) (by omega)
        rw [w]; exact step _ (by omega) (by omega)
      · exact step _ h1 h2
    cases decide (x ≥ 7) with
    | true => rw [whenO_t, ht, Option.bind_some]; exact go true ts
    | false => rw [whenO_f, Option.bind_some]; exact go false default
theorem drawRight_ok {K : Nat} (hK : 5 ≤ K) {c : Tl1Cur} (hc : CurOk c) (most : Int) : ∃ e' c', spec_l8DrawRight K c most = some (e', c') ∧ CurOk c' ∧ 0 < e'.length ∧ e'.length < 32 := by
  unfold spec_l8DrawRight
  obtain ⟨x, c1, e1, h1, h2, hc1⟩ := below_pos hc (n := 4) (by decide) (by decide)
  rw [e1, Option.bind_some]
  dsimp only
  have w : W (1 + x) = ((1 + x.toNat : Nat) : Int) := by rw [W, W_eq (by omega) (by omega)]; omega
  have hp : 2 ^ (1 + x.toNat + 1) ≤ 2 ^ 5 := Nat.pow_le_pow_right (by omega) (by omega)
  have h32 : 2 ^ 5 = 32 := rfl
  obtain ⟨e', c', g1, g2, g3, g4⟩ := drawTree_ok (1 + x.toNat) K (c := c1) (e := []) (most := most) (by omega) hc1 (by omega) (by simp; omega)
  have g3' : 0 < e'.length := by simpa using g3
  have g4' : e'.length < 2 ^ (1 + x.toNat + 1) := by simpa using g4
  rw [w, g1, Option.bind_some]
  exact ⟨_, _, rfl, g2, g3', by dsimp only; omega⟩
theorem drawAny_ok {K : Nat} (hK : 5 ≤ K) {c : Tl1Cur} (hc : CurOk c) : ∃ e' c', spec_l8DrawAny K c = some (e', c') ∧ CurOk c' ∧ e'.length ≤ 33 := by
  unfold spec_l8DrawAny
  obtain ⟨e, c1, e1, hc1, l1, l2⟩ := drawRight_ok hK hc 6
  obtain ⟨x, c2, e2, h1, h2, hc2⟩ := below_pos hc1 (n := (e.length : Int)) (by omega) (by omega)
  obtain ⟨y, c3, e3, h3, h4, hc3⟩ := below_pos hc2 (n := 25) (by decide) (by decide)
  rw [e1, Option.bind_some, e2, Option.bind_some, e3, Option.bind_some]
  have hck : ck x e.length = some x.toNat := by unfold ck; rw [if_pos ⟨h1, by omega⟩]
  unfold spec_l8DrawAny.k0
  dsimp only
  split
  · obtain ⟨z, c4, e4, _, _, hc4⟩ := below_pos hc3 (n := 13) (by decide) (by decide)
    rw [e4, Option.bind_some, hck, Option.bind_some]
    exact ⟨_, _, rfl, hc4, by simp; omega⟩
  split
  · rw [ix_ok h1 h2, Option.bind_some, hck, Option.bind_some]
    exact ⟨_, _, rfl, hc3, by simp; omega⟩
  split
  · obtain ⟨z, c4, e4, _, _, hc4⟩ := below_pos hc3 (n := (e.length : Int)) (by omega) (by omega)
    rw [e4, Option.bind_some, hck, Option.bind_some]
    exact ⟨_, _, rfl, hc4, by simp; omega⟩
  split
  · rw [appN (by simp; omega), Option.bind_some]
    exact ⟨_, _, rfl, hc3, by simp; omega⟩
  split
  · exact ⟨_, _, rfl, hc3, by simp⟩
  · exact ⟨_, _, rfl, hc3, by omega⟩
end Go.Proofs.Ytjjlkncefgfljaa
