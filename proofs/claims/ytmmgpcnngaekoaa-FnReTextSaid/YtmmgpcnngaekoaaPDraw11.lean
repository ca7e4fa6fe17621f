/- Drawn regexes and words: some nodes, not too many. -/
import Derived.Test.YtmmgpcnngaekoaaDReParts
import Derived.Test.YtmmgpcnngaekoaaPDraw
namespace Go.Proofs.Ytmmgpcnngaekoaa
open Go Go.RowKit E
set_option linter.unusedVariables false

theorem appN {l m : List TNode} (h : l.length + m.length ≤ 1000000000) : app 24 l m = some (l ++ m) := app_small h (by omega)
theorem drawRe_ok : ∀ (d K : Nat) {c : Tl1Cur} {e : List TNode}, d < K → CurOk c → d ≤ 10 → e.length + 2 ^ (d + 1) ≤ 100000 → ∃ e' c', spec_l11DrawTree K c (d : Int) e = some (e', c') ∧ CurOk c' ∧ e.length < e'.length ∧ e'.length < e.length + 2 ^ (d + 1) := by
  intro d
  induction d with
  | zero =>
    intro K c e hK hc _ hl
    obtain ⟨K, rfl⟩ : ∃ k, K = k + 1 := ⟨K - 1, by omega⟩
    unfold spec_l11DrawTree spec_l11DrawTree.body
    obtain ⟨x, c1, e1, h1, h2, hc1⟩ := below_pos hc (n := 12) (by decide) (by decide)
    obtain ⟨x2, c2, e2, h3, h4, hc2⟩ := below_pos hc1 (n := 5) (by decide) (by decide)
    rw [e1, Option.bind_some, if_pos (by simp), e2, Option.bind_some]
    unfold spec_l11DrawTree.k0
    obtain ⟨x3, c3, e3, h5, h6, hc3⟩ := below_pos hc2 (n := 2) (by decide) (by decide)
    obtain ⟨x4, c4, e4, h7, h8, hc4⟩ := below_pos hc2 (n := 4) (by decide) (by decide)
    by_cases k : x2 < 3
    · rw [if_pos k, e3, Option.bind_some, appN (by simp <;> omega), Option.bind_some]
      exact ⟨_, _, rfl, hc3, by simp, by simp⟩
    by_cases k3 : x2 = 3
    · rw [if_neg k, if_pos k3, e4, Option.bind_some, appN (by simp <;> omega), Option.bind_some]
      exact ⟨_, _, rfl, hc4, by simp, by simp⟩
    · rw [if_neg k, if_neg k3, if_pos (by dsimp only; omega), e3, Option.bind_some, appN (by simp <;> omega), Option.bind_some]
      exact ⟨_, _, rfl, hc3, by simp, by simp⟩
  | succ d ih =>
    intro K c e hK hc hd hl
    obtain ⟨K, rfl⟩ : ∃ k, K = k + 1 := ⟨K - 1, by omega⟩
    have hp : 2 ^ (d + 1 + 1) = 2 ^ (d + 1) + 2 ^ (d + 1) := by rw [Nat.pow_succ]; omega
    have hp2 : 2 ≤ 2 ^ (d + 1) := by rw [Nat.pow_succ]; have := Nat.two_pow_pos d; omega
    unfold spec_l11DrawTree spec_l11DrawTree.body
    obtain ⟨x, c1, e1, h1, h2, hc1⟩ := below_pos hc (n := 12) (by decide) (by decide)
    rw [e1, Option.bind_some, if_neg (by omega)]
    have wd : W (((d + 1 : Nat) : Int) - 1) = (d : Int) := by rw [W, W_eq (by omega) (by omega)]; omega
    have hc1' : CurOk (Tl1Cur.mk c1.b c1.i c1.h) := hc1
    obtain ⟨x3, c3, e3, h5, h6, hc3⟩ := below_pos hc1' (n := 2) (by decide) (by decide)
    obtain ⟨x4, c4, e4, h7, h8, hc4⟩ := below_pos hc1' (n := 4) (by decide) (by decide)
    obtain ⟨e5, c5, g1, g2, g3, g4⟩ := ih K (e := e) (by omega) hc1' (by omega) (by omega)
    unfold spec_l11DrawTree.k0
    dsimp only
    by_cases k1 : x < 3
    · rw [if_pos k1, e3, Option.bind_some, appN (by simp <;> omega), Option.bind_some]
      exact ⟨_, _, rfl, hc3, by simp, by simp <;> omega⟩
    by_cases k2 : x = 3
    · rw [if_neg k1, if_pos k2, e4, Option.bind_some, appN (by simp <;> omega), Option.bind_some]
      exact ⟨_, _, rfl, hc4, by simp, by simp <;> omega⟩
    by_cases k3 : x = 4
    · rw [if_neg k1, if_neg k2, if_pos k3, e3, Option.bind_some, appN (by simp <;> omega), Option.bind_some]
      exact ⟨_, _, rfl, hc3, by simp, by simp <;> omega⟩
    by_cases k4 : x < 7
    · rw [if_neg k1, if_neg k2, if_neg k3, if_pos k4, wd, g1, Option.bind_some, appN (by simp <;> omega), Option.bind_some]
      exact ⟨_, _, rfl, g2, by simp <;> omega, by simp <;> omega⟩
    · obtain ⟨e6, c6, i1, i2, i3, i4⟩ := ih K (e := e5) (by omega) g2 (by omega) (by omega)
      obtain ⟨x7, c7, e7, _, _, hc7⟩ := below_pos i2 (n := 2) (by decide) (by decide)
      rw [if_neg k1, if_neg k2, if_neg k3, if_neg k4, wd, g1, Option.bind_some, i1, Option.bind_some, e7, Option.bind_some, appN (by simp <;> omega), Option.bind_some]
      exact ⟨_, _, rfl, hc7, by simp <;> omega, by simp <;> omega⟩
theorem drawReAny_ok {K : Nat} (hK : 5 ≤ K) {c : Tl1Cur} (hc : CurOk c) : ∃ e' c', spec_l11DrawAny K c = some (e', c') ∧ CurOk c' ∧ e'.length ≤ 33 := by
  unfold spec_l11DrawAny spec_l11DrawRight
  obtain ⟨x0, c0, e0, y1, y2, hc0⟩ := below_pos hc (n := 4) (by decide) (by decide)
  have w : W (1 + x0) = ((1 + x0.toNat : Nat) : Int) := by rw [W, W_eq (by omega) (by omega)]; omega
  have hp : 2 ^ (1 + x0.toNat + 1) ≤ 2 ^ 5 := Nat.pow_le_pow_right (by omega) (by omega)
  have h32 : 2 ^ 5 = 32 := rfl
  obtain ⟨e, c1, g1, hc1, g3, g4⟩ := drawRe_ok (1 + x0.toNat) K (c := c0) (e := []) (by omega) hc0 (by omega) (by simp <;> omega)
  have l1 : 0 < e.length := by simpa using g3
  have l2 : e.length < 2 ^ (1 + x0.toNat + 1) := by simpa using g4
  obtain ⟨x, c2, e2, h1, h2, hc2⟩ := below_pos hc1 (n := (e.length : Int)) (by omega) (by omega)
  obtain ⟨y, c3, e3, h3, h4, hc3⟩ := below_pos hc2 (n := 25) (by decide) (by decide)
  rw [e0, Option.bind_some]
  dsimp only
  rw [w, g1, Option.bind_some, Option.bind_some, e2, Option.bind_some, e3, Option.bind_some]
  have hck : ck x e.length = some x.toNat := by unfold ck; rw [if_pos ⟨h1, by omega⟩]
  unfold spec_l11DrawAny.k0
  dsimp only
  split
  · obtain ⟨z, c4, e4, _, _, hc4⟩ := below_pos hc3 (n := 8) (by decide) (by decide)
    rw [e4, Option.bind_some, hck, Option.bind_some]
    exact ⟨_, _, rfl, hc4, by simp; omega⟩
  split
  · rw [ix_ok h1 h2, Option.bind_some, hck, Option.bind_some]
    exact ⟨_, _, rfl, hc3, by simp; omega⟩
  split
  · obtain ⟨z, c4, e4, _, _, hc4⟩ := below_pos hc3 (n := (e.length : Int)) (by omega) (by omega)
    rw [e4, Option.bind_some, hck, Option.bind_some]
    exact ⟨_, _, rfl, hc4, by simp; omega⟩
  split
  · rw [appN (by simp; omega), Option.bind_some]
    exact ⟨_, _, rfl, hc3, by simp; omega⟩
  split
  · exact ⟨_, _, rfl, hc3, by simp⟩
  · exact ⟨_, _, rfl, hc3, by omega⟩
theorem letters11_ok {c : Tl1Cur} (hc : CurOk c) {most : Nat} (hm : most ≤ 100) {n : Int} (hn : n ≤ 4294967296) : ∃ l c', spec_l3DrawLetters c (most : Int) n = some (l, c') ∧ CurOk c' ∧ l.length ≤ most := by
  unfold spec_l3DrawLetters
  obtain ⟨x, c1, e1, h1, h2, hc1⟩ := below_pos hc (n := W ((most : Int) + 1)) (by rw [W, W_eq (by omega) (by omega)]; omega) (by rw [W, W_eq (by omega) (by omega)]; omega)
  rw [W, W_eq (by omega) (by omega)] at h2
  rw [e1, Option.bind_some]
  have key := loop_inv (body := fun s : List Int × Int × Int × List Int × Int => spec_l3DrawLetters.b0 (x, c1) n s.1 s.2.1 s.2.2.1 s.2.2.2.1 s.2.2.2.2) (fun s => CurOk ⟨s.1, s.2.1, s.2.2.1⟩ ∧ 0 ≤ s.2.2.2.2 ∧ s.2.2.2.2 ≤ x ∧ (s.2.2.2.1.length : Int) = s.2.2.2.2) (fun s => x.toNat - s.2.2.2.2.toNat) (fun r => CurOk ⟨r.2.1, r.2.2.1, r.2.2.2⟩ ∧ r.1.length ≤ most) (fun s hs => ?_) (s := (c1.b, c1.i, c1.h, [], 0)) ⟨hc1, Int.le_refl 0, h1, rfl⟩
  · obtain ⟨r, e, g1, g2⟩ := key
    have e' : loop (fun s : List Int × Int × Int × List Int × Int => spec_l3DrawLetters.b0 (x, c1) n s.1 s.2.1 s.2.2.1 s.2.2.2.1 s.2.2.2.2) ((x, c1).2.b, (x, c1).2.i, (x, c1).2.h, [], 0) = some r := e
    rw [e', Option.bind_some]
    exact ⟨_, _, rfl, g1, g2⟩
  · obtain ⟨b, i, h, y, k⟩ := s
    obtain ⟨i1, i2, i3, i4⟩ := hs
    dsimp only at i1 i2 i3 i4 ⊢
    unfold spec_l3DrawLetters.b0
    by_cases g : k < x
    · right
      obtain ⟨z, c2, e2, _, _, hc2⟩ := below_ok i1 hn
      have w : W (k + 1) = k + 1 := W_eq (by omega) (by omega)
      rw [if_pos (by exact g), e2, Option.bind_some, app_small (by simp; omega) (by decide), Option.bind_some, w]
      exact ⟨_, rfl, ⟨hc2, by dsimp only; omega, by dsimp only; omega, by simp; omega⟩, by dsimp only; omega⟩
    · left
      rw [if_neg (by exact g)]
      exact ⟨_, rfl, i1, by dsimp only; omega⟩
theorem drawReTakes_ok {bs : List Int} (h : bs.length ≤ 1048576) {K : Nat} (hK : 5 ≤ K) : ∃ e w, spec_DrawReTakes K bs = some (e, w) ∧ e.length ≤ 33 ∧ w.length ≤ 100 := by
  unfold spec_DrawReTakes spec_l1Once
  obtain ⟨c0, e0, h0⟩ := new_ok bs h
  obtain ⟨e, c1, e1, h1, l1⟩ := drawReAny_ok hK h0
  obtain ⟨x, c2, e2, _, _, h2⟩ := below_ok h1 (n := 25) (by decide)
  rw [e0, Option.bind_some, e1, Option.bind_some, e2, Option.bind_some, Option.bind_some]
  dsimp only
  split
  · obtain ⟨y, c3, e3, y1, y2, h3⟩ := below_pos h2 (n := 2) (by decide) (by decide)
    have w : W (60 + y) = 60 + y := W_eq (by omega) (by omega)
    rw [e3, Option.bind_some]
    dsimp only
    rw [w, mk_ok (by omega) (by omega), Option.bind_some]
    exact ⟨_, _, rfl, l1, by simp; omega⟩
  · obtain ⟨l, c3, e3, _, l3⟩ := letters11_ok h2 (most := 6) (by decide) (n := 2) (by decide)
    have e3' : spec_l3DrawLetters c2 6 2 = some (l, c3) := e3
    rw [e3', Option.bind_some]
    exact ⟨_, _, rfl, l1, by show l.length ≤ _; omega⟩
end Go.Proofs.Ytmmgpcnngaekoaa
