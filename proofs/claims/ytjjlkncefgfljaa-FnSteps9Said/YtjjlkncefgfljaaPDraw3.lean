/- Drawn words: some letters, not too many. -/
import Derived.Test.YtjjlkncefgfljaaDSteps9
import Derived.Test.YtjjlkncefgfljaaPDraw
import Derived.Test.YtjjlkncefgfljaaPWord
namespace Go.Proofs.Ytjjlkncefgfljaa
open Go Go.RowKit E
set_option linter.unusedVariables false

theorem app8 {l m : List Int} (h : l.length + m.length ≤ 1000000000) : app 8 l m = some (l ++ m) := app_small h (by omega)
theorem letters_ok {c : Tl1Cur} (hc : CurOk c) {most : Nat} (hm : most ≤ 100) {n : Int} (hn : n ≤ 4294967296) : ∃ l c', spec_l3DrawLetters c (most : Int) n = some (l, c') ∧ CurOk c' ∧ l.length ≤ most := by
  unfold spec_l3DrawLetters
  obtain ⟨x, c1, e1, h1, h2, hc1⟩ := below_pos hc (n := W ((most : Int) + 1)) (by rw [W, W_eq (by omega) (by omega)]; omega) (by rw [W, W_eq (by omega) (by omega)]; omega)
  rw [W, W_eq (by omega) (by omega)] at h2
  rw [e1, Option.bind_some]
  have key := loop_inv (body := fun s : List Int × Int × Int × List Int × Int => spec_l3DrawLetters.b0 (x, c1) n s.1 s.2.1 s.2.2.1 s.2.2.2.1 s.2.2.2.2) (fun s => CurOk ⟨s.1, s.2.1, s.2.2.1⟩ ∧ 0 ≤ s.2.2.2.2 ∧ s.2.2.2.2 ≤ x ∧ (s.2.2.2.1.length : Int) = s.2.2.2.2) (fun s => x.toNat - s.2.2.2.2.toNat) (fun r => CurOk ⟨r.2.1, r.2.2.1, r.2.2.2⟩ ∧ r.1.length ≤ most) (fun s hs => ?_) (s := (c1.b, c1.i, c1.h, [], 0)) ⟨hc1, Int.le_refl 0, h1, rfl⟩
  · obtain ⟨r, e, g1, g2⟩ := key
    have e' : loop (fun s : List Int × Int × Int × List Int × Int => spec_l3DrawLetters.b0 (x, c1) n s.1 s.2.1 s.2.2.1 s.2.2.2.1 s.2.2.2.2) ((x, c1).2.b, (x, c1).2.i, (x, c1).2.h, [], 0) = some r := e
    rw [e', Option.bind_some]
    exact ⟨_, _, rfl, g1, g2⟩
  · obtain ⟨b, i, h, y, k⟩ := s
    obtain ⟨i1, i2, i3, i4⟩ := hs
    dsimp only at i1 i2 i3 i4 ⊢
    unfold spec_l3DrawLetters.b0
    by_cases g : k < x
    · right
      obtain ⟨z, c2, e2, _, _, hc2⟩ := below_ok i1 hn
      have w : W (k + 1) = k + 1 := W_eq (by omega) (by omega)
      rw [if_pos (by exact g), e2, Option.bind_some, app8 (by simp; omega), Option.bind_some, w]
      exact ⟨_, rfl, ⟨hc2, by dsimp only; omega, by dsimp only; omega, by simp; omega⟩, by dsimp only; omega⟩
    · left
      rw [if_neg (by exact g)]
      exact ⟨_, rfl, i1, by dsimp only; omega⟩
theorem once_ok {c : Tl1Cur} (hc : CurOk c) {n : Int} (hn : n ≤ 4294967296) : ∃ b c', spec_l1Once c n = some (b, c') ∧ CurOk c' := by
  unfold spec_l1Once
  obtain ⟨x, c', e, _, _, h⟩ := below_ok hc hn
  rw [e, Option.bind_some]; exact ⟨_, _, rfl, h⟩
theorem told_eq (w : TWord) : spec_l3Told w = some (if wordOk w 8 = true then (w, true) else (⟨[], []⟩, false)) := by
  unfold spec_l3Told
  rw [show (TWord.mk w.stem w.loop) = w from rfl, l3Right_eq, Option.bind_some]
  by_cases h : wordOk w 8 = true
  · rw [if_neg (by simp [h]), if_pos h]
  · rw [if_pos (by simp [h]), if_neg h]
theorem told_len (w : TWord) : ∃ w' b, spec_l3Told w = some (w', b) ∧ w'.stem.length ≤ w.stem.length ∧ w'.loop.length ≤ w.loop.length := by
  rw [told_eq]
  by_cases h : wordOk w 8 = true
  · rw [if_pos h]; exact ⟨_, _, rfl, Nat.le_refl _, Nat.le_refl _⟩
  · rw [if_neg h]; exact ⟨_, _, rfl, Nat.zero_le _, Nat.zero_le _⟩
theorem power_ok {w : TWord} (h1 : w.stem.length ≤ 1000) (h2 : w.loop.length ≤ 1000) : ∃ w' b, spec_WordPower w 2 = some (w', b) ∧ w'.stem.length ≤ w.stem.length ∧ w'.loop.length ≤ 2 * w.loop.length := by
  unfold spec_WordPower
  rw [l3Right_eq, Option.bind_some, bnd_eq]
  by_cases h : wordOk w 8 = true
  · rw [if_neg (by rw [h]; decide), app8 (by simp; omega), Option.bind_some, List.nil_append]
    have s1 : spec_WordPower.b0 2 w w.stem [] 0 = some (.inl (w.stem, w.loop, 1)) := by
      unfold spec_WordPower.b0
      rw [if_pos (by decide), app8 (by simp; omega)]; rfl
    have s2 : spec_WordPower.b0 2 w w.stem w.loop 1 = some (.inl (w.stem, w.loop ++ w.loop, 2)) := by
      unfold spec_WordPower.b0
      rw [if_pos (by decide), app8 (by omega)]; rfl
    have s3 : spec_WordPower.b0 2 w w.stem (w.loop ++ w.loop) 2 = some (.inr (w.stem, w.loop ++ w.loop)) := by
      unfold spec_WordPower.b0
      rw [if_neg (by decide)]
    have L : loop (fun s : List Int × List Int × Int => spec_WordPower.b0 2 w s.1 s.2.1 s.2.2) (w.stem, [], 0) = some (w.stem, w.loop ++ w.loop) := by
      rw [loop_go (body := fun s : List Int × List Int × Int => spec_WordPower.b0 2 w s.1 s.2.1 s.2.2) s1, loop_go (body := fun s : List Int × List Int × Int => spec_WordPower.b0 2 w s.1 s.2.1 s.2.2) s2, loop_end (body := fun s : List Int × List Int × Int => spec_WordPower.b0 2 w s.1 s.2.1 s.2.2) s3]
    rw [L, Option.bind_some]
    unfold spec_WordPower.k0
    obtain ⟨w', b, g1, g2, g3⟩ := told_len ⟨w.stem, w.loop ++ w.loop⟩
    rw [g1, Option.bind_some]
    exact ⟨_, _, rfl, g2, by simp at g3; show w'.loop.length ≤ _; omega⟩
  · rw [if_pos (by simp [h])]; exact ⟨_, _, rfl, Nat.zero_le _, Nat.zero_le _⟩
theorem turn_ok {w : TWord} (h1 : w.stem.length ≤ 1000) (h2 : w.loop.length ≤ 1000) : ∃ w' b, spec_WordTurn w = some (w', b) ∧ w'.stem.length ≤ w.stem.length + 1 ∧ w'.loop.length ≤ w.loop.length := by
  unfold spec_WordTurn
  rw [l3Right_eq, Option.bind_some]
  by_cases h : wordOk w 8 = true
  · have hw := (wordOk_t h).1
    have hl := hw.loop
    have hl1 := hw.one
    have hix : ix w.loop 0 = some (w.loop.getD 0 default) := ix_ok (by decide) (by omega)
    have hcut : cut w.loop 1 (w.loop.length : Int) = some (w.loop.drop 1) := by
      unfold cut
      rw [if_pos ⟨by decide, by omega, by omega⟩]
      congr 1
      refine List.take_of_length_le ?_
      simp <;> omega
    rw [if_neg (by simp [h]), hix, Option.bind_some, hcut, Option.bind_some, Option.bind_some, app8 (by simp <;> omega), Option.bind_some, List.nil_append, app8 (by simp; omega), Option.bind_some, app8 (by simp; omega), Option.bind_some, List.nil_append, app8 (by simp; omega), Option.bind_some]
    obtain ⟨w', b, g1, g2, g3⟩ := told_len ⟨w.stem ++ [w.loop.getD 0 default], w.loop.drop 1 ++ [w.loop.getD 0 default]⟩
    rw [g1, Option.bind_some]
    exact ⟨_, _, rfl, by simpa using g2, by simp at g3; show w'.loop.length ≤ _; omega⟩
  · rw [if_pos (by simp [h])]; exact ⟨_, _, rfl, Nat.zero_le _, Nat.zero_le _⟩
theorem wordRight_ok {c : Tl1Cur} (hc : CurOk c) {n : Int} (hn : n ≤ 4294967296) : ∃ w c', spec_l3DrawRight c n = some (w, c') ∧ CurOk c' ∧ w.stem.length ≤ 10 ∧ w.loop.length ≤ 10 := by
  unfold spec_l3DrawRight
  obtain ⟨l1, c1, e1, h1, g1⟩ := letters_ok hc (most := 4) (by decide) hn
  obtain ⟨l2, c2, e2, h2, g2⟩ := letters_ok h1 (most := 3) (by decide) hn
  obtain ⟨x, c3, e3, _, _, h3⟩ := below_ok h2 hn
  obtain ⟨b, c4, e4, h4⟩ := once_ok h3 (n := 6) (by decide)
  have e1' : spec_l3DrawLetters c 4 n = some (l1, c1) := e1
  have e2' : spec_l3DrawLetters c1 3 n = some (l2, c2) := e2
  rw [e1', Option.bind_some, e2', Option.bind_some, e3, Option.bind_some, app8 (by simp; omega), Option.bind_some, e4, Option.bind_some]
  have rest : ∀ w : TWord, w.stem.length ≤ 4 → w.loop.length ≤ 8 → ∃ w' c', spec_l3DrawRight.k0 c4.b c4.i c4.h w.stem w.loop = some (w', c') ∧ CurOk c' ∧ w'.stem.length ≤ 10 ∧ w'.loop.length ≤ 10 := by
    intro w k1 k2
    unfold spec_l3DrawRight.k0
    obtain ⟨b2, c5, e5, h5⟩ := once_ok (c := ⟨c4.b, c4.i, c4.h⟩) h4 (n := 6) (by decide)
    rw [e5, Option.bind_some]
    split
    · obtain ⟨w', b3, t1, t2, t3⟩ := turn_ok (w := w) (by omega) (by omega)
      have t1' : spec_WordTurn ⟨w.stem, w.loop⟩ = some (w', b3) := t1
      rw [t1', Option.bind_some]
      exact ⟨_, _, rfl, h5, by show w'.stem.length ≤ _; omega, by show w'.loop.length ≤ _; omega⟩
    · exact ⟨_, _, rfl, h5, by show w.stem.length ≤ _; omega, by show w.loop.length ≤ _; omega⟩
  dsimp only
  split
  · obtain ⟨w', b3, t1, t2, t3⟩ := power_ok (w := ⟨l1, l2 ++ [x]⟩) (by show l1.length ≤ _; omega) (by simp; omega)
    rw [t1, Option.bind_some]
    exact rest w' (by dsimp only at t2; omega) (by simp at t3; omega)
  · exact rest ⟨l1, l2 ++ [x]⟩ (by show l1.length ≤ _; omega) (by simp; omega)
theorem drawWord_ok {c : Tl1Cur} (hc : CurOk c) : ∃ w c', spec_l3DrawWord c = some (w, c') ∧ CurOk c' ∧ w.stem.length ≤ 50 ∧ w.loop.length ≤ 50 := by
  unfold spec_l3DrawWord
  obtain ⟨n, c1, e1, m1, h1⟩ := pick_ok hc (xs := [1, 2, 2, 3, 8]) (by decide) (by decide)
  have hn : n ≤ 4294967296 := by
    simp only [List.mem_cons, List.not_mem_nil, or_false] at m1; omega
  obtain ⟨w, c2, e2, h2, l1, l2⟩ := wordRight_ok h1 hn
  obtain ⟨x, c3, e3, _, _, h3⟩ := below_ok h2 (n := 25) (by decide)
  rw [e1, Option.bind_some, e2, Option.bind_some, e3, Option.bind_some]
  unfold spec_l3DrawWord.k0
  dsimp only
  split
  · exact ⟨_, _, rfl, h3, by show w.stem.length ≤ _; omega, by simp⟩
  split
  · obtain ⟨z, c4, e4, _, h4⟩ := pick_ok h3 (xs := [-1, 7, 8]) (by decide) (by decide)
    rw [e4, Option.bind_some, app8 (by simp; omega), Option.bind_some]
    exact ⟨_, _, rfl, h4, by simp; omega, by show w.loop.length ≤ _; omega⟩
  split
  · obtain ⟨z, c4, e4, z1, z2, h4⟩ := below_pos h3 (n := 2) (by decide) (by decide)
    have w1 : W (40 + z) = 40 + z := W_eq (by omega) (by omega)
    rw [e4, Option.bind_some]
    dsimp only
    rw [w1, mk_ok (by omega) (by omega), Option.bind_some]
    exact ⟨_, _, rfl, h4, by simp; omega, by show w.loop.length ≤ _; omega⟩
  split
  · obtain ⟨z, c4, e4, z1, z2, h4⟩ := below_pos h3 (n := 2) (by decide) (by decide)
    have w1 : W (40 + z) = 40 + z := W_eq (by omega) (by omega)
    rw [e4, Option.bind_some]
    dsimp only
    rw [w1, mk_ok (by omega) (by omega), Option.bind_some]
    exact ⟨_, _, rfl, h4, by show w.stem.length ≤ _; omega, by simp; omega⟩
  · exact ⟨_, _, rfl, h3, by show w.stem.length ≤ _; omega, by show w.loop.length ≤ _; omega⟩
end Go.Proofs.Ytjjlkncefgfljaa
