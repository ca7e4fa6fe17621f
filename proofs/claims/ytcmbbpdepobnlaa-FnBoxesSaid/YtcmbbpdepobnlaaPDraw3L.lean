/- Drawn letters: not too many. -/
import Derived.Test.YtcmbbpdepobnlaaDBoxes
import Derived.Test.YtcmbbpdepobnlaaPDraw
namespace Go.Proofs.Ytcmbbpdepobnlaa
open Go Go.RowKit E
set_option linter.unusedVariables false

theorem app8 {l m : List Int} (h : l.length + m.length ≤ 1000000000) : app 8 l m = some (l ++ m) := app_small h (by omega)
theorem letters_ok {c : Tl1Cur} (hc : CurOk c) {most : Nat} (hm : most ≤ 100) {n : Int} (hn : n ≤ 4294967296) : ∃ l c', spec_l3DrawLetters c (most : Int) n = some (l, c') ∧ CurOk c' ∧ l.length ≤ most := by
  unfold spec_l3DrawLetters
  obtain ⟨x, c1, e1, h1, h2, hc1⟩ := below_pos hc (n := W ((most : Int) + 1)) (by rw [W, W_eq (by omega) (by omega)]; omega) (by rw [W, W_eq (by omega) (by omega)]; omega)
  rw [W, W_eq (by omega) (by omega)] at h2
  rw [e1, Option.bind_some]
  have key := loop_inv (body := fun s : List Int × Int × Int × List Int × Int => spec_l3DrawLetters.b0 (x, c1) n s.1 s.2.1 s.2.2.1 s.2.2.2.1 s.2.2.2.2) (fun s => CurOk ⟨s.1, s.2.1, s.2.2.1⟩ ∧ 0 ≤ s.2.2.2.2 ∧ s.2.2.2.2 ≤ x ∧ (s.2.2.2.1.length : Int) = s.2.2.2.2) (fun s => x.toNat - s.2.2.2.2.toNat) (fun r => CurOk ⟨r.2.1, r.2.2.1, r.2.2.2⟩ ∧ r.1.length ≤ most) (fun s hs => ?_) (s := (c1.b, c1.i, c1.h, [], 0)) ⟨hc1, Int.le_refl 0, h1, rfl⟩
  · obtain ⟨r, e, g1, g2⟩ := key
    have e' : loop (fun s : List Int × Int × Int × List Int × Int => spec_l3DrawLetters.b0 (x, c1) n s.1 s.2.1 s.2.2.1 s.2.2.2.1 s.2.2.2.2) ((x, c1).2.b, (x, c1).2.i, (x, c1).2.h, [], 0) = some r := e
    rw [e', Option.bind_some]
    exact ⟨_, _, rfl, g1, g2⟩
  · obtain ⟨b, i, h, y, k⟩ := s
    obtain ⟨i1, i2, i3, i4⟩ := hs
    dsimp only at i1 i2 i3 i4 ⊢
    unfold spec_l3DrawLetters.b0
    by_cases g : k < x
    · right
      obtain ⟨z, c2, e2, _, _, hc2⟩ := below_ok i1 hn
      have w : W (k + 1) = k + 1 := W_eq (by omega) (by omega)
      rw [if_pos (by exact g), e2, Option.bind_some, app8 (by simp; omega), Option.bind_some, w]
      exact ⟨_, rfl, ⟨hc2, by dsimp only; omega, by dsimp only; omega, by simp; omega⟩, by dsimp only; omega⟩
    · left
      rw [if_neg (by exact g)]
      exact ⟨_, rfl, i1, by dsimp only; omega⟩
end Go.Proofs.Ytcmbbpdepobnlaa
