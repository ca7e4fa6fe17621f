/- What is drawn: a byte, a number below a bound. -/
import Derived.Test.YtcmbbpdepobnlaaDBoxes
import Derived.Test.YtcmbbpdepobnlaaQ1
namespace Go.Proofs.Ytcmbbpdepobnlaa
open Go Go.RowKit E
set_option linter.unusedVariables false

/-- A cursor that is within its bytes. -/
def CurOk (c : Tl1Cur) : Prop := 0 ≤ c.i ∧ c.b.length ≤ 1048576
theorem and255 (x : Int) : 0 ≤ bAnd .i64 x 255 ∧ bAnd .i64 x 255 ≤ 255 := by
  unfold bAnd
  have h1 : (BitVec.ofInt 64 x &&& BitVec.ofInt 64 255).toNat ≤ 255 := by
    rw [BitVec.toNat_and]
    exact Nat.and_le_right
  have h2 : (BitVec.ofInt IntKind.i64.bits x &&& BitVec.ofInt IntKind.i64.bits 255).toNat ≤ 255 := h1
  have h3 := W_eq (a := ((BitVec.ofInt IntKind.i64.bits x &&& BitVec.ofInt IntKind.i64.bits 255).toNat : Int)) (by omega) (by omega)
  rw [h3]; omega
theorem byte_ok {c : Tl1Cur} (h : CurOk c) : ∃ x c', spec_l1Byte c = some (x, c') ∧ (0 ≤ x ∧ x ≤ 255) ∧ CurOk c' := by
  obtain ⟨h1, h2⟩ := h
  unfold spec_l1Byte
  by_cases k : c.i < (c.b.length : Int)
  · rw [if_pos k, ix_ok h1 k, Option.bind_some]
    exact ⟨_, _, rfl, and255 _, by show 0 ≤ W (c.i + 1); rw [W, W_eq (by omega) (by omega)]; omega, h2⟩
  · rw [if_neg k]
    exact ⟨_, _, rfl, and255 _, h1, h2⟩
theorem below_ok {c : Tl1Cur} (h : CurOk c) {n : Int} (hn : n ≤ 4294967296) : ∃ x c', spec_l1Below c n = some (x, c') ∧ 0 ≤ x ∧ (x < n ∨ x = 0) ∧ CurOk c' := by
  unfold spec_l1Below
  by_cases k : n ≤ 0
  · rw [if_pos k]; exact ⟨_, _, rfl, by omega, .inr rfl, h⟩
  · rw [if_neg k]
    by_cases k2 : n ≤ 256
    · rw [if_pos k2]
      obtain ⟨x, c', e, hx, hc⟩ := byte_ok h
      rw [e, Option.bind_some, decide_eq_true (by omega), chk_t, Option.bind_some]
      exact ⟨_, _, rfl, Int.tmod_nonneg _ hx.1, .inl (Int.tmod_lt_of_pos _ (by omega)), hc⟩
    · rw [if_neg k2]
      obtain ⟨x1, c1, e1, hx1, hc1⟩ := byte_ok h
      obtain ⟨x2, c2, e2, hx2, hc2⟩ := byte_ok hc1
      obtain ⟨x3, c3, e3, hx3, hc3⟩ := byte_ok hc2
      obtain ⟨x4, c4, e4, hx4, hc4⟩ := byte_ok hc3
      rw [e1, Option.bind_some, e2, Option.bind_some, e3, Option.bind_some, e4, Option.bind_some, decide_eq_true (by omega), chk_t, Option.bind_some]
      refine ⟨_, _, rfl, Int.tmod_nonneg _ ?_, .inl (Int.tmod_lt_of_pos _ (by omega)), hc4⟩
      dsimp only
      have w1 : W (x1 * 16777216) = x1 * 16777216 := W_eq (by omega) (by omega)
      have w2 : W (x2 * 65536) = x2 * 65536 := W_eq (by omega) (by omega)
      have w3 : W (x3 * 256) = x3 * 256 := W_eq (by omega) (by omega)
      rw [w1, w2, w3]
      have w4 : W (x1 * 16777216 + x2 * 65536) = x1 * 16777216 + x2 * 65536 := W_eq (by omega) (by omega)
      rw [w4]
      have w5 : W (x1 * 16777216 + x2 * 65536 + x3 * 256) = x1 * 16777216 + x2 * 65536 + x3 * 256 := W_eq (by omega) (by omega)
      rw [w5, W, W_eq (by omega) (by omega)]
      omega
theorem below_pos {c : Tl1Cur} (h : CurOk c) {n : Int} (h0 : 0 < n) (hn : n ≤ 4294967296) : ∃ x c', spec_l1Below c n = some (x, c') ∧ 0 ≤ x ∧ x < n ∧ CurOk c' := by
  obtain ⟨x, c', e, h1, h2, h3⟩ := below_ok h hn
  exact ⟨x, c', e, h1, by omega, h3⟩
theorem new_ok (bs : List Int) (h : bs.length ≤ 1048576) : ∃ c, spec_l1New bs = some c ∧ CurOk c := by
  unfold spec_l1New
  have key := loop_inv (body := fun s : Int × Int => spec_l1New.b0 bs s.1 s.2) (fun s => 0 ≤ s.2) (fun s => bs.length - s.2.toNat) (fun _ => True) (fun s hs => ?_) (s := (W (10277 + (bs.length : Int)), 0)) (Int.le_refl 0)
  · obtain ⟨r, e, _⟩ := key
    rw [e, Option.bind_some]
    exact ⟨_, rfl, Int.le_refl 0, h⟩
  · unfold spec_l1New.b0
    rw [bnd_eq]
    by_cases k : s.2 < (bs.length : Int) ∧ s.2 < 4000
    · right
      rw [if_pos (by simpa using k), ix_ok hs k.1, Option.bind_some]
      have w : W (s.2 + 1) = s.2 + 1 := W_eq (by omega) (by omega)
      exact ⟨_, rfl, by show 0 ≤ W (s.2 + 1); omega, by show bs.length - (W (s.2 + 1)).toNat < _; omega⟩
    · left
      rw [if_neg (by simpa using k)]
      exact ⟨_, rfl, trivial⟩
end Go.Proofs.Ytcmbbpdepobnlaa
