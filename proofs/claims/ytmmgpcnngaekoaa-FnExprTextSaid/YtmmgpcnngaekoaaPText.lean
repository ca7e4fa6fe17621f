/- Texts put together; how long they may become. -/
import Derived.Test.YtmmgpcnngaekoaaPTree2
namespace Go.Proofs.Ytmmgpcnngaekoaa
open Go Go.RowKit E
set_option linter.unusedVariables false

theorem cat_ok {a b : ByteArray} (h : a.size + b.size ≤ 9223372036854775807) : cat a b = some (a ++ b) := by
  unfold cat
  rw [if_neg]
  have : IntKind.i64.max = 9223372036854775807 := by decide
  rw [this]; omega
theorem size_app (a b : ByteArray) : (a ++ b).size = a.size + b.size := by simp
/-- No text is longer than this. -/
def Short (ts : List ByteArray) : Prop := ∀ i, i < ts.length → (ts.getD i default).size ≤ 4 ^ (i + 1)
theorem pow4 {i : Nat} (h : i ≤ 31) : 4 ^ i ≤ 4611686018427387904 := by
  have : 4 ^ i ≤ 4 ^ 31 := Nat.pow_le_pow_right (by omega) h
  exact Nat.le_trans this (by decide)
/-- A node's text by its parts' texts: short where the parts' are. -/
theorem accum_short {f : TNode → List ByteArray → ByteArray} {e : List TNode} {P : Nat → TNode → Prop} (hP : ∀ i, i < e.length → P i (e.getD i default)) (hf : ∀ n ts, P ts.length n → Short ts → (f n ts).size ≤ 4 ^ (ts.length + 1)) : ∀ i, i ≤ e.length → Short (accum f [] (e.take i)) := by
  intro i
  induction i with
  | zero => intro _ j hj; simp [accum] at hj
  | succ i ih =>
    intro hi j hj
    have hlt : i < e.length := by omega
    have hl : (accum f [] (e.take i)).length = i := by rw [accum_len]; simp; omega
    have hl2 : (accum f [] (e.take (i + 1))).length = i + 1 := by rw [accum_len]; simp; omega
    by_cases hji : j < i
    · rw [accum_take f default e (i := i + 1) (by omega) (by omega), ← accum_take f default e (i := i) (by omega) hji]
      exact ih (by omega) j (by omega)
    · have : j = i := by omega
      subst this
      rw [accum_take f default e (i := j + 1) (by omega) (by omega), accum_get f default e hlt]
      have := hf (e.getD j default) (accum f [] (e.take j)) (by rw [hl]; exact hP j hlt) (ih (by omega))
      rw [hl] at this; exact this
theorem accum_size {f : TNode → List ByteArray → ByteArray} {e : List TNode} {P : Nat → TNode → Prop} (hP : ∀ i, i < e.length → P i (e.getD i default)) (hf : ∀ n ts, P ts.length n → Short ts → (f n ts).size ≤ 4 ^ (ts.length + 1)) {i : Nat} (hi : i < e.length) : ((accum f [] e).getD i default).size ≤ 4 ^ (i + 1) := by
  have hl : (accum f [] (e.take i)).length = i := by rw [accum_len]; simp; omega
  rw [accum_get f default e hi]
  have := hf (e.getD i default) (accum f [] (e.take i)) (by rw [hl]; exact hP i hi) (accum_short hP hf i (by omega))
  rw [hl] at this; exact this
theorem two_short {ts : List ByteArray} {i n : Nat} (hn : n ≤ 31) (hi : i < n) (h : ∀ i, i < n → (ts.getD i default).size ≤ 4 ^ (i + 1)) {a b : Nat} (ha : a < i) (hb : b < i) : (ts.getD a default).size + (ts.getD b default).size + 3 ≤ 9223372036854775807 := by
  have h1 := h a (by omega)
  have h2 := h b (by omega)
  have h5 : 4 ^ (a + 1) ≤ 4 ^ 30 := Nat.pow_le_pow_right (by omega) (by omega)
  have h6 : 4 ^ (b + 1) ≤ 4 ^ 30 := Nat.pow_le_pow_right (by omega) (by omega)
  have : (4 : Nat) ^ 30 = 1152921504606846976 := by decide
  omega
end Go.Proofs.Ytmmgpcnngaekoaa
