/- Sets of numbers as bits. -/
import Derived.Test.YthdoebgikbfndaaQ0
import Derived.Laws.Bits64
namespace Go.Proofs.Ythdoebgikbfndaa.E
open Go Go.RowKit
set_option linter.unusedVariables false

theorem ofInt_nat {a : Nat} (h : a < 18446744073709551616) : (BitVec.ofInt 64 (a : Int)).toNat = a := by
  rw [BitVec.ofInt_natCast, BitVec.toNat_ofNat]; exact Nat.mod_eq_of_lt (by simpa using h)
theorem u64_nat {n : Nat} (h : n < 18446744073709551616) : IntKind.u64.wrap (n : Int) = n := by rw [IntKind.wrap_u64]; omega
theorem i64_nat {n : Nat} (h : n < 9223372036854775808) : IntKind.i64.wrap (n : Int) = n := W_eq (by omega) (by omega)
theorem or_lt {a b k : Nat} (ha : a < 2 ^ k) (hb : b < 2 ^ k) : a ||| b < 2 ^ k := Nat.or_lt_two_pow ha hb
theorem and_lt {a b k : Nat} (ha : a < 2 ^ k) : a &&& b < 2 ^ k := Nat.lt_of_le_of_lt Nat.and_le_left ha
theorem bOr_u {a b : Nat} (ha : a < 18446744073709551616) (hb : b < 18446744073709551616) : bOr .u64 (a : Int) (b : Int) = ((a ||| b : Nat) : Int) := by
  unfold bOr
  show IntKind.u64.wrap (((BitVec.ofInt 64 (a : Int) ||| BitVec.ofInt 64 (b : Int)).toNat : Nat) : Int) = _
  rw [BitVec.toNat_or, ofInt_nat ha, ofInt_nat hb, u64_nat (or_lt (k := 64) ha hb)]
theorem bAnd_u {a b : Nat} (ha : a < 18446744073709551616) (hb : b < 18446744073709551616) : bAnd .u64 (a : Int) (b : Int) = ((a &&& b : Nat) : Int) := by
  unfold bAnd
  show IntKind.u64.wrap (((BitVec.ofInt 64 (a : Int) &&& BitVec.ofInt 64 (b : Int)).toNat : Nat) : Int) = _
  rw [BitVec.toNat_and, ofInt_nat ha, ofInt_nat hb, u64_nat (and_lt (k := 64) ha)]
theorem bOr_i {a b : Nat} (ha : a < 9223372036854775808) (hb : b < 9223372036854775808) : bOr .i64 (a : Int) (b : Int) = ((a ||| b : Nat) : Int) := by
  unfold bOr
  show IntKind.i64.wrap (((BitVec.ofInt 64 (a : Int) ||| BitVec.ofInt 64 (b : Int)).toNat : Nat) : Int) = _
  rw [BitVec.toNat_or, ofInt_nat (by omega), ofInt_nat (by omega), i64_nat (or_lt (k := 63) ha hb)]
theorem bAnd_i {a b : Nat} (ha : a < 9223372036854775808) (hb : b < 9223372036854775808) : bAnd .i64 (a : Int) (b : Int) = ((a &&& b : Nat) : Int) := by
  unfold bAnd
  show IntKind.i64.wrap (((BitVec.ofInt 64 (a : Int) &&& BitVec.ofInt 64 (b : Int)).toNat : Nat) : Int) = _
  rw [BitVec.toNat_and, ofInt_nat (by omega), ofInt_nat (by omega), i64_nat (and_lt (k := 63) ha)]
theorem shr_nat (k : IntKind) {a n : Nat} (hk : k.bits = 64) (hn : n ≤ 64) : shr k (a : Int) (n : Int) = ((a >>> n : Nat) : Int) := by
  unfold shr
  rw [hk, Int.toNat_natCast, Nat.min_eq_left hn, Nat.shiftRight_eq_div_pow]
  rw [Int.fdiv_eq_ediv_of_nonneg _ (by exact Int.le_of_lt (Int.pow_pos (by omega)))]
  norm_cast
theorem shl1_u {n : Nat} (hn : n < 64) : shl .u64 1 (n : Int) = ((2 ^ n : Nat) : Int) := by
  unfold shl
  have : (2 : Nat) ^ n < 2 ^ 64 := Nat.pow_lt_pow_right (by omega) hn
  show IntKind.u64.wrap (1 * 2 ^ (min (n : Int).toNat 64)) = _
  rw [Int.toNat_natCast, Nat.min_eq_left (by omega), Int.one_mul]
  have h := u64_nat (n := 2 ^ n) (by simpa using this)
  norm_cast at h ⊢
theorem shl1_i {n : Nat} (hn : n < 63) : shl .i64 1 (n : Int) = ((2 ^ n : Nat) : Int) := by
  unfold shl
  have : (2 : Nat) ^ n < 2 ^ 63 := Nat.pow_lt_pow_right (by omega) hn
  show IntKind.i64.wrap (1 * 2 ^ (min (n : Int).toNat 64)) = _
  rw [Int.toNat_natCast, Nat.min_eq_left (by omega), Int.one_mul]
  have h := i64_nat (n := 2 ^ n) (by simpa using this)
  norm_cast at h ⊢
theorem bit_u {a n : Nat} (ha : a < 18446744073709551616) (hn : n ≤ 64) : (decide (bAnd .u64 (shr .u64 (a : Int) (n : Int)) 1 = 1)) = a.testBit n := by
  rw [shr_nat .u64 rfl hn]
  have h1 : a >>> n < 18446744073709551616 := Nat.lt_of_le_of_lt (by rw [Nat.shiftRight_eq_div_pow]; exact Nat.div_le_self _ _) ha
  have := bAnd_u (b := 1) h1 (by omega)
  rw [show ((1 : Nat) : Int) = 1 from rfl] at this
  rw [this, Nat.testBit, Nat.and_comm]
  have h2 : 1 &&& a >>> n = (a >>> n) % 2 := by rw [Nat.and_comm]; exact Nat.and_one_is_mod _
  rw [h2]
  rcases Nat.mod_two_eq_zero_or_one (a >>> n) with h | h <;> rw [h] <;> rfl
theorem bit_i {a n : Nat} (ha : a < 9223372036854775808) (hn : n ≤ 64) : (decide (bAnd .i64 (shr .i64 (a : Int) (n : Int)) 1 = 1)) = a.testBit n := by
  rw [shr_nat .i64 rfl hn]
  have h1 : a >>> n < 9223372036854775808 := Nat.lt_of_le_of_lt (by rw [Nat.shiftRight_eq_div_pow]; exact Nat.div_le_self _ _) ha
  have := bAnd_i (b := 1) h1 (by omega)
  rw [show ((1 : Nat) : Int) = 1 from rfl] at this
  rw [this, Nat.testBit, Nat.and_comm]
  have h2 : 1 &&& a >>> n = (a >>> n) % 2 := by rw [Nat.and_comm]; exact Nat.and_one_is_mod _
  rw [h2]
  rcases Nat.mod_two_eq_zero_or_one (a >>> n) with h | h <;> rw [h] <;> rfl
theorem eq_of_bits {a b k : Nat} (ha : a < 2 ^ k) (hb : b < 2 ^ k) (h : ∀ i, i < k → a.testBit i = b.testBit i) : a = b := by
  apply Nat.eq_of_testBit_eq
  intro i
  by_cases hi : i < k
  · exact h i hi
  · rw [Nat.testBit_lt_two_pow (Nat.lt_of_lt_of_le ha (Nat.pow_le_pow_right (by omega) (by omega))), Nat.testBit_lt_two_pow (Nat.lt_of_lt_of_le hb (Nat.pow_le_pow_right (by omega) (by omega)))]
theorem testBit_two_pow' (n i : Nat) : (2 ^ n).testBit i = decide (n = i) := Nat.testBit_two_pow
/-- How many bits below k. -/
def card (k : Nat) (a : Nat) : Nat := ((List.range k).filter fun i => a.testBit i).length
theorem card_le (k a : Nat) : card k a ≤ k := by unfold card; exact Nat.le_trans (List.length_filter_le _ _) (by simp)
theorem filter_lt {α : Type} {p q : α → Bool} : ∀ {l : List α}, (∀ x ∈ l, p x = true → q x = true) → (∃ x ∈ l, p x = false ∧ q x = true) → (l.filter p).length < (l.filter q).length
  | [], _, ⟨x, h, _⟩ => by simp at h
  | y :: l, h, ⟨x, hx, h1, h2⟩ => by
    have hle : (l.filter p).length ≤ (l.filter q).length := by
      clear hx h1 h2
      have h' : ∀ x ∈ l, p x = true → q x = true := fun x hx => h x (List.mem_cons_of_mem _ hx)
      clear h
      induction l with
      | nil => simp
      | cons z l ih =>
        have := ih (fun x hx => h' x (List.mem_cons_of_mem _ hx))
        have hz := h' z List.mem_cons_self
        simp only [List.filter_cons]
        cases hp : p z <;> cases hq : q z <;> simp_all <;> omega
    rcases List.mem_cons.mp hx with rfl | hx
    · simp only [List.filter_cons, h1, h2]; simp; omega
    · have := filter_lt (fun x hx => h x (List.mem_cons_of_mem _ hx)) ⟨x, hx, h1, h2⟩
      have hy := h y List.mem_cons_self
      simp only [List.filter_cons]
      cases hp : p y <;> cases hq : q y <;> simp_all <;> omega
/-- A set that grows has more members. -/
theorem card_or {k a b : Nat} (ha : a < 2 ^ k) (hb : b < 2 ^ k) (h : a ||| b ≠ a) : card k a < card k (a ||| b) := by
  refine filter_lt (fun i _ hi => by rw [Nat.testBit_or, hi]; rfl) ?_
  refine Classical.byContradiction fun hn => h (eq_of_bits (or_lt ha hb) ha fun i hi => ?_)
  cases h1 : a.testBit i with
  | true => rw [Nat.testBit_or, h1]; rfl
  | false =>
    cases h2 : (a ||| b).testBit i with
    | false => rfl
    | true => exact absurd ⟨i, List.mem_range.mpr hi, h1, h2⟩ hn
end Go.Proofs.Ythdoebgikbfndaa.E
