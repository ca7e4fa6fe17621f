/- Bits put into a set by a list. -/
import Derived.Test.YthdclobnmicdaaaPPow
namespace Go.Proofs.Ythdclobnmicdaaa
open Go Go.RowKit E
set_option linter.unusedVariables false

def orL {α : Type} (c : α → Bool) (t : α → Nat) (l : List α) (s : Nat) : Nat := l.foldl (fun s x => if c x = true then s ||| 2 ^ t x else s) s
theorem orL_bit {α : Type} (c : α → Bool) (t : α → Nat) : ∀ (l : List α) (s i : Nat), (orL c t l s).testBit i = true ↔ s.testBit i = true ∨ ∃ x ∈ l, c x = true ∧ t x = i
  | [], s, i => by simp [orL]
  | x :: l, s, i => by
    have e : orL c t (x :: l) s = orL c t l (if c x = true then s ||| 2 ^ t x else s) := rfl
    rw [e, orL_bit c t l]
    by_cases h : c x = true
    · rw [if_pos h, Nat.testBit_or, Bool.or_eq_true, Nat.testBit_two_pow, decide_eq_true_eq]
      constructor
      · rintro ((g | g) | ⟨y, hy, g⟩)
        · exact .inl g
        · exact .inr ⟨x, List.mem_cons_self, h, g⟩
        · exact .inr ⟨y, List.mem_cons_of_mem _ hy, g⟩
      · rintro (g | ⟨y, hy, g⟩)
        · exact .inl (.inl g)
        · rcases List.mem_cons.mp hy with rfl | hy
          · exact .inl (.inr g.2)
          · exact .inr ⟨y, hy, g⟩
    · rw [if_neg h]
      constructor
      · rintro (g | ⟨y, hy, g⟩)
        · exact .inl g
        · exact .inr ⟨y, List.mem_cons_of_mem _ hy, g⟩
      · rintro (g | ⟨y, hy, g⟩)
        · exact .inl g
        · rcases List.mem_cons.mp hy with rfl | hy
          · exact absurd g.1 h
          · exact .inr ⟨y, hy, g⟩
theorem orL_lt {α : Type} {c : α → Bool} {t : α → Nat} {l : List α} {s n : Nat} (hs : s < 2 ^ n) (h : ∀ x ∈ l, t x < n) : orL c t l s < 2 ^ n := by
  refine Nat.lt_pow_two_of_testBit _ fun i hi => ?_
  cases hb : (orL c t l s).testBit i with
  | false => rfl
  | true =>
    rcases (orL_bit c t l s i).mp hb with g | ⟨x, hx, _, g⟩
    · rw [Nat.testBit_lt_two_pow (Nat.lt_of_lt_of_le hs (Nat.pow_le_pow_right (by omega) hi))] at g; cases g
    · have := h x hx; omega
theorem and_ne (x y : Nat) : x &&& y ≠ 0 ↔ ∃ i, x.testBit i = true ∧ y.testBit i = true := by
  constructor
  · intro h
    refine Classical.byContradiction fun g => h (Nat.eq_of_testBit_eq fun i => ?_)
    rw [Nat.testBit_and, Nat.zero_testBit]
    cases hx : x.testBit i with
    | false => rfl
    | true =>
      cases hy : y.testBit i with
      | false => rfl
      | true => exact absurd ⟨i, hx, hy⟩ g
  · rintro ⟨i, hx, hy⟩ h
    have := congrArg (fun z => z.testBit i) h
    simp [Nat.testBit_and, hx, hy] at this
end Go.Proofs.Ythdclobnmicdaaa
