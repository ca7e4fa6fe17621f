/- Plain lemmas on the words of printed functions: rows copied, held against each other; loops by induction. -/
import Derived.Test.YthdoebgikbfndaaF2
namespace Go.Proofs.Ythdoebgikbfndaa.E
open Go Go.RowKit
set_option linter.unusedVariables false

theorem W_nat {k : Nat} (h : k < 9223372036854775807) : IntKind.i64.wrap ((k : Int) + 1) = ((k + 1 : Nat) : Int) := by rw [W_eq (by omega) (by omega)]; omega
theorem bnd_eq {α β : Type} (x : α) (f : α → β) : bnd x f = f x := rfl
theorem whenO_t {α : Type} [Inhabited α] (x : Option α) : whenO true x = x := rfl
theorem whenO_f {α : Type} [Inhabited α] (x : Option α) : whenO false x = some default := rfl
theorem chk_t : chk true = some () := rfl
theorem inR {x a b : Int} : (decide (x ≥ a) && decide (x ≤ b)) = decide (a ≤ x ∧ x ≤ b) := by
  by_cases h : a ≤ x <;> by_cases k : x ≤ b <;> simp [h, k]

theorem loop_up {σ ρ : Type} {body : σ → Option (σ ⊕ ρ)} (n : Nat) (st : Nat → σ) (r : ρ) (go : ∀ k, k < n → body (st k) = some (.inl (st (k + 1)))) (fin : body (st n) = some (.inr r)) : ∀ k, k ≤ n → loop body (st k) = some r := by
  have key : ∀ d k, k + d = n → loop body (st k) = some r := by
    intro d
    induction d with
    | zero => intro k h; obtain rfl : k = n := by omega
              exact loop_end fin
    | succ d ih => intro k h; rw [loop_go (go k (by omega))]; exact ih (k + 1) (by omega)
  exact fun k hk => key (n - k) k (by omega)

end Go.Proofs.Ythdoebgikbfndaa.E
