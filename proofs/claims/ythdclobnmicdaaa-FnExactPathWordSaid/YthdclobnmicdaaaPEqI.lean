/- Rows of numbers held against each other. -/
import Derived.Test.YthdclobnmicdaaaDPathWord
import Derived.Test.YthdclobnmicdaaaQ1
namespace Go.Proofs.Ythdclobnmicdaaa
open Go Go.RowKit E
set_option linter.unusedVariables false

theorem eqIntS_self (xs : List Int) (h : xs.length ≤ 1048576) : laws_eqIntS xs xs = some true := by
  unfold laws_eqIntS
  rw [if_neg (by simp)]
  have h1 := eq_loop (fun a b => some (decide (a = b))) (fun a b => rfl) xs xs rfl (by omega)
  have h2 : loop (fun s : Int => laws_eqIntS.b0 xs xs s) 0 = some (if xs = xs then (.inl () : Unit ⊕ Bool) else .inr false) := by
    rw [← h1]; congr 1; funext s
    unfold laws_eqIntS.b0
    split
    · congr 1; funext a; congr 1; funext b
      by_cases e : a = b <;> simp [e]
    · rfl
  rw [h2, Option.bind_some, if_pos rfl]; rfl
end Go.Proofs.Ythdclobnmicdaaa
