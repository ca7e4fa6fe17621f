/- Letters below a number. -/
import Derived.Test.YtcmbbpdepobnlaaDBoxes
import Derived.Test.YtcmbbpdepobnlaaPAll
namespace Go.Proofs.Ytcmbbpdepobnlaa
open Go Go.RowKit E
set_option linter.unusedVariables false

def lettersOk (w : List Int) (n : Int) : Bool := (List.range w.length).all fun k => decide (0 ≤ w.getD k default ∧ w.getD k default ≤ W (n - 1))
theorem specLetters_eq (w : List Int) (n : Int) (hl : w.length ≤ 1048576) : spec_l3Letters w n = some (lettersOk w n) := by
  unfold spec_l3Letters
  rw [all_loop w.length (fun k => decide (0 ≤ w.getD k default ∧ w.getD k default ≤ W (n - 1))) (fun k hk => ?_) (by unfold spec_l3Letters.b0; rw [if_neg (by omega)]), Option.bind_some]
  · show Sum.elim _ _ (if lettersOk w n = true then _ else _) = _
    cases lettersOk w n <;> rfl
  · unfold spec_l3Letters.b0
    rw [if_pos (by omega), ix_nat hk, Option.bind_some, l1Rg, WN (by omega)]
    cases decide (0 ≤ w.getD k default ∧ w.getD k default ≤ W (n - 1)) <;> rfl
theorem implLetters_eq (w : List Int) (n : Int) (hl : w.length ≤ 1048576) : impl_areLetters w n = some (lettersOk w n) := by
  unfold impl_areLetters
  rw [all_loop w.length (fun k => decide (0 ≤ w.getD k default ∧ w.getD k default ≤ W (n - 1))) (fun k hk => ?_) (by unfold impl_areLetters.b0; rw [if_neg (by omega)]), Option.bind_some]
  · show Sum.elim _ _ (if lettersOk w n = true then _ else _) = _
    cases lettersOk w n <;> rfl
  · unfold impl_areLetters.b0
    rw [if_pos (by omega), ix_nat hk, Option.bind_some, inRg, WN (by omega)]
    cases decide (0 ≤ w.getD k default ∧ w.getD k default ≤ W (n - 1)) <;> rfl

end Go.Proofs.Ytcmbbpdepobnlaa
