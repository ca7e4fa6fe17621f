/- Lists of numbers held against each other. -/
import Derived.Test.YtgklefbkneomoaaDLtlTemporal
import Derived.Test.YtgklefbkneomoaaQ0
namespace Go.Proofs.Ytgklefbkneomoaa
open Go Go.RowKit E
set_option linter.unusedVariables false

theorem eqIntS_eq (xs ys : List Int) (h : xs.length ≤ 1048576) : laws_eqIntS xs ys = some (decide (xs = ys)) := by
  unfold laws_eqIntS
  split
  · rename_i k; rw [decide_eq_false]; intro e; subst e; exact k rfl
  · rename_i k
    have h1 := eq_loop (fun a b : Int => some (decide (a = b))) (fun a b => rfl) xs ys (by omega) (by omega)
    have h2 : loop (fun s : Int => laws_eqIntS.b0 xs ys s) 0 = some (if xs = ys then (.inl () : Unit ⊕ Bool) else .inr false) := by
      rw [← h1]
      congr 1
      funext s
      unfold laws_eqIntS.b0
      split
      · cases ix xs s with
        | none => rfl
        | some a =>
          cases ix ys s with
          | none => rfl
          | some b =>
            simp only [Option.bind_some]
            by_cases e : a = b
            · rw [if_neg (by simpa using e), if_neg (by simp [e])]
            · rw [if_pos (by simpa using e), if_pos (by simp [e])]
      · rfl
    rw [h2, Option.bind_some]
    by_cases e : xs = ys
    · rw [if_pos e]; simp [e, laws_eqIntS.k0]
    · rw [if_neg e]; simp [e]
end Go.Proofs.Ytgklefbkneomoaa
