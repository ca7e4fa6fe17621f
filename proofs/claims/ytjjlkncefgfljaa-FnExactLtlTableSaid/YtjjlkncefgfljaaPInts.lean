/- Lists of numbers: copied as they are, held against each other. -/
import Derived.Test.YtjjlkncefgfljaaDLtlTable
import Derived.Test.YtjjlkncefgfljaaQ0
namespace Go.Proofs.Ytjjlkncefgfljaa
open Go Go.RowKit E
set_option linter.unusedVariables false

theorem toIntS_eq (xs : List Int) (h : xs.length ≤ 1048576) : laws_toIntS xs = some xs := by
  unfold laws_toIntS
  rw [mk_ok (by omega) (by omega), Option.bind_some, Int.toNat_natCast]
  have h1 := copy_loop (fun a : Int => some a) id (fun _ => rfl) 0 xs (by omega)
  have h2 : loop (fun s : List Int × Int => laws_toIntS.b0 xs s.1 s.2) (List.replicate xs.length 0, 0) = some (xs.map id) := h1
  rw [h2, Option.bind_some, List.map_id]; rfl
theorem eqIntS_eq (xs ys : List Int) (h : xs.length ≤ 1048576) : laws_eqIntS xs ys = some (decide (xs = ys)) := by
  unfold laws_eqIntS
  split
  · rename_i k; rw [decide_eq_false]; intro e; subst e; exact k rfl
  · rename_i k
    have h1 := eq_loop (fun a b : Int => some (decide (a = b))) (fun a b => rfl) xs ys (by omega) (by omega)
    have h2 : loop (fun s : Int => laws_eqIntS.b0 xs ys s) 0 = some (if xs = ys then (.inl () : Unit ⊕ Bool) else .inr false) := by
      rw [← h1]
      congr 1
      funext s
      unfold laws_eqIntS.b0
      split
      · cases ix xs s with
        | none => rfl
        | some a =>
          cases ix ys s with
          | none => rfl
          | some b =>
            simp only [Option.bind_some]
            by_cases e : a = b
            · rw [if_neg (by simpa using e), if_neg (by simp [e])]
            · rw [if_pos (by simpa using e), if_pos (by simp [e])]
      · rfl
    rw [h2, Option.bind_some]
    by_cases e : xs = ys
    · rw [if_pos e]; simp [e, laws_eqIntS.k0]
    · rw [if_neg e]; simp [e]
end Go.Proofs.Ytjjlkncefgfljaa
