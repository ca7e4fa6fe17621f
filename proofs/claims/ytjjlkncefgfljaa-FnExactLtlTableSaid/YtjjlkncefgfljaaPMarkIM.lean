/- Numbers marked on from a number. -/
import Derived.Test.YtjjlkncefgfljaaDLtlTable
import Derived.Test.YtjjlkncefgfljaaQ1
namespace Go.Proofs.Ytjjlkncefgfljaa
open Go Go.RowKit E
set_option linter.unusedVariables false

def markIL (c : Nat) : List Int → List Int
  | [] => []
  | _ :: r => (c : Int) :: markIL (c + 1) r
theorem markI_loop : ∀ (r pre : List Int) (c : Nat), c + r.length ≤ 1000000000 → pre.length + r.length ≤ 1000000000 → loop (fun s : List Int × Int × Int => laws_markIntS.b0 s.1 s.2.1 s.2.2) (pre ++ r, (c : Int), (pre.length : Int)) = some (((c + r.length : Nat) : Int), pre ++ markIL c r)
  | [], pre, c, _, _ => loop_end (by dsimp only; unfold laws_markIntS.b0; rw [if_neg (by simp)]; simp [markIL])
  | x :: r, pre, c, h1, h2 => by
    simp only [List.length_cons] at h1 h2
    have w3 : W ((c : Int) + 1) = ((c + 1 : Nat) : Int) := by rw [W, W_eq (by omega) (by omega)]; omega
    have w4 : W ((pre.length : Int) + 1) = (((pre ++ [(c : Int)]).length : Nat) : Int) := by rw [W, W_eq (by omega) (by omega)]; simp
    have ih := markI_loop r (pre ++ [(c : Int)]) (c + 1) (by omega) (by simp; omega)
    rw [loop_go (s' := (pre ++ (c : Int) :: r, ((c + 1 : Nat) : Int), (((pre ++ [(c : Int)]).length : Nat) : Int)))]
    · rw [List.append_assoc, List.singleton_append] at ih
      rw [ih]
      simp only [List.length_cons, markIL, List.append_assoc, List.singleton_append]
      rw [show c + 1 + r.length = c + (r.length + 1) by omega]
    · dsimp only; unfold laws_markIntS.b0
      rw [if_pos (by simp; omega)]
      simp only [ck_mid, Option.bind_some, set_mid, w3, w4]
theorem markI_from (xs : List Int) (c : Nat) (h : xs.length ≤ 2000000) (hc : c ≤ 20000000) : laws_markIntS xs (c : Int) = some (((c + xs.length : Nat) : Int), markIL c xs) := by
  unfold laws_markIntS
  have := markI_loop xs [] c (by omega) (by simp; omega)
  simp only [List.nil_append] at this
  have e : loop (fun s : List Int × Int × Int => laws_markIntS.b0 s.1 s.2.1 s.2.2) (xs, (c : Int), 0) = _ := this
  rw [e]; rfl
end Go.Proofs.Ytjjlkncefgfljaa
