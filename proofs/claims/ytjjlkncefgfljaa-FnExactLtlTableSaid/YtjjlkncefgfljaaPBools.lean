/- Lists of truth values: held against each other, marked, found marked. -/
import Derived.Test.YtjjlkncefgfljaaDLtlTable
import Derived.Test.YtjjlkncefgfljaaQ1
namespace Go.Proofs.Ytjjlkncefgfljaa
open Go Go.RowKit E
set_option linter.unusedVariables false

theorem eqBoolS_eq (xs ys : List Bool) (h : xs.length ≤ 1048576) : laws_eqBoolS xs ys = some (decide (xs = ys)) := by
  unfold laws_eqBoolS
  split
  · rename_i k; rw [decide_eq_false]; intro e; subst e; exact k rfl
  · rename_i k
    have h1 := eq_loop (fun a b : Bool => some (a == b)) (fun a b => by cases a <;> cases b <;> rfl) xs ys (by omega) (by omega)
    have h2 : loop (fun s : Int => laws_eqBoolS.b0 xs ys s) 0 = some (if xs = ys then (.inl () : Unit ⊕ Bool) else .inr false) := h1
    rw [h2, Option.bind_some]
    by_cases e : xs = ys
    · rw [if_pos e]; simp [e, laws_eqBoolS.k0]
    · rw [if_neg e]; simp [e]
def markBL (c : Nat) : List Bool → List Bool
  | [] => []
  | _ :: r => decide (Int.tmod (c : Int) 3 = 0) :: markBL (c + 1) r
theorem markB_loop : ∀ (r pre : List Bool) (c : Nat), c + r.length ≤ 1000000000 → pre.length + r.length ≤ 1000000000 → loop (fun s : List Bool × Int × Int => laws_markBoolS.b0 s.1 s.2.1 s.2.2) (pre ++ r, (c : Int), (pre.length : Int)) = some (((c + r.length : Nat) : Int), pre ++ markBL c r)
  | [], pre, c, _, _ => loop_end (by dsimp only; unfold laws_markBoolS.b0; rw [if_neg (by simp)]; simp [markBL])
  | x :: r, pre, c, h1, h2 => by
    simp only [List.length_cons] at h1 h2
    have w3 : W ((c : Int) + 1) = ((c + 1 : Nat) : Int) := by rw [W, W_eq (by omega) (by omega)]; omega
    have w4 : W ((pre.length : Int) + 1) = (((pre ++ [decide (Int.tmod (c : Int) 3 = 0)]).length : Nat) : Int) := by rw [W, W_eq (by omega) (by omega)]; simp
    have ih := markB_loop r (pre ++ [decide (Int.tmod (c : Int) 3 = 0)]) (c + 1) (by omega) (by simp; omega)
    rw [loop_go (s' := (pre ++ decide (Int.tmod (c : Int) 3 = 0) :: r, ((c + 1 : Nat) : Int), (((pre ++ [decide (Int.tmod (c : Int) 3 = 0)]).length : Nat) : Int)))]
    · rw [List.append_assoc, List.singleton_append] at ih
      rw [ih]
      simp only [List.length_cons, markBL, List.append_assoc, List.singleton_append]
      rw [show c + 1 + r.length = c + (r.length + 1) by omega]
    · dsimp only; unfold laws_markBoolS.b0
      rw [if_pos (by simp; omega)]
      simp only [ck_mid, Option.bind_some, set_mid, w3, w4]
theorem markB_eq (xs : List Bool) (h : xs.length ≤ 2000000) : laws_markBoolS xs 1 = some (((1 + xs.length : Nat) : Int), markBL 1 xs) := by
  unfold laws_markBoolS
  have := markB_loop xs [] 1 (by omega) (by simp; omega)
  simp only [List.nil_append] at this
  have e : loop (fun s : List Bool × Int × Int => laws_markBoolS.b0 s.1 s.2.1 s.2.2) (xs, 1, 0) = _ := this
  rw [e]; rfl
theorem heldB_loop : ∀ (r pre : List Bool) (c : Nat), c + r.length ≤ 1000000000 → pre.length + r.length ≤ 1000000000 → loop (fun s : Int × Int => laws_heldBoolS.b0 (pre ++ markBL c r) s.1 s.2) ((c : Int), (pre.length : Int)) = some (.inl ((c + r.length : Nat) : Int))
  | [], pre, c, _, _ => loop_end (by dsimp only; unfold laws_heldBoolS.b0; rw [if_neg (by simp [markBL])]; simp)
  | x :: r, pre, c, h1, h2 => by
    simp only [List.length_cons] at h1 h2
    have w3 : W ((c : Int) + 1) = ((c + 1 : Nat) : Int) := by rw [W, W_eq (by omega) (by omega)]; omega
    have w4 : W ((pre.length : Int) + 1) = (((pre ++ [decide (Int.tmod (c : Int) 3 = 0)]).length : Nat) : Int) := by rw [W, W_eq (by omega) (by omega)]; simp
    have ih := heldB_loop r (pre ++ [decide (Int.tmod (c : Int) 3 = 0)]) (c + 1) (by omega) (by simp; omega)
    rw [List.append_assoc, List.singleton_append] at ih
    unfold markBL
    rw [loop_go (s' := (((c + 1 : Nat) : Int), (((pre ++ [decide (Int.tmod (c : Int) 3 = 0)]).length : Nat) : Int)))]
    · rw [ih, List.length_cons, show c + 1 + r.length = c + (r.length + 1) by omega]
    · dsimp only; unfold laws_heldBoolS.b0
      rw [if_pos (by simp; omega)]
      simp only [ix_mid, Option.bind_some, w3, w4]
      rw [beq_self_eq_true, if_neg (by simp)]
theorem heldB_eq (xs : List Bool) (h : xs.length ≤ 2000000) : laws_heldBoolS (markBL 1 xs) 1 = some ((1 + xs.length : Nat) : Int) := by
  unfold laws_heldBoolS
  have := heldB_loop xs [] 1 (by omega) (by simp; omega)
  simp only [List.nil_append] at this
  have e : loop (fun s : Int × Int => laws_heldBoolS.b0 (markBL 1 xs) s.1 s.2) (1, 0) = _ := this
  rw [e]; rfl
end Go.Proofs.Ytjjlkncefgfljaa
