/- Edges found marked; numbers marked on from a number. -/
import Derived.Test.YthdclobnmicdaaaDAutoPrune
import Derived.Test.YthdclobnmicdaaaPMarkE
import Derived.Test.YthdclobnmicdaaaPMarkI
namespace Go.Proofs.Ythdclobnmicdaaa
open Go Go.RowKit E
set_option linter.unusedVariables false

theorem markEL_len : ∀ (r : List TEdge) (c : Nat), (markEL c r).length = r.length
  | [], c => rfl
  | _ :: r, c => by simp [markEL, markEL_len r]
theorem heldE_loop : ∀ (r pre : List TEdge) (c : Nat), c + 4 * r.length ≤ 1000000000 → pre.length + r.length ≤ 1000000000 → loop (fun s : Int × Int => laws_heldEdgeS.b0 (pre ++ markEL c r) s.1 s.2) ((c : Int), (pre.length : Int)) = some (.inl ((c + 4 * r.length : Nat) : Int))
  | [], pre, c, _, _ => loop_end (by dsimp only; unfold laws_heldEdgeS.b0; rw [if_neg (by simp [markEL])]; simp)
  | x :: r, pre, c, h1, h2 => by
    simp only [List.length_cons] at h1 h2
    have w1 : W ((c : Int) + 1) = (c : Int) + 1 := W_eq (by omega) (by omega)
    have w2 : W ((c : Int) + 1 + 1) = (c : Int) + 2 := by rw [W, W_eq (by omega) (by omega)]; omega
    have w3 : W ((c : Int) + 2 + 1) = (c : Int) + 3 := by rw [W, W_eq (by omega) (by omega)]; omega
    have w5 : W ((c : Int) + 3 + 1) = ((c + 4 : Nat) : Int) := by rw [W, W_eq (by omega) (by omega)]; omega
    have w4 : W ((pre.length : Int) + 1) = (((pre ++ [TEdge.mk (c : Int) ((c : Int) + 1) ((c : Int) + 2) (decide (Int.tmod ((c : Int) + 3) 3 = 0))]).length : Nat) : Int) := by rw [W, W_eq (by omega) (by omega)]; simp
    have ih := heldE_loop r (pre ++ [TEdge.mk (c : Int) ((c : Int) + 1) ((c : Int) + 2) (decide (Int.tmod ((c : Int) + 3) 3 = 0))]) (c + 4) (by omega) (by simp; omega)
    rw [List.append_assoc, List.singleton_append] at ih
    unfold markEL
    rw [loop_go (s' := (((c + 4 : Nat) : Int), (((pre ++ [TEdge.mk (c : Int) ((c : Int) + 1) ((c : Int) + 2) (decide (Int.tmod ((c : Int) + 3) 3 = 0))]).length : Nat) : Int)))]
    · rw [ih, List.length_cons, show c + 4 + 4 * r.length = c + 4 * (r.length + 1) by omega]
    · dsimp only; unfold laws_heldEdgeS.b0
      rw [if_pos (by simp; omega)]
      simp only [ix_mid, Option.bind_some, w1, w2, w3, w4, w5]
      simp
theorem heldE_eq (xs : List TEdge) (h : xs.length ≤ 2000000) : laws_heldEdgeS (markEL 1 xs) 1 = some ((1 + 4 * xs.length : Nat) : Int) := by
  unfold laws_heldEdgeS
  have := heldE_loop xs [] 1 (by omega) (by simp; omega)
  simp only [List.nil_append] at this
  have e : loop (fun s : Int × Int => laws_heldEdgeS.b0 (markEL 1 xs) s.1 s.2) (1, 0) = _ := this
  rw [e]; rfl
theorem heldAuto_eq (a : TAuto) (h : a.edges.length ≤ 2000000) : laws_heldAuto { a with edges := markEL 1 a.edges } 1 = some ((1 + 4 * a.edges.length : Nat) : Int) := by
  unfold laws_heldAuto
  dsimp only
  rw [heldE_eq _ h, Option.bind_some, if_neg (by omega)]
theorem markI_from (xs : List Int) (c : Nat) (h : xs.length ≤ 2000000) (hc : c ≤ 20000000) : laws_markIntS xs (c : Int) = some (((c + xs.length : Nat) : Int), markIL c xs) := by
  unfold laws_markIntS
  have := markI_loop xs [] c (by omega) (by simp; omega)
  simp only [List.nil_append] at this
  have e : loop (fun s : List Int × Int × Int => laws_markIntS.b0 s.1 s.2.1 s.2.2) (xs, (c : Int), 0) = _ := this
  rw [e]; rfl
theorem heldI_from (xs : List Int) (c : Nat) (h : xs.length ≤ 2000000) (hc : c ≤ 20000000) : laws_heldIntS (markIL c xs) (c : Int) = some ((c + xs.length : Nat) : Int) := by
  unfold laws_heldIntS
  have := heldI_loop xs [] c (by omega) (by simp; omega)
  simp only [List.nil_append] at this
  have e : loop (fun s : Int × Int => laws_heldIntS.b0 (markIL c xs) s.1 s.2) ((c : Int), 0) = _ := this
  rw [e]; rfl
end Go.Proofs.Ythdclobnmicdaaa
