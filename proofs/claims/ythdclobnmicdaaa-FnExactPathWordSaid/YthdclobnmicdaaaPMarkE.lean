/- Edges marked. -/
import Derived.Test.YthdclobnmicdaaaDPathWord
import Derived.Test.YthdclobnmicdaaaPEdges
namespace Go.Proofs.Ythdclobnmicdaaa
open Go Go.RowKit E
set_option linter.unusedVariables false

def markEL (c : Nat) : List TEdge → List TEdge
  | [] => []
  | _ :: r => TEdge.mk (c : Int) ((c : Int) + 1) ((c : Int) + 2) (decide (Int.tmod ((c : Int) + 3) 3 = 0)) :: markEL (c + 4) r
theorem markE_loop : ∀ (r pre : List TEdge) (c : Nat), c + 4 * r.length ≤ 1000000000 → pre.length + r.length ≤ 1000000000 → loop (fun s : List TEdge × Int × Int => laws_markEdgeS.b0 s.1 s.2.1 s.2.2) (pre ++ r, (c : Int), (pre.length : Int)) = some (((c + 4 * r.length : Nat) : Int), pre ++ markEL c r)
  | [], pre, c, _, _ => loop_end (by dsimp only; unfold laws_markEdgeS.b0; rw [if_neg (by simp)]; simp [markEL])
  | x :: r, pre, c, h1, h2 => by
    simp only [List.length_cons] at h1 h2
    have w1 : W ((c : Int) + 1) = (c : Int) + 1 := W_eq (by omega) (by omega)
    have w2 : W ((c : Int) + 1 + 1) = (c : Int) + 2 := by rw [W, W_eq (by omega) (by omega)]; omega
    have w3 : W ((c : Int) + 2 + 1) = (c : Int) + 3 := by rw [W, W_eq (by omega) (by omega)]; omega
    have w5 : W ((c : Int) + 3 + 1) = ((c + 4 : Nat) : Int) := by rw [W, W_eq (by omega) (by omega)]; omega
    have w4 : W ((pre.length : Int) + 1) = (((pre ++ [TEdge.mk (c : Int) ((c : Int) + 1) ((c : Int) + 2) (decide (Int.tmod ((c : Int) + 3) 3 = 0))]).length : Nat) : Int) := by rw [W, W_eq (by omega) (by omega)]; simp
    have ih := markE_loop r (pre ++ [TEdge.mk (c : Int) ((c : Int) + 1) ((c : Int) + 2) (decide (Int.tmod ((c : Int) + 3) 3 = 0))]) (c + 4) (by omega) (by simp; omega)
    rw [loop_go (s' := (pre ++ TEdge.mk (c : Int) ((c : Int) + 1) ((c : Int) + 2) (decide (Int.tmod ((c : Int) + 3) 3 = 0)) :: r, ((c + 4 : Nat) : Int), (((pre ++ [TEdge.mk (c : Int) ((c : Int) + 1) ((c : Int) + 2) (decide (Int.tmod ((c : Int) + 3) 3 = 0))]).length : Nat) : Int)))]
    · rw [List.append_assoc, List.singleton_append] at ih
      rw [ih]
      simp only [List.length_cons, markEL, List.append_assoc, List.singleton_append]
      rw [show c + 4 + 4 * r.length = c + 4 * (r.length + 1) by omega]
    · dsimp only; unfold laws_markEdgeS.b0
      rw [if_pos (by simp; omega)]
      simp only [ck_mid, Option.bind_some, set_mid, w1, w2, w3, w4, w5]
      simp
theorem markE_from (xs : List TEdge) (c : Nat) (h : xs.length ≤ 2000000) (hc : c ≤ 20000000) : laws_markEdgeS xs (c : Int) = some (((c + 4 * xs.length : Nat) : Int), markEL c xs) := by
  unfold laws_markEdgeS
  have := markE_loop xs [] c (by omega) (by simp; omega)
  simp only [List.nil_append] at this
  have e : loop (fun s : List TEdge × Int × Int => laws_markEdgeS.b0 s.1 s.2.1 s.2.2) (xs, (c : Int), 0) = _ := this
  rw [e]; rfl
theorem markAuto_eq (a : TAuto) (h : a.edges.length ≤ 2000000) : laws_markAuto a 1 = some (((1 + 4 * a.edges.length : Nat) : Int), { a with edges := markEL 1 a.edges }) := by
  unfold laws_markAuto
  have := markE_from a.edges 1 h (by omega)
  rw [show ((1 : Nat) : Int) = 1 from rfl] at this
  rw [this, Option.bind_some]
end Go.Proofs.Ythdclobnmicdaaa
