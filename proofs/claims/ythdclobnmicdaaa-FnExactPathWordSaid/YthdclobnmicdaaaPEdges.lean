/- Edges and automata: copied as they are, held against each other. -/
import Derived.Test.YthdclobnmicdaaaDAutoLive
import Derived.Test.YthdclobnmicdaaaPAuto
namespace Go.Proofs.Ythdclobnmicdaaa
open Go Go.RowKit E
set_option linter.unusedVariables false

theorem toEdgeS_eq (xs : List TEdge) (h : xs.length ≤ 1048576) : laws_toEdgeS xs = some xs := by
  unfold laws_toEdgeS
  rw [mk_ok (by omega) (by omega), Option.bind_some, Int.toNat_natCast]
  have h1 := copy_loop (fun a => some (laws_toEdge a)) laws_toEdge (fun _ => rfl) (TEdge.mk 0 0 0 false) xs (by omega)
  have h2 : loop (fun s : List TEdge × Int => laws_toEdgeS.b0 xs s.1 s.2) (List.replicate xs.length (TEdge.mk 0 0 0 false), 0) = some (xs.map laws_toEdge) := h1
  rw [h2, Option.bind_some]
  have : xs.map laws_toEdge = xs := by
    have : laws_toEdge = id := rfl
    rw [this]; simp
  rw [this]; rfl
theorem eqEdge_eq (a b : TEdge) : laws_eqEdge a b = decide (a = b) := by
  unfold laws_eqEdge
  cases a; cases b
  simp only [TEdge.mk.injEq]
  repeat' split
  all_goals simp_all
theorem eqEdgeS_eq (xs ys : List TEdge) (h : xs.length ≤ 1048576) : laws_eqEdgeS xs ys = some (decide (xs = ys)) := by
  unfold laws_eqEdgeS
  split
  · rename_i k; rw [decide_eq_false]; intro e; subst e; exact k rfl
  · rename_i k
    have h1 := eq_loop (fun a b => some (laws_eqEdge a b)) (fun a b => by rw [eqEdge_eq]) xs ys (by omega) (by omega)
    have h2 : loop (fun s : Int => laws_eqEdgeS.b0 xs ys s) 0 = some (if xs = ys then (.inl () : Unit ⊕ Bool) else .inr false) := h1
    rw [h2, Option.bind_some]
    by_cases e : xs = ys
    · rw [if_pos e]; simp [e, laws_eqEdgeS.k0]
    · rw [if_neg e]; simp [e]
theorem toAuto_eq (a : TAuto) (h : a.edges.length ≤ 1048576) : laws_toAuto a = some a := by
  unfold laws_toAuto
  rw [toEdgeS_eq _ h, Option.bind_some]
theorem eqAuto_eq (a : TAuto) (h : a.edges.length ≤ 1048576) : laws_eqAuto a a = some true := by
  unfold laws_eqAuto
  rw [if_neg (by simp), if_neg (by simp), if_neg (by simp), eqEdgeS_eq _ _ h, Option.bind_some]
  simp
theorem szAuto_eq (a : TAuto) (h : a.edges.length ≤ 9223372036854775807) : laws_szAuto a 1048576 < 0 ↔ ¬ a.edges.length ≤ 1048576 := by
  unfold laws_szAuto laws_szEdgeS
  rw [W, W_eq (by omega) (by omega)]
  (repeat' split) <;> omega
/-- What a right automaton is. -/
structure AOk (a : TAuto) : Prop where
  lets : 1 ≤ a.letters ∧ a.letters ≤ 8
  sts : 0 ≤ a.states ∧ a.states ≤ 31
  start : 0 ≤ a.start ∧ a.start < ((2 ^ a.states.toNat : Nat) : Int)
  num : a.edges.length ≤ 2000
  edge : ∀ e ∈ a.edges, (0 ≤ e.from_ ∧ e.from_ < a.states) ∧ (0 ≤ e.to_ ∧ e.to_ < a.states) ∧ (0 ≤ e.letter ∧ e.letter < a.letters)
theorem autoOk_A {a : TAuto} (h : autoOk a = true) : AOk a := by
  obtain ⟨h1, h2⟩ := autoOk_t h
  obtain ⟨g1, g2, g3, g4⟩ := headOk_t h1
  refine ⟨g1, g2, g3, g4, fun e he => ?_⟩
  obtain ⟨k, hk, rfl⟩ := List.getElem_of_mem he
  unfold autoOk at h
  rw [Bool.and_eq_true] at h
  have := List.all_eq_true.mp h.2 k (List.mem_range.mpr hk)
  unfold edgeOk at this
  simp only [Bool.and_eq_true, decide_eq_true_eq] at this
  have e1 : a.edges.getD k default = a.edges[k] := by simp [List.getD_eq_getElem?_getD, hk]
  rw [e1] at this
  omega
end Go.Proofs.Ythdclobnmicdaaa
