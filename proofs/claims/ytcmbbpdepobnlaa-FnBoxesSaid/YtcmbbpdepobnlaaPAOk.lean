/- What a right automaton is. -/
import Derived.Test.YtcmbbpdepobnlaaPAuto
namespace Go.Proofs.Ytcmbbpdepobnlaa
open Go Go.RowKit E
set_option linter.unusedVariables false

/-- What a right automaton is. -/
structure AOk (a : TAuto) : Prop where
  lets : 1 ≤ a.letters ∧ a.letters ≤ 8
  sts : 0 ≤ a.states ∧ a.states ≤ 31
  start : 0 ≤ a.start ∧ a.start < ((2 ^ a.states.toNat : Nat) : Int)
  num : a.edges.length ≤ 2000
  edge : ∀ e ∈ a.edges, (0 ≤ e.from_ ∧ e.from_ < a.states) ∧ (0 ≤ e.to_ ∧ e.to_ < a.states) ∧ (0 ≤ e.letter ∧ e.letter < a.letters)
theorem autoOk_A {a : TAuto} (h : autoOk a = true) : AOk a := by
  obtain ⟨h1, h2⟩ := autoOk_t h
  obtain ⟨g1, g2, g3, g4⟩ := headOk_t h1
  refine ⟨g1, g2, g3, g4, fun e he => ?_⟩
  obtain ⟨k, hk, rfl⟩ := List.getElem_of_mem he
  unfold autoOk at h
  rw [Bool.and_eq_true] at h
  have := List.all_eq_true.mp h.2 k (List.mem_range.mpr hk)
  unfold edgeOk at this
  simp only [Bool.and_eq_true, decide_eq_true_eq] at this
  have e1 : a.edges.getD k default = a.edges[k] := by simp [List.getD_eq_getElem?_getD, hk]
  rw [e1] at this
  omega
end Go.Proofs.Ytcmbbpdepobnlaa
