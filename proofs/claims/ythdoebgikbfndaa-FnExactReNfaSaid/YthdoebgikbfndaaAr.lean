/- Arguments of laws, as plain values. -/
import Derived.Test.YthdoebgikbfndaaFa
import Derived.Test.YthdoebgikbfndaaWf
namespace Go.Proofs.Ythdoebgikbfndaa
open Go Go.RowKit E
set_option linter.unusedVariables false
theorem consOf {n : Nat} {ys : List AV} (h : ys.length = n + 1) : ∃ x r, ys = x :: r ∧ r.length = n := by
  cases ys with
  | nil => simp at h
  | cons x r => exact ⟨x, r, rfl, by simpa using h⟩

theorem of_3 {a : AV} (h : OkA Try.prog 3 a) : ∃ d : Int, a = (.int .i64 d) ∧ inI d := by
  obtain ⟨m, rfl, hw⟩ := h.int Try.underlying3
  exact ⟨m, rfl, by simpa [Lit.wf, IntKind.min, IntKind.max, IntKind.signed, IntKind.bits, inI] using hw⟩

theorem of_67 {a : AV} (h : OkA Try.prog 67 a) : ∃ d : TNode, a = (TNode.av d) ∧ TNode.wf d := by
  obtain ⟨ys, rfl, hl, n, hf⟩ := h.struct Try.underlying67
  rw [cellsOf_67] at hl
  have hf : ∀ f ∈ [(3, 0, 1), (3, 1, 1), (3, 2, 1)], OkT Try.prog n f.1 ((ys.drop f.2.1).take f.2.2) := by
    intro f hm
    simp only [List.mem_cons, List.not_mem_nil, or_false] at hm
    rcases hm with rfl | rfl | rfl
    · have q := hf _ (List.mem_of_getElem? (i := 0) rfl); dsimp only at q; rw [cellsOf_3] at q; exact q
    · have q := hf _ (List.mem_of_getElem? (i := 1) rfl); dsimp only at q; rw [cellsOf_3] at q; exact q
    · have q := hf _ (List.mem_of_getElem? (i := 2) rfl); dsimp only at q; rw [cellsOf_3] at q; exact q
  obtain ⟨x0, r0, rfl, hl0⟩ := consOf hl
  obtain ⟨x1, r1, rfl, hl1⟩ := consOf hl0
  obtain ⟨x2, r2, rfl, hl2⟩ := consOf hl1
  obtain rfl := List.eq_nil_of_length_eq_zero hl2
  have f0 := hf _ (List.mem_of_getElem? (i := 0) rfl)
  obtain ⟨v0, e0, k0⟩ := of_3 (OkT.A aggA_3 f0)
  subst e0
  have f1 := hf _ (List.mem_of_getElem? (i := 1) rfl)
  obtain ⟨v1, e1, k1⟩ := of_3 (OkT.A aggA_3 f1)
  subst e1
  have f2 := hf _ (List.mem_of_getElem? (i := 2) rfl)
  obtain ⟨v2, e2, k2⟩ := of_3 (OkT.A aggA_3 f2)
  subst e2
  exact ⟨TNode.mk v0 v1 v2, rfl, k0, k1, k2⟩

theorem of_22 {a : AV} (h : OkA Try.prog 22 a) : ∃ d : (List TNode), a = (.list 3 (List.map TNode.av d)) ∧ (d.length ≤ 9223372036854775807 ∧ ∀ q ∈ d, TNode.wf q) := by
  obtain ⟨xs, rfl, hl, hx⟩ := h.slice elemA_22
  obtain ⟨ys, rfl, hy⟩ := map_of TNode.av (fun q => TNode.wf q) fun x hx' => of_67 (hx x hx')
  exact ⟨ys, by rw [cellsOf_67], by simpa [Go.maxLen] using hl, hy⟩

end Go.Proofs.Ythdoebgikbfndaa
