/- Arguments of laws, as plain values. -/
import Derived.Test.YtllpbgcajgbfbaaFa
import Derived.Test.YtllpbgcajgbfbaaWf
namespace Go.Proofs.Ytllpbgcajgbfbaa
open Go Go.RowKit E
set_option linter.unusedVariables false
theorem consOf {n : Nat} {ys : List AV} (h : ys.length = n + 1) : ∃ x r, ys = x :: r ∧ r.length = n := by
  cases ys with
  | nil => simp at h
  | cons x r => exact ⟨x, r, rfl, by simpa using h⟩

theorem of_3 {a : AV} (h : OkA Try.prog 3 a) : ∃ d : Int, a = (.int .i64 d) ∧ inI d := by
  obtain ⟨m, rfl, hw⟩ := h.int Try.underlying3
  exact ⟨m, rfl, by simpa [Lit.wf, IntKind.min, IntKind.max, IntKind.signed, IntKind.bits, inI] using hw⟩

theorem of_4 {a : AV} (h : OkA Try.prog 4 a) : ∃ d : Bool, a = (.bool d) ∧ True := by
  obtain ⟨m, rfl⟩ := h.bool Try.underlying4
  exact ⟨m, rfl, trivial⟩

theorem of_76 {a : AV} (h : OkA Try.prog 76 a) : ∃ d : TEdge, a = (TEdge.av d) ∧ TEdge.wf d := by
  obtain ⟨ys, rfl, hl, n, hf⟩ := h.struct Try.underlying76
  rw [cellsOf_76] at hl
  have hf : ∀ f ∈ [(3, 0, 1), (3, 1, 1), (3, 2, 1), (4, 3, 1)], OkT Try.prog n f.1 ((ys.drop f.2.1).take f.2.2) := by
    intro f hm
    simp only [List.mem_cons, List.not_mem_nil, or_false] at hm
    rcases hm with rfl | rfl | rfl | rfl
    · have q := hf _ (List.mem_of_getElem? (i := 0) rfl); dsimp only at q; rw [cellsOf_3] at q; exact q
    · have q := hf _ (List.mem_of_getElem? (i := 1) rfl); dsimp only at q; rw [cellsOf_3] at q; exact q
    · have q := hf _ (List.mem_of_getElem? (i := 2) rfl); dsimp only at q; rw [cellsOf_3] at q; exact q
    · have q := hf _ (List.mem_of_getElem? (i := 3) rfl); dsimp only at q; rw [cellsOf_4] at q; exact q
  obtain ⟨x0, r0, rfl, hl0⟩ := consOf hl
  obtain ⟨x1, r1, rfl, hl1⟩ := consOf hl0
  obtain ⟨x2, r2, rfl, hl2⟩ := consOf hl1
  obtain ⟨x3, r3, rfl, hl3⟩ := consOf hl2
  obtain rfl := List.eq_nil_of_length_eq_zero hl3
  have f0 := hf _ (List.mem_of_getElem? (i := 0) rfl)
  obtain ⟨v0, e0, k0⟩ := of_3 (OkT.A aggA_3 f0)
  subst e0
  have f1 := hf _ (List.mem_of_getElem? (i := 1) rfl)
  obtain ⟨v1, e1, k1⟩ := of_3 (OkT.A aggA_3 f1)
  subst e1
  have f2 := hf _ (List.mem_of_getElem? (i := 2) rfl)
  obtain ⟨v2, e2, k2⟩ := of_3 (OkT.A aggA_3 f2)
  subst e2
  have f3 := hf _ (List.mem_of_getElem? (i := 3) rfl)
  obtain ⟨v3, e3, k3⟩ := of_4 (OkT.A aggA_4 f3)
  subst e3
  exact ⟨TEdge.mk v0 v1 v2 v3, rfl, k0, k1, k2, k3⟩

theorem of_22 {a : AV} (h : OkA Try.prog 22 a) : ∃ d : (List TEdge), a = (.list 4 (List.map TEdge.av d)) ∧ (d.length ≤ 9223372036854775807 ∧ ∀ q ∈ d, TEdge.wf q) := by
  obtain ⟨xs, rfl, hl, hx⟩ := h.slice elemA_22
  obtain ⟨ys, rfl, hy⟩ := map_of TEdge.av (fun q => TEdge.wf q) fun x hx' => of_76 (hx x hx')
  exact ⟨ys, by rw [cellsOf_76], by simpa [Go.maxLen] using hl, hy⟩

theorem of_24 {a : AV} (h : OkA Try.prog 24 a) : ∃ d : TAuto, a = (TAuto.av d) ∧ TAuto.wf d := by
  obtain ⟨ys, rfl, hl, n, hf⟩ := h.struct Try.underlying24
  rw [cellsOf_24] at hl
  have hf : ∀ f ∈ [(3, 0, 1), (3, 1, 1), (3, 2, 1), (22, 3, 1)], OkT Try.prog n f.1 ((ys.drop f.2.1).take f.2.2) := by
    intro f hm
    simp only [List.mem_cons, List.not_mem_nil, or_false] at hm
    rcases hm with rfl | rfl | rfl | rfl
    · have q := hf _ (List.mem_of_getElem? (i := 0) rfl); dsimp only at q; rw [cellsOf_3] at q; exact q
    · have q := hf _ (List.mem_of_getElem? (i := 1) rfl); dsimp only at q; rw [cellsOf_3] at q; exact q
    · have q := hf _ (List.mem_of_getElem? (i := 2) rfl); dsimp only at q; rw [cellsOf_3] at q; exact q
    · have q := hf _ (List.mem_of_getElem? (i := 3) rfl); dsimp only at q; rw [cellsOf_22] at q; exact q
  obtain ⟨x0, r0, rfl, hl0⟩ := consOf hl
  obtain ⟨x1, r1, rfl, hl1⟩ := consOf hl0
  obtain ⟨x2, r2, rfl, hl2⟩ := consOf hl1
  obtain ⟨x3, r3, rfl, hl3⟩ := consOf hl2
  obtain rfl := List.eq_nil_of_length_eq_zero hl3
  have f0 := hf _ (List.mem_of_getElem? (i := 0) rfl)
  obtain ⟨v0, e0, k0⟩ := of_3 (OkT.A aggA_3 f0)
  subst e0
  have f1 := hf _ (List.mem_of_getElem? (i := 1) rfl)
  obtain ⟨v1, e1, k1⟩ := of_3 (OkT.A aggA_3 f1)
  subst e1
  have f2 := hf _ (List.mem_of_getElem? (i := 2) rfl)
  obtain ⟨v2, e2, k2⟩ := of_3 (OkT.A aggA_3 f2)
  subst e2
  have f3 := hf _ (List.mem_of_getElem? (i := 3) rfl)
  obtain ⟨v3, e3, k3⟩ := of_22 (OkT.A aggA_22 f3)
  subst e3
  exact ⟨TAuto.mk v0 v1 v2 v3, rfl, k0, k1, k2, k3⟩

theorem of_26 {a : AV} (h : OkA Try.prog 26 a) : ∃ d : (List Int), a = (.list 1 (List.map (AV.int .i64) d)) ∧ (d.length ≤ 9223372036854775807 ∧ ∀ q ∈ d, inI q) := by
  obtain ⟨xs, rfl, hl, hx⟩ := h.slice elemA_26
  obtain ⟨ys, rfl, hy⟩ := map_of (AV.int .i64) (fun q => inI q) fun x hx' => of_3 (hx x hx')
  exact ⟨ys, by rw [cellsOf_3], by simpa [Go.maxLen] using hl, hy⟩

theorem of_50 {a : AV} (h : OkA Try.prog 50 a) : ∃ d : TRankState, a = (TRankState.av d) ∧ TRankState.wf d := by
  obtain ⟨ys, rfl, hl, n, hf⟩ := h.struct Try.underlying50
  rw [cellsOf_50] at hl
  have hf : ∀ f ∈ [(26, 0, 1), (3, 1, 1)], OkT Try.prog n f.1 ((ys.drop f.2.1).take f.2.2) := by
    intro f hm
    simp only [List.mem_cons, List.not_mem_nil, or_false] at hm
    rcases hm with rfl | rfl
    · have q := hf _ (List.mem_of_getElem? (i := 0) rfl); dsimp only at q; rw [cellsOf_26] at q; exact q
    · have q := hf _ (List.mem_of_getElem? (i := 1) rfl); dsimp only at q; rw [cellsOf_3] at q; exact q
  obtain ⟨x0, r0, rfl, hl0⟩ := consOf hl
  obtain ⟨x1, r1, rfl, hl1⟩ := consOf hl0
  obtain rfl := List.eq_nil_of_length_eq_zero hl1
  have f0 := hf _ (List.mem_of_getElem? (i := 0) rfl)
  obtain ⟨v0, e0, k0⟩ := of_26 (OkT.A aggA_26 f0)
  subst e0
  have f1 := hf _ (List.mem_of_getElem? (i := 1) rfl)
  obtain ⟨v1, e1, k1⟩ := of_3 (OkT.A aggA_3 f1)
  subst e1
  exact ⟨TRankState.mk v0 v1, rfl, k0, k1⟩

end Go.Proofs.Ytllpbgcajgbfbaa
