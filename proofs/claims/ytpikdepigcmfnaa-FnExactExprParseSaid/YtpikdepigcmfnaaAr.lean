/- Arguments of laws, as plain values. -/
import Derived.Test.YtpikdepigcmfnaaFa
import Derived.Test.YtpikdepigcmfnaaWf
namespace Go.Proofs.Ytpikdepigcmfnaa
open Go Go.RowKit E
set_option linter.unusedVariables false
theorem consOf {n : Nat} {ys : List AV} (h : ys.length = n + 1) : ∃ x r, ys = x :: r ∧ r.length = n := by
  cases ys with
  | nil => simp at h
  | cons x r => exact ⟨x, r, rfl, by simpa using h⟩

theorem of_3 {a : AV} (h : OkA Try.prog 3 a) : ∃ d : Int, a = (.int .i64 d) ∧ inI d := by
  obtain ⟨m, rfl, hw⟩ := h.int Try.underlying3
  exact ⟨m, rfl, by simpa [Lit.wf, IntKind.min, IntKind.max, IntKind.signed, IntKind.bits, inI] using hw⟩

theorem of_75 {a : AV} (h : OkA Try.prog 75 a) : ∃ d : TNode, a = (TNode.av d) ∧ TNode.wf d := by
  obtain ⟨ys, rfl, hl, n, hf⟩ := h.struct Try.underlying75
  rw [cellsOf_75] at hl
  have hf : ∀ f ∈ [(3, 0, 1), (3, 1, 1), (3, 2, 1)], OkT Try.prog n f.1 ((ys.drop f.2.1).take f.2.2) := by
    intro f hm
    simp only [List.mem_cons, List.not_mem_nil, or_false] at hm
    rcases hm with rfl | rfl | rfl
    · have q := hf _ (List.mem_of_getElem? (i := 0) rfl); dsimp only at q; rw [cellsOf_3] at q; exact q
    · have q := hf _ (List.mem_of_getElem? (i := 1) rfl); dsimp only at q; rw [cellsOf_3] at q; exact q
    · have q := hf _ (List.mem_of_getElem? (i := 2) rfl); dsimp only at q; rw [cellsOf_3] at q; exact q
  obtain ⟨x0, r0, rfl, hl0⟩ := consOf hl
  obtain ⟨x1, r1, rfl, hl1⟩ := consOf hl0
  obtain ⟨x2, r2, rfl, hl2⟩ := consOf hl1
  obtain rfl := List.eq_nil_of_length_eq_zero hl2
  have f0 := hf _ (List.mem_of_getElem? (i := 0) rfl)
  obtain ⟨v0, e0, k0⟩ := of_3 (OkT.A aggA_3 f0)
  subst e0
  have f1 := hf _ (List.mem_of_getElem? (i := 1) rfl)
  obtain ⟨v1, e1, k1⟩ := of_3 (OkT.A aggA_3 f1)
  subst e1
  have f2 := hf _ (List.mem_of_getElem? (i := 2) rfl)
  obtain ⟨v2, e2, k2⟩ := of_3 (OkT.A aggA_3 f2)
  subst e2
  exact ⟨TNode.mk v0 v1 v2, rfl, k0, k1, k2⟩

theorem of_22 {a : AV} (h : OkA Try.prog 22 a) : ∃ d : (List TNode), a = (.list 3 (List.map TNode.av d)) ∧ (d.length ≤ 9223372036854775807 ∧ ∀ q ∈ d, TNode.wf q) := by
  obtain ⟨xs, rfl, hl, hx⟩ := h.slice elemA_22
  obtain ⟨ys, rfl, hy⟩ := map_of TNode.av (fun q => TNode.wf q) fun x hx' => of_75 (hx x hx')
  exact ⟨ys, by rw [cellsOf_75], by simpa [Go.maxLen] using hl, hy⟩

theorem of_9 {a : AV} (h : OkA Try.prog 9 a) : ∃ d : ByteArray, a = (.str d) ∧ d.size ≤ 9223372036854775807 := by
  obtain ⟨m, rfl, hw⟩ := h.str Try.underlying9
  exact ⟨m, rfl, by simpa [Go.maxLen] using hw⟩

theorem of_34 {a : AV} (h : OkA Try.prog 34 a) : ∃ d : (List Int), a = (.list 1 (List.map (AV.int .i64) d)) ∧ (d.length ≤ 9223372036854775807 ∧ ∀ q ∈ d, inI q) := by
  obtain ⟨xs, rfl, hl, hx⟩ := h.slice elemA_34
  obtain ⟨ys, rfl, hy⟩ := map_of (AV.int .i64) (fun q => inI q) fun x hx' => of_3 (hx x hx')
  exact ⟨ys, by rw [cellsOf_3], by simpa [Go.maxLen] using hl, hy⟩

theorem of_94 {a : AV} (h : OkA Try.prog 94 a) : ∃ d : TOmega, a = (TOmega.av d) ∧ TOmega.wf d := by
  obtain ⟨ys, rfl, hl, n, hf⟩ := h.struct Try.underlying94
  rw [cellsOf_94] at hl
  have hf : ∀ f ∈ [(22, 0, 1), (22, 1, 1)], OkT Try.prog n f.1 ((ys.drop f.2.1).take f.2.2) := by
    intro f hm
    simp only [List.mem_cons, List.not_mem_nil, or_false] at hm
    rcases hm with rfl | rfl
    · have q := hf _ (List.mem_of_getElem? (i := 0) rfl); dsimp only at q; rw [cellsOf_22] at q; exact q
    · have q := hf _ (List.mem_of_getElem? (i := 1) rfl); dsimp only at q; rw [cellsOf_22] at q; exact q
  obtain ⟨x0, r0, rfl, hl0⟩ := consOf hl
  obtain ⟨x1, r1, rfl, hl1⟩ := consOf hl0
  obtain rfl := List.eq_nil_of_length_eq_zero hl1
  have f0 := hf _ (List.mem_of_getElem? (i := 0) rfl)
  obtain ⟨v0, e0, k0⟩ := of_22 (OkT.A aggA_22 f0)
  subst e0
  have f1 := hf _ (List.mem_of_getElem? (i := 1) rfl)
  obtain ⟨v1, e1, k1⟩ := of_22 (OkT.A aggA_22 f1)
  subst e1
  exact ⟨TOmega.mk v0 v1, rfl, k0, k1⟩

theorem of_39 {a : AV} (h : OkA Try.prog 39 a) : ∃ d : (List TOmega), a = (.list 2 (List.map TOmega.av d)) ∧ (d.length ≤ 9223372036854775807 ∧ ∀ q ∈ d, TOmega.wf q) := by
  obtain ⟨xs, rfl, hl, hx⟩ := h.slice elemA_39
  obtain ⟨ys, rfl, hy⟩ := map_of TOmega.av (fun q => TOmega.wf q) fun x hx' => of_94 (hx x hx')
  exact ⟨ys, by rw [cellsOf_94], by simpa [Go.maxLen] using hl, hy⟩

theorem of_4 {a : AV} (h : OkA Try.prog 4 a) : ∃ d : Bool, a = (.bool d) ∧ True := by
  obtain ⟨m, rfl⟩ := h.bool Try.underlying4
  exact ⟨m, rfl, trivial⟩

theorem of_155 {a : AV} (h : OkA Try.prog 155 a) : ∃ d : TEdge, a = (TEdge.av d) ∧ TEdge.wf d := by
  obtain ⟨ys, rfl, hl, n, hf⟩ := h.struct Try.underlying155
  rw [cellsOf_155] at hl
  have hf : ∀ f ∈ [(3, 0, 1), (3, 1, 1), (3, 2, 1), (4, 3, 1)], OkT Try.prog n f.1 ((ys.drop f.2.1).take f.2.2) := by
    intro f hm
    simp only [List.mem_cons, List.not_mem_nil, or_false] at hm
    rcases hm with rfl | rfl | rfl | rfl
    · have q := hf _ (List.mem_of_getElem? (i := 0) rfl); dsimp only at q; rw [cellsOf_3] at q; exact q
    · have q := hf _ (List.mem_of_getElem? (i := 1) rfl); dsimp only at q; rw [cellsOf_3] at q; exact q
    · have q := hf _ (List.mem_of_getElem? (i := 2) rfl); dsimp only at q; rw [cellsOf_3] at q; exact q
    · have q := hf _ (List.mem_of_getElem? (i := 3) rfl); dsimp only at q; rw [cellsOf_4] at q; exact q
  obtain ⟨x0, r0, rfl, hl0⟩ := consOf hl
  obtain ⟨x1, r1, rfl, hl1⟩ := consOf hl0
  obtain ⟨x2, r2, rfl, hl2⟩ := consOf hl1
  obtain ⟨x3, r3, rfl, hl3⟩ := consOf hl2
  obtain rfl := List.eq_nil_of_length_eq_zero hl3
  have f0 := hf _ (List.mem_of_getElem? (i := 0) rfl)
  obtain ⟨v0, e0, k0⟩ := of_3 (OkT.A aggA_3 f0)
  subst e0
  have f1 := hf _ (List.mem_of_getElem? (i := 1) rfl)
  obtain ⟨v1, e1, k1⟩ := of_3 (OkT.A aggA_3 f1)
  subst e1
  have f2 := hf _ (List.mem_of_getElem? (i := 2) rfl)
  obtain ⟨v2, e2, k2⟩ := of_3 (OkT.A aggA_3 f2)
  subst e2
  have f3 := hf _ (List.mem_of_getElem? (i := 3) rfl)
  obtain ⟨v3, e3, k3⟩ := of_4 (OkT.A aggA_4 f3)
  subst e3
  exact ⟨TEdge.mk v0 v1 v2 v3, rfl, k0, k1, k2, k3⟩

theorem of_55 {a : AV} (h : OkA Try.prog 55 a) : ∃ d : (List TEdge), a = (.list 4 (List.map TEdge.av d)) ∧ (d.length ≤ 9223372036854775807 ∧ ∀ q ∈ d, TEdge.wf q) := by
  obtain ⟨xs, rfl, hl, hx⟩ := h.slice elemA_55
  obtain ⟨ys, rfl, hy⟩ := map_of TEdge.av (fun q => TEdge.wf q) fun x hx' => of_155 (hx x hx')
  exact ⟨ys, by rw [cellsOf_155], by simpa [Go.maxLen] using hl, hy⟩

theorem of_57 {a : AV} (h : OkA Try.prog 57 a) : ∃ d : TAuto, a = (TAuto.av d) ∧ TAuto.wf d := by
  obtain ⟨ys, rfl, hl, n, hf⟩ := h.struct Try.underlying57
  rw [cellsOf_57] at hl
  have hf : ∀ f ∈ [(3, 0, 1), (3, 1, 1), (3, 2, 1), (55, 3, 1)], OkT Try.prog n f.1 ((ys.drop f.2.1).take f.2.2) := by
    intro f hm
    simp only [List.mem_cons, List.not_mem_nil, or_false] at hm
    rcases hm with rfl | rfl | rfl | rfl
    · have q := hf _ (List.mem_of_getElem? (i := 0) rfl); dsimp only at q; rw [cellsOf_3] at q; exact q
    · have q := hf _ (List.mem_of_getElem? (i := 1) rfl); dsimp only at q; rw [cellsOf_3] at q; exact q
    · have q := hf _ (List.mem_of_getElem? (i := 2) rfl); dsimp only at q; rw [cellsOf_3] at q; exact q
    · have q := hf _ (List.mem_of_getElem? (i := 3) rfl); dsimp only at q; rw [cellsOf_55] at q; exact q
  obtain ⟨x0, r0, rfl, hl0⟩ := consOf hl
  obtain ⟨x1, r1, rfl, hl1⟩ := consOf hl0
  obtain ⟨x2, r2, rfl, hl2⟩ := consOf hl1
  obtain ⟨x3, r3, rfl, hl3⟩ := consOf hl2
  obtain rfl := List.eq_nil_of_length_eq_zero hl3
  have f0 := hf _ (List.mem_of_getElem? (i := 0) rfl)
  obtain ⟨v0, e0, k0⟩ := of_3 (OkT.A aggA_3 f0)
  subst e0
  have f1 := hf _ (List.mem_of_getElem? (i := 1) rfl)
  obtain ⟨v1, e1, k1⟩ := of_3 (OkT.A aggA_3 f1)
  subst e1
  have f2 := hf _ (List.mem_of_getElem? (i := 2) rfl)
  obtain ⟨v2, e2, k2⟩ := of_3 (OkT.A aggA_3 f2)
  subst e2
  have f3 := hf _ (List.mem_of_getElem? (i := 3) rfl)
  obtain ⟨v3, e3, k3⟩ := of_55 (OkT.A aggA_55 f3)
  subst e3
  exact ⟨TAuto.mk v0 v1 v2 v3, rfl, k0, k1, k2, k3⟩

theorem of_59 {a : AV} (h : OkA Try.prog 59 a) : ∃ d : TNfa, a = (TNfa.av d) ∧ TNfa.wf d := by
  obtain ⟨ys, rfl, hl, n, hf⟩ := h.struct Try.underlying59
  rw [cellsOf_59] at hl
  have hf : ∀ f ∈ [(57, 0, 4), (3, 4, 1)], OkT Try.prog n f.1 ((ys.drop f.2.1).take f.2.2) := by
    intro f hm
    simp only [List.mem_cons, List.not_mem_nil, or_false] at hm
    rcases hm with rfl | rfl
    · have q := hf _ (List.mem_of_getElem? (i := 0) rfl); dsimp only at q; rw [cellsOf_57] at q; exact q
    · have q := hf _ (List.mem_of_getElem? (i := 1) rfl); dsimp only at q; rw [cellsOf_3] at q; exact q
  obtain ⟨x0, r0, rfl, hl0⟩ := consOf hl
  obtain ⟨x1, r1, rfl, hl1⟩ := consOf hl0
  obtain ⟨x2, r2, rfl, hl2⟩ := consOf hl1
  obtain ⟨x3, r3, rfl, hl3⟩ := consOf hl2
  obtain ⟨x4, r4, rfl, hl4⟩ := consOf hl3
  obtain rfl := List.eq_nil_of_length_eq_zero hl4
  have f0 := hf _ (List.mem_of_getElem? (i := 0) rfl)
  obtain ⟨v0, e0, k0⟩ := of_57 (OkT.G aggA_57 f0)
  simp only [TAuto.av, AV.agg.injEq, List.drop_zero, List.drop_succ_cons, List.take_succ_cons, List.take_zero, List.cons.injEq, and_true] at e0; obtain ⟨rfl, rfl, rfl, rfl⟩ := e0
  have f1 := hf _ (List.mem_of_getElem? (i := 1) rfl)
  obtain ⟨v1, e1, k1⟩ := of_3 (OkT.A aggA_3 f1)
  subst e1
  exact ⟨TNfa.mk v0 v1, rfl, k0, k1⟩

end Go.Proofs.Ytpikdepigcmfnaa
