/- Arguments of laws, as plain values. -/
import Derived.Test.YthdoebgikbfndaaFa
import Derived.Test.YthdoebgikbfndaaWf
namespace Go.Proofs.Ythdoebgikbfndaa
open Go Go.RowKit E
set_option linter.unusedVariables false
theorem of_5 {a : AV} (h : OkA Try.prog 5 a) : ∃ d : Int, a = (.int .u8 d) ∧ (IntKind.u8.min ≤ d ∧ d ≤ IntKind.u8.max) := by
  obtain ⟨m, rfl, hw⟩ := h.int Try.underlying5
  exact ⟨m, rfl, by simpa [Lit.wf, IntKind.min, IntKind.max, IntKind.signed, IntKind.bits, inI] using hw⟩

theorem of_45 {a : AV} (h : OkA Try.prog 45 a) : ∃ d : (List Int), a = (.list 1 (List.map (AV.int .u8) d)) ∧ (d.length ≤ 9223372036854775807 ∧ ∀ q ∈ d, (IntKind.u8.min ≤ q ∧ q ≤ IntKind.u8.max)) := by
  obtain ⟨xs, rfl, hl, hx⟩ := h.slice elemA_45
  obtain ⟨ys, rfl, hy⟩ := map_of (AV.int .u8) (fun q => (IntKind.u8.min ≤ q ∧ q ≤ IntKind.u8.max)) fun x hx' => of_5 (hx x hx')
  exact ⟨ys, by rw [cellsOf_5], by simpa [Go.maxLen] using hl, hy⟩

end Go.Proofs.Ythdoebgikbfndaa
