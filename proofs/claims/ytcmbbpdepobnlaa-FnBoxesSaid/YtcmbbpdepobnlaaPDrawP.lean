/- What is drawn: one of a few. -/
import Derived.Test.YtcmbbpdepobnlaaDBoxes
import Derived.Test.YtcmbbpdepobnlaaPDraw
namespace Go.Proofs.Ytcmbbpdepobnlaa
open Go Go.RowKit E
set_option linter.unusedVariables false

theorem pick_ok {c : Tl1Cur} (h : CurOk c) {xs : List Int} (h0 : 0 < xs.length) (hn : xs.length ≤ 1000) : ∃ x c', spec_l1PickInt c xs = some (x, c') ∧ x ∈ xs ∧ CurOk c' := by
  unfold spec_l1PickInt
  obtain ⟨x, c', e, h1, h2, h3⟩ := below_pos h (n := (xs.length : Int)) (by omega) (by omega)
  rw [e, Option.bind_some, ix_ok h1 h2, Option.bind_some]
  refine ⟨_, _, rfl, ?_, h3⟩
  have hx : x.toNat < xs.length := by omega
  rw [List.getD_eq_getElem?_getD, List.getElem?_eq_getElem hx]
  exact List.getElem_mem hx
end Go.Proofs.Ytcmbbpdepobnlaa
