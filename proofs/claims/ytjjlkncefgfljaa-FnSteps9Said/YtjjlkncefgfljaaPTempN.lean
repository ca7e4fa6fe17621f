/- The places of the nodes of time: the program finds the same as the reference. -/
import Derived.Test.YtjjlkncefgfljaaDPair8
import Derived.Test.YtjjlkncefgfljaaPLtlOk
import Derived.Test.YtjjlkncefgfljaaPTempL
namespace Go.Proofs.Ytjjlkncefgfljaa
open Go Go.RowKit E
set_option linter.unusedVariables false

noncomputable def ltTemporal (e : List TNode) : List Int := if treeOk ltP e = true then tempL 0 e else []
theorem specTemporal_eq (e : List TNode) : spec_LtlTemporal e = some (ltTemporal e) := by
  unfold spec_LtlTemporal ltTemporal
  rw [specLtlOk_eq, Option.bind_some]
  by_cases h : treeOk ltP e = true
  · have hn := (treeOk_nodes h).2.1
    rw [if_neg (by rw [h]; simp), if_pos h]
    unfold spec_l8Temporal
    have := temp_loop (body := fun s : List Int × Int => spec_l8Temporal.b0 e s.1 s.2) e hn (fun y x => rfl) e [] [] rfl (by simp)
    have h2 : loop (fun s : List Int × Int => spec_l8Temporal.b0 e s.1 s.2) ([], 0) = some (tempL 0 e) := this
    rw [h2]; rfl
  · rw [if_pos (by simpa using h), if_neg h]
theorem implTemporal_eq (e : List TNode) : impl_LtlTemporal e = some (ltTemporal e) := by
  unfold impl_LtlTemporal ltTemporal
  rw [implLtlOk_eq, Option.bind_some]
  by_cases h : treeOk ltP e = true
  · have hn := (treeOk_nodes h).2.1
    rw [if_neg (by rw [h]; simp), if_pos h]
    unfold impl_temporal
    have := temp_loop (body := fun s : List Int × Int => impl_temporal.b0 e s.1 s.2) e hn (fun y x => rfl) e [] [] rfl (by simp)
    have h2 : loop (fun s : List Int × Int => impl_temporal.b0 e s.1 s.2) ([], 0) = some (tempL 0 e) := this
    rw [h2]; rfl
  · rw [if_pos (by simpa using h), if_neg h]
theorem ltTemporal_len (e : List TNode) (h : e.length ≤ 1048576) : (ltTemporal e).length ≤ 1048576 := by
  unfold ltTemporal
  split
  · exact Nat.le_trans (tempL_len e 0) h
  · simp
end Go.Proofs.Ytjjlkncefgfljaa
