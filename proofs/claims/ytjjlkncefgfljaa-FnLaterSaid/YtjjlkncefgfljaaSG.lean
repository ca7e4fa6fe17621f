/- slices.Grow of nothing: a row of the call's own, with nothing in it and room. -/
import Derived.Test.YtjjlkncefgfljaaF6
import Derived.Test.YtjjlkncefgfljaaProg
import Derived.Test.YtjjlkncefgfljaaSG0
namespace Go.Proofs.Ytjjlkncefgfljaa
open Go Go.RowKit E

theorem slices_Grow_of {n : Int} (h : 0 ≤ n ∧ n ≤ 1000000) : PO Try.prog 112 [.nil, .int .i64 n] 1 [] := by
  intro B ι w vs hr hv
  obtain ⟨m, rfl⟩ : ∃ m : Nat, n = m := ⟨n.toNat, by omega⟩
  obtain ⟨h1, h2⟩ := hv
  have v0 : V ι .nil (vs.getD 0 Go.undef) := h2 0 (by simp)
  have v1 : V ι (.int .i64 (m : Int)) (vs.getD 1 Go.undef) := h2 1 (by simp)
  have v0 := v0.nil_inv
  have v1 := v1.int_inv
  have hvs : vs = #[vs.getD 0 Go.undef, vs.getD 1 Go.undef] := by
    have h1 : vs.size = 2 := h1
    apply Array.ext
    · simpa using h1
    · intro i hi hj
      have : i = 0 ∨ i = 1 := by omega
      rcases this with rfl | rfl <;> simp [Array.getD, hi]
  rw [hvs, v0, v1]
  by_cases hm : m = 0
  · subst hm
    refine (growNil0 w).mono ?_
    rintro e w' ⟨rfl, rfl⟩
    exact ⟨.nil, _, ι, fun _ => none, rfl, Own.nil 1 _, .nil, Imm.le_refl _, hr⟩
  · obtain ⟨i0, g1, g2, g3, g4⟩ := infoA (P := Try.prog) (t := 3) (s := 1) (y := 8) (z := .int .i64 0) (by kernel_rfl) (by kernel_rfl) (by kernel_rfl)
    refine (growNil i0 (.int .i64 0) g1 g4 g2 g3 m w (by omega) (by omega)).mono ?_
    rintro e w' ⟨rfl, rfl⟩
    have hge := grownCap_ge w m 0 3
    generalize grownCap w m 0 3 = cap at hge
    have hrow := Rel.row (s := 1) hr.drew (([] : List Value).toArray ++ Builtin.zeroCells (Value.int .i64 0).cells m ++ Builtin.zeroCells (Value.int .i64 0).cells (cap - m)) 3 [] cap (fun x h => by cases h) (Nat.zero_le _) (by
      simp only [Array.size_append, List.size_toArray, size_zeroCells, Value.cells]
      simp; omega) (by omega) (fun p h => by cases h)
    exact ⟨_, _, ι, _, rfl, hrow.2, .slc _ _ _ _, Imm.le_refl _, hrow.1⟩
end Go.Proofs.Ytjjlkncefgfljaa
