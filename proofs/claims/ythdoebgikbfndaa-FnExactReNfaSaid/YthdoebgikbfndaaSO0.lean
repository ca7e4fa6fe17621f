/- slices.SortFunc as a plain function. -/
import Derived.Test.YthdoebgikbfndaaF6
import Derived.Sort.AssemblyPlain
import Derived.Shelf.SlSortCmp.Insertion
namespace Go.Proofs.Ythdoebgikbfndaa
open Go

/-- One is ahead of another. -/
def ltG {α : Type} (g : α → α → Option Int) (x y : α) : Bool := decide ((g x y).getD 0 < 0)
open Classical in
noncomputable def sortBy {α : Type} [Inhabited α] (l : List α) (g : α → α → Option Int) : Option (List α) :=
  if (∀ x y, g x y ≠ none) ∧ Go.Sort.SWO (ltG g) ∧ l.length < 4611686018427387904 then
    some (Go.Sort.pdq (ltG g) l.toArray 0 l.toArray.size (Go.Lib.bitLen l.toArray.size) true true).toList else none

theorem sortBy_spec {α : Type} [Inhabited α] {l r : List α} {g : α → α → Option Int} (h : sortBy l g = some r) :
    r.Perm l ∧ ∀ i j (hi : i < r.length) (hj : j < r.length), i < j → ltG g r[j] r[i] = false := by
  unfold sortBy at h
  split at h
  · rename_i hc
    cases h
    have hs := Go.Sort.pdq_sorts (ltG g) hc.2.1 l.toArray 0 l.toArray.size (Go.Lib.bitLen l.toArray.size) true true (Nat.zero_le _) (Nat.le_refl _) (Or.inl rfl)
    generalize Go.Sort.pdq (ltG g) l.toArray 0 l.toArray.size (Go.Lib.bitLen l.toArray.size) true true = d at hs
    obtain ⟨⟨h1, _, h3⟩, h4⟩ := hs
    have e1 : d.extract 0 l.toArray.size = d := by rw [← h1]; simp
    have e2 : l.toArray.extract 0 l.toArray.size = l.toArray := by simp
    rw [e1, e2] at h3
    refine ⟨h3, fun i j hi hj hij => ?_⟩
    have hi' : i < d.size := by simpa using hi
    have hj' : j < d.size := by simpa using hj
    have := h4 i j (Nat.zero_le _) hij (by rw [← h1]; exact hj')
    rwa [getElem!_pos d j hj', getElem!_pos d i hi'] at this
  · cases h
theorem sortBy_some {α : Type} [Inhabited α] {l : List α} {g : α → α → Option Int} (h1 : ∀ x y, g x y ≠ none) (h2 : Go.Sort.SWO (ltG g)) (h3 : l.length < 4611686018427387904) : ∃ r, sortBy l g = some r := by
  unfold sortBy
  rw [if_pos ⟨h1, h2, h3⟩]
  exact ⟨_, rfl⟩
end Go.Proofs.Ythdoebgikbfndaa
