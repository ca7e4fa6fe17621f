/- strings.Join comes to its parts, the separator between each two, where that is short enough. -/
import Derived.Test.YtmmgpcnngaekoaaF6
import Derived.Test.YtmmgpcnngaekoaaSJ0
import Derived.Test.YtmmgpcnngaekoaaProg
import Derived.Ground.NamesProg
import Derived.Shelf.Lay
import Derived.Shelf.Strings.OnBuilder
namespace Go.Proofs
open Go.Shelf Go.RowKit

shelf_lay Lays.n156 Nm 156 at Try as Try.laysJoin
theorem Try.joinX : Builder.Extra Try.prog Try.laysJoin_ren where
  sizeBuilder := by kernel_rfl
  liesBuilder := by kernel_rfl
  t5 := by kernel_rfl
  a5 := fun w => by kernel_rfl
  z5 := fun w => by kernel_rfl
  v5 := fun w => by kernel_rfl
  infoByte := by kernel_rfl
  cellsByte := by kernel_rfl
  sizeByte := by kernel_rfl
  neB5 := by decide
end Go.Proofs
namespace Go.Proofs.Ytmmgpcnngaekoaa
open Go Go.Shelf Go.RowKit E

theorem pc_of_below {w w' : World} {ι : Imm} (him : ∀ b o v, ι b o = some v → w.cell? ⟨b, o, none⟩ = some v) (hb : Below w.heap.size w w') : ∀ b o v, ι b o = some v → w'.cell? ⟨b, o, none⟩ = some v := fun b o v h => by
  have h1 := him b o v h
  rw [hb.cell (p := ⟨b, o, none⟩) (blt h1)]; exact h1
theorem flat_str (xs : List ByteArray) : flat (xs.map AV.str) = xs.map AV.str := by
  unfold flat
  rw [List.flatMap_map]
  induction xs with
  | nil => rfl
  | cons x r ih => rw [List.flatMap_cons, ih]; rfl
theorem strings_Join_of {f : FuncId} (hf : Try.laysJoin_ren.f 156 = f) {xs : List ByteArray} {sep r : ByteArray} (hF : strings_Join xs sep = some r) : PC Try.prog f [.list 1 (xs.map AV.str), .str sep] fun v => v = .str r := by
  unfold strings_Join at hF
  split at hF
  case isFalse => cases hF
  rename_i hlen
  cases hF
  subst hf
  intro ι w vs him hv
  obtain ⟨h1, h2⟩ := hv
  have v0 : V ι (.list 1 (xs.map AV.str)) (vs.getD 0 Go.undef) := h2 0 (by simp)
  have v1 : V ι (.str sep) (vs.getD 1 Go.undef) := h2 1 (by simp)
  have v1 := V.str_inv v1
  have hvs : vs = #[vs.getD 0 Go.undef, vs.getD 1 Go.undef] := by
    have h1 : vs.size = 2 := h1
    apply Array.ext
    · simpa using h1
    · intro i hi hj
      have : i = 0 ∨ i = 1 := by omega
      rcases this with rfl | rfl <;> simp [Array.getD, hi]
  rw [hvs, v1]
  generalize vs.getD 0 Go.undef = a at v0
  have done : ∀ {w' : World}, Below w.heap.size w w' → ∃ v r' κ, (Ending.returned (.string ⟨(joinL xs sep).toArray⟩) : Ending) = .returned r' ∧ v = AV.str ⟨(joinL xs sep).toArray⟩ ∧ V κ v r' ∧ ι.le κ ∧ (∀ b o v, κ b o = some v → w'.cell? ⟨b, o, none⟩ = some v) ∧ Below w.heap.size w w' ∧ (∀ b o, b < w.heap.size → κ b o = ι b o) := fun hb =>
    ⟨_, _, ι, rfl, rfl, .str _, Imm.le_refl _, pc_of_below him hb, hb, fun _ _ _ => rfl⟩
  by_cases hx : xs = []
  · subst hx
    have hn : ∃ p c, a = .slice p 0 c := by
      cases v0 with
      | listNil s p c => exact ⟨p, c, rfl⟩
      | list vs hs hc h1 h2 => exact ⟨_, _, rfl⟩
    obtain ⟨p, c, rfl⟩ := hn
    refine (Any.strings_Join_none Try.laysJoin Try.joinX p c sep w).mono ?_
    rintro e w' ⟨rfl, rfl⟩
    exact done (Below.refl _ _)
  · have hn : ∃ b o c, a = .slice (some ⟨b, o, none⟩) xs.length c ∧ xs.length ≤ c ∧ ∀ j x, xs[j]? = some x → w.cell? ⟨b, o + j, none⟩ = some (.string x) := by
      generalize hy : xs.map AV.str = ys at v0
      cases v0 with
      | listNil s p c => exact absurd (List.map_eq_nil_iff.mp hy) hx
      | @list _ _ b o cap us hs hc h1 h2 =>
        subst hy
        rw [List.length_map] at hc
        refine ⟨b, o, cap, by rw [List.length_map], hc, fun j x hj => ?_⟩
        have hl : j < (flat (xs.map AV.str)).length := by
          rw [flat_str, List.length_map]
          exact (List.getElem?_eq_some_iff.mp hj).1
        have g1 := him _ _ _ (h1 j hl)
        have g2 := h2 j hl
        have e : (flat (xs.map AV.str))[j] = AV.str x := by
          have : (flat (xs.map AV.str))[j]? = some (AV.str x) := by rw [flat_str, List.getElem?_map, hj]; rfl
          exact (List.getElem?_eq_some_iff.mp this).2
        rw [e] at g2
        rw [g1, V.str_inv g2]
    obtain ⟨b, o, c, rfl, hc, hcells⟩ := hn
    have hb : b < w.heap.size := by
      cases xs with
      | nil => exact absurd rfl hx
      | cons x r => exact blt (hcells 0 x rfl)
    refine (Any.strings_Join Try.laysJoin Try.joinX b o c xs sep w hcells hb hlen.2 hc hlen.1).mono ?_
    rintro e w' ⟨rfl, hbl⟩
    exact done hbl
end Go.Proofs.Ytmmgpcnngaekoaa
