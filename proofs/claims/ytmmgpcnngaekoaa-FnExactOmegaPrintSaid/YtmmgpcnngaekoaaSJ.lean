/- strings.Join comes to its parts, the separator between each two, where that is short enough. -/
import Derived.Test.YtmmgpcnngaekoaaF6
import Derived.Test.YtmmgpcnngaekoaaSJ0
import Derived.Test.YtmmgpcnngaekoaaProg
import Derived.Shelf.Strings.OnBuilder
namespace Go.Proofs
open Go.Shelf Go.RowKit

def Try.laysJoin_ren : Go.Shelf.Ren := ⟨fun | 156 => 49 | 165 => 75 | 166 => 76 | 169 => 77 | 240 => 92 | 241 => 93 | 276 => 99 | 277 => 100 | n => n, fun | 31 => 71 | 9 => 9 | 3 => 3 | 4 => 4 | 0 => 0 | 20 => 20 | 72 => 95 | 76 => 99 | 70 => 93 | 37 => 22 | 75 => 98 | 127 => 112 | 164 => 117 | 5 => 5 | 80 => 101 | n => n, fun | n => n⟩
theorem Try.laysJoin : Go.Proofs.Lays.n156 Try.prog Try.laysJoin_ren := {
  mixed := by kernel_rfl,
  f156 := Try.func49.trans (congrArg some (by kernel_rfl)),
  f165 := Try.func75.trans (congrArg some (by kernel_rfl)),
  f166 := Try.func76.trans (congrArg some (by kernel_rfl)),
  f169 := Try.func77.trans (congrArg some (by kernel_rfl)),
  f240 := Try.func92.trans (congrArg some (by kernel_rfl)),
  f241 := Try.func93.trans (congrArg some (by kernel_rfl)),
  f276 := Try.func99.trans (congrArg some (by kernel_rfl)),
  f277 := Try.func100.trans (congrArg some (by kernel_rfl)),
  t0 := Try.underlying0,
  a0 := Try.isAgg0,
  z0 := Try.sizeOf0,
  v0 := Try.zeroValue0,
  t3 := Try.underlying3,
  a3 := Try.isAgg3,
  z3 := Try.sizeOf3,
  v3 := Try.zeroValue3,
  t4 := Try.underlying4,
  a4 := Try.isAgg4,
  z4 := Try.sizeOf4,
  v4 := Try.zeroValue4,
  t9 := Try.underlying9,
  a9 := Try.isAgg9,
  z9 := Try.sizeOf9,
  v9 := Try.zeroValue9,
  t20 := Try.underlying20,
  a20 := Try.isAgg20,
  z20 := Try.sizeOf20,
  v20 := Try.zeroValue20,
  t31 := Try.underlying71,
  a31 := Try.isAgg71,
  z31 := Try.sizeOf71,
  v31 := Try.zeroValue71,
  t37 := Try.underlying22,
  a37 := Try.isAgg22,
  z37 := Try.sizeOf22,
  v37 := Try.zeroValue22,
  t70 := Try.underlying93,
  a70 := Try.isAgg93,
  z70 := Try.sizeOf93,
  v70 := Try.zeroValue93,
  t72 := Try.underlying95,
  a72 := Try.isAgg95,
  z72 := Try.sizeOf95,
  v72 := Try.zeroValue95,
  t75 := Try.underlying98,
  a75 := Try.isAgg98,
  z75 := Try.sizeOf98,
  v75 := Try.zeroValue98,
  t76 := Try.underlying99,
  a76 := Try.isAgg99,
  z76 := Try.sizeOf99,
  v76 := Try.zeroValue99,
  t127 := Try.underlying112,
  a127 := Try.isAgg112,
  z127 := Try.sizeOf112,
  v127 := Try.zeroValue112,
  t164 := Try.underlying117,
  a164 := Try.isAgg117,
  z164 := Try.sizeOf117,
  v164 := Try.zeroValue117 }
theorem Try.joinX : Builder.Extra Try.prog Try.laysJoin_ren := {
  sizeBuilder := by kernel_rfl,
  liesBuilder := by kernel_rfl,
  t5 := by kernel_rfl,
  a5 := fun w => by kernel_rfl,
  z5 := fun w => by kernel_rfl,
  v5 := fun w => by kernel_rfl,
  infoByte := by kernel_rfl,
  cellsByte := by kernel_rfl,
  sizeByte := by kernel_rfl,
  neB5 := by decide }
end Go.Proofs
namespace Go.Proofs.Ytmmgpcnngaekoaa
open Go Go.Shelf Go.RowKit E

theorem pc_of_below {w w' : World} {ι : Imm} (him : ∀ b o v, ι b o = some v → w.cell? ⟨b, o, none⟩ = some v) (hb : Below w.heap.size w w') : ∀ b o v, ι b o = some v → w'.cell? ⟨b, o, none⟩ = some v := fun b o v h => by
  have h1 := him b o v h
  rw [hb.cell (p := ⟨b, o, none⟩) (blt h1)]; exact h1
theorem flat_str (xs : List ByteArray) : flat (xs.map AV.str) = xs.map AV.str := by
  unfold flat
  rw [List.flatMap_map]
  induction xs with
  | nil => rfl
  | cons x r ih => rw [List.flatMap_cons, ih]; rfl
theorem strings_Join_of {f : FuncId} (hf : Try.laysJoin_ren.f 156 = f) {xs : List ByteArray} {sep r : ByteArray} (hF : strings_Join xs sep = some r) : PC Try.prog f [.list 1 (xs.map AV.str), .str sep] fun v => v = .str r := by
  unfold strings_Join at hF
  split at hF
  case isFalse => cases hF
  rename_i hlen
  cases hF
  subst hf
  intro ι w vs him hv
  obtain ⟨h1, h2⟩ := hv
  have v0 : V ι (.list 1 (xs.map AV.str)) (vs.getD 0 Go.undef) := h2 0 (by simp)
  have v1 : V ι (.str sep) (vs.getD 1 Go.undef) := h2 1 (by simp)
  have v1 := V.str_inv v1
  have hvs : vs = #[vs.getD 0 Go.undef, vs.getD 1 Go.undef] := by
    have h1 : vs.size = 2 := h1
    apply Array.ext
    · simpa using h1
    · intro i hi hj
      have : i = 0 ∨ i = 1 := by omega
      rcases this with rfl | rfl <;> simp [Array.getD, hi]
  rw [hvs, v1]
  generalize vs.getD 0 Go.undef = a at v0
  have done : ∀ {w' : World}, Below w.heap.size w w' → ∃ v r' κ, (Ending.returned (.string ⟨(joinL xs sep).toArray⟩) : Ending) = .returned r' ∧ v = AV.str ⟨(joinL xs sep).toArray⟩ ∧ V κ v r' ∧ ι.le κ ∧ (∀ b o v, κ b o = some v → w'.cell? ⟨b, o, none⟩ = some v) ∧ Below w.heap.size w w' ∧ (∀ b o, b < w.heap.size → κ b o = ι b o) := fun hb =>
    ⟨_, _, ι, rfl, rfl, .str _, Imm.le_refl _, pc_of_below him hb, hb, fun _ _ _ => rfl⟩
  by_cases hx : xs = []
  · subst hx
    have hn : ∃ p c, a = .slice p 0 c := by
      cases v0 with
      | listNil s p c => exact ⟨p, c, rfl⟩
      | list vs hs hc h1 h2 => exact ⟨_, _, rfl⟩
    obtain ⟨p, c, rfl⟩ := hn
    refine (Any.strings_Join_none Try.laysJoin Try.joinX p c sep w).mono ?_
    rintro e w' ⟨rfl, rfl⟩
    exact done (Below.refl _ _)
  · have hn : ∃ b o c, a = .slice (some ⟨b, o, none⟩) xs.length c ∧ xs.length ≤ c ∧ ∀ j x, xs[j]? = some x → w.cell? ⟨b, o + j, none⟩ = some (.string x) := by
      generalize hy : xs.map AV.str = ys at v0
      cases v0 with
      | listNil s p c => exact absurd (List.map_eq_nil_iff.mp hy) hx
      | @list _ _ b o cap us hs hc h1 h2 =>
        subst hy
        rw [List.length_map] at hc
        refine ⟨b, o, cap, by rw [List.length_map], hc, fun j x hj => ?_⟩
        have hl : j < (flat (xs.map AV.str)).length := by
          rw [flat_str, List.length_map]
          exact (List.getElem?_eq_some_iff.mp hj).1
        have g1 := him _ _ _ (h1 j hl)
        have g2 := h2 j hl
        have e : (flat (xs.map AV.str))[j] = AV.str x := by
          have : (flat (xs.map AV.str))[j]? = some (AV.str x) := by rw [flat_str, List.getElem?_map, hj]; rfl
          exact (List.getElem?_eq_some_iff.mp this).2
        rw [e] at g2
        rw [g1, V.str_inv g2]
    obtain ⟨b, o, c, rfl, hc, hcells⟩ := hn
    have hb : b < w.heap.size := by
      cases xs with
      | nil => exact absurd rfl hx
      | cons x r => exact blt (hcells 0 x rfl)
    refine (Any.strings_Join Try.laysJoin Try.joinX b o c xs sep w hcells hb hlen.2 hc hlen.1).mono ?_
    rintro e w' ⟨rfl, hbl⟩
    exact done hbl
end Go.Proofs.Ytmmgpcnngaekoaa
