/- What a formula says of a word from a number on: the program and the reference say the same. -/
import Derived.Test.YtjjlkncefgfljaaDLtlAt
import Derived.Test.YtjjlkncefgfljaaDLtlTakes
import Derived.Test.YtjjlkncefgfljaaWf
import Derived.Test.YtjjlkncefgfljaaPLtlRows
import Derived.Test.YtjjlkncefgfljaaPNode
import Derived.Test.YtjjlkncefgfljaaPTemp
namespace Go.Proofs.Ytjjlkncefgfljaa
open Go Go.RowKit E
set_option linter.unusedVariables false

/-- The place of a number. -/
def plcN (w : TWord) (i : Nat) : Nat := if i < w.stem.length then i else w.stem.length + (i - w.stem.length) % w.loop.length
theorem plcN_lt {w : TWord} (h : WOk w) (i : Nat) : plcN w i < plN w := by
  have := h.one
  unfold plcN plN
  split
  · omega
  · have := Nat.mod_lt (i - w.stem.length) (show 0 < w.loop.length by omega)
    omega
theorem placeOf_eq {w : TWord} (h : WOk w) {i : Int} (h0 : 0 ≤ i) (h1 : i ≤ 9223372036854775807) : impl_Word_placeOf w i = some (plcN w i.toNat : Int) := by
  have h2 := h.stem; have h3 := h.loop; have h4 := h.one
  unfold impl_Word_placeOf plcN
  by_cases c : i < (w.stem.length : Int)
  · rw [if_pos c, if_pos (by omega), Int.toNat_of_nonneg h0]
  · have hm := Nat.mod_lt (i.toNat - w.stem.length) (show 0 < w.loop.length by omega)
    rw [if_neg c, decide_eq_true (by omega), chk_t, Option.bind_some, if_neg (by omega)]
    rw [show W (i - (w.stem.length : Int)) = ((i.toNat - w.stem.length : Nat) : Int) by rw [W, W_eq (by omega) (by omega)]; omega, ← Int.ofNat_tmod, W, W_eq (by omega) (by omega)]
    rfl
noncomputable def ltAt (e : List TNode) (w : TWord) (i : Int) : Bool := if treeOk ltP e = true ∧ wordOk w 8 = true ∧ 0 ≤ i then ((tabN w e).getD (e.length - 1) default).getD (plcN w i.toNat) default else false
theorem specAt_eq (e : List TNode) (w : TWord) (i : Int) (wi : inI i) : spec_LtlAt e w i = some (ltAt e w i) := by
  unfold inI at wi
  unfold spec_LtlAt ltAt
  rw [specTable_eq, Option.bind_some, bnd_eq]
  unfold ltTable
  by_cases g : treeOk ltP e = true ∧ wordOk w 8 = true
  · rw [if_pos g]
    have he := treeOk_nodes g.1
    have hw := (wordOk_t g.2).1
    have hT := tabN_len w e
    have h1 := he.1; have h2 := he.2.1
    have h3 := hw.stem; have h4 := hw.loop; have h5 := hw.one
    rw [decide_eq_false (by omega), Bool.false_or]
    by_cases c : i < 0
    · rw [if_pos (by simpa using c), if_neg (fun q => by omega)]
    · rw [if_neg (by simpa using c)]
      conv => rhs; rw [if_pos (show treeOk ltP e = true ∧ wordOk w 8 = true ∧ 0 ≤ i from ⟨g.1, g.2, by omega⟩)]
      have hR : RowsOk (tabN w e) (plN w) := by have := tabN_rows w e e.length (Nat.le_refl _); rw [List.take_length] at this; exact this
      have hp := plcN_lt hw i.toNat
      have fin : spec_LtlAt.k0 (tabN w e) (plcN w i.toNat : Int) = some (((tabN w e).getD (e.length - 1) default).getD (plcN w i.toNat) default) := by
        unfold spec_LtlAt.k0
        rw [hT, W, W_eq (by omega) (by omega), show (e.length : Int) - 1 = ((e.length - 1 : Nat) : Int) by omega, ix_nat (by omega), Option.bind_some, ix_nat (by rw [hR _ (by omega)]; exact hp)]; rfl
      by_cases c2 : i < (w.stem.length : Int)
      · rw [if_neg (by omega)]
        have : plcN w i.toNat = i.toNat := by unfold plcN; rw [if_pos (by omega)]
        rw [this] at fin ⊢
        rw [Int.toNat_of_nonneg (by omega)] at fin
        exact fin
      · rw [if_pos (by omega), decide_eq_true (by omega), chk_t, Option.bind_some]
        have hm := Nat.mod_lt (i.toNat - w.stem.length) (show 0 < w.loop.length by omega)
        rw [show W (i - (w.stem.length : Int)) = ((i.toNat - w.stem.length : Nat) : Int) by rw [W, W_eq (by omega) (by omega)]; omega, ← Int.ofNat_tmod, W, W_eq (by omega) (by omega)]
        have : (plcN w i.toNat : Int) = (w.stem.length : Int) + ((i.toNat - w.stem.length) % w.loop.length : Nat) := by unfold plcN; rw [if_neg (by omega)]; rfl
        rw [← this]; exact fin
  · rw [if_neg g, if_pos (by simp), if_neg (fun q => g ⟨q.1, q.2.1⟩)]
theorem implAt_eq (e : List TNode) (w : TWord) (i : Int) (wi : inI i) : impl_LtlAt e w i = some (ltAt e w i) := by
  unfold inI at wi
  unfold impl_LtlAt ltAt
  rw [bnd_eq]
  by_cases c : i < 0
  · rw [decide_eq_true c, Bool.not_true, whenO_f, Option.bind_some, bnd_eq, Bool.true_or, Bool.not_true, whenO_f, Option.bind_some, Bool.true_or, if_pos rfl, if_neg (fun q => by omega)]
  · rw [decide_eq_false c, Bool.not_false, whenO_t, implLtlOk_eq, Option.bind_some, bnd_eq, Bool.false_or]
    by_cases h : treeOk ltP e = true
    · rw [h, Bool.not_true, Bool.not_false, whenO_t, isRight_eq, Option.bind_some, Bool.false_or]
      by_cases g : wordOk w 8 = true
      · rw [if_neg (by simp [g]), if_pos ⟨rfl, g, by omega⟩]
        have he := treeOk_nodes h
        have hw := (wordOk_t g).1
        have hT := tabN_len w e
        have h1 := he.1; have h2 := he.2.1
        have hR : RowsOk (tabN w e) (plN w) := by have := tabN_rows w e e.length (Nat.le_refl _); rw [List.take_length] at this; exact this
        have hp := plcN_lt hw i.toNat
        rw [tableOf_eq he hw, Option.bind_some, W, W_eq (by omega) (by omega), show (e.length : Int) - 1 = ((e.length - 1 : Nat) : Int) by omega, ix_nat (by omega), Option.bind_some, placeOf_eq hw (by omega) wi.2, Option.bind_some, ix_nat (by rw [hR _ (by omega)]; exact hp)]; rfl
      · rw [if_pos (by simpa using g), if_neg (fun q => g q.2.1)]
    · rw [Bool.not_eq_true] at h
      rw [h, Bool.not_false, Bool.not_true, whenO_f, Option.bind_some, Bool.true_or, if_pos rfl, if_neg (by simp)]
theorem pureLtlAt (e : List TNode) (we : e.length ≤ 9223372036854775807 ∧ ∀ q ∈ e, TNode.wf q) (w : TWord) (ww : TWord.wf w) (i : Int) (wi : inI i) : laws_FnExactLtlAt e w i = some true := by
  obtain ⟨⟨w1, _⟩, w2, _⟩ := ww
  unfold laws_FnExactLtlAt
  rw [szNodeS_eq e _ we.1 (by omega)]
  by_cases hl : e.length ≤ 1048576
  · have hs : (if (e.length : Int) ≤ 1048576 then (1048576 : Int) - e.length else -1) = 1048576 - e.length := if_pos (by omega)
    rw [hs, if_neg (by omega), szWord_eq w _ w1 w2 (by omega)]
    by_cases hw : (w.stem.length : Int) + w.loop.length ≤ 1048576 - e.length
    · rw [if_neg (by rw [if_pos hw]; omega)]
      have l1 : w.stem.length ≤ 1048576 := by omega
      have l2 : w.loop.length ≤ 1048576 := by omega
      simp only [toNodeS_eq e hl, toWord_eq w l1 l2, Option.bind_some, specAt_eq e w i wi, implAt_eq e w i wi, eqNodeS_eq e e hl, eqWord_eq w l1 l2]
      simp
    · rw [if_pos (by rw [if_neg hw]; omega)]
  · rw [if_pos (by rw [if_neg (by omega)]; omega)]
theorem pureLtlTakes (e : List TNode) (we : e.length ≤ 9223372036854775807 ∧ ∀ q ∈ e, TNode.wf q) (w : TWord) (ww : TWord.wf w) : laws_FnExactLtlTakes e w = some true := by
  obtain ⟨⟨w1, _⟩, w2, _⟩ := ww
  have wi : inI 0 := by unfold inI; omega
  unfold laws_FnExactLtlTakes spec_LtlTakes impl_LtlTakes
  rw [szNodeS_eq e _ we.1 (by omega)]
  by_cases hl : e.length ≤ 1048576
  · have hs : (if (e.length : Int) ≤ 1048576 then (1048576 : Int) - e.length else -1) = 1048576 - e.length := if_pos (by omega)
    rw [hs, if_neg (by omega), szWord_eq w _ w1 w2 (by omega)]
    by_cases hw : (w.stem.length : Int) + w.loop.length ≤ 1048576 - e.length
    · rw [if_neg (by rw [if_pos hw]; omega)]
      have l1 : w.stem.length ≤ 1048576 := by omega
      have l2 : w.loop.length ≤ 1048576 := by omega
      simp only [toNodeS_eq e hl, toWord_eq w l1 l2, Option.bind_some, specAt_eq e w 0 wi, implAt_eq e w 0 wi, eqNodeS_eq e e hl, eqWord_eq w l1 l2]
      simp
    · rw [if_pos (by rw [if_neg hw]; omega)]
  · rw [if_pos (by rw [if_neg (by omega)]; omega)]
end Go.Proofs.Ytjjlkncefgfljaa
