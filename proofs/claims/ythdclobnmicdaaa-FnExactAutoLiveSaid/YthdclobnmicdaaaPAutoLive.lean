/- Which states live, and whether none does: the program says what the reference says. -/
import Derived.Test.YthdclobnmicdaaaDAutoLive
import Derived.Test.YthdclobnmicdaaaDAutoEmpty
import Derived.Test.YthdclobnmicdaaaWf
import Derived.Test.YthdclobnmicdaaaPLive
namespace Go.Proofs.Ythdclobnmicdaaa
open Go Go.RowKit E
set_option linter.unusedVariables false

theorem specLive0 {a : TAuto} (h : ¬ autoOk a = true) : spec_AutoLive a = some 0 := by
  rw [Bool.not_eq_true] at h
  unfold spec_AutoLive
  rw [specAutoOk_eq, h, Option.bind_some, if_pos (by simp)]
theorem pureAutoLive (a : TAuto) (w : TAuto.wf a) : laws_FnExactAutoLive a = some true := by
  obtain ⟨_, _, _, wl, _⟩ := w
  unfold laws_FnExactAutoLive
  by_cases hs : laws_szAuto a 1048576 < 0
  · rw [if_pos hs]
  · rw [if_neg hs]
    have hl : a.edges.length ≤ 1048576 := Classical.byContradiction fun g => hs ((szAuto_eq a wl).mpr g)
    simp only [toAuto_eq a hl, Option.bind_some, eqAuto_eq a hl]
    unfold impl_AutoLive
    rw [implAutoOk_eq, Option.bind_some]
    by_cases h : autoOk a = true
    · rw [h, if_neg (by simp), implLive_eq h, specLive_eq h]; simp
    · rw [specLive0 h]
      rw [Bool.not_eq_true] at h
      rw [h, if_pos (by simp)]; simp
theorem pureAutoEmpty (a : TAuto) (w : TAuto.wf a) : laws_FnExactAutoEmpty a = some true := by
  obtain ⟨_, _, _, wl, _⟩ := w
  unfold laws_FnExactAutoEmpty
  by_cases hs : laws_szAuto a 1048576 < 0
  · rw [if_pos hs]
  · rw [if_neg hs]
    have hl : a.edges.length ≤ 1048576 := Classical.byContradiction fun g => hs ((szAuto_eq a wl).mpr g)
    simp only [toAuto_eq a hl, Option.bind_some, eqAuto_eq a hl]
    unfold impl_AutoEmpty spec_AutoEmpty
    rw [implAutoOk_eq, specAutoOk_eq, Option.bind_some, Option.bind_some]
    by_cases h : autoOk a = true
    · rw [h, whenO_t, whenO_t, implLive_eq h, specLive_eq h]; simp
    · rw [Bool.not_eq_true] at h
      rw [h, whenO_f, whenO_f]; simp
end Go.Proofs.Ythdclobnmicdaaa
