/- FnExactRankNext: for all arguments the law answers true, and leaves what it is given as it was. -/
import Derived.Test.YtllpbgcajgbfbaaRows
import Derived.Test.YtllpbgcajgbfbaaKRankNext
import Derived.Test.YtllpbgcajgbfbaaAr
import Derived.Test.YtllpbgcajgbfbaaH3
import Derived.SizedLaws
namespace Go.Proofs.Ytllpbgcajgbfbaa.fnExactRankNext
open Go Go.ChangeShapes Go.WideShapes Go.ChangeAt Go.RowKit E
set_option linter.unusedVariables false
theorem own : ownKnob Try.prog.godebug = none := by kernel_rfl
theorem laidOut : laidOutB Try.prog = true := by kernel_rfl
theorem tiled : tiledAll Try.prog = true := by kernel_rfl
set_option maxRecDepth 100000 in
theorem lifted (os : Os) (started : os.Started) (H : Type) (enc : TypeId × Value → H) :
    ReturnsInHanded {} Try.checked os 5 .any (Rows.fnExactRankNextSpec.pre6 enc Try.prog Try.f5 Rows.fnExactRankNextRow.domain false) (Rows.fnExactRankNextSpec.post enc Try.prog Try.f5 false true false false) := by
  refine returnsInHanded_of_change_sized (C := Try.checked) own started (by kernel_rfl) Try.func5
    (ChangeSpec.witness6 (enc := enc) (C := Try.checked) false ⟨#[], #[(.agg #[(.int .i64 0), (.int .i64 0), (.int .i64 0), (.slice none 0 0)]), (.agg #[(.slice none 0 0), (.int .i64 0)]), (.int .i64 0)], []⟩ 8 (by kernel_rfl) (by kernel_rfl) (by kernel_rfl) (by kernel_rfl)) ?_
  intro W base args ds gs before hval0 hW hcnd hsz0 _
  have hval : ∀ (j : Nat) t v, Try.f5.params[j]? = some t → args[j]? = some v → Value.okWide Try.prog W .any base t v := hval0
  have hW' := hW
  obtain ⟨p, q, hA0, hV, rfl, hfz, hnd⟩ := hW
  have hA : DataW.TrodAll enc Try.prog W 0 (fun _ => true) true Try.f5.params.toList args.toList ds p := hA0
  rw [Try.params5] at hA hval
  obtain ⟨v0, vs0, d0, ds0, p0, q0, hargs, rfl, rfl, h0, r0⟩ := trodAll_cons hA
  obtain ⟨v1, vs1, d1, ds1, p1, q1, rfl, rfl, rfl, h1, r1⟩ := trodAll_cons r0
  obtain ⟨v2, vs2, d2, ds2, p2, q2, rfl, rfl, rfl, h2, r2⟩ := trodAll_cons r1
  obtain ⟨rfl, rfl, rfl⟩ := trodAll_nil r2
  obtain rfl : args = #[v0, v1, v2] := by cases args; simp_all
  obtain ⟨rfl, rfl⟩ := trodVars_none hV
  obtain ⟨a0, k0, o0⟩ := arg_V tiled (by kernel_rfl) h0 (hval 0 24 v0 rfl rfl)
  obtain ⟨a1, k1, o1⟩ := arg_V tiled (by kernel_rfl) h1 (hval 1 50 v1 rfl rfl)
  obtain ⟨a2, k2, o2⟩ := arg_V tiled (by kernel_rfl) h2 (hval 2 3 v2 rfl rfl)
  obtain ⟨p0, rfl, w0⟩ := of_24 o0
  obtain ⟨p1, rfl, w1⟩ := of_50 o1
  obtain ⟨p2, rfl, w2⟩ := of_3 o2
  refine (walk_of_pc ((laws_FnExactRankNext_ok (pureRankNext p0 w0 p1 w1 p2 w2))) (Vs3 k0 k1 k2)).mono fun e W' ⟨he, bel⟩ => ?_
  subst he
  exact ⟨_, rfl, _, _, _, [], _, [], hW', trodAll_mk1 (shut_bool Try.underlying4 _), (trodAll_cons_mk (stays laidOut (by kernel_rfl) h0 bel) (trodAll_cons_mk (stays laidOut (by kernel_rfl) h1 bel) (trodAll_cons_mk (stays laidOut (by kernel_rfl) h2 bel) trodAll_mk0))), rfl, bel.frame _, fun h => by cases h⟩
theorem over : Rows.fnExactRankNextRow.holds Try.pinned (OpenSpec.ofChange Rows.fnExactRankNextSpec) :=
  OpenClaim.holds_of_wide 5 Try.f5 rfl rfl rfl rfl rfl rfl rfl ⟨rfl, rfl, rfl, rfl, rfl⟩ rfl rfl rfl rfl rfl (by kernel_rfl) Try.func5 (by kernel_rfl)
    (of_decide_eq_true (by kernel_rfl)) (by unfold Func.isWrapper; first | (rw [if_pos (by decide +kernel)]; kernel_rfl) | (rw [if_neg (by decide +kernel)]; exact ⟨rfl, rfl⟩))
    (fun os started H enc _ => lifted os started H enc)
theorem proved : Rows.FnExactRankNextSaid := over
end Go.Proofs.Ytllpbgcajgbfbaa.fnExactRankNext
namespace Go.Proofs.Ytllpbgcajgbfbaa
theorem fnExactRankNext_holds : Rows.FnExactRankNextSaid := fnExactRankNext.proved
#print axioms fnExactRankNext_holds
end Go.Proofs.Ytllpbgcajgbfbaa
