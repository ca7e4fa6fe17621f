/- FnExactGenTakes: for all arguments the law answers true, and leaves what it is given as it was. -/
import Derived.Test.YthdclobnmicdaaaRows
import Derived.Test.YthdclobnmicdaaaKGenTakes
import Derived.Test.YthdclobnmicdaaaAr
import Derived.Test.YthdclobnmicdaaaMGenTakes
import Derived.SizedLaws
namespace Go.Proofs.Ythdclobnmicdaaa.fnExactGenTakes
open Go Go.ChangeShapes Go.WideShapes Go.ChangeAt Go.RowKit E
set_option linter.unusedVariables false
theorem own : ownKnob Try.prog.godebug = none := by kernel_rfl
theorem laidOut : laidOutB Try.prog = true := by kernel_rfl
theorem tiled : tiledAll Try.prog = true := by kernel_rfl
set_option maxRecDepth 100000 in
theorem lifted (os : Os) (started : os.Started) (H : Type) (enc : TypeId × Value → H) :
    ReturnsInHanded {} Try.checked os 9 .any (Rows.fnExactGenTakesSpec.pre6 enc Try.prog Try.f9 Rows.fnExactGenTakesRow.domain false) (Rows.fnExactGenTakesSpec.post enc Try.prog Try.f9 false true false false) := by
  refine returnsInHanded_of_change_sized (C := Try.checked) own started (by kernel_rfl) Try.func9
    (ChangeSpec.witness6 (enc := enc) (C := Try.checked) false ⟨#[], #[(.agg #[(.int .i64 0), (.int .i64 0), (.int .i64 0), (.int .i64 0), (.slice none 0 0)]), (.agg #[(.slice none 0 0), (.slice none 0 0)])], []⟩ 8 (by kernel_rfl) (by kernel_rfl) (by kernel_rfl) (by kernel_rfl)) ?_
  intro W base args ds gs before hval0 hW hcnd hsz0 _
  have hval : ∀ (j : Nat) t v, Try.f9.params[j]? = some t → args[j]? = some v → Value.okWide Try.prog W .any base t v := hval0
  have hW' := hW
  obtain ⟨p, q, hA0, hV, rfl, hfz, hnd⟩ := hW
  have hA : DataW.TrodAll enc Try.prog W 0 (fun _ => true) true Try.f9.params.toList args.toList ds p := hA0
  rw [Try.params9] at hA hval
  obtain ⟨v0, vs0, d0, ds0, p0, q0, hargs, rfl, rfl, h0, r0⟩ := trodAll_cons hA
  obtain ⟨v1, vs1, d1, ds1, p1, q1, rfl, rfl, rfl, h1, r1⟩ := trodAll_cons r0
  obtain ⟨rfl, rfl, rfl⟩ := trodAll_nil r1
  obtain rfl : args = #[v0, v1] := by cases args; simp_all
  obtain ⟨rfl, rfl⟩ := trodVars_none hV
  obtain ⟨a0, k0, o0⟩ := arg_V tiled (by kernel_rfl) h0 (hval 0 52 v0 rfl rfl)
  obtain ⟨a1, k1, o1⟩ := arg_V tiled (by kernel_rfl) h1 (hval 1 54 v1 rfl rfl)
  obtain ⟨p0, rfl, w0⟩ := of_52 o0
  obtain ⟨p1, rfl, w1⟩ := of_54 o1
  refine (walk_of_pc ((laws_FnExactGenTakes_ok (pureGenTakes p0 w0 p1 w1))) (Vs2 k0 k1)).mono fun e W' ⟨he, bel⟩ => ?_
  subst he
  exact ⟨_, rfl, _, _, _, [], _, [], hW', trodAll_mk1 (shut_bool Try.underlying4 _), (trodAll_cons_mk (stays laidOut (by kernel_rfl) h0 bel) (trodAll_cons_mk (stays laidOut (by kernel_rfl) h1 bel) trodAll_mk0)), rfl, bel.frame _, fun h => by cases h⟩
theorem over : Rows.fnExactGenTakesRow.holds Try.pinned (OpenSpec.ofChange Rows.fnExactGenTakesSpec) :=
  OpenClaim.holds_of_wide 9 Try.f9 rfl rfl rfl rfl rfl rfl rfl ⟨rfl, rfl, rfl, rfl, rfl⟩ rfl rfl rfl rfl rfl (by kernel_rfl) Try.func9 (by kernel_rfl)
    (of_decide_eq_true (by kernel_rfl)) (by unfold Func.isWrapper; first | (rw [if_pos (by decide +kernel)]; kernel_rfl) | (rw [if_neg (by decide +kernel)]; exact ⟨rfl, rfl⟩))
    (fun os started H enc _ => lifted os started H enc)
theorem proved : Rows.FnExactGenTakesSaid := over
end Go.Proofs.Ythdclobnmicdaaa.fnExactGenTakes
namespace Go.Proofs.Ythdclobnmicdaaa
theorem fnExactGenTakes_holds : Rows.FnExactGenTakesSaid := fnExactGenTakes.proved
#print axioms fnExactGenTakes_holds
end Go.Proofs.Ythdclobnmicdaaa
