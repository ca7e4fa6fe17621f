/- Each of these functions of the program comes to just what its plain function says: FnExprText. -/
import Derived.Test.YtmmgpcnngaekoaaDExprText
import Derived.Test.YtmmgpcnngaekoaaFa
import Derived.Test.YtmmgpcnngaekoaaKReParts
import Derived.Test.YtmmgpcnngaekoaaKOmegaPrint
import Derived.Test.YtmmgpcnngaekoaaKReText
namespace Go.Proofs.Ytmmgpcnngaekoaa
open Go Go.RowKit E
set_option linter.unusedVariables false
set_option maxRecDepth 10000 in
theorem spec_l2DrawTree.body_ok {p0 : Tl1Cur} {p1 : Int} {p2 : (List TNode)} {r : ((List TNode) × Tl1Cur)} {bp0 : Nat} {vp2 : AV} {rec_spec_l2DrawTree : Tl1Cur → Int → (List TNode) → Option ((List TNode) × Tl1Cur)} (ih_spec_l2DrawTree : ∀ {p0 : Tl1Cur} {p1 : Int} {p2 : (List TNode)} {r : ((List TNode) × Tl1Cur)} {bp0 : Nat} {vp2 : AV} , rec_spec_l2DrawTree p0 p1 p2 = some r → HS Try.prog 88 [(.ptr bp0 0), (.int .i64 p1), vp2] [.cell bp0 [(.list 1 (List.map (AV.int .u8) p0.b)), (.int .i64 p0.i), (.int .i64 p0.h)], .row 3 vp2 (List.map TNode.av p2)] fun v L' => ∃ o0 : AV, v = o0 ∧ L' = [.row 3 o0 (List.map TNode.av r.1), .cell bp0 [(.list 1 (List.map (AV.int .u8) r.2.b)), (.int .i64 r.2.i), (.int .i64 r.2.h)]]) (hF : spec_l2DrawTree.body rec_spec_l2DrawTree p0 p1 p2 = some r) : HS Try.prog 88 [(.ptr bp0 0), (.int .i64 p1), vp2] [.cell bp0 [(.list 1 (List.map (AV.int .u8) p0.b)), (.int .i64 p0.i), (.int .i64 p0.h)], .row 3 vp2 (List.map TNode.av p2)] fun v L' => ∃ o0 : AV, v = o0 ∧ L' = [.row 3 o0 (List.map TNode.av r.1), .cell bp0 [(.list 1 (List.map (AV.int .u8) r.2.b)), (.int .i64 r.2.i), (.int .i64 r.2.h)]] := by
  intro H S hS
  refine HC.enter Try.func88 rfl Try.ntmps88 (by simp) ?_
  simp only [List.cons_append, List.nil_append] at hS
  unfold spec_l2DrawTree.body at hF
  refine AWP.seqR rfl ?_
  have hS := hNil (s := 3) (f := TNode.av) hS
  refine ASL.q (v := .nil) rfl rfl (Light.quiet (opAssign rfl rfl)) ?_
  refine ASL.done ?_
  refine AWP.seqR rfl ?_
  refine ASL.q (v := (.ptr bp0 0)) rfl rfl (Light.quiet (opMove rfl rfl)) ?_
  obtain ⟨a10, ha10, hF⟩ := bindE hF
  refine ASL.x rfl rfl (hCallS hS [1, 0, 2, 3] (F := [.row 3 .nil (List.map TNode.av ([])), .row 3 vp2 (List.map TNode.av p2), .snap S]) rfl rfl rfl call_34 (spec_l1Below_ok ha10) rfl rfl ?_); rintro _ _ G4 ⟨rfl, rfl⟩ hS
  refine ASL.q (v := (.int .i64 a10.1)) rfl rfl (Light.quiet (opAssign rfl rfl)) ?_
  refine ASL.done ?_
  refine AWP.seqM (fun e H => ∃ y5 : (List Int), ∃ y6 : Int, ∃ y7 : Int, ∃ x7_1 : Int, E.Told e [(0, (.ptr bp0 0)), (1, (.int .i64 p1)), (2, vp2), (7, (.int .i64 x7_1))] ∧ E.Sep H [.cell bp0 [(.list 1 (List.map (AV.int .u8) y5)), (.int .i64 y6), (.int .i64 y7)], .row 3 vp2 (List.map TNode.av p2), .snap S] ∧ spec_l2DrawTree.k0 p2 rec_spec_l2DrawTree p1 y5 y6 y7 x7_1 = some r) ?_ ?_
  · rintro e0 G33 ⟨y5, y6, y7, x7_1, hT, hS, hF⟩; refine AWP.only _ hT ?_; unfold spec_l2DrawTree.k0 at hF
    refine AWP.seq ?_
    refine AWP.block ?_
    refine AWP.seqR rfl ?_
    refine ASL.q (v := (.int .i64 x7_1)) rfl rfl (Light.quiet (opMove rfl rfl)) ?_
    refine ASL.q (v := (.bool (decide (x7_1 < 2)))) rfl rfl (Light.quiet (opInt rfl rfl rfl rfl)) ?_
    refine ASL.q (v := (.bool (decide (x7_1 < 2)))) rfl rfl (Light.quiet (opAssign rfl rfl)) ?_
    refine ASL.done ?_
    refine AWP.ifP hF rfl (fun hc8 hF => ?_) (fun hc8 hF => ?_)
    · skip
      refine AWP.seqR rfl ?_
      refine ASL.q (v := vp2) rfl rfl (Light.quiet (opMove rfl rfl)) ?_
      refine ASL.q (v := (.ptr bp0 0)) rfl rfl (Light.quiet (opMove rfl rfl)) ?_
      obtain ⟨a20, ha20, hF⟩ := bindE hF
      refine ASL.x rfl rfl (hCallS hS [0, 1, 2] (F := [.row 3 vp2 (List.map TNode.av p2), .snap S]) rfl rfl rfl call_34 (spec_l1Below_ok ha20) rfl rfl ?_); rintro _ _ G9 ⟨rfl, rfl⟩ hS
      refine ASL.q (v := (.agg [(.int .i64 3), (.int .i64 a20.1), (.int .i64 0)])) rfl rfl (Light.quiet (opBuildZ (zs := [(.int .i64 0), (.int .i64 0), (.int .i64 0)]) rfl plan_31 zeroA_31 ⟨.inl rfl, .inl rfl, .inl rfl, trivial⟩ rfl)) ?_
      refine ASL.q (v := (.list 3 (List.map TNode.av [(TNode.mk 3 a20.1 0)]))) rfl rfl ((qLit (xs := [(.agg [(.int .i64 3), (.int .i64 a20.1), (.int .i64 0)])]) rfl elemA_24 sizeA_31 zeroA_31 rfl rfl rfl rfl (by simp [cells, TNode.av]) (nlt rfl))) ?_
      obtain ⟨z23, hz23, hF⟩ := bindE hF
      refine ASL.x rfl rfl (hApp (f := TNode.av) (ws := [(TNode.mk 3 a20.1 0)]) hS (j := 1) rfl hz23 rfl elemA_24 rfl sizeA_31 bytesA_31 zeroA_31 rfl rfl rfl (fun _ => rfl) ?_); rintro v23 G10 hS
      refine ASL.q (v := v23) rfl rfl (Light.quiet (opAssign rfl rfl)) ?_
      refine ASL.done ?_
      refine AWP.ret ?_
      refine QBlock.ret ?_
      refine QThen.rt ?_
      obtain rfl := someE hF
      exact QRet.sole (v := v23) ⟨rfl, trivial⟩ ⟨_, ⟨v23, rfl, rfl⟩, hS.pick [1, 0, 2] rfl rfl⟩
    · skip
      refine AWP.seqR rfl ?_
      refine ASL.q (v := (.int .i64 x7_1)) rfl rfl (Light.quiet (opMove rfl rfl)) ?_
      refine ASL.q (v := (.bool (decide (x7_1 = 2)))) rfl rfl (Light.quiet (opInt rfl rfl rfl rfl)) ?_
      refine ASL.q (v := (.bool (decide (x7_1 = 2)))) rfl rfl (Light.quiet (opAssign rfl rfl)) ?_
      refine ASL.done ?_
      refine AWP.ifP hF rfl (fun hc12 hF => ?_) (fun hc12 hF => ?_)
      · skip
        refine AWP.seqR rfl ?_
        refine ASL.q (v := vp2) rfl rfl (Light.quiet (opMove rfl rfl)) ?_
        refine ASL.q (v := (.agg [(.int .i64 1), (.int .i64 0), (.int .i64 0)])) rfl rfl (Light.quiet (opBuildZ (zs := [(.int .i64 0), (.int .i64 0), (.int .i64 0)]) rfl plan_31 zeroA_31 ⟨.inl rfl, .inl rfl, .inl rfl, trivial⟩ rfl)) ?_
        refine ASL.q (v := (.list 3 (List.map TNode.av [(TNode.mk 1 0 0)]))) rfl rfl ((qLit (xs := [(.agg [(.int .i64 1), (.int .i64 0), (.int .i64 0)])]) rfl elemA_24 sizeA_31 zeroA_31 rfl rfl rfl rfl (by simp [cells, TNode.av]) (nlt rfl))) ?_
        obtain ⟨z30, hz30, hF⟩ := bindE hF
        refine ASL.x rfl rfl (hApp (f := TNode.av) (ws := [(TNode.mk 1 0 0)]) hS (j := 1) rfl hz30 rfl elemA_24 rfl sizeA_31 bytesA_31 zeroA_31 rfl rfl rfl (fun _ => rfl) ?_); rintro v30 G13 hS
        refine ASL.q (v := v30) rfl rfl (Light.quiet (opAssign rfl rfl)) ?_
        refine ASL.done ?_
        refine AWP.ret ?_
        refine QBlock.ret ?_
        refine QThen.rt ?_
        obtain rfl := someE hF
        exact QRet.sole (v := v30) ⟨rfl, trivial⟩ ⟨_, ⟨v30, rfl, rfl⟩, hS.pick [1, 0, 2] rfl rfl⟩
      · skip
        refine AWP.seqR rfl ?_
        refine ASL.q (v := (.int .i64 x7_1)) rfl rfl (Light.quiet (opMove rfl rfl)) ?_
        refine ASL.q (v := (.bool (decide (x7_1 = 3)))) rfl rfl (Light.quiet (opInt rfl rfl rfl rfl)) ?_
        refine ASL.q (v := (.bool (decide (x7_1 = 3)))) rfl rfl (Light.quiet (opAssign rfl rfl)) ?_
        refine ASL.done ?_
        refine AWP.ifP hF rfl (fun hc15 hF => ?_) (fun hc15 hF => ?_)
        · skip
          refine AWP.seqR rfl ?_
          refine ASL.q (v := vp2) rfl rfl (Light.quiet (opMove rfl rfl)) ?_
          refine ASL.q (v := (.agg [(.int .i64 2), (.int .i64 0), (.int .i64 0)])) rfl rfl (Light.quiet (opBuildZ (zs := [(.int .i64 0), (.int .i64 0), (.int .i64 0)]) rfl plan_31 zeroA_31 ⟨.inl rfl, .inl rfl, .inl rfl, trivial⟩ rfl)) ?_
          refine ASL.q (v := (.list 3 (List.map TNode.av [(TNode.mk 2 0 0)]))) rfl rfl ((qLit (xs := [(.agg [(.int .i64 2), (.int .i64 0), (.int .i64 0)])]) rfl elemA_24 sizeA_31 zeroA_31 rfl rfl rfl rfl (by simp [cells, TNode.av]) (nlt rfl))) ?_
          obtain ⟨z37, hz37, hF⟩ := bindE hF
          refine ASL.x rfl rfl (hApp (f := TNode.av) (ws := [(TNode.mk 2 0 0)]) hS (j := 1) rfl hz37 rfl elemA_24 rfl sizeA_31 bytesA_31 zeroA_31 rfl rfl rfl (fun _ => rfl) ?_); rintro v37 G16 hS
          refine ASL.q (v := v37) rfl rfl (Light.quiet (opAssign rfl rfl)) ?_
          refine ASL.done ?_
          refine AWP.ret ?_
          refine QBlock.ret ?_
          refine QThen.rt ?_
          obtain rfl := someE hF
          exact QRet.sole (v := v37) ⟨rfl, trivial⟩ ⟨_, ⟨v37, rfl, rfl⟩, hS.pick [1, 0, 2] rfl rfl⟩
        · skip
          refine AWP.seqR rfl ?_
          refine ASL.q (v := (.int .i64 x7_1)) rfl rfl (Light.quiet (opMove rfl rfl)) ?_
          refine ASL.q (v := (.bool (decide (x7_1 < 6)))) rfl rfl (Light.quiet (opInt rfl rfl rfl rfl)) ?_
          refine ASL.q (v := (.bool (decide (x7_1 < 6)))) rfl rfl (Light.quiet (opAssign rfl rfl)) ?_
          refine ASL.done ?_
          refine AWP.ifP hF rfl (fun hc18 hF => ?_) (fun hc18 hF => ?_)
          · skip
            refine AWP.seqR rfl ?_
            refine ASL.q (v := (.ptr bp0 0)) rfl rfl (Light.quiet (opMove rfl rfl)) ?_
            refine ASL.q (v := (.int .i64 p1)) rfl rfl (Light.quiet (opMove rfl rfl)) ?_
            refine ASL.q (v := (.int .i64 (W (p1 - 1)))) rfl rfl (Light.quiet (opInt rfl rfl rfl rfl)) ?_
            refine ASL.q (v := vp2) rfl rfl (Light.quiet (opMove rfl rfl)) ?_
            obtain ⟨a45, ha45, hF⟩ := bindE hF
            refine ASL.x rfl rfl (hCallS hS [0, 1, 2] (F := [.snap S]) rfl rfl rfl call_88 (ih_spec_l2DrawTree ha45) rfl rfl ?_); rintro w19 _ G21 ⟨_, rfl, rfl⟩ hS
            refine ASL.q (v := w19) rfl rfl (Light.quiet (opAssign rfl rfl)) ?_
            refine ASL.done ?_
            refine AWP.seqR rfl ?_
            refine ASL.q (v := w19) rfl rfl (Light.quiet (opMove rfl rfl)) ?_
            refine ASL.q (v := w19) rfl rfl (Light.quiet (opMove rfl rfl)) ?_
            refine ASL.q (v := (.int .i64 (a45.1.length : Int))) rfl rfl (Light.quiet (kLen hS (j := 0) rfl rfl rfl rfl lenT_24 rfl)) ?_
            refine ASL.q (v := (.int .i64 (W (((a45.1.length : Int)) - 1)))) rfl rfl (Light.quiet (opInt rfl rfl rfl rfl)) ?_
            refine ASL.q (v := (.agg [(.int .i64 4), (.int .i64 (W (((a45.1.length : Int)) - 1))), (.int .i64 0)])) rfl rfl (Light.quiet (opBuildZ (zs := [(.int .i64 0), (.int .i64 0), (.int .i64 0)]) rfl plan_31 zeroA_31 ⟨.inl rfl, .inl rfl, .inl rfl, trivial⟩ rfl)) ?_
            refine ASL.q (v := (.list 3 (List.map TNode.av [(TNode.mk 4 ((W (((a45.1.length : Int)) - 1))) 0)]))) rfl rfl ((qLit (xs := [(.agg [(.int .i64 4), (.int .i64 (W (((a45.1.length : Int)) - 1))), (.int .i64 0)])]) rfl elemA_24 sizeA_31 zeroA_31 rfl rfl rfl rfl (by simp [cells, TNode.av]) (nlt rfl))) ?_
            obtain ⟨z52, hz52, hF⟩ := bindE hF
            refine ASL.x rfl rfl (hApp (f := TNode.av) (ws := [(TNode.mk 4 ((W (((a45.1.length : Int)) - 1))) 0)]) hS (j := 0) rfl hz52 rfl elemA_24 rfl sizeA_31 bytesA_31 zeroA_31 rfl rfl rfl (fun _ => rfl) ?_); rintro v52 G22 hS
            refine ASL.q (v := v52) rfl rfl (Light.quiet (opAssign rfl rfl)) ?_
            refine ASL.done ?_
            refine AWP.ret ?_
            refine QBlock.ret ?_
            refine QThen.rt ?_
            obtain rfl := someE hF
            exact QRet.sole (v := v52) ⟨rfl, trivial⟩ ⟨_, ⟨v52, rfl, rfl⟩, hS.pick [0, 1, 2] rfl rfl⟩
          · skip
            refine AWP.skip ?_
            refine QBlock.nrm ?_
            refine QThen.nrm ?_
            refine AWP.seqR rfl ?_
            refine ASL.q (v := (.ptr bp0 0)) rfl rfl (Light.quiet (opMove rfl rfl)) ?_
            refine ASL.q (v := (.int .i64 p1)) rfl rfl (Light.quiet (opMove rfl rfl)) ?_
            refine ASL.q (v := (.int .i64 (W (p1 - 1)))) rfl rfl (Light.quiet (opInt rfl rfl rfl rfl)) ?_
            refine ASL.q (v := vp2) rfl rfl (Light.quiet (opMove rfl rfl)) ?_
            obtain ⟨a57, ha57, hF⟩ := bindE hF
            refine ASL.x rfl rfl (hCallS hS [0, 1, 2] (F := [.snap S]) rfl rfl rfl call_88 (ih_spec_l2DrawTree ha57) rfl rfl ?_); rintro w24 _ G26 ⟨_, rfl, rfl⟩ hS
            refine ASL.q (v := w24) rfl rfl (Light.quiet (opAssign rfl rfl)) ?_
            refine ASL.done ?_
            refine AWP.seqR rfl ?_
            refine ASL.q (v := w24) rfl rfl (Light.quiet (opMove rfl rfl)) ?_
            refine ASL.q (v := (.int .i64 (a57.1.length : Int))) rfl rfl (Light.quiet (kLen hS (j := 0) rfl rfl rfl rfl lenT_24 rfl)) ?_
            refine ASL.q (v := (.int .i64 (W (((a57.1.length : Int)) - 1)))) rfl rfl (Light.quiet (opInt rfl rfl rfl rfl)) ?_
            refine ASL.q (v := (.int .i64 (W (((a57.1.length : Int)) - 1)))) rfl rfl (Light.quiet (opAssign rfl rfl)) ?_
            refine ASL.done ?_
            refine AWP.seqR rfl ?_
            refine ASL.q (v := (.ptr bp0 0)) rfl rfl (Light.quiet (opMove rfl rfl)) ?_
            refine ASL.q (v := (.int .i64 p1)) rfl rfl (Light.quiet (opMove rfl rfl)) ?_
            refine ASL.q (v := (.int .i64 (W (p1 - 1)))) rfl rfl (Light.quiet (opInt rfl rfl rfl rfl)) ?_
            refine ASL.q (v := w24) rfl rfl (Light.quiet (opMove rfl rfl)) ?_
            obtain ⟨a65, ha65, hF⟩ := bindE hF
            refine ASL.x rfl rfl (hCallS hS [1, 0, 2] (F := [.snap S]) rfl rfl rfl call_88 (ih_spec_l2DrawTree ha65) rfl rfl ?_); rintro w27 _ G29 ⟨_, rfl, rfl⟩ hS
            refine ASL.q (v := w27) rfl rfl (Light.quiet (opAssign rfl rfl)) ?_
            refine ASL.done ?_
            refine AWP.seqR rfl ?_
            refine ASL.q (v := w27) rfl rfl (Light.quiet (opMove rfl rfl)) ?_
            refine ASL.q (v := (.ptr bp0 0)) rfl rfl (Light.quiet (opMove rfl rfl)) ?_
            obtain ⟨a68, ha68, hF⟩ := bindE hF
            refine ASL.x rfl rfl (hCallS hS [1, 0, 2] (F := [.row 3 w27 (List.map TNode.av a65.1), .snap S]) rfl rfl rfl call_34 (spec_l1Below_ok ha68) rfl rfl ?_); rintro _ _ G30 ⟨rfl, rfl⟩ hS
            refine ASL.q (v := (.int .i64 (W (5 + a68.1)))) rfl rfl (Light.quiet (opInt rfl rfl rfl rfl)) ?_
            refine ASL.q (v := (.int .i64 (W (((a57.1.length : Int)) - 1)))) rfl rfl (Light.quiet (opMove rfl rfl)) ?_
            refine ASL.q (v := w27) rfl rfl (Light.quiet (opMove rfl rfl)) ?_
            refine ASL.q (v := (.int .i64 (a65.1.length : Int))) rfl rfl (Light.quiet (kLen hS (j := 1) rfl rfl rfl rfl lenT_24 rfl)) ?_
            refine ASL.q (v := (.int .i64 (W (((a65.1.length : Int)) - 1)))) rfl rfl (Light.quiet (opInt rfl rfl rfl rfl)) ?_
            refine ASL.q (v := (.agg [(.int .i64 (W (5 + a68.1))), (.int .i64 (W (((a57.1.length : Int)) - 1))), (.int .i64 (W (((a65.1.length : Int)) - 1)))])) rfl rfl (Light.quiet (opBuildZ (zs := [(.int .i64 0), (.int .i64 0), (.int .i64 0)]) rfl plan_31 zeroA_31 ⟨.inl rfl, .inl rfl, .inl rfl, trivial⟩ rfl)) ?_
            refine ASL.q (v := (.list 3 (List.map TNode.av [(TNode.mk ((W (5 + a68.1))) ((W (((a57.1.length : Int)) - 1))) ((W (((a65.1.length : Int)) - 1))))]))) rfl rfl ((qLit (xs := [(.agg [(.int .i64 (W (5 + a68.1))), (.int .i64 (W (((a57.1.length : Int)) - 1))), (.int .i64 (W (((a65.1.length : Int)) - 1)))])]) rfl elemA_24 sizeA_31 zeroA_31 rfl rfl rfl rfl (by simp [cells, TNode.av]) (nlt rfl))) ?_
            obtain ⟨z76, hz76, hF⟩ := bindE hF
            refine ASL.x rfl rfl (hApp (f := TNode.av) (ws := [(TNode.mk ((W (5 + a68.1))) ((W (((a57.1.length : Int)) - 1))) ((W (((a65.1.length : Int)) - 1))))]) hS (j := 1) rfl hz76 rfl elemA_24 rfl sizeA_31 bytesA_31 zeroA_31 rfl rfl rfl (fun _ => rfl) ?_); rintro v76 G31 hS
            refine ASL.q (v := v76) rfl rfl (Light.quiet (opAssign rfl rfl)) ?_
            refine ASL.done ?_
            refine AWP.ret ?_
            obtain rfl := someE hF
            exact QRet.sole (v := v76) ⟨rfl, trivial⟩ ⟨_, ⟨v76, rfl, rfl⟩, hS.pick [1, 0, 2] rfl rfl⟩
  · skip
    refine AWP.seqR rfl ?_
    refine ASL.q (v := (.int .i64 p1)) rfl rfl (Light.quiet (opMove rfl rfl)) ?_
    refine ASL.q (v := (.bool (decide (p1 = 0)))) rfl rfl (Light.quiet (opInt rfl rfl rfl rfl)) ?_
    refine ASL.done ?_
    refine AWP.ifP hF rfl (fun hc34 hF => ?_) (fun hc34 hF => ?_)
    · skip
      refine AWP.lastR rfl ?_
      refine ASL.q (v := (.ptr bp0 0)) rfl rfl (Light.quiet (opMove rfl rfl)) ?_
      obtain ⟨a14, ha14, hF⟩ := bindE hF
      refine ASL.x rfl rfl (hCallS hS [0, 1, 2, 3] (F := [.row 3 .nil (List.map TNode.av ([])), .row 3 vp2 (List.map TNode.av p2), .snap S]) rfl rfl rfl call_34 (spec_l1Below_ok ha14) rfl rfl ?_); rintro _ _ G35 ⟨rfl, rfl⟩ hS
      refine ASL.q (v := (.int .i64 a14.1)) rfl rfl (Light.quiet (opAssign rfl rfl)) ?_
      refine ASL.done ?_
      refine QThen.nrm ?_
      exact ⟨a14.2.b, a14.2.i, a14.2.h, a14.1, ⟨rfl, rfl, rfl, rfl, trivial⟩, (hS.pick [0, 2, 3] rfl rfl), hF⟩
    · skip
      refine AWP.skip ?_
      refine QThen.nrm ?_
      exact ⟨a10.2.b, a10.2.i, a10.2.h, a10.1, ⟨rfl, rfl, rfl, rfl, trivial⟩, (hS.pick [0, 2, 3] rfl rfl), hF⟩
theorem spec_l2DrawTree_ok {K : Nat} : ∀ {p0 : Tl1Cur} {p1 : Int} {p2 : (List TNode)} {r : ((List TNode) × Tl1Cur)} {bp0 : Nat} {vp2 : AV} , spec_l2DrawTree K p0 p1 p2 = some r → HS Try.prog 88 [(.ptr bp0 0), (.int .i64 p1), vp2] [.cell bp0 [(.list 1 (List.map (AV.int .u8) p0.b)), (.int .i64 p0.i), (.int .i64 p0.h)], .row 3 vp2 (List.map TNode.av p2)] fun v L' => ∃ o0 : AV, v = o0 ∧ L' = [.row 3 o0 (List.map TNode.av r.1), .cell bp0 [(.list 1 (List.map (AV.int .u8) r.2.b)), (.int .i64 r.2.i), (.int .i64 r.2.h)]] := by
  induction K with
  | zero => intros; rename_i h; cases h
  | succ K ih => intros; rename_i h; exact spec_l2DrawTree.body_ok ih h

set_option maxRecDepth 10000 in
theorem spec_l2DrawExpr_ok {K : Nat} {p0 : Tl1Cur} {r : ((List TNode) × Tl1Cur)} {bp0 : Nat} (hF : spec_l2DrawExpr K p0 = some r) : HS Try.prog 66 [(.ptr bp0 0)] [.cell bp0 [(.list 1 (List.map (AV.int .u8) p0.b)), (.int .i64 p0.i), (.int .i64 p0.h)]] fun v L' => ∃ o0 : AV, v = o0 ∧ L' = [.row 3 o0 (List.map TNode.av r.1), .cell bp0 [(.list 1 (List.map (AV.int .u8) r.2.b)), (.int .i64 r.2.i), (.int .i64 r.2.h)]] := by
  intro H S hS
  refine HC.enter Try.func66 rfl Try.ntmps66 (by simp) ?_
  simp only [List.cons_append, List.nil_append] at hS
  unfold spec_l2DrawExpr at hF
  refine AWP.seqR rfl ?_
  have hS := hNil (s := 3) (f := TNode.av) hS
  refine ASL.q (v := .nil) rfl rfl (Light.quiet (opAssign rfl rfl)) ?_
  refine ASL.done ?_
  refine AWP.seqR rfl ?_
  refine ASL.q (v := (.ptr bp0 0)) rfl rfl (Light.quiet (opMove rfl rfl)) ?_
  refine ASL.q (v := (.ptr bp0 0)) rfl rfl (Light.quiet (opMove rfl rfl)) ?_
  obtain ⟨a5, ha5, hF⟩ := bindE hF
  refine ASL.x rfl rfl (hCallS hS [1, 0, 2] (F := [.row 3 .nil (List.map TNode.av ([])), .snap S]) rfl rfl rfl call_34 (spec_l1Below_ok ha5) rfl rfl ?_); rintro _ _ G3 ⟨rfl, rfl⟩ hS
  refine ASL.q (v := (.int .i64 (W (1 + a5.1)))) rfl rfl (Light.quiet (opInt rfl rfl rfl rfl)) ?_
  refine ASL.x rfl rfl (hLit (f := TNode.av) (zs := []) hS rfl rfl elemA_24 sizeA_31 zeroA_31 rfl rfl rfl rfl (by simp [cells, TNode.av]) (nlt rfl) ?_); rintro v7 G4 hK hS
  obtain ⟨a8, ha8, hF⟩ := bindE hF
  refine ASL.x rfl rfl (hCallS hS [1, 0, 2, 3] (F := [.row 3 .nil (List.map TNode.av ([])), .snap S]) rfl rfl rfl call_88 (spec_l2DrawTree_ok ha8) rfl rfl ?_); rintro w6 _ G8 ⟨_, rfl, rfl⟩ hS
  refine ASL.q (v := w6) rfl rfl (Light.quiet (opAssign rfl rfl)) ?_
  refine ASL.done ?_
  refine AWP.ret ?_
  obtain rfl := someE hF
  exact QRet.sole (v := w6) ⟨rfl, trivial⟩ ⟨_, ⟨w6, rfl, rfl⟩, hS.pick [0, 1, 3] rfl rfl⟩

set_option maxRecDepth 10000 in
theorem spec_l2DrawAny_ok {K : Nat} {p0 : Tl1Cur} {r : ((List TNode) × Tl1Cur)} {bp0 : Nat} (hF : spec_l2DrawAny K p0 = some r) : HS Try.prog 59 [(.ptr bp0 0)] [.cell bp0 [(.list 1 (List.map (AV.int .u8) p0.b)), (.int .i64 p0.i), (.int .i64 p0.h)]] fun v L' => ∃ o0 : AV, v = o0 ∧ L' = [.row 3 o0 (List.map TNode.av r.1), .cell bp0 [(.list 1 (List.map (AV.int .u8) r.2.b)), (.int .i64 r.2.i), (.int .i64 r.2.h)]] := by
  intro H S hS
  refine HC.enter Try.func59 rfl Try.ntmps59 (by simp) ?_
  simp only [List.cons_append, List.nil_append] at hS
  unfold spec_l2DrawAny at hF
  refine AWP.seqR rfl ?_
  have hS := hNil (s := 3) (f := TNode.av) hS
  refine ASL.q (v := .nil) rfl rfl (Light.quiet (opAssign rfl rfl)) ?_
  refine ASL.done ?_
  refine AWP.seqR rfl ?_
  refine ASL.q (v := (.ptr bp0 0)) rfl rfl (Light.quiet (opMove rfl rfl)) ?_
  obtain ⟨a6, ha6, hF⟩ := bindE hF
  refine ASL.x rfl rfl (hCallS hS [1, 0, 2] (F := [.row 3 .nil (List.map TNode.av ([])), .snap S]) rfl rfl rfl call_66 (spec_l2DrawExpr_ok ha6) rfl rfl ?_); rintro w3 _ G5 ⟨_, rfl, rfl⟩ hS
  refine ASL.q (v := w3) rfl rfl (Light.quiet (opAssign rfl rfl)) ?_
  refine ASL.done ?_
  refine AWP.seq ?_
  refine AWP.seqR rfl ?_
  refine ASL.q (v := w3) rfl rfl (Light.quiet (opMove rfl rfl)) ?_
  refine ASL.q (v := (.int .i64 (a6.1.length : Int))) rfl rfl (Light.quiet (kLen hS (j := 0) rfl rfl rfl rfl lenT_24 rfl)) ?_
  refine ASL.q (v := (.bool (decide (((a6.1.length : Int)) = 0)))) rfl rfl (Light.quiet (opInt rfl rfl rfl rfl)) ?_
  refine ASL.done ?_
  refine AWP.ifP hF rfl (fun hc6 hF => ?_) (fun hc6 hF => ?_)
  · skip
    refine AWP.seqR rfl ?_
    refine ASL.q (v := w3) rfl rfl (Light.quiet (opMove rfl rfl)) ?_
    refine ASL.q (v := w3) rfl rfl (Light.quiet (opAssign rfl rfl)) ?_
    refine ASL.done ?_
    refine AWP.ret ?_
    refine QThen.rt ?_
    obtain rfl := someE hF
    exact QRet.sole (v := w3) ⟨rfl, trivial⟩ ⟨_, ⟨w3, rfl, rfl⟩, hS.pick [0, 1, 3] rfl rfl⟩
  · skip
    refine AWP.skip ?_
    refine QThen.nrm ?_
    refine AWP.seqR rfl ?_
    refine ASL.q (v := (.ptr bp0 0)) rfl rfl (Light.quiet (opMove rfl rfl)) ?_
    refine ASL.q (v := w3) rfl rfl (Light.quiet (opMove rfl rfl)) ?_
    refine ASL.q (v := (.int .i64 (a6.1.length : Int))) rfl rfl (Light.quiet (kLen hS (j := 0) rfl rfl rfl rfl lenT_24 rfl)) ?_
    obtain ⟨a14, ha14, hF⟩ := bindE hF
    refine ASL.x rfl rfl (hCallS hS [1, 0, 2, 3] (F := [.row 3 w3 (List.map TNode.av a6.1), .row 3 .nil (List.map TNode.av ([])), .snap S]) rfl rfl rfl call_34 (spec_l1Below_ok ha14) rfl rfl ?_); rintro _ _ G7 ⟨rfl, rfl⟩ hS
    refine ASL.q (v := (.int .i64 a14.1)) rfl rfl (Light.quiet (opAssign rfl rfl)) ?_
    refine ASL.done ?_
    refine AWP.seqM (fun e H => ∃ y8 : (List TNode), ∃ y11 : (List Int), ∃ y12 : Int, ∃ y13 : Int, ∃ w9 : AV, E.Told e [(3, w9)] ∧ E.Sep H [.row 3 w9 (List.map TNode.av y8), .cell bp0 [(.list 1 (List.map (AV.int .u8) y11)), (.int .i64 y12), (.int .i64 y13)], .snap S] ∧ spec_l2DrawAny.k0 y8 y11 y12 y13 = some r) ?_ ?_
    · rintro e0 G14 ⟨y8, y11, y12, y13, w9, hT, hS, hF⟩; refine AWP.only _ hT ?_; unfold spec_l2DrawAny.k0 at hF
      refine AWP.seqR rfl ?_
      refine ASL.q (v := w9) rfl rfl (Light.quiet (opMove rfl rfl)) ?_
      refine ASL.q (v := w9) rfl rfl (Light.quiet (opAssign rfl rfl)) ?_
      refine ASL.done ?_
      refine AWP.ret ?_
      obtain rfl := someE hF
      exact QRet.sole (v := w9) ⟨rfl, trivial⟩ ⟨_, ⟨w9, rfl, rfl⟩, hS.pick [0, 1, 2] rfl rfl⟩
    · skip
      refine AWP.seqR rfl ?_
      refine ASL.q (v := (.ptr bp0 0)) rfl rfl (Light.quiet (opMove rfl rfl)) ?_
      obtain ⟨a16, ha16, hF⟩ := bindE hF
      refine ASL.x rfl rfl (hCallS hS [0, 1, 2, 3] (F := [.row 3 w3 (List.map TNode.av a6.1), .row 3 .nil (List.map TNode.av ([])), .snap S]) rfl rfl rfl call_34 (spec_l1Below_ok ha16) rfl rfl ?_); rintro _ _ G15 ⟨rfl, rfl⟩ hS
      refine ASL.done ?_
      refine AWP.block ?_
      refine AWP.seqR rfl ?_
      refine ASL.q (v := (.bool (decide (a16.1 = 0)))) rfl rfl (Light.quiet (opInt rfl rfl rfl rfl)) ?_
      refine ASL.q (v := (.bool (decide (a16.1 = 0)))) rfl rfl (Light.quiet (opAssign rfl rfl)) ?_
      refine ASL.done ?_
      refine AWP.ifP hF rfl (fun hc16 hF => ?_) (fun hc16 hF => ?_)
      · skip
        refine AWP.lastR rfl ?_
        refine ASL.q (v := w3) rfl rfl (Light.quiet (opMove rfl rfl)) ?_
        refine ASL.q (v := (.int .i64 a14.1)) rfl rfl (Light.quiet (opMove rfl rfl)) ?_
        refine ASL.q (v := (.ptr bp0 0)) rfl rfl (Light.quiet (opMove rfl rfl)) ?_
        obtain ⟨a22, ha22, hF⟩ := bindE hF
        refine ASL.x rfl rfl (hCallS hS [0, 1, 2, 3] (F := [.row 3 w3 (List.map TNode.av a6.1), .row 3 .nil (List.map TNode.av ([])), .snap S]) rfl rfl rfl call_34 (spec_l1Below_ok ha22) rfl rfl ?_); rintro _ _ G17 ⟨rfl, rfl⟩ hS
        obtain ⟨m23, hm23, hF⟩ := bindE hF
        refine ASL.q (v := (ptrTo w3 m23 3)) rfl rfl (Light.quiet (kIxO hS (j := 1) rfl hm23 rfl rfl rfl elemA_24 sizeA_31)) ?_
        refine ASL.q (v := (ptrOff w3 m23 3 0)) rfl rfl (Light.quiet (kFldC (p := 0) hS (j := 1) rfl hm23 rfl fieldA_31_0 rfl)) ?_
        refine ASL.n rfl rfl (hStF (f := TNode.av) (g := (fun q : TNode => { q with kind := a22.1 })) (p := 0) hS (j := 1) rfl hm23 rfl sizeA_3 rfl rfl (fun _ => ⟨_, rfl, nlt rfl, rfl⟩) rfl ?_); rintro G18 hS
        refine ASL.done ?_
        refine QBlock.nrm ?_
        refine QThen.nrm ?_
        exact ⟨(a6.1.set m23 ((fun q : TNode => { q with kind := a22.1 }) (a6.1.getD m23 default))), a22.2.b, a22.2.i, a22.2.h, w3, ⟨rfl, trivial⟩, (hS.pick [1, 0, 3] rfl rfl), hF⟩
      · skip
        refine AWP.seqR rfl ?_
        refine ASL.q (v := (.bool (decide (a16.1 = 1)))) rfl rfl (Light.quiet (opInt rfl rfl rfl rfl)) ?_
        refine ASL.q (v := (.bool (decide (a16.1 = 1)))) rfl rfl (Light.quiet (opAssign rfl rfl)) ?_
        refine ASL.done ?_
        refine AWP.ifP hF rfl (fun hc19 hF => ?_) (fun hc19 hF => ?_)
        · skip
          refine AWP.lastR rfl ?_
          refine ASL.q (v := w3) rfl rfl (Light.quiet (opMove rfl rfl)) ?_
          refine ASL.q (v := (.int .i64 a14.1)) rfl rfl (Light.quiet (opMove rfl rfl)) ?_
          refine ASL.q (v := w3) rfl rfl (Light.quiet (opMove rfl rfl)) ?_
          refine ASL.q (v := (.int .i64 a14.1)) rfl rfl (Light.quiet (opMove rfl rfl)) ?_
          obtain ⟨a31, ha31, hF⟩ := bindE hF
          refine ASL.q (v := (ptrTo w3 a14.1.toNat 3)) rfl rfl (Light.quiet (kIxOx hS (j := 1) rfl ha31 rfl rfl rfl elemA_24 sizeA_31)) ?_
          refine ASL.q (v := (ptrOff w3 a14.1.toNat 3 1)) rfl rfl (Light.quiet (kFldO (p := 1) hS (j := 1) rfl ha31 rfl fieldA_31_1 rfl)) ?_
          refine ASL.q (v := (.int .i64 a31.a)) rfl rfl (Light.quiet (kLdP (f := TNode.av) hS (j := 1) rfl ha31 rfl aggA_3 rfl rfl)) ?_
          refine ASL.q (v := (.int .i64 (W (a31.a + 1)))) rfl rfl (Light.quiet (opInt rfl rfl rfl rfl)) ?_
          obtain ⟨m35, hm35, hF⟩ := bindE hF
          refine ASL.q (v := (ptrTo w3 m35 3)) rfl rfl (Light.quiet (kIxO hS (j := 1) rfl hm35 rfl rfl rfl elemA_24 sizeA_31)) ?_
          refine ASL.q (v := (ptrOff w3 m35 3 1)) rfl rfl (Light.quiet (kFldC (p := 1) hS (j := 1) rfl hm35 rfl fieldA_31_1 rfl)) ?_
          refine ASL.n rfl rfl (hStF (f := TNode.av) (g := (fun q : TNode => { q with a := (W (a31.a + 1)) })) (p := 1) hS (j := 1) rfl hm35 rfl sizeA_3 rfl rfl (fun _ => ⟨_, rfl, nlt rfl, rfl⟩) rfl ?_); rintro G20 hS
          refine ASL.done ?_
          refine QBlock.nrm ?_
          refine QThen.nrm ?_
          exact ⟨(a6.1.set m35 ((fun q : TNode => { q with a := (W (a31.a + 1)) }) (a6.1.getD m35 default))), a16.2.b, a16.2.i, a16.2.h, w3, ⟨rfl, trivial⟩, (hS.pick [1, 0, 3] rfl rfl), hF⟩
        · skip
          refine AWP.seqR rfl ?_
          refine ASL.q (v := (.bool (decide (a16.1 = 2)))) rfl rfl (Light.quiet (opInt rfl rfl rfl rfl)) ?_
          refine ASL.q (v := (.bool (decide (a16.1 = 2)))) rfl rfl (Light.quiet (opAssign rfl rfl)) ?_
          refine ASL.done ?_
          refine AWP.ifP hF rfl (fun hc21 hF => ?_) (fun hc21 hF => ?_)
          · skip
            refine AWP.lastR rfl ?_
            refine ASL.q (v := w3) rfl rfl (Light.quiet (opMove rfl rfl)) ?_
            refine ASL.q (v := (.int .i64 a14.1)) rfl rfl (Light.quiet (opMove rfl rfl)) ?_
            refine ASL.q (v := (.ptr bp0 0)) rfl rfl (Light.quiet (opMove rfl rfl)) ?_
            refine ASL.q (v := w3) rfl rfl (Light.quiet (opMove rfl rfl)) ?_
            refine ASL.q (v := (.int .i64 (a6.1.length : Int))) rfl rfl (Light.quiet (kLen hS (j := 1) rfl rfl rfl rfl lenT_24 rfl)) ?_
            obtain ⟨a44, ha44, hF⟩ := bindE hF
            refine ASL.x rfl rfl (hCallS hS [0, 1, 2, 3] (F := [.row 3 w3 (List.map TNode.av a6.1), .row 3 .nil (List.map TNode.av ([])), .snap S]) rfl rfl rfl call_34 (spec_l1Below_ok ha44) rfl rfl ?_); rintro _ _ G22 ⟨rfl, rfl⟩ hS
            obtain ⟨m45, hm45, hF⟩ := bindE hF
            refine ASL.q (v := (ptrTo w3 m45 3)) rfl rfl (Light.quiet (kIxO hS (j := 1) rfl hm45 rfl rfl rfl elemA_24 sizeA_31)) ?_
            refine ASL.q (v := (ptrOff w3 m45 3 2)) rfl rfl (Light.quiet (kFldC (p := 2) hS (j := 1) rfl hm45 rfl fieldA_31_2 rfl)) ?_
            refine ASL.n rfl rfl (hStF (f := TNode.av) (g := (fun q : TNode => { q with b := a44.1 })) (p := 2) hS (j := 1) rfl hm45 rfl sizeA_3 rfl rfl (fun _ => ⟨_, rfl, nlt rfl, rfl⟩) rfl ?_); rintro G23 hS
            refine ASL.done ?_
            refine QBlock.nrm ?_
            refine QThen.nrm ?_
            exact ⟨(a6.1.set m45 ((fun q : TNode => { q with b := a44.1 }) (a6.1.getD m45 default))), a44.2.b, a44.2.i, a44.2.h, w3, ⟨rfl, trivial⟩, (hS.pick [1, 0, 3] rfl rfl), hF⟩
          · skip
            refine AWP.seqR rfl ?_
            refine ASL.q (v := (.bool (decide (a16.1 = 3)))) rfl rfl (Light.quiet (opInt rfl rfl rfl rfl)) ?_
            refine ASL.q (v := (.bool (decide (a16.1 = 3)))) rfl rfl (Light.quiet (opAssign rfl rfl)) ?_
            refine ASL.done ?_
            refine AWP.ifP hF rfl (fun hc24 hF => ?_) (fun hc24 hF => ?_)
            · skip
              refine AWP.lastR rfl ?_
              refine ASL.q (v := w3) rfl rfl (Light.quiet (opMove rfl rfl)) ?_
              refine ASL.q (v := (.agg [(.int .i64 1), (.int .i64 0), (.int .i64 0)])) rfl rfl (Light.quiet (opBuildZ (zs := [(.int .i64 0), (.int .i64 0), (.int .i64 0)]) rfl plan_31 zeroA_31 ⟨.inl rfl, .inl rfl, .inl rfl, trivial⟩ rfl)) ?_
              refine ASL.q (v := (.list 3 (List.map TNode.av [(TNode.mk 1 0 0)]))) rfl rfl ((qLit (xs := [(.agg [(.int .i64 1), (.int .i64 0), (.int .i64 0)])]) rfl elemA_24 sizeA_31 zeroA_31 rfl rfl rfl rfl (by simp [cells, TNode.av]) (nlt rfl))) ?_
              obtain ⟨z52, hz52, hF⟩ := bindE hF
              refine ASL.x rfl rfl (hApp (f := TNode.av) (ws := [(TNode.mk 1 0 0)]) hS (j := 1) rfl hz52 rfl elemA_24 rfl sizeA_31 bytesA_31 zeroA_31 rfl rfl rfl (fun _ => rfl) ?_); rintro v52 G25 hS
              refine ASL.q (v := v52) rfl rfl (Light.quiet (opAssign rfl rfl)) ?_
              refine ASL.done ?_
              refine QBlock.nrm ?_
              refine QThen.nrm ?_
              exact ⟨z52, a16.2.b, a16.2.i, a16.2.h, v52, ⟨rfl, trivial⟩, (hS.pick [1, 0, 3] rfl rfl), hF⟩
            · skip
              refine AWP.seqR rfl ?_
              refine ASL.q (v := (.bool (decide (a16.1 = 4)))) rfl rfl (Light.quiet (opInt rfl rfl rfl rfl)) ?_
              refine ASL.q (v := (.bool (decide (a16.1 = 4)))) rfl rfl (Light.quiet (opAssign rfl rfl)) ?_
              refine ASL.done ?_
              refine AWP.ifP hF rfl (fun hc27 hF => ?_) (fun hc27 hF => ?_)
              · skip
                refine AWP.lastR rfl ?_
                have hS := hNil (s := 3) (f := TNode.av) hS
                refine ASL.q (v := .nil) rfl rfl (Light.quiet (opAssign rfl rfl)) ?_
                refine ASL.done ?_
                refine QBlock.nrm ?_
                refine QThen.nrm ?_
                exact ⟨[], a16.2.b, a16.2.i, a16.2.h, .nil, ⟨rfl, trivial⟩, (hS.pick [0, 1, 4] rfl rfl), hF⟩
              · skip
                refine AWP.skip ?_
                refine QBlock.nrm ?_
                refine QThen.nrm ?_
                exact ⟨a6.1, a16.2.b, a16.2.i, a16.2.h, w3, ⟨rfl, trivial⟩, (hS.pick [1, 0, 3] rfl rfl), hF⟩

set_option maxRecDepth 10000 in
theorem spec_DrawExprPrint_ok {K : Nat} {p0 : (List Int)} {r : (List TNode)} (hF : spec_DrawExprPrint K p0 = some r) : PO Try.prog 24 [(.list 1 (List.map (AV.int .u8) p0))] 3 (List.map TNode.av r) := by
  refine HC.enter Try.func24 rfl Try.ntmps24 (by simp) ?_
  have hS := Sep.void; unfold spec_DrawExprPrint at hF
  refine AWP.seqR rfl ?_
  have hS := hNil (s := 3) (f := TNode.av) hS
  refine ASL.q (v := .nil) rfl rfl (Light.quiet (opAssign rfl rfl)) ?_
  refine ASL.done ?_
  refine AWP.seqR rfl ?_
  refine ASL.q (v := (.list 1 (List.map (AV.int .u8) p0))) rfl rfl (Light.quiet (opMove rfl rfl)) ?_
  obtain ⟨a4, ha4, hF⟩ := bindE hF
  refine ASL.x rfl rfl (hCallS hS [0] (F := [.row 3 .nil (List.map TNode.av ([]))]) rfl rfl rfl call_31 (spec_l1New_ok ha4) rfl rfl ?_); rintro _ _ G4 ⟨bq2, rfl, rfl⟩ hS
  obtain ⟨a5, ha5, hF⟩ := bindE hF
  refine ASL.x rfl rfl (hCallS hS [0, 1] (F := [.row 3 .nil (List.map TNode.av ([]))]) rfl rfl rfl call_59 (spec_l2DrawAny_ok ha5) rfl rfl ?_); rintro w5 _ G7 ⟨_, rfl, rfl⟩ hS
  refine ASL.q (v := w5) rfl rfl (Light.quiet (opAssign rfl rfl)) ?_
  refine ASL.done ?_
  refine AWP.ret ?_
  obtain rfl := someE hF
  exact QRet.sole (v := w5) ⟨rfl, trivial⟩ (hS.get (k := 0) rfl)

set_option maxRecDepth 10000 in
theorem impl_exprParts_ok (p0 : TNode) : PC Try.prog 61 [(TNode.av p0)] fun v => v = (.int .i64 (impl_exprParts p0)) := by
  generalize hF : impl_exprParts p0 = r
  refine PC.enter Try.func61 rfl Try.ntmps61 (by simp) ?_
  have hS := Sep.void; unfold impl_exprParts at hF
  refine AWP.seqR rfl ?_
  refine ASL.q (v := (.rptr [(.int .i64 p0.kind), (.int .i64 p0.a), (.int .i64 p0.b)])) rfl rfl ((qBoxI (v := (TNode.av p0)) rfl rfl rfl rfl)) ?_
  refine ASL.q (v := (.int .i64 0)) rfl rfl (Light.quiet (opAssign rfl rfl)) ?_
  refine ASL.done ?_
  refine AWP.seq ?_
  refine AWP.seqR rfl ?_
  refine ASL.q (v := (.rptr [(.int .i64 p0.kind), (.int .i64 p0.a), (.int .i64 p0.b)])) rfl rfl (Light.quiet (opFieldAddrR rfl fieldA_31_0 rfl rfl)) ?_
  refine ASL.q (v := (.int .i64 p0.kind)) rfl rfl (Light.quiet (opLoadR rfl aggA_3 rfl rfl)) ?_
  refine ASL.done ?_
  refine AWP.block ?_
  refine AWP.seqM (fun e H => ∃ x5_1 : Bool, E.Told e [(1, (.rptr [(.int .i64 p0.kind), (.int .i64 p0.a), (.int .i64 p0.b)])), (4, (.int .i64 p0.kind)), (5, (.bool x5_1))] ∧ E.Sep H [] ∧ impl_exprParts.k0 p0 x5_1 = r) ?_ ?_
  · rintro e0 G7 ⟨x5_1, hT, hS, hF⟩; refine AWP.only _ hT ?_; unfold impl_exprParts.k0 at hF
    refine AWP.ifB hF rfl (fun hc1 hF => ?_) (fun hc1 hF => ?_)
    · skip
      refine AWP.seqR rfl ?_
      refine ASL.q (v := (TNode.av p0)) rfl rfl (Light.quiet (opLoadRA rfl aggA_31 sizeA_31 rfl (nlt rfl) rfl)) ?_
      refine ASL.q (v := (.int .i64 (impl_leaf p0 0))) rfl rfl ((qCall rfl rfl call_72 (impl_leaf_ok p0 0) rfl)) ?_
      refine ASL.q (v := (.int .i64 (impl_leaf p0 0))) rfl rfl (Light.quiet (opAssign rfl rfl)) ?_
      refine ASL.done ?_
      refine AWP.ret ?_
      refine QBlock.ret ?_
      refine QThen.rt ?_
      obtain rfl := hF
      exact QRet.sole (v := (.int .i64 (impl_leaf p0 0))) ⟨rfl, trivial⟩ rfl
    · skip
      refine AWP.seqR rfl ?_
      refine ASL.q (v := (.bool (decide (p0.kind = 3)))) rfl rfl (Light.quiet (opInt rfl rfl rfl rfl)) ?_
      refine ASL.q (v := (.bool (decide (p0.kind = 3)))) rfl rfl (Light.quiet (opAssign rfl rfl)) ?_
      refine ASL.done ?_
      refine AWP.ifP hF rfl (fun hc2 hF => ?_) (fun hc2 hF => ?_)
      · skip
        refine AWP.seqR rfl ?_
        refine ASL.q (v := (TNode.av p0)) rfl rfl (Light.quiet (opLoadRA rfl aggA_31 sizeA_31 rfl (nlt rfl) rfl)) ?_
        refine ASL.q (v := (.int .i64 (impl_leaf p0 2))) rfl rfl ((qCall rfl rfl call_72 (impl_leaf_ok p0 2) rfl)) ?_
        refine ASL.q (v := (.int .i64 (impl_leaf p0 2))) rfl rfl (Light.quiet (opAssign rfl rfl)) ?_
        refine ASL.done ?_
        refine AWP.ret ?_
        refine QBlock.ret ?_
        refine QThen.rt ?_
        obtain rfl := hF
        exact QRet.sole (v := (.int .i64 (impl_leaf p0 2))) ⟨rfl, trivial⟩ rfl
      · skip
        refine AWP.seqR rfl ?_
        refine ASL.q (v := (.bool (decide (p0.kind = 4)))) rfl rfl (Light.quiet (opInt rfl rfl rfl rfl)) ?_
        refine ASL.q (v := (.bool (decide (p0.kind = 4)))) rfl rfl (Light.quiet (opAssign rfl rfl)) ?_
        refine ASL.done ?_
        refine AWP.ifP hF rfl (fun hc3 hF => ?_) (fun hc3 hF => ?_)
        · skip
          refine AWP.seqR rfl ?_
          refine ASL.q (v := (.int .i64 1)) rfl rfl (Light.quiet (opAssign rfl rfl)) ?_
          refine ASL.done ?_
          refine AWP.ret ?_
          refine QBlock.ret ?_
          refine QThen.rt ?_
          obtain rfl := hF
          exact QRet.sole (v := (.int .i64 1)) ⟨rfl, trivial⟩ rfl
        · skip
          refine AWP.seq ?_
          refine AWP.seqR rfl ?_
          refine ASL.q (v := (.bool (decide (p0.kind = 5)))) rfl rfl (Light.quiet (opInt rfl rfl rfl rfl)) ?_
          refine ASL.q (v := (.bool (decide (p0.kind = 5)))) rfl rfl (Light.quiet (opAssign rfl rfl)) ?_
          refine ASL.done ?_
          refine AWP.ifP hF rfl (fun hc4 hF => ?_) (fun hc4 hF => ?_)
          · skip
            refine AWP.skip ?_
            refine QThen.nrm ?_
            refine AWP.ifP hF rfl (fun hc5 hF => ?_) (fun hc5 hF => ?_)
            · skip
              refine AWP.seqR rfl ?_
              refine ASL.q (v := (.int .i64 2)) rfl rfl (Light.quiet (opAssign rfl rfl)) ?_
              refine ASL.done ?_
              refine AWP.ret ?_
              refine QBlock.ret ?_
              refine QThen.rt ?_
              obtain rfl := hF
              exact QRet.sole (v := (.int .i64 2)) ⟨rfl, trivial⟩ rfl
            · skip
              refine AWP.skip ?_
              refine QBlock.nrm ?_
              refine QThen.nrm ?_
              refine AWP.seqR rfl ?_
              refine ASL.q (v := (.int .i64 (-1))) rfl rfl (Light.quiet (opAssign rfl rfl)) ?_
              refine ASL.done ?_
              refine AWP.ret ?_
              obtain rfl := hF
              exact QRet.sole (v := (.int .i64 (-1))) ⟨rfl, trivial⟩ rfl
          · skip
            refine AWP.lastR rfl ?_
            refine ASL.q (v := (.bool (decide (p0.kind = 6)))) rfl rfl (Light.quiet (opInt rfl rfl rfl rfl)) ?_
            refine ASL.q (v := (.bool (decide (p0.kind = 6)))) rfl rfl (Light.quiet (opAssign rfl rfl)) ?_
            refine ASL.done ?_
            refine QThen.nrm ?_
            refine AWP.ifP hF rfl (fun hc6 hF => ?_) (fun hc6 hF => ?_)
            · skip
              refine AWP.seqR rfl ?_
              refine ASL.q (v := (.int .i64 2)) rfl rfl (Light.quiet (opAssign rfl rfl)) ?_
              refine ASL.done ?_
              refine AWP.ret ?_
              refine QBlock.ret ?_
              refine QThen.rt ?_
              obtain rfl := hF
              exact QRet.sole (v := (.int .i64 2)) ⟨rfl, trivial⟩ rfl
            · skip
              refine AWP.skip ?_
              refine QBlock.nrm ?_
              refine QThen.nrm ?_
              refine AWP.seqR rfl ?_
              refine ASL.q (v := (.int .i64 (-1))) rfl rfl (Light.quiet (opAssign rfl rfl)) ?_
              refine ASL.done ?_
              refine AWP.ret ?_
              obtain rfl := hF
              exact QRet.sole (v := (.int .i64 (-1))) ⟨rfl, trivial⟩ rfl
  · skip
    refine AWP.seqR rfl ?_
    refine ASL.q (v := (.bool (decide (p0.kind = 1)))) rfl rfl (Light.quiet (opInt rfl rfl rfl rfl)) ?_
    refine ASL.q (v := (.bool (decide (p0.kind = 1)))) rfl rfl (Light.quiet (opAssign rfl rfl)) ?_
    refine ASL.done ?_
    refine AWP.ifP hF rfl (fun hc8 hF => ?_) (fun hc8 hF => ?_)
    · skip
      refine AWP.skip ?_
      refine QThen.nrm ?_
      exact ⟨(decide (p0.kind = 1)), ⟨rfl, rfl, rfl, trivial⟩, (hS.pick [] rfl rfl), hF⟩
    · skip
      refine AWP.lastR rfl ?_
      refine ASL.q (v := (.bool (decide (p0.kind = 2)))) rfl rfl (Light.quiet (opInt rfl rfl rfl rfl)) ?_
      refine ASL.q (v := (.bool (decide (p0.kind = 2)))) rfl rfl (Light.quiet (opAssign rfl rfl)) ?_
      refine ASL.done ?_
      refine QThen.nrm ?_
      exact ⟨(decide (p0.kind = 2)), ⟨rfl, rfl, rfl, trivial⟩, (hS.pick [] rfl rfl), hF⟩

set_option maxRecDepth 10000 in
theorem impl_ExprOk_ok {p0 : (List TNode)} {r : Bool} (hF : impl_ExprOk p0 = some r) : PC Try.prog 27 [(.list 3 (List.map TNode.av p0))] fun v => v = (.bool r) := by
  refine PC.enter Try.func27 rfl Try.ntmps27 (by simp) ?_
  have hS := Sep.void; unfold impl_ExprOk at hF
  refine AWP.seqR rfl ?_
  refine ASL.q (v := (.bool false)) rfl rfl (Light.quiet (opAssign rfl rfl)) ?_
  refine ASL.done ?_
  refine AWP.seqR rfl ?_
  refine ASL.q (v := (.list 3 (List.map TNode.av p0))) rfl rfl (Light.quiet (opMove rfl rfl)) ?_
  obtain ⟨a4, ha4, hF⟩ := bindE hF
  refine ASL.q (v := (.bool a4)) rfl rfl ((qCall rfl rfl call_42 (impl_isTree_ok call_61 (fun q0 y h => by obtain rfl := someE h; exact impl_exprParts_ok q0) ha4) rfl)) ?_
  refine ASL.q (v := (.bool a4)) rfl rfl (Light.quiet (opAssign rfl rfl)) ?_
  refine ASL.done ?_
  refine AWP.ret ?_
  obtain rfl := someE hF
  exact QRet.sole (v := (.bool a4)) ⟨rfl, trivial⟩ rfl

set_option maxRecDepth 10000 in
theorem impl_signOf_ok {p0 : Int} {r : ByteArray} (hF : impl_signOf p0 = some r) : PC Try.prog 86 [(.int .i64 p0)] fun v => v = (.str r) := by
  refine PC.enter Try.func86 rfl Try.ntmps86 (by simp) ?_
  have hS := Sep.void; unfold impl_signOf at hF
  refine AWP.seqR rfl ?_
  refine ASL.q (v := (.str { data := #[] })) rfl rfl (Light.quiet (opAssign rfl rfl)) ?_
  refine ASL.done ?_
  refine AWP.seq ?_
  refine AWP.seqR rfl ?_
  refine ASL.q (v := (.int .i64 p0)) rfl rfl (Light.quiet (opMove rfl rfl)) ?_
  refine ASL.q (v := (.bool (impl_inRange p0 1 11))) rfl rfl ((qCall rfl rfl call_90 (impl_inRange_ok p0 1 11) rfl)) ?_
  refine ASL.q (v := (.bool (!(impl_inRange p0 1 11)))) rfl rfl (Light.quiet (opNot rfl rfl)) ?_
  refine ASL.done ?_
  refine AWP.ifB hF rfl (fun hc1 hF => ?_) (fun hc1 hF => ?_)
  · skip
    refine AWP.seqR rfl ?_
    refine ASL.q (v := (.str { data := #[] })) rfl rfl (Light.quiet (opAssign rfl rfl)) ?_
    refine ASL.done ?_
    refine AWP.ret ?_
    refine QThen.rt ?_
    obtain rfl := someE hF
    exact QRet.sole (v := (.str { data := #[] })) ⟨rfl, trivial⟩ rfl
  · skip
    refine AWP.skip ?_
    refine QThen.nrm ?_
    refine AWP.seqR rfl ?_
    refine ASL.q (v := (.agg (List.map AV.str [{ data := #[116] }, { data := #[102] }, { data := #[] }, { data := #[33] }, { data := #[38] }, { data := #[124] }, { data := #[88] }, { data := #[85] }, { data := #[82] }, { data := #[70] }, { data := #[71] }]))) rfl rfl (Light.quiet (opBuildArr (pl := [(0, 1), (1, 1), (2, 1), (3, 1), (4, 1), (5, 1), (6, 1), (7, 1), (8, 1), (9, 1), (10, 1)]) (z := (.agg #[(.string ⟨#[]⟩), (.string ⟨#[]⟩), (.string ⟨#[]⟩), (.string ⟨#[]⟩), (.string ⟨#[]⟩), (.string ⟨#[]⟩), (.string ⟨#[]⟩), (.string ⟨#[]⟩), (.string ⟨#[]⟩), (.string ⟨#[]⟩), (.string ⟨#[]⟩)])) rfl arrA_116 rfl zeroA_116 rfl rfl)) ?_
    refine ASL.q (v := (.int .i64 p0)) rfl rfl (Light.quiet (opMove rfl rfl)) ?_
    refine ASL.q (v := (.int .i64 (W (p0 - 1)))) rfl rfl (Light.quiet (opInt rfl rfl rfl rfl)) ?_
    obtain ⟨a9, ha9, hF⟩ := bindE hF
    refine ASL.q (v := (.str a9)) rfl rfl (Light.quiet (kIxA (f := AV.str) (xs := [{ data := #[116] }, { data := #[102] }, { data := #[] }, { data := #[33] }, { data := #[38] }, { data := #[124] }, { data := #[88] }, { data := #[85] }, { data := #[82] }, { data := #[70] }, { data := #[71] }]) ha9 rfl rfl arrA_116 aggA_9 rfl rfl)) ?_
    refine ASL.q (v := (.str a9)) rfl rfl (Light.quiet (opAssign rfl rfl)) ?_
    refine ASL.done ?_
    refine AWP.ret ?_
    obtain rfl := someE hF
    exact QRet.sole (v := (.str a9)) ⟨rfl, trivial⟩ rfl

set_option maxRecDepth 10000 in
theorem impl_printed_ok {p0 : (List TNode)} {g1 : (TNode → Option Int)} {r : ByteArray} {k1 : Nat} (hcal1 : callable Try.prog k1 = true) (hg1 : ∀ q0 y, g1 q0 = some y → PC Try.prog k1 [(TNode.av q0)] fun v => v = (.int .i64 y)) (hF : impl_printed p0 g1 = some r) : PC Try.prog 60 [(.list 3 (List.map TNode.av p0)), (.fn (.func k1) [] [])] fun v => v = (.str r) := by
  refine PC.enter Try.func60 rfl Try.ntmps60 (by simp) ?_
  have hS := Sep.void; unfold impl_printed at hF
  refine AWP.seqR rfl ?_
  refine ASL.q (v := (.str { data := #[] })) rfl rfl (Light.quiet (opAssign rfl rfl)) ?_
  refine ASL.done ?_
  refine AWP.seqR rfl ?_
  refine ASL.q (v := (.list 3 (List.map TNode.av p0))) rfl rfl (Light.quiet (opMove rfl rfl)) ?_
  refine ASL.q (v := (.int .i64 (p0.length : Int))) rfl rfl (Light.quiet (opLenMap (f := TNode.av) rfl rfl rfl lenT_24 rfl)) ?_
  obtain ⟨z11, hz11, hF⟩ := bindE hF
  refine ASL.x rfl rfl (hMk (f := AV.str) hS hz11 (by decide) rfl elemA_71 sizeA_9 bytesA_9 zeroA_9 rfl rfl (by decide) rfl rfl ?_); rintro v11 G1 hK hS
  refine ASL.q (v := v11) rfl rfl (Light.quiet (opAssign rfl rfl)) ?_
  refine ASL.done ?_
  refine AWP.seqM (fun e H => ∃ y3 : (List ByteArray), E.Told e [(0, (.list 3 (List.map TNode.av p0))), (5, v11)] ∧ E.Sep H [.row 1 v11 (List.map AV.str y3)] ∧ impl_printed.k0 p0 y3 = some r) ?_ ?_
  · rintro e0 G4 ⟨y3, hT, hS, hF⟩; refine AWP.only _ hT ?_; unfold impl_printed.k0 at hF
    refine AWP.seqR rfl ?_
    refine ASL.q (v := v11) rfl rfl (Light.quiet (opMove rfl rfl)) ?_
    refine ASL.q (v := (.list 3 (List.map TNode.av p0))) rfl rfl (Light.quiet (opMove rfl rfl)) ?_
    refine ASL.q (v := (.int .i64 (p0.length : Int))) rfl rfl (Light.quiet (opLenMap (f := TNode.av) rfl rfl rfl lenT_24 rfl)) ?_
    refine ASL.q (v := (.int .i64 (W (((p0.length : Int)) - 1)))) rfl rfl (Light.quiet (opInt rfl rfl rfl rfl)) ?_
    obtain ⟨a75, ha75, hF⟩ := bindE hF
    refine ASL.q (v := (ptrTo v11 ((W (((p0.length : Int)) - 1))).toNat 1)) rfl rfl (Light.quiet (kIxOx hS (j := 0) rfl ha75 rfl rfl rfl elemA_71 sizeA_9)) ?_
    refine ASL.q (v := (.str a75)) rfl rfl (Light.quiet (kLd (f := AV.str) hS (j := 0) rfl ha75 rfl aggA_9 rfl (fun _ => rfl))) ?_
    refine ASL.q (v := (.str a75)) rfl rfl (Light.quiet (opAssign rfl rfl)) ?_
    refine ASL.done ?_
    refine AWP.ret ?_
    obtain rfl := someE hF
    exact QRet.sole (v := (.str a75)) ⟨rfl, trivial⟩ rfl
  · skip
    refine AWP.seqR rfl ?_
    refine ASL.q (v := (.list 3 (List.map TNode.av p0))) rfl rfl (Light.quiet (opMove rfl rfl)) ?_
    refine ASL.q (v := (.int .i64 (p0.length : Int))) rfl rfl (Light.quiet (opLenMap (f := TNode.av) rfl rfl rfl lenT_24 rfl)) ?_
    refine ASL.q (v := (.int .i64 0)) rfl rfl (Light.quiet (opMove rfl rfl)) ?_
    refine ASL.done ?_
    refine AWP.block ?_
    obtain ⟨o9, hL8, hR10⟩ := bindE hF
    refine AWP.loopF (ω := Unit) hL8 (fun s w => [(0, (.list 3 (List.map TNode.av p0))), (1, (.fn (.func k1) [] [])), (5, v11), (12, (.list 3 (List.map TNode.av p0))), (13, (.int .i64 (p0.length : Int))), (14, (.int .i64 s.2))]) (fun s w => [.row 1 v11 (List.map AV.str s.1)]) () ⟨rfl, rfl, rfl, rfl, rfl, rfl, trivial⟩ (hS.pick [0] rfl rfl) ?_
    rintro ⟨y5, x14_l0⟩ _ G11 hS x6 hF hx7
    try dsimp only at hS ⊢
    have hF : impl_printed.b0 p0 g1 y5 x14_l0 = some x6 := hF; unfold impl_printed.b0 at hF
    refine AWP.seqR rfl ?_
    refine ASL.q (v := (.bool (decide (x14_l0 < ((p0.length : Int)))))) rfl rfl (Light.quiet (opInt rfl rfl rfl rfl)) ?_
    refine ASL.done ?_
    refine AWP.seq ?_
    refine AWP.ifP hF rfl (fun hc12 hF => ?_) (fun hc12 hF => ?_)
    · skip
      refine AWP.skip ?_
      refine QThen.nrm ?_
      refine AWP.seq ?_
      refine AWP.block ?_
      refine AWP.seqR rfl ?_
      refine ASL.q (v := (.int .i64 x14_l0)) rfl rfl (Light.quiet (opMove rfl rfl)) ?_
      obtain ⟨a17, ha17, hF⟩ := bindE hF
      refine ASL.q (v := (.rptr [(.int .i64 a17.kind), (.int .i64 a17.a), (.int .i64 a17.b)])) rfl rfl (Light.quiet (kIx (f := TNode.av) ha17 rfl rfl rfl elemA_24 sizeA_31 rfl)) ?_
      refine ASL.q (v := (TNode.av a17)) rfl rfl (Light.quiet (opLoadRA rfl aggA_31 sizeA_31 rfl (nlt rfl) rfl)) ?_
      refine ASL.x rfl rfl (hNewZ hS [(.int .i64 0), (.int .i64 0), (.int .i64 0)] rfl zeroA_31 ⟨.inl rfl, .inl rfl, .inl rfl, trivial⟩ ?_); rintro b7 G13 hK hS
      refine ASL.q (v := (.int .i64 x14_l0)) rfl rfl (Light.quiet (opAssign rfl rfl)) ?_
      refine ASL.n rfl rfl (hPutA hS (j := 0) rfl rfl sizeA_31 rfl rfl rfl rfl rfl (nlt rfl) ?_); rintro G15 hS
      refine ASL.done ?_
      refine AWP.seqR rfl ?_
      refine ASL.q (v := (.ptr b7 0)) rfl rfl (Light.quiet (opFieldAddr rfl fieldA_31_0 rfl rfl)) ?_
      refine ASL.q (v := (.int .i64 a17.kind)) rfl rfl (Light.quiet (kAt hS (j := 0) rfl rfl aggA_3 rfl rfl)) ?_
      obtain ⟨a21, ha21, hF⟩ := bindE hF
      refine ASL.q (v := (.str a21)) rfl rfl ((qCall rfl rfl call_86 (impl_signOf_ok ha21) rfl)) ?_
      refine ASL.q (v := (.str a21)) rfl rfl (Light.quiet (opAssign rfl rfl)) ?_
      refine ASL.done ?_
      refine AWP.seqR rfl ?_
      refine ASL.q (v := (.fn (.func k1) [] [])) rfl rfl (Light.quiet (opMove rfl rfl)) ?_
      refine ASL.q (v := (TNode.av a17)) rfl rfl (Light.quiet (kAtA hS (j := 0) rfl rfl aggA_31 sizeA_31 rfl (nlt rfl) rfl)) ?_
      obtain ⟨a24, ha24, hF⟩ := bindE hF
      refine ASL.q (v := (.int .i64 a24)) rfl rfl ((qCall rfl rfl hcal1 ((hg1 _ _) ha24) rfl)) ?_
      refine ASL.done ?_
      refine AWP.block ?_
      refine AWP.seqR rfl ?_
      refine ASL.q (v := (.bool (decide (a24 = 0)))) rfl rfl (Light.quiet (opInt rfl rfl rfl rfl)) ?_
      refine ASL.q (v := (.bool (decide (a24 = 0)))) rfl rfl (Light.quiet (opAssign rfl rfl)) ?_
      refine ASL.done ?_
      refine AWP.ifP hF rfl (fun hc16 hF => ?_) (fun hc16 hF => ?_)
      · skip
        refine AWP.seqR rfl ?_
        refine ASL.q (v := v11) rfl rfl (Light.quiet (opMove rfl rfl)) ?_
        refine ASL.q (v := (.int .i64 x14_l0)) rfl rfl (Light.quiet (opMove rfl rfl)) ?_
        refine ASL.q (v := (.str a21)) rfl rfl (Light.quiet (opMove rfl rfl)) ?_
        obtain ⟨m48, hm48, hF⟩ := bindE hF
        refine ASL.q (v := (ptrTo v11 m48 1)) rfl rfl (Light.quiet (kIxO hS (j := 1) rfl hm48 rfl rfl rfl elemA_71 sizeA_9)) ?_
        refine ASL.n rfl rfl (hSt (f := AV.str) (a := a21) hS (j := 1) rfl hm48 rfl sizeA_9 rfl rfl ⟨rfl, rfl, rfl⟩ ?_); rintro G17 hS
        refine ASL.done ?_
        refine AWP.seqR rfl ?_
        refine ASL.q (v := (.ptr b7 0)) rfl rfl (Light.quiet (opFieldAddr rfl fieldA_31_0 rfl rfl)) ?_
        refine ASL.q (v := (.int .i64 a17.kind)) rfl rfl (Light.quiet (kAt hS (j := 0) rfl rfl aggA_3 rfl rfl)) ?_
        refine ASL.q (v := (.bool (decide (a17.kind = 3)))) rfl rfl (Light.quiet (opInt rfl rfl rfl rfl)) ?_
        refine ASL.done ?_
        refine AWP.ifP hF rfl (fun hc18 hF => ?_) (fun hc18 hF => ?_)
        · skip
          refine AWP.lastR rfl ?_
          refine ASL.q (v := v11) rfl rfl (Light.quiet (opMove rfl rfl)) ?_
          refine ASL.q (v := (.int .i64 x14_l0)) rfl rfl (Light.quiet (opMove rfl rfl)) ?_
          refine ASL.q (v := (.ptr b7 1)) rfl rfl (Light.quiet (opFieldAddr rfl fieldA_31_1 rfl rfl)) ?_
          refine ASL.q (v := (.int .i64 a17.a)) rfl rfl (Light.quiet (kAt hS (j := 0) rfl rfl aggA_3 rfl rfl)) ?_
          refine ASL.q (v := (.str (impl_digit a17.a))) rfl rfl ((qCall rfl rfl call_51 (impl_digit_ok a17.a) rfl)) ?_
          obtain ⟨m57, hm57, hF⟩ := bindE hF
          refine ASL.q (v := (ptrTo v11 m57 1)) rfl rfl (Light.quiet (kIxO hS (j := 1) rfl hm57 rfl rfl rfl elemA_71 sizeA_9)) ?_
          refine ASL.n rfl rfl (hSt (f := AV.str) (a := (impl_digit a17.a)) hS (j := 1) rfl hm57 rfl sizeA_9 rfl rfl ⟨rfl, rfl, rfl⟩ ?_); rintro G19 hS
          refine ASL.done ?_
          refine QBlock.nrm ?_
          refine QBlock.nrm ?_
          refine QThen.nrm ?_
          refine AWP.lastR rfl ?_
          refine ASL.q (v := (.int .i64 (W (x14_l0 + 1)))) rfl rfl (Light.quiet (opInt rfl rfl rfl rfl)) ?_
          refine ASL.q (v := (.int .i64 (W (x14_l0 + 1)))) rfl rfl (Light.quiet (opMove rfl rfl)) ?_
          refine ASL.done ?_
          refine QThen.nrm ?_
          exact ⟨((((y5.set m48 a21)).set m57 ((impl_digit a17.a))), (W (x14_l0 + 1))), (), (someE hF).symm, ⟨rfl, rfl, rfl, rfl, rfl, rfl, trivial⟩, (hS.pick [1] rfl rfl)⟩
        · skip
          refine AWP.skip ?_
          refine QBlock.nrm ?_
          refine QBlock.nrm ?_
          refine QThen.nrm ?_
          refine AWP.lastR rfl ?_
          refine ASL.q (v := (.int .i64 (W (x14_l0 + 1)))) rfl rfl (Light.quiet (opInt rfl rfl rfl rfl)) ?_
          refine ASL.q (v := (.int .i64 (W (x14_l0 + 1)))) rfl rfl (Light.quiet (opMove rfl rfl)) ?_
          refine ASL.done ?_
          refine QThen.nrm ?_
          exact ⟨((y5.set m48 a21), (W (x14_l0 + 1))), (), (someE hF).symm, ⟨rfl, rfl, rfl, rfl, rfl, rfl, trivial⟩, (hS.pick [1] rfl rfl)⟩
      · skip
        refine AWP.seqR rfl ?_
        refine ASL.q (v := (.bool (decide (a24 = 1)))) rfl rfl (Light.quiet (opInt rfl rfl rfl rfl)) ?_
        refine ASL.q (v := (.bool (decide (a24 = 1)))) rfl rfl (Light.quiet (opAssign rfl rfl)) ?_
        refine ASL.done ?_
        refine AWP.ifP hF rfl (fun hc20 hF => ?_) (fun hc20 hF => ?_)
        · skip
          refine AWP.lastR rfl ?_
          refine ASL.q (v := v11) rfl rfl (Light.quiet (opMove rfl rfl)) ?_
          refine ASL.q (v := (.int .i64 x14_l0)) rfl rfl (Light.quiet (opMove rfl rfl)) ?_
          refine ASL.q (v := (.str a21)) rfl rfl (Light.quiet (opMove rfl rfl)) ?_
          refine ASL.q (v := v11) rfl rfl (Light.quiet (opMove rfl rfl)) ?_
          refine ASL.q (v := (.ptr b7 1)) rfl rfl (Light.quiet (opFieldAddr rfl fieldA_31_1 rfl rfl)) ?_
          refine ASL.q (v := (.int .i64 a17.a)) rfl rfl (Light.quiet (kAt hS (j := 0) rfl rfl aggA_3 rfl rfl)) ?_
          obtain ⟨a66, ha66, hF⟩ := bindE hF
          refine ASL.q (v := (ptrTo v11 a17.a.toNat 1)) rfl rfl (Light.quiet (kIxOx hS (j := 1) rfl ha66 rfl rfl rfl elemA_71 sizeA_9)) ?_
          refine ASL.q (v := (.str a66)) rfl rfl (Light.quiet (kLd (f := AV.str) hS (j := 1) rfl ha66 rfl aggA_9 rfl (fun _ => rfl))) ?_
          obtain ⟨a68, ha68, hF⟩ := bindE hF
          refine ASL.q (v := (.str a68)) rfl rfl (Light.quiet (opCat ha68 rfl rfl rfl)) ?_
          obtain ⟨m69, hm69, hF⟩ := bindE hF
          refine ASL.q (v := (ptrTo v11 m69 1)) rfl rfl (Light.quiet (kIxO hS (j := 1) rfl hm69 rfl rfl rfl elemA_71 sizeA_9)) ?_
          refine ASL.n rfl rfl (hSt (f := AV.str) (a := a68) hS (j := 1) rfl hm69 rfl sizeA_9 rfl rfl ⟨rfl, rfl, rfl⟩ ?_); rintro G21 hS
          refine ASL.done ?_
          refine QBlock.nrm ?_
          refine QBlock.nrm ?_
          refine QThen.nrm ?_
          refine AWP.lastR rfl ?_
          refine ASL.q (v := (.int .i64 (W (x14_l0 + 1)))) rfl rfl (Light.quiet (opInt rfl rfl rfl rfl)) ?_
          refine ASL.q (v := (.int .i64 (W (x14_l0 + 1)))) rfl rfl (Light.quiet (opMove rfl rfl)) ?_
          refine ASL.done ?_
          refine QThen.nrm ?_
          exact ⟨((y5.set m69 a68), (W (x14_l0 + 1))), (), (someE hF).symm, ⟨rfl, rfl, rfl, rfl, rfl, rfl, trivial⟩, (hS.pick [1] rfl rfl)⟩
        · skip
          refine AWP.lastD [(0, false), (1, false), (2, false), (3, false), (4, false), (5, false), (6, false), (7, false), (8, false), (9, false), (10, false), (11, false), (12, false), (13, false), (14, false), (15, false), (16, false), (17, false), (18, true)] mixed (by kernel_rfl) rfl ?_
          refine ARL.q0 (v := v11) rfl rfl (Light.quiet (opMove rfl rfl)) ?_
          refine ARL.q0 (v := (.int .i64 x14_l0)) rfl rfl (Light.quiet (opMove rfl rfl)) ?_
          refine ARL.q0 (v := v11) rfl rfl (Light.quiet (opMove rfl rfl)) ?_
          refine ARL.q0 (v := (.ptr b7 1)) rfl rfl (Light.quiet (opFieldAddr rfl fieldA_31_1 rfl rfl)) ?_
          refine ARL.q (v := (.int .i64 a17.a)) rfl rfl (hS.aliveC (k := 0) rfl) (Light.quiet (kAt hS (j := 0) rfl rfl aggA_3 rfl rfl)) ?_
          obtain ⟨a30, ha30, hF⟩ := bindE hF
          refine ARL.q0 (v := (ptrTo v11 a17.a.toNat 1)) rfl rfl (Light.quiet (kIxOx hS (j := 1) rfl ha30 rfl rfl rfl elemA_71 sizeA_9)) ?_
          refine ARL.q (v := (.str a30)) rfl rfl (hS.aliveR (k := 1) rfl) (Light.quiet (kLd (f := AV.str) hS (j := 1) rfl ha30 rfl aggA_9 rfl (fun _ => rfl))) ?_
          obtain ⟨a32, ha32, hF⟩ := bindE hF
          refine ARL.q0 (v := (.str a32)) rfl rfl (Light.quiet (opCat ha32 rfl rfl rfl)) ?_
          refine ARL.q0 (v := (.str a21)) rfl rfl (Light.quiet (opMove rfl rfl)) ?_
          obtain ⟨a34, ha34, hF⟩ := bindE hF
          refine ARL.q0 (v := (.str a34)) rfl rfl (Light.quiet (opCat ha34 rfl rfl rfl)) ?_
          refine ARL.q0 (v := v11) rfl rfl (Light.quiet (opMove rfl rfl)) ?_
          refine ARL.q0 (v := (.ptr b7 2)) rfl rfl (Light.quiet (opFieldAddr rfl fieldA_31_2 rfl rfl)) ?_
          refine ARL.q (v := (.int .i64 a17.b)) rfl rfl (hS.aliveC (k := 0) rfl) (Light.quiet (kAt hS (j := 0) rfl rfl aggA_3 rfl rfl)) ?_
          obtain ⟨a38, ha38, hF⟩ := bindE hF
          refine ARL.q0 (v := (ptrTo v11 a17.b.toNat 1)) rfl rfl (Light.quiet (kIxOx hS (j := 1) rfl ha38 rfl rfl rfl elemA_71 sizeA_9)) ?_
          refine ARL.q (v := (.str a38)) rfl rfl (hS.aliveR (k := 1) rfl) (Light.quiet (kLd (f := AV.str) hS (j := 1) rfl ha38 rfl aggA_9 rfl (fun _ => rfl))) ?_
          obtain ⟨a40, ha40, hF⟩ := bindE hF
          refine ARL.q0 (v := (.str a40)) rfl rfl (Light.quiet (opCat ha40 rfl rfl rfl)) ?_
          obtain ⟨a41, ha41, hF⟩ := bindE hF
          refine ARL.q0 (v := (.str a41)) rfl rfl (Light.quiet (opCat ha41 rfl rfl rfl)) ?_
          obtain ⟨m42, hm42, hF⟩ := bindE hF
          refine ARL.q0 (v := (ptrTo v11 m42 1)) rfl rfl (Light.quiet (kIxO hS (j := 1) rfl hm42 rfl rfl rfl elemA_71 sizeA_9)) ?_
          refine ARL.n rfl rfl rfl rfl (hSt (f := AV.str) (a := a41) hS (j := 1) rfl hm42 rfl sizeA_9 rfl rfl ⟨rfl, rfl, rfl⟩ ?_); rintro G22 hS
          refine ARL.done ?_
          refine QBlock.nrm ?_
          refine QBlock.nrm ?_
          refine QThen.nrm ?_
          refine AWP.lastR rfl ?_
          refine ASL.q (v := (.int .i64 (W (x14_l0 + 1)))) rfl rfl (Light.quiet (opInt rfl rfl rfl rfl)) ?_
          refine ASL.q (v := (.int .i64 (W (x14_l0 + 1)))) rfl rfl (Light.quiet (opMove rfl rfl)) ?_
          refine ASL.done ?_
          refine QThen.nrm ?_
          exact ⟨((y5.set m42 a41), (W (x14_l0 + 1))), (), (someE hF).symm, ⟨rfl, rfl, rfl, rfl, rfl, rfl, trivial⟩, (hS.pick [1] rfl rfl)⟩
    · skip
      refine AWP.exit ?_
      refine QThen.ext ?_
      refine QThen.ext ?_
      refine QBlock.hit ?_
      obtain rfl := (hx7 _ (someE hF).symm)
      have hF := hR10
      refine QThen.nrm ?_
      exact ⟨y5, ⟨rfl, rfl, trivial⟩, (hS.pick [0] rfl rfl), hF⟩

set_option maxRecDepth 10000 in
theorem impl_ExprPrint_ok {p0 : (List TNode)} {r : ByteArray} (hF : impl_ExprPrint p0 = some r) : PC Try.prog 25 [(.list 3 (List.map TNode.av p0))] fun v => v = (.str r) := by
  refine PC.enter Try.func25 rfl Try.ntmps25 (by simp) ?_
  have hS := Sep.void; unfold impl_ExprPrint at hF
  refine AWP.seqR rfl ?_
  refine ASL.q (v := (.str { data := #[] })) rfl rfl (Light.quiet (opAssign rfl rfl)) ?_
  refine ASL.done ?_
  refine AWP.seq ?_
  refine AWP.seqR rfl ?_
  refine ASL.q (v := (.list 3 (List.map TNode.av p0))) rfl rfl (Light.quiet (opMove rfl rfl)) ?_
  obtain ⟨a4, ha4, hF⟩ := bindE hF
  refine ASL.q (v := (.bool a4)) rfl rfl ((qCall rfl rfl call_27 (impl_ExprOk_ok ha4) rfl)) ?_
  refine ASL.q (v := (.bool (!a4))) rfl rfl (Light.quiet (opNot rfl rfl)) ?_
  refine ASL.done ?_
  refine AWP.ifB hF rfl (fun hc1 hF => ?_) (fun hc1 hF => ?_)
  · skip
    refine AWP.seqR rfl ?_
    refine ASL.q (v := (.str { data := #[] })) rfl rfl (Light.quiet (opAssign rfl rfl)) ?_
    refine ASL.done ?_
    refine AWP.ret ?_
    refine QThen.rt ?_
    obtain rfl := someE hF
    exact QRet.sole (v := (.str { data := #[] })) ⟨rfl, trivial⟩ rfl
  · skip
    refine AWP.skip ?_
    refine QThen.nrm ?_
    refine AWP.seqR rfl ?_
    refine ASL.q (v := (.list 3 (List.map TNode.av p0))) rfl rfl (Light.quiet (opMove rfl rfl)) ?_
    obtain ⟨a7, ha7, hF⟩ := bindE hF
    refine ASL.q (v := (.str a7)) rfl rfl ((qCall rfl rfl call_60 (impl_printed_ok call_61 (fun q0 y h => by obtain rfl := someE h; exact impl_exprParts_ok q0) ha7) rfl)) ?_
    refine ASL.q (v := (.str a7)) rfl rfl (Light.quiet (opAssign rfl rfl)) ?_
    refine ASL.done ?_
    refine AWP.ret ?_
    obtain rfl := someE hF
    exact QRet.sole (v := (.str a7)) ⟨rfl, trivial⟩ rfl

set_option maxRecDepth 10000 in
theorem spec_l2Parts_ok (p0 : Int) : PC Try.prog 62 [(.int .i64 p0)] fun v => v = (.int .i64 (spec_l2Parts p0)) := by
  generalize hF : spec_l2Parts p0 = r
  refine PC.enter Try.func62 rfl Try.ntmps62 (by simp) ?_
  have hS := Sep.void; unfold spec_l2Parts at hF
  refine AWP.seqR rfl ?_
  refine ASL.q (v := (.int .i64 0)) rfl rfl (Light.quiet (opAssign rfl rfl)) ?_
  refine ASL.done ?_
  refine AWP.seq ?_
  refine AWP.seqR rfl ?_
  refine ASL.q (v := (.int .i64 p0)) rfl rfl (Light.quiet (opMove rfl rfl)) ?_
  refine ASL.done ?_
  refine AWP.block ?_
  refine AWP.seqM (fun e H => ∃ x4_1 : Bool, E.Told e [(3, (.int .i64 p0)), (4, (.bool x4_1))] ∧ E.Sep H [] ∧ spec_l2Parts.k0 p0 x4_1 = r) ?_ ?_
  · rintro e0 G6 ⟨x4_1, hT, hS, hF⟩; refine AWP.only _ hT ?_; unfold spec_l2Parts.k0 at hF
    refine AWP.ifB hF rfl (fun hc1 hF => ?_) (fun hc1 hF => ?_)
    · skip
      refine AWP.seqR rfl ?_
      refine ASL.q (v := (.int .i64 0)) rfl rfl (Light.quiet (opAssign rfl rfl)) ?_
      refine ASL.done ?_
      refine AWP.ret ?_
      refine QBlock.ret ?_
      refine QThen.rt ?_
      obtain rfl := hF
      exact QRet.sole (v := (.int .i64 0)) ⟨rfl, trivial⟩ rfl
    · skip
      refine AWP.seqR rfl ?_
      refine ASL.q (v := (.bool (decide (p0 = 4)))) rfl rfl (Light.quiet (opInt rfl rfl rfl rfl)) ?_
      refine ASL.q (v := (.bool (decide (p0 = 4)))) rfl rfl (Light.quiet (opAssign rfl rfl)) ?_
      refine ASL.done ?_
      refine AWP.ifP hF rfl (fun hc2 hF => ?_) (fun hc2 hF => ?_)
      · skip
        refine AWP.seqR rfl ?_
        refine ASL.q (v := (.int .i64 1)) rfl rfl (Light.quiet (opAssign rfl rfl)) ?_
        refine ASL.done ?_
        refine AWP.ret ?_
        refine QBlock.ret ?_
        refine QThen.rt ?_
        obtain rfl := hF
        exact QRet.sole (v := (.int .i64 1)) ⟨rfl, trivial⟩ rfl
      · skip
        refine AWP.seq ?_
        refine AWP.seqR rfl ?_
        refine ASL.q (v := (.bool (decide (p0 = 5)))) rfl rfl (Light.quiet (opInt rfl rfl rfl rfl)) ?_
        refine ASL.q (v := (.bool (decide (p0 = 5)))) rfl rfl (Light.quiet (opAssign rfl rfl)) ?_
        refine ASL.done ?_
        refine AWP.ifP hF rfl (fun hc3 hF => ?_) (fun hc3 hF => ?_)
        · skip
          refine AWP.skip ?_
          refine QThen.nrm ?_
          refine AWP.ifP hF rfl (fun hc4 hF => ?_) (fun hc4 hF => ?_)
          · skip
            refine AWP.seqR rfl ?_
            refine ASL.q (v := (.int .i64 2)) rfl rfl (Light.quiet (opAssign rfl rfl)) ?_
            refine ASL.done ?_
            refine AWP.ret ?_
            refine QBlock.ret ?_
            refine QThen.rt ?_
            obtain rfl := hF
            exact QRet.sole (v := (.int .i64 2)) ⟨rfl, trivial⟩ rfl
          · skip
            refine AWP.skip ?_
            refine QBlock.nrm ?_
            refine QThen.nrm ?_
            refine AWP.seqR rfl ?_
            refine ASL.q (v := (.int .i64 (-1))) rfl rfl (Light.quiet (opAssign rfl rfl)) ?_
            refine ASL.done ?_
            refine AWP.ret ?_
            obtain rfl := hF
            exact QRet.sole (v := (.int .i64 (-1))) ⟨rfl, trivial⟩ rfl
        · skip
          refine AWP.lastR rfl ?_
          refine ASL.q (v := (.bool (decide (p0 = 6)))) rfl rfl (Light.quiet (opInt rfl rfl rfl rfl)) ?_
          refine ASL.q (v := (.bool (decide (p0 = 6)))) rfl rfl (Light.quiet (opAssign rfl rfl)) ?_
          refine ASL.done ?_
          refine QThen.nrm ?_
          refine AWP.ifP hF rfl (fun hc5 hF => ?_) (fun hc5 hF => ?_)
          · skip
            refine AWP.seqR rfl ?_
            refine ASL.q (v := (.int .i64 2)) rfl rfl (Light.quiet (opAssign rfl rfl)) ?_
            refine ASL.done ?_
            refine AWP.ret ?_
            refine QBlock.ret ?_
            refine QThen.rt ?_
            obtain rfl := hF
            exact QRet.sole (v := (.int .i64 2)) ⟨rfl, trivial⟩ rfl
          · skip
            refine AWP.skip ?_
            refine QBlock.nrm ?_
            refine QThen.nrm ?_
            refine AWP.seqR rfl ?_
            refine ASL.q (v := (.int .i64 (-1))) rfl rfl (Light.quiet (opAssign rfl rfl)) ?_
            refine ASL.done ?_
            refine AWP.ret ?_
            obtain rfl := hF
            exact QRet.sole (v := (.int .i64 (-1))) ⟨rfl, trivial⟩ rfl
  · skip
    refine AWP.seqR rfl ?_
    refine ASL.q (v := (.bool (decide (p0 = 1)))) rfl rfl (Light.quiet (opInt rfl rfl rfl rfl)) ?_
    refine ASL.q (v := (.bool (decide (p0 = 1)))) rfl rfl (Light.quiet (opAssign rfl rfl)) ?_
    refine ASL.done ?_
    refine AWP.ifP hF rfl (fun hc7 hF => ?_) (fun hc7 hF => ?_)
    · skip
      refine AWP.skip ?_
      refine QThen.nrm ?_
      exact ⟨(decide (p0 = 1)), ⟨rfl, rfl, trivial⟩, (hS.pick [] rfl rfl), hF⟩
    · skip
      refine AWP.seqR rfl ?_
      refine ASL.q (v := (.bool (decide (p0 = 2)))) rfl rfl (Light.quiet (opInt rfl rfl rfl rfl)) ?_
      refine ASL.q (v := (.bool (decide (p0 = 2)))) rfl rfl (Light.quiet (opAssign rfl rfl)) ?_
      refine ASL.done ?_
      refine AWP.ifP hF rfl (fun hc8 hF => ?_) (fun hc8 hF => ?_)
      · skip
        refine AWP.skip ?_
        refine QThen.nrm ?_
        exact ⟨(decide (p0 = 2)), ⟨rfl, rfl, trivial⟩, (hS.pick [] rfl rfl), hF⟩
      · skip
        refine AWP.lastR rfl ?_
        refine ASL.q (v := (.bool (decide (p0 = 3)))) rfl rfl (Light.quiet (opInt rfl rfl rfl rfl)) ?_
        refine ASL.q (v := (.bool (decide (p0 = 3)))) rfl rfl (Light.quiet (opAssign rfl rfl)) ?_
        refine ASL.done ?_
        refine QThen.nrm ?_
        exact ⟨(decide (p0 = 3)), ⟨rfl, rfl, trivial⟩, (hS.pick [] rfl rfl), hF⟩

set_option maxRecDepth 10000 in
theorem spec_l2Leaf_ok (p0 : TNode) : PC Try.prog 63 [(TNode.av p0)] fun v => v = (.bool (spec_l2Leaf p0)) := by
  generalize hF : spec_l2Leaf p0 = r
  refine PC.enter Try.func63 rfl Try.ntmps63 (by simp) ?_
  have hS := Sep.void; unfold spec_l2Leaf at hF
  refine AWP.seqR rfl ?_
  refine ASL.q (v := (.rptr [(.int .i64 p0.kind), (.int .i64 p0.a), (.int .i64 p0.b)])) rfl rfl ((qBoxI (v := (TNode.av p0)) rfl rfl rfl rfl)) ?_
  refine ASL.q (v := (.bool false)) rfl rfl (Light.quiet (opAssign rfl rfl)) ?_
  refine ASL.done ?_
  refine AWP.seq ?_
  refine AWP.seqR rfl ?_
  refine ASL.q (v := (.rptr [(.int .i64 p0.kind), (.int .i64 p0.a), (.int .i64 p0.b)])) rfl rfl (Light.quiet (opFieldAddrR rfl fieldA_31_0 rfl rfl)) ?_
  refine ASL.q (v := (.int .i64 p0.kind)) rfl rfl (Light.quiet (opLoadR rfl aggA_3 rfl rfl)) ?_
  refine ASL.q (v := (.bool (decide (p0.kind = 3)))) rfl rfl (Light.quiet (opInt rfl rfl rfl rfl)) ?_
  refine ASL.done ?_
  refine AWP.ifP hF rfl (fun hc1 hF => ?_) (fun hc1 hF => ?_)
  · skip
    refine AWP.seqR rfl ?_
    refine ASL.q (v := (.rptr [(.int .i64 p0.a), (.int .i64 p0.b)])) rfl rfl (Light.quiet (opFieldAddrR rfl fieldA_31_1 rfl rfl)) ?_
    refine ASL.q (v := (.int .i64 p0.a)) rfl rfl (Light.quiet (opLoadR rfl aggA_3 rfl rfl)) ?_
    refine ASL.q (v := (.bool (spec_l1In p0.a 0 2))) rfl rfl ((qCall rfl rfl call_36 (spec_l1In_ok p0.a 0 2) rfl)) ?_
    refine ASL.q (v := (.bool (spec_l1In p0.a 0 2))) rfl rfl (Light.quiet (opAssign rfl rfl)) ?_
    refine ASL.done ?_
    refine AWP.ret ?_
    refine QThen.rt ?_
    obtain rfl := hF
    exact QRet.sole (v := (.bool (spec_l1In p0.a 0 2))) ⟨rfl, trivial⟩ rfl
  · skip
    refine AWP.skip ?_
    refine QThen.nrm ?_
    refine AWP.seqR rfl ?_
    refine ASL.q (v := (.rptr [(.int .i64 p0.a), (.int .i64 p0.b)])) rfl rfl (Light.quiet (opFieldAddrR rfl fieldA_31_1 rfl rfl)) ?_
    refine ASL.q (v := (.int .i64 p0.a)) rfl rfl (Light.quiet (opLoadR rfl aggA_3 rfl rfl)) ?_
    refine ASL.q (v := (.bool (decide (p0.a = 0)))) rfl rfl (Light.quiet (opInt rfl rfl rfl rfl)) ?_
    refine ASL.q (v := (.bool (decide (p0.a = 0)))) rfl rfl (Light.quiet (opAssign rfl rfl)) ?_
    refine ASL.done ?_
    refine AWP.ret ?_
    obtain rfl := hF
    exact QRet.sole (v := (.bool (decide (p0.a = 0)))) ⟨rfl, trivial⟩ rfl

set_option maxRecDepth 10000 in
theorem spec_ExprOk_ok {p0 : (List TNode)} {r : Bool} (hF : spec_ExprOk p0 = some r) : PC Try.prog 26 [(.list 3 (List.map TNode.av p0))] fun v => v = (.bool r) := by
  refine PC.enter Try.func26 rfl Try.ntmps26 (by simp) ?_
  have hS := Sep.void; unfold spec_ExprOk at hF
  refine AWP.seqR rfl ?_
  refine ASL.q (v := (.bool false)) rfl rfl (Light.quiet (opAssign rfl rfl)) ?_
  refine ASL.done ?_
  refine AWP.seq ?_
  refine AWP.seqR rfl ?_
  refine ASL.q (v := (.list 3 (List.map TNode.av p0))) rfl rfl (Light.quiet (opMove rfl rfl)) ?_
  refine ASL.q (v := (.int .i64 (p0.length : Int))) rfl rfl (Light.quiet (opLenMap (f := TNode.av) rfl rfl rfl lenT_24 rfl)) ?_
  refine ASL.q (v := (.bool (spec_l1In ((p0.length : Int)) 1 31))) rfl rfl ((qCall rfl rfl call_36 (spec_l1In_ok ((p0.length : Int)) 1 31) rfl)) ?_
  refine ASL.q (v := (.bool (!(spec_l1In ((p0.length : Int)) 1 31)))) rfl rfl (Light.quiet (opNot rfl rfl)) ?_
  refine ASL.done ?_
  refine AWP.ifB hF rfl (fun hc1 hF => ?_) (fun hc1 hF => ?_)
  · skip
    refine AWP.seqR rfl ?_
    refine ASL.q (v := (.bool false)) rfl rfl (Light.quiet (opAssign rfl rfl)) ?_
    refine ASL.done ?_
    refine AWP.ret ?_
    refine QThen.rt ?_
    obtain rfl := someE hF
    exact QRet.sole (v := (.bool false)) ⟨rfl, trivial⟩ rfl
  · skip
    refine AWP.skip ?_
    refine QThen.nrm ?_
    refine AWP.seqR rfl ?_
    refine ASL.x rfl rfl (hLit (f := (AV.int .i64)) (zs := []) hS rfl rfl elemA_25 sizeA_3 zeroA_3 rfl rfl rfl rfl (by simp [cells]) (nlt rfl) ?_); rintro v11 G2 hK hS
    refine ASL.q (v := v11) rfl rfl (Light.quiet (opAssign rfl rfl)) ?_
    refine ASL.done ?_
    refine AWP.seqM (fun e H => ∃ y4 : (List Int), ∃ w5 : AV, E.Told e [(0, (.list 3 (List.map TNode.av p0))), (3, w5)] ∧ E.Sep H [.row 1 w5 (List.map (AV.int .i64) y4)] ∧ spec_ExprOk.k0 p0 y4 = some r) ?_ ?_
    · rintro e0 G7 ⟨y4, w5, hT, hS, hF⟩; refine AWP.only _ hT ?_; unfold spec_ExprOk.k0 at hF
      refine AWP.seqR rfl ?_
      refine ASL.q (v := (.list 3 (List.map TNode.av p0))) rfl rfl (Light.quiet (opMove rfl rfl)) ?_
      refine ASL.q (v := w5) rfl rfl (Light.quiet (opMove rfl rfl)) ?_
      obtain ⟨a44, ha44, hF⟩ := bindE hF
      refine ASL.q (v := (.list 1 (List.map (AV.int .i64) a44))) rfl rfl ((qCallRL hS rfl rfl call_39 (spec_l2Sizes_ok ha44) ⟨.same _, .row (k := 0) rfl, trivial⟩ (Scal.ints _ _))) ?_
      refine ASL.q (v := (.list 1 (List.map (AV.int .i64) a44))) rfl rfl (Light.quiet (opAssign rfl rfl)) ?_
      refine ASL.done ?_
      refine AWP.seqR rfl ?_
      refine ASL.q (v := (.list 1 (List.map (AV.int .i64) a44))) rfl rfl (Light.quiet (opMove rfl rfl)) ?_
      refine ASL.q (v := (.int .i64 (a44.length : Int))) rfl rfl (Light.quiet (opLenMap (f := (AV.int .i64)) rfl rfl rfl lenT_25 rfl)) ?_
      refine ASL.q (v := (.list 3 (List.map TNode.av p0))) rfl rfl (Light.quiet (opMove rfl rfl)) ?_
      refine ASL.q (v := (.int .i64 (p0.length : Int))) rfl rfl (Light.quiet (opLenMap (f := TNode.av) rfl rfl rfl lenT_24 rfl)) ?_
      refine ASL.q (v := (.bool (decide (((a44.length : Int)) = ((p0.length : Int)))))) rfl rfl (Light.quiet (opInt rfl rfl rfl rfl)) ?_
      obtain ⟨c50, hc50, hF⟩ := bndE hF
      refine ASL.q (v := (.bool c50)) rfl rfl ((Quiet.cast (Light.quiet (opMove rfl rfl)) (congrArg AV.bool hc50.symm))) ?_
      refine ASL.g (v := (.list 1 (List.map (AV.int .i64) a44))) (.bool c50) true rfl (wT _) rfl (fun hG => by have q0 := hG; subst q0; exact Light.quiet (opMove rfl rfl)) ?_
      refine ASL.g (v := (.list 3 (List.map TNode.av p0))) (.bool c50) true rfl (wT _) rfl (fun hG => by have q0 := hG; subst q0; exact Light.quiet (opMove rfl rfl)) ?_
      refine ASL.g (v := (.int .i64 (p0.length : Int))) (.bool c50) true rfl (wT _) rfl (fun hG => by have q0 := hG; subst q0; exact Light.quiet (opLenMap (f := TNode.av) rfl rfl rfl lenT_24 rfl)) ?_
      refine ASL.g (v := (.int .i64 (W (((p0.length : Int)) - 1)))) (.bool c50) true rfl (wT _) rfl (fun hG => by have q0 := hG; subst q0; exact Light.quiet (opInt rfl rfl rfl rfl)) ?_
      obtain ⟨a55, ha55, hF⟩ := bindE hF
      refine ASL.g (v := (.rptr [(.int .i64 a55)])) (.bool c50) true rfl (wT _) rfl (fun hG => by have q0 := hG; subst q0; exact Light.quiet (kIx (f := (AV.int .i64)) (whenE ha55) rfl rfl rfl elemA_25 sizeA_3 rfl)) ?_
      refine ASL.g (v := (.int .i64 a55)) (.bool c50) true rfl (wT _) rfl (fun hG => by have q0 := hG; subst q0; exact Light.quiet (opLoadR rfl aggA_3 rfl rfl)) ?_
      refine ASL.g (v := (.list 3 (List.map TNode.av p0))) (.bool c50) true rfl (wT _) rfl (fun hG => by have q0 := hG; subst q0; exact Light.quiet (opMove rfl rfl)) ?_
      refine ASL.g (v := (.int .i64 (p0.length : Int))) (.bool c50) true rfl (wT _) rfl (fun hG => by have q0 := hG; subst q0; exact Light.quiet (opLenMap (f := TNode.av) rfl rfl rfl lenT_24 rfl)) ?_
      refine ASL.g (v := (.bool (decide (a55 = ((p0.length : Int)))))) (.bool c50) true rfl (wT _) rfl (fun hG => by have q0 := hG; subst q0; exact Light.quiet (opInt rfl rfl rfl rfl)) ?_
      refine ASL.q (v := (.bool (c50 && (decide (a55 = ((p0.length : Int))))))) rfl rfl (Light.quiet (opPick (b := c50) rfl rfl (by cases c50 <;> rfl))) ?_
      refine ASL.q (v := (.bool (c50 && (decide (a55 = ((p0.length : Int))))))) rfl rfl (Light.quiet (opAssign rfl rfl)) ?_
      refine ASL.done ?_
      refine AWP.ret ?_
      obtain rfl := someE hF
      exact QRet.sole (v := (.bool (c50 && (decide (a55 = ((p0.length : Int))))))) ⟨rfl, trivial⟩ rfl
    · skip
      refine AWP.seqR rfl ?_
      refine ASL.q (v := (.int .i64 0)) rfl rfl (Light.quiet (opAssign rfl rfl)) ?_
      refine ASL.done ?_
      refine AWP.block ?_
      obtain ⟨o14, hL13, hR15⟩ := bindE hF
      refine AWP.loopF (ω := AV) hL13 (fun s w => [(0, (.list 3 (List.map TNode.av p0))), (3, w), (4, (.int .i64 s.2))]) (fun s w => [.row 1 w (List.map (AV.int .i64) s.1)]) v11 ⟨rfl, rfl, rfl, trivial⟩ (hS.pick [0] rfl rfl) ?_
      rintro ⟨y8, x4_l0⟩ w9 G16 hS x11 hF hx12
      try dsimp only at hS ⊢
      have hF : spec_ExprOk.b0 p0 y8 x4_l0 = some x11 := hF; unfold spec_ExprOk.b0 at hF
      refine AWP.seq ?_
      refine AWP.seqR rfl ?_
      refine ASL.q (v := (.int .i64 x4_l0)) rfl rfl (Light.quiet (opMove rfl rfl)) ?_
      refine ASL.q (v := (.list 3 (List.map TNode.av p0))) rfl rfl (Light.quiet (opMove rfl rfl)) ?_
      refine ASL.q (v := (.int .i64 (p0.length : Int))) rfl rfl (Light.quiet (opLenMap (f := TNode.av) rfl rfl rfl lenT_24 rfl)) ?_
      refine ASL.q (v := (.bool (decide (x4_l0 < ((p0.length : Int)))))) rfl rfl (Light.quiet (opInt rfl rfl rfl rfl)) ?_
      refine ASL.done ?_
      refine AWP.ifP hF rfl (fun hc17 hF => ?_) (fun hc17 hF => ?_)
      · skip
        refine AWP.skip ?_
        refine QThen.nrm ?_
        refine AWP.seq ?_
        refine AWP.block ?_
        refine AWP.seqR rfl ?_
        refine ASL.q (v := (.list 3 (List.map TNode.av p0))) rfl rfl (Light.quiet (opMove rfl rfl)) ?_
        refine ASL.q (v := (.int .i64 x4_l0)) rfl rfl (Light.quiet (opMove rfl rfl)) ?_
        obtain ⟨a20, ha20, hF⟩ := bindE hF
        refine ASL.q (v := (.rptr [(.int .i64 a20.kind), (.int .i64 a20.a), (.int .i64 a20.b)])) rfl rfl (Light.quiet (kIx (f := TNode.av) ha20 rfl rfl rfl elemA_24 sizeA_31 rfl)) ?_
        refine ASL.q (v := (.rptr [(.int .i64 a20.kind), (.int .i64 a20.a), (.int .i64 a20.b)])) rfl rfl (Light.quiet (opFieldAddrR rfl fieldA_31_0 rfl rfl)) ?_
        refine ASL.q (v := (.int .i64 a20.kind)) rfl rfl (Light.quiet (opLoadR rfl aggA_3 rfl rfl)) ?_
        refine ASL.q (v := (.int .i64 (spec_l2Parts a20.kind))) rfl rfl ((qCall rfl rfl call_62 (spec_l2Parts_ok a20.kind) rfl)) ?_
        refine ASL.q (v := (.int .i64 (spec_l2Parts a20.kind))) rfl rfl (Light.quiet (opAssign rfl rfl)) ?_
        refine ASL.done ?_
        refine AWP.seq ?_
        refine AWP.seqR rfl ?_
        refine ASL.q (v := (.int .i64 (spec_l2Parts a20.kind))) rfl rfl (Light.quiet (opMove rfl rfl)) ?_
        refine ASL.q (v := (.bool (decide (((spec_l2Parts a20.kind)) < 0)))) rfl rfl (Light.quiet (opInt rfl rfl rfl rfl)) ?_
        obtain ⟨c26, hc26, hF⟩ := bndE hF
        refine ASL.q (v := (.bool c26)) rfl rfl ((Quiet.cast (Light.quiet (opMove rfl rfl)) (congrArg AV.bool hc26.symm))) ?_
        refine ASL.g (v := (.int .i64 (spec_l2Parts a20.kind))) (.bool c26) false rfl (wF _) rfl (fun hG => by have q0 := gN hG; subst q0; exact Light.quiet (opMove rfl rfl)) ?_
        refine ASL.g (v := (.bool (decide (((spec_l2Parts a20.kind)) = 0)))) (.bool c26) false rfl (wF _) rfl (fun hG => by have q0 := gN hG; subst q0; exact Light.quiet (opInt rfl rfl rfl rfl)) ?_
        obtain ⟨c29, hc29, hF⟩ := bndE hF
        refine ASL.g (v := (.bool c29)) (.bool c26) false rfl (wF _) rfl (fun hG => by have q0 := gN hG; subst q0; exact (Quiet.cast (Light.quiet (opMove rfl rfl)) (congrArg AV.bool hc29.symm))) ?_
        refine ASL.g (v := (.list 3 (List.map TNode.av p0))) (bif (!c26) then (.bool c29) else .tup []) true rfl (wGT _ _) rfl (fun hG => by have q0 := gN (gA1 hG); have q1 := gA2 hG; subst q0; subst q1; exact Light.quiet (opMove rfl rfl)) ?_
        refine ASL.g (v := (.int .i64 x4_l0)) (bif (!c26) then (.bool c29) else .tup []) true rfl (wGT _ _) rfl (fun hG => by have q0 := gN (gA1 hG); have q1 := gA2 hG; subst q0; subst q1; exact Light.quiet (opMove rfl rfl)) ?_
        obtain ⟨a32, ha32, hF⟩ := bindE hF
        refine ASL.g (v := (.rptr [(.int .i64 a32.kind), (.int .i64 a32.a), (.int .i64 a32.b)])) (bif (!c26) then (.bool c29) else .tup []) true rfl (wGT _ _) rfl (fun hG => by have q0 := gN (gA1 hG); have q1 := gA2 hG; subst q0; subst q1; exact Light.quiet (kIx (f := TNode.av) (whenE ha32) rfl rfl rfl elemA_24 sizeA_31 rfl)) ?_
        refine ASL.g (v := (TNode.av a32)) (bif (!c26) then (.bool c29) else .tup []) true rfl (wGT _ _) rfl (fun hG => by have q0 := gN (gA1 hG); have q1 := gA2 hG; subst q0; subst q1; exact Light.quiet (opLoadRA rfl aggA_31 sizeA_31 rfl (nlt rfl) rfl)) ?_
        refine ASL.g (v := (.bool (spec_l2Leaf a32))) (bif (!c26) then (.bool c29) else .tup []) true rfl (wGT _ _) rfl (fun hG => by have q0 := gN (gA1 hG); have q1 := gA2 hG; subst q0; subst q1; exact (qCall rfl rfl call_63 (spec_l2Leaf_ok a32) rfl)) ?_
        refine ASL.g (v := (.bool (!(spec_l2Leaf a32)))) (bif (!c26) then (.bool c29) else .tup []) true rfl (wGT _ _) rfl (fun hG => by have q0 := gN (gA1 hG); have q1 := gA2 hG; subst q0; subst q1; exact Light.quiet (opNot rfl rfl)) ?_
        refine ASL.g (v := (.bool (c29 && (!(spec_l2Leaf a32))))) (.bool c26) false rfl (wF _) rfl (fun hG => by have q0 := gN hG; subst q0; exact Light.quiet (opPick (b := c29) rfl rfl (by cases c29 <;> rfl))) ?_
        refine ASL.q (v := (.bool (c26 || (c29 && (!(spec_l2Leaf a32)))))) rfl rfl (Light.quiet (opPick (b := c26) rfl rfl (by cases c26 <;> rfl))) ?_
        refine ASL.done ?_
        refine AWP.ifB hF rfl (fun hc18 hF => ?_) (fun hc18 hF => ?_)
        · skip
          refine AWP.seqR rfl ?_
          refine ASL.q (v := (.bool false)) rfl rfl (Light.quiet (opAssign rfl rfl)) ?_
          refine ASL.done ?_
          refine AWP.ret ?_
          refine QThen.rt ?_
          refine QBlock.ret ?_
          refine QThen.rt ?_
          refine QThen.rt ?_
          refine QBlock.ret ?_
          refine QThen.rt ?_
          obtain rfl := (hx12 _ (someE hF).symm)
          have hF := hR15
          have hF := sumR hF
          obtain rfl := someE hF
          exact QRet.sole (v := (.bool false)) ⟨rfl, trivial⟩ rfl
        · skip
          refine AWP.skip ?_
          refine QThen.nrm ?_
          refine AWP.lastR rfl ?_
          refine ASL.q (v := w9) rfl rfl (Light.quiet (opMove rfl rfl)) ?_
          refine ASL.q (v := (.int .i64 (spec_l2Parts a20.kind))) rfl rfl (Light.quiet (opMove rfl rfl)) ?_
          refine ASL.q (v := (.list 1 (List.map (AV.int .i64) [(spec_l2Parts a20.kind)]))) rfl rfl ((qLit (xs := [(.int .i64 (spec_l2Parts a20.kind))]) rfl elemA_25 sizeA_3 zeroA_3 rfl rfl rfl rfl (by simp [cells]) (nlt rfl))) ?_
          obtain ⟨z41, hz41, hF⟩ := bindE hF
          refine ASL.x rfl rfl (hApp (f := (AV.int .i64)) (ws := [(spec_l2Parts a20.kind)]) hS (j := 0) rfl hz41 rfl elemA_25 rfl sizeA_3 bytesA_3 zeroA_3 rfl rfl rfl (fun _ => rfl) ?_); rintro v41 G19 hS
          refine ASL.q (v := v41) rfl rfl (Light.quiet (opAssign rfl rfl)) ?_
          refine ASL.done ?_
          refine QBlock.nrm ?_
          refine QThen.nrm ?_
          refine AWP.lastR rfl ?_
          refine ASL.q (v := (.int .i64 x4_l0)) rfl rfl (Light.quiet (opMove rfl rfl)) ?_
          refine ASL.q (v := (.int .i64 (W (x4_l0 + 1)))) rfl rfl (Light.quiet (opInt rfl rfl rfl rfl)) ?_
          refine ASL.q (v := (.int .i64 (W (x4_l0 + 1)))) rfl rfl (Light.quiet (opAssign rfl rfl)) ?_
          refine ASL.done ?_
          refine QThen.nrm ?_
          exact ⟨(z41, (W (x4_l0 + 1))), v41, (someE hF).symm, ⟨rfl, rfl, rfl, trivial⟩, (hS.pick [0] rfl rfl)⟩
      · skip
        refine AWP.exit ?_
        refine QThen.ext ?_
        refine QThen.ext ?_
        refine QBlock.hit ?_
        obtain rfl := (hx12 _ (someE hF).symm)
        have hF := hR15
        have hF := sumL hF
        refine QThen.nrm ?_
        exact ⟨y8, w9, ⟨rfl, rfl, trivial⟩, (hS.pick [0] rfl rfl), hF⟩

set_option maxRecDepth 10000 in
theorem impl_plainAtom_ok {p0 : Treader} {g1 : (Treader → Option (Treader))} {r : Treader} {bp0 : Nat} {wp0_list : AV} {k1 : Nat} (hcal1 : callable Try.prog k1 = true) (hg1 : ∀ q0 y bq0 wq0_list, g1 q0 = some y → HS Try.prog k1 [(.ptr bq0 0)] [.cell bq0 [(.str q0.s), (.int .i64 q0.at_), (.int .i64 q0.code), wq0_list, .undef], .row 3 wq0_list (List.map TNode.av q0.list)] fun v L' => ∃ uq0_list : AV, v = .tup [] ∧ L' = [.cell bq0 [(.str y.s), (.int .i64 y.at_), (.int .i64 y.code), uq0_list, .undef], .row 3 uq0_list (List.map TNode.av y.list)]) (hF : impl_plainAtom p0 g1 = some r) : HS Try.prog 106 [(.ptr bp0 0), (.fn (.func k1) [] [])] [.cell bp0 [(.str p0.s), (.int .i64 p0.at_), (.int .i64 p0.code), wp0_list, .undef], .row 3 wp0_list (List.map TNode.av p0.list)] fun v L' => ∃ up0_list : AV, v = .tup [] ∧ L' = [.cell bp0 [(.str r.s), (.int .i64 r.at_), (.int .i64 r.code), up0_list, .undef], .row 3 up0_list (List.map TNode.av r.list)] := by
  intro H S hS
  refine HC.enter Try.func106 rfl Try.ntmps106 (by simp) ?_
  simp only [List.cons_append, List.nil_append] at hS
  unfold impl_plainAtom at hF
  refine AWP.seqR rfl ?_
  refine ASL.q (v := (.ptr bp0 0)) rfl rfl (Light.quiet (opMove rfl rfl)) ?_
  obtain ⟨a6, ha6, hF⟩ := bindE hF
  refine ASL.q (v := (.int .u8 a6)) rfl rfl ((qCallR hS rfl rfl call_101 (impl_reader_peek_ok ha6) ⟨RAS.cellL (k := 0) rfl ⟨.same _, .same _, .same _, .row (k := 1) rfl, .same _, trivial⟩, trivial⟩ (by constructor))) ?_
  refine ASL.q (v := (.int .u8 a6)) rfl rfl (Light.quiet (opAssign rfl rfl)) ?_
  refine ASL.done ?_
  refine AWP.block ?_
  refine AWP.seqR rfl ?_
  refine ASL.q (v := (.ptr bp0 0)) rfl rfl (Light.quiet (opMove rfl rfl)) ?_
  obtain ⟨a11, ha11, hF⟩ := bindE hF
  refine ASL.x rfl rfl (hCallS hS [0, 1, 2] (F := [.snap S]) rfl rfl rfl call_95 (impl_reader_skip_ok ha11) rfl rfl ?_); rintro _ _ G5 ⟨w3, rfl, rfl⟩ hS
  refine ASL.q (v := (.bool a11.1)) rfl rfl (Light.quiet (opAssign rfl rfl)) ?_
  refine ASL.done ?_
  refine AWP.ifB hF rfl (fun hc6 hF => ?_) (fun hc6 hF => ?_)
  · skip
    refine AWP.lastR rfl ?_
    refine ASL.q (v := (.ptr bp0 0)) rfl rfl (Light.quiet (opMove rfl rfl)) ?_
    refine ASL.q (v := (.fn (.func k1) [] [])) rfl rfl (Light.quiet (opMove rfl rfl)) ?_
    obtain ⟨a14, ha14, hF⟩ := bindE hF
    refine ASL.x rfl rfl (hCallS hS [0, 1, 2] (F := [.snap S]) rfl rfl rfl call_102 (impl_reader_bracket_ok hcal1 hg1 ha14) rfl rfl ?_); rintro _ _ G9 ⟨w7, rfl, rfl⟩ hS
    refine ASL.done ?_
    refine QBlock.nrm ?_
    refine QRet.end ?_
    obtain rfl := someE hF
    exact QRet.many (vs := []) trivial (by simp) ⟨_, ⟨w7, rfl, rfl⟩, hS.pick [0, 1, 2] rfl rfl⟩
  · skip
    refine AWP.seqR rfl ?_
    refine ASL.q (v := (.ptr bp0 0)) rfl rfl (Light.quiet (opMove rfl rfl)) ?_
    obtain ⟨a17, ha17, hF⟩ := bindE hF
    refine ASL.x rfl rfl (hCallS hS [0, 1, 2] (F := [.snap S]) rfl rfl rfl call_95 (impl_reader_skip_ok ha17) rfl rfl ?_); rintro _ _ G12 ⟨w10, rfl, rfl⟩ hS
    refine ASL.q (v := (.bool a17.1)) rfl rfl (Light.quiet (opAssign rfl rfl)) ?_
    refine ASL.done ?_
    refine AWP.ifB hF rfl (fun hc13 hF => ?_) (fun hc13 hF => ?_)
    · skip
      refine AWP.lastR rfl ?_
      refine ASL.q (v := (.ptr bp0 0)) rfl rfl (Light.quiet (opMove rfl rfl)) ?_
      obtain ⟨a19, ha19, hF⟩ := bindE hF
      refine ASL.x rfl rfl (hCallS hS [0, 1, 2] (F := [.snap S]) rfl rfl rfl call_103 (impl_reader_leaf_ok ha19) rfl rfl ?_); rintro _ _ G16 ⟨w14, rfl, rfl⟩ hS
      refine ASL.done ?_
      refine QBlock.nrm ?_
      refine QRet.end ?_
      obtain rfl := someE hF
      exact QRet.many (vs := []) trivial (by simp) ⟨_, ⟨w14, rfl, rfl⟩, hS.pick [0, 1, 2] rfl rfl⟩
    · skip
      refine AWP.seqR rfl ?_
      refine ASL.q (v := (.ptr bp0 0)) rfl rfl (Light.quiet (opMove rfl rfl)) ?_
      obtain ⟨a22, ha22, hF⟩ := bindE hF
      refine ASL.x rfl rfl (hCallS hS [0, 1, 2] (F := [.snap S]) rfl rfl rfl call_95 (impl_reader_skip_ok ha22) rfl rfl ?_); rintro _ _ G19 ⟨w17, rfl, rfl⟩ hS
      refine ASL.q (v := (.bool a22.1)) rfl rfl (Light.quiet (opAssign rfl rfl)) ?_
      refine ASL.done ?_
      refine AWP.ifB hF rfl (fun hc20 hF => ?_) (fun hc20 hF => ?_)
      · skip
        refine AWP.lastR rfl ?_
        refine ASL.q (v := (.ptr bp0 0)) rfl rfl (Light.quiet (opMove rfl rfl)) ?_
        obtain ⟨a24, ha24, hF⟩ := bindE hF
        refine ASL.x rfl rfl (hCallS hS [0, 1, 2] (F := [.snap S]) rfl rfl rfl call_103 (impl_reader_leaf_ok ha24) rfl rfl ?_); rintro _ _ G23 ⟨w21, rfl, rfl⟩ hS
        refine ASL.done ?_
        refine QBlock.nrm ?_
        refine QRet.end ?_
        obtain rfl := someE hF
        exact QRet.many (vs := []) trivial (by simp) ⟨_, ⟨w21, rfl, rfl⟩, hS.pick [0, 1, 2] rfl rfl⟩
      · skip
        refine AWP.seqR rfl ?_
        refine ASL.q (v := (.int .u8 a6)) rfl rfl (Light.quiet (opMove rfl rfl)) ?_
        refine ASL.q (v := (.bool (decide (a6 ≥ 48)))) rfl rfl (Light.quiet (opInt rfl rfl rfl rfl)) ?_
        obtain ⟨c28, hc28, hF⟩ := bndE hF
        refine ASL.q (v := (.bool c28)) rfl rfl ((Quiet.cast (Light.quiet (opMove rfl rfl)) (congrArg AV.bool hc28.symm))) ?_
        refine ASL.g (v := (.int .u8 a6)) (.bool c28) true rfl (wT _) rfl (fun hG => by have q0 := hG; subst q0; exact Light.quiet (opMove rfl rfl)) ?_
        refine ASL.g (v := (.bool (decide (a6 < 51)))) (.bool c28) true rfl (wT _) rfl (fun hG => by have q0 := hG; subst q0; exact Light.quiet (opInt rfl rfl rfl rfl)) ?_
        refine ASL.q (v := (.bool (c28 && (decide (a6 < 51))))) rfl rfl (Light.quiet (opPick (b := c28) rfl rfl (by cases c28 <;> rfl))) ?_
        refine ASL.q (v := (.bool (c28 && (decide (a6 < 51))))) rfl rfl (Light.quiet (opAssign rfl rfl)) ?_
        refine ASL.done ?_
        refine AWP.ifB hF rfl (fun hc24 hF => ?_) (fun hc24 hF => ?_)
        · skip
          refine AWP.seqR rfl ?_
          refine ASL.q (v := (.ptr bp0 0)) rfl rfl (Light.quiet (opMove rfl rfl)) ?_
          refine ASL.q (v := (.ptr bp0 0)) rfl rfl (Light.quiet (opNil rfl rfl rfl)) ?_
          refine ASL.q (v := (.ptr bp0 1)) rfl rfl (Light.quiet (opFieldAddr rfl fieldA_104_1 rfl rfl)) ?_
          refine ASL.q (v := (.int .i64 a22.2.at_)) rfl rfl (Light.quiet (kAt hS (j := 0) rfl rfl aggA_3 rfl rfl)) ?_
          refine ASL.q (v := (.int .i64 (W (a22.2.at_ + 1)))) rfl rfl (Light.quiet (opInt rfl rfl rfl rfl)) ?_
          refine ASL.q (v := (.ptr bp0 0)) rfl rfl (Light.quiet (opNil rfl rfl rfl)) ?_
          refine ASL.q (v := (.ptr bp0 1)) rfl rfl (Light.quiet (opFieldAddr rfl fieldA_104_1 rfl rfl)) ?_
          refine ASL.n rfl rfl (hPut hS (j := 0) rfl rfl sizeA_3 rfl rfl rfl (nlt rfl) ?_); rintro G25 hS
          refine ASL.done ?_
          refine AWP.lastR rfl ?_
          refine ASL.q (v := (.ptr bp0 0)) rfl rfl (Light.quiet (opMove rfl rfl)) ?_
          refine ASL.q (v := (.int .u8 a6)) rfl rfl (Light.quiet (opMove rfl rfl)) ?_
          refine ASL.q (v := (.int .u8 (IntKind.u8.wrap (a6 - 48)))) rfl rfl (Light.quiet (opInt rfl rfl rfl rfl)) ?_
          refine ASL.q (v := (.int .i64 (IntKind.i64.wrap ((IntKind.u8.wrap (a6 - 48)))))) rfl rfl (Light.quiet (opConv rfl rfl und_5 und_3 rfl)) ?_
          obtain ⟨a43, ha43, hF⟩ := bindE hF
          refine ASL.x rfl rfl (hCallS hS [0, 1, 2] (F := [.snap S]) rfl rfl rfl call_103 (impl_reader_leaf_ok ha43) rfl rfl ?_); rintro _ _ G28 ⟨w26, rfl, rfl⟩ hS
          refine ASL.done ?_
          refine QBlock.nrm ?_
          refine QRet.end ?_
          obtain rfl := someE hF
          exact QRet.many (vs := []) trivial (by simp) ⟨_, ⟨w26, rfl, rfl⟩, hS.pick [0, 1, 2] rfl rfl⟩
        · skip
          refine AWP.lastR rfl ?_
          refine ASL.q (v := (.ptr bp0 0)) rfl rfl (Light.quiet (opMove rfl rfl)) ?_
          obtain ⟨a8, ha8, hF⟩ := bindE hF
          refine ASL.x rfl rfl (hCallS hS [0, 1, 2] (F := [.snap S]) rfl rfl rfl call_104 (impl_reader_fail_ok ha8) rfl rfl ?_); rintro _ _ G31 ⟨w29, rfl, rfl⟩ hS
          refine ASL.done ?_
          refine QBlock.nrm ?_
          refine QRet.end ?_
          obtain rfl := someE hF
          exact QRet.many (vs := []) trivial (by simp) ⟨_, ⟨w29, rfl, rfl⟩, hS.pick [0, 1, 2] rfl rfl⟩

set_option maxRecDepth 10000 in
theorem impl_exprSum.body_ok {p0 : Treader} {r : Treader} {bp0 : Nat} {wp0_list : AV} {rec_impl_exprSum : Treader → Option Treader} {rec_impl_exprProduct : Treader → Option Treader} {rec_impl_exprAtom : Treader → Option Treader} (ih_impl_exprSum : ∀ {p0 : Treader} {r : Treader} {bp0 : Nat} {wp0_list : AV} , rec_impl_exprSum p0 = some r → HS Try.prog 64 [(.ptr bp0 0)] [.cell bp0 [(.str p0.s), (.int .i64 p0.at_), (.int .i64 p0.code), wp0_list, .undef], .row 3 wp0_list (List.map TNode.av p0.list)] fun v L' => ∃ up0_list : AV, v = .tup [] ∧ L' = [.cell bp0 [(.str r.s), (.int .i64 r.at_), (.int .i64 r.code), up0_list, .undef], .row 3 up0_list (List.map TNode.av r.list)]) (ih_impl_exprProduct : ∀ {p0 : Treader} {r : Treader} {bp0 : Nat} {wp0_list : AV} , rec_impl_exprProduct p0 = some r → HS Try.prog 87 [(.ptr bp0 0)] [.cell bp0 [(.str p0.s), (.int .i64 p0.at_), (.int .i64 p0.code), wp0_list, .undef], .row 3 wp0_list (List.map TNode.av p0.list)] fun v L' => ∃ up0_list : AV, v = .tup [] ∧ L' = [.cell bp0 [(.str r.s), (.int .i64 r.at_), (.int .i64 r.code), up0_list, .undef], .row 3 up0_list (List.map TNode.av r.list)]) (ih_impl_exprAtom : ∀ {p0 : Treader} {r : Treader} {bp0 : Nat} {wp0_list : AV} , rec_impl_exprAtom p0 = some r → HS Try.prog 98 [(.ptr bp0 0)] [.cell bp0 [(.str p0.s), (.int .i64 p0.at_), (.int .i64 p0.code), wp0_list, .undef], .row 3 wp0_list (List.map TNode.av p0.list)] fun v L' => ∃ up0_list : AV, v = .tup [] ∧ L' = [.cell bp0 [(.str r.s), (.int .i64 r.at_), (.int .i64 r.code), up0_list, .undef], .row 3 up0_list (List.map TNode.av r.list)]) (hF : impl_exprSum.body rec_impl_exprSum rec_impl_exprProduct rec_impl_exprAtom p0 = some r) : HS Try.prog 64 [(.ptr bp0 0)] [.cell bp0 [(.str p0.s), (.int .i64 p0.at_), (.int .i64 p0.code), wp0_list, .undef], .row 3 wp0_list (List.map TNode.av p0.list)] fun v L' => ∃ up0_list : AV, v = .tup [] ∧ L' = [.cell bp0 [(.str r.s), (.int .i64 r.at_), (.int .i64 r.code), up0_list, .undef], .row 3 up0_list (List.map TNode.av r.list)] := by
  intro H S hS
  refine HC.enter Try.func64 rfl Try.ntmps64 (by simp) ?_
  simp only [List.cons_append, List.nil_append] at hS
  unfold impl_exprSum.body at hF
  refine AWP.lastR rfl ?_
  refine ASL.q (v := (.ptr bp0 0)) rfl rfl (Light.quiet (opMove rfl rfl)) ?_
  obtain ⟨a3, ha3, hF⟩ := bindE hF
  refine ASL.x rfl rfl (hCallS hS [0, 1, 2] (F := [.snap S]) rfl rfl rfl call_80 (impl_reader_row_ok call_87 (fun _ _ _ _ h => ih_impl_exprProduct h) ha3) rfl rfl ?_); rintro _ _ G5 ⟨w3, rfl, rfl⟩ hS
  refine ASL.done ?_
  refine QRet.end ?_
  obtain rfl := someE hF
  exact QRet.many (vs := []) trivial (by simp) ⟨_, ⟨w3, rfl, rfl⟩, hS.pick [0, 1, 2] rfl rfl⟩

set_option maxRecDepth 10000 in
theorem impl_exprProduct.body_ok {p0 : Treader} {r : Treader} {bp0 : Nat} {wp0_list : AV} {rec_impl_exprSum : Treader → Option Treader} {rec_impl_exprProduct : Treader → Option Treader} {rec_impl_exprAtom : Treader → Option Treader} (ih_impl_exprSum : ∀ {p0 : Treader} {r : Treader} {bp0 : Nat} {wp0_list : AV} , rec_impl_exprSum p0 = some r → HS Try.prog 64 [(.ptr bp0 0)] [.cell bp0 [(.str p0.s), (.int .i64 p0.at_), (.int .i64 p0.code), wp0_list, .undef], .row 3 wp0_list (List.map TNode.av p0.list)] fun v L' => ∃ up0_list : AV, v = .tup [] ∧ L' = [.cell bp0 [(.str r.s), (.int .i64 r.at_), (.int .i64 r.code), up0_list, .undef], .row 3 up0_list (List.map TNode.av r.list)]) (ih_impl_exprProduct : ∀ {p0 : Treader} {r : Treader} {bp0 : Nat} {wp0_list : AV} , rec_impl_exprProduct p0 = some r → HS Try.prog 87 [(.ptr bp0 0)] [.cell bp0 [(.str p0.s), (.int .i64 p0.at_), (.int .i64 p0.code), wp0_list, .undef], .row 3 wp0_list (List.map TNode.av p0.list)] fun v L' => ∃ up0_list : AV, v = .tup [] ∧ L' = [.cell bp0 [(.str r.s), (.int .i64 r.at_), (.int .i64 r.code), up0_list, .undef], .row 3 up0_list (List.map TNode.av r.list)]) (ih_impl_exprAtom : ∀ {p0 : Treader} {r : Treader} {bp0 : Nat} {wp0_list : AV} , rec_impl_exprAtom p0 = some r → HS Try.prog 98 [(.ptr bp0 0)] [.cell bp0 [(.str p0.s), (.int .i64 p0.at_), (.int .i64 p0.code), wp0_list, .undef], .row 3 wp0_list (List.map TNode.av p0.list)] fun v L' => ∃ up0_list : AV, v = .tup [] ∧ L' = [.cell bp0 [(.str r.s), (.int .i64 r.at_), (.int .i64 r.code), up0_list, .undef], .row 3 up0_list (List.map TNode.av r.list)]) (hF : impl_exprProduct.body rec_impl_exprSum rec_impl_exprProduct rec_impl_exprAtom p0 = some r) : HS Try.prog 87 [(.ptr bp0 0)] [.cell bp0 [(.str p0.s), (.int .i64 p0.at_), (.int .i64 p0.code), wp0_list, .undef], .row 3 wp0_list (List.map TNode.av p0.list)] fun v L' => ∃ up0_list : AV, v = .tup [] ∧ L' = [.cell bp0 [(.str r.s), (.int .i64 r.at_), (.int .i64 r.code), up0_list, .undef], .row 3 up0_list (List.map TNode.av r.list)] := by
  intro H S hS
  refine HC.enter Try.func87 rfl Try.ntmps87 (by simp) ?_
  simp only [List.cons_append, List.nil_append] at hS
  unfold impl_exprProduct.body at hF
  refine AWP.lastR rfl ?_
  refine ASL.q (v := (.ptr bp0 0)) rfl rfl (Light.quiet (opMove rfl rfl)) ?_
  obtain ⟨a3, ha3, hF⟩ := bindE hF
  refine ASL.x rfl rfl (hCallS hS [0, 1, 2] (F := [.snap S]) rfl rfl rfl call_80 (impl_reader_row_ok call_98 (fun _ _ _ _ h => ih_impl_exprAtom h) ha3) rfl rfl ?_); rintro _ _ G5 ⟨w3, rfl, rfl⟩ hS
  refine ASL.done ?_
  refine QRet.end ?_
  obtain rfl := someE hF
  exact QRet.many (vs := []) trivial (by simp) ⟨_, ⟨w3, rfl, rfl⟩, hS.pick [0, 1, 2] rfl rfl⟩

set_option maxRecDepth 10000 in
theorem impl_exprAtom.body_ok {p0 : Treader} {r : Treader} {bp0 : Nat} {wp0_list : AV} {rec_impl_exprSum : Treader → Option Treader} {rec_impl_exprProduct : Treader → Option Treader} {rec_impl_exprAtom : Treader → Option Treader} (ih_impl_exprSum : ∀ {p0 : Treader} {r : Treader} {bp0 : Nat} {wp0_list : AV} , rec_impl_exprSum p0 = some r → HS Try.prog 64 [(.ptr bp0 0)] [.cell bp0 [(.str p0.s), (.int .i64 p0.at_), (.int .i64 p0.code), wp0_list, .undef], .row 3 wp0_list (List.map TNode.av p0.list)] fun v L' => ∃ up0_list : AV, v = .tup [] ∧ L' = [.cell bp0 [(.str r.s), (.int .i64 r.at_), (.int .i64 r.code), up0_list, .undef], .row 3 up0_list (List.map TNode.av r.list)]) (ih_impl_exprProduct : ∀ {p0 : Treader} {r : Treader} {bp0 : Nat} {wp0_list : AV} , rec_impl_exprProduct p0 = some r → HS Try.prog 87 [(.ptr bp0 0)] [.cell bp0 [(.str p0.s), (.int .i64 p0.at_), (.int .i64 p0.code), wp0_list, .undef], .row 3 wp0_list (List.map TNode.av p0.list)] fun v L' => ∃ up0_list : AV, v = .tup [] ∧ L' = [.cell bp0 [(.str r.s), (.int .i64 r.at_), (.int .i64 r.code), up0_list, .undef], .row 3 up0_list (List.map TNode.av r.list)]) (ih_impl_exprAtom : ∀ {p0 : Treader} {r : Treader} {bp0 : Nat} {wp0_list : AV} , rec_impl_exprAtom p0 = some r → HS Try.prog 98 [(.ptr bp0 0)] [.cell bp0 [(.str p0.s), (.int .i64 p0.at_), (.int .i64 p0.code), wp0_list, .undef], .row 3 wp0_list (List.map TNode.av p0.list)] fun v L' => ∃ up0_list : AV, v = .tup [] ∧ L' = [.cell bp0 [(.str r.s), (.int .i64 r.at_), (.int .i64 r.code), up0_list, .undef], .row 3 up0_list (List.map TNode.av r.list)]) (hF : impl_exprAtom.body rec_impl_exprSum rec_impl_exprProduct rec_impl_exprAtom p0 = some r) : HS Try.prog 98 [(.ptr bp0 0)] [.cell bp0 [(.str p0.s), (.int .i64 p0.at_), (.int .i64 p0.code), wp0_list, .undef], .row 3 wp0_list (List.map TNode.av p0.list)] fun v L' => ∃ up0_list : AV, v = .tup [] ∧ L' = [.cell bp0 [(.str r.s), (.int .i64 r.at_), (.int .i64 r.code), up0_list, .undef], .row 3 up0_list (List.map TNode.av r.list)] := by
  intro H S hS
  refine HC.enter Try.func98 rfl Try.ntmps98 (by simp) ?_
  simp only [List.cons_append, List.nil_append] at hS
  unfold impl_exprAtom.body at hF
  refine AWP.seq ?_
  refine AWP.seqR rfl ?_
  refine ASL.q (v := (.ptr bp0 0)) rfl rfl (Light.quiet (opMove rfl rfl)) ?_
  obtain ⟨a3, ha3, hF⟩ := bindE hF
  refine ASL.x rfl rfl (hCallS hS [0, 1, 2] (F := [.snap S]) rfl rfl rfl call_95 (impl_reader_skip_ok ha3) rfl rfl ?_); rintro _ _ G5 ⟨w3, rfl, rfl⟩ hS
  refine ASL.done ?_
  refine AWP.ifB hF rfl (fun hc6 hF => ?_) (fun hc6 hF => ?_)
  · skip
    refine AWP.seqR rfl ?_
    refine ASL.q (v := (.ptr bp0 0)) rfl rfl (Light.quiet (opMove rfl rfl)) ?_
    obtain ⟨a5, ha5, hF⟩ := bindE hF
    refine ASL.x rfl rfl (hCallS hS [0, 1, 2] (F := [.snap S]) rfl rfl rfl call_98 (ih_impl_exprAtom ha5) rfl rfl ?_); rintro _ _ G9 ⟨w7, rfl, rfl⟩ hS
    refine ASL.done ?_
    refine AWP.seqR rfl ?_
    refine ASL.q (v := (.ptr bp0 0)) rfl rfl (Light.quiet (opMove rfl rfl)) ?_
    obtain ⟨a7, ha7, hF⟩ := bindE hF
    refine ASL.x rfl rfl (hCallS hS [0, 1, 2] (F := [.snap S]) rfl rfl rfl call_105 (impl_reader_one_ok ha7) rfl rfl ?_); rintro _ _ G12 ⟨w10, rfl, rfl⟩ hS
    refine ASL.done ?_
    refine AWP.ret ?_
    refine QThen.rt ?_
    obtain rfl := someE hF
    exact QRet.many (vs := []) trivial (by simp) ⟨_, ⟨w10, rfl, rfl⟩, hS.pick [0, 1, 2] rfl rfl⟩
  · skip
    refine AWP.skip ?_
    refine QThen.nrm ?_
    refine AWP.lastR rfl ?_
    refine ASL.q (v := (.ptr bp0 0)) rfl rfl (Light.quiet (opMove rfl rfl)) ?_
    obtain ⟨a9, ha9, hF⟩ := bindE hF
    refine ASL.x rfl rfl (hCallS hS [0, 1, 2] (F := [.snap S]) rfl rfl rfl call_106 (impl_plainAtom_ok call_64 (fun _ _ _ _ h => ih_impl_exprSum h) ha9) rfl rfl ?_); rintro _ _ G15 ⟨w13, rfl, rfl⟩ hS
    refine ASL.done ?_
    refine QRet.end ?_
    obtain rfl := someE hF
    exact QRet.many (vs := []) trivial (by simp) ⟨_, ⟨w13, rfl, rfl⟩, hS.pick [0, 1, 2] rfl rfl⟩
theorem impl_exprSum.grp_ok {K : Nat} : (∀ {p0 : Treader} {r : Treader} {bp0 : Nat} {wp0_list : AV} , impl_exprSum K p0 = some r → HS Try.prog 64 [(.ptr bp0 0)] [.cell bp0 [(.str p0.s), (.int .i64 p0.at_), (.int .i64 p0.code), wp0_list, .undef], .row 3 wp0_list (List.map TNode.av p0.list)] fun v L' => ∃ up0_list : AV, v = .tup [] ∧ L' = [.cell bp0 [(.str r.s), (.int .i64 r.at_), (.int .i64 r.code), up0_list, .undef], .row 3 up0_list (List.map TNode.av r.list)]) ∧ (∀ {p0 : Treader} {r : Treader} {bp0 : Nat} {wp0_list : AV} , impl_exprProduct K p0 = some r → HS Try.prog 87 [(.ptr bp0 0)] [.cell bp0 [(.str p0.s), (.int .i64 p0.at_), (.int .i64 p0.code), wp0_list, .undef], .row 3 wp0_list (List.map TNode.av p0.list)] fun v L' => ∃ up0_list : AV, v = .tup [] ∧ L' = [.cell bp0 [(.str r.s), (.int .i64 r.at_), (.int .i64 r.code), up0_list, .undef], .row 3 up0_list (List.map TNode.av r.list)]) ∧ (∀ {p0 : Treader} {r : Treader} {bp0 : Nat} {wp0_list : AV} , impl_exprAtom K p0 = some r → HS Try.prog 98 [(.ptr bp0 0)] [.cell bp0 [(.str p0.s), (.int .i64 p0.at_), (.int .i64 p0.code), wp0_list, .undef], .row 3 wp0_list (List.map TNode.av p0.list)] fun v L' => ∃ up0_list : AV, v = .tup [] ∧ L' = [.cell bp0 [(.str r.s), (.int .i64 r.at_), (.int .i64 r.code), up0_list, .undef], .row 3 up0_list (List.map TNode.av r.list)]) := by
  induction K with
  | zero => exact ⟨(by intros; rename_i h; cases h), (by intros; rename_i h; cases h), (by intros; rename_i h; cases h)⟩
  | succ K ih => exact ⟨(by intros; rename_i h; exact impl_exprSum.body_ok ih.1 ih.2.1 ih.2.2 h), (by intros; rename_i h; exact impl_exprProduct.body_ok ih.1 ih.2.1 ih.2.2 h), (by intros; rename_i h; exact impl_exprAtom.body_ok ih.1 ih.2.1 ih.2.2 h)⟩

theorem impl_exprSum_ok {K : Nat} : (∀ {p0 : Treader} {r : Treader} {bp0 : Nat} {wp0_list : AV} , impl_exprSum K p0 = some r → HS Try.prog 64 [(.ptr bp0 0)] [.cell bp0 [(.str p0.s), (.int .i64 p0.at_), (.int .i64 p0.code), wp0_list, .undef], .row 3 wp0_list (List.map TNode.av p0.list)] fun v L' => ∃ up0_list : AV, v = .tup [] ∧ L' = [.cell bp0 [(.str r.s), (.int .i64 r.at_), (.int .i64 r.code), up0_list, .undef], .row 3 up0_list (List.map TNode.av r.list)]) := impl_exprSum.grp_ok.1

theorem impl_exprProduct_ok {K : Nat} : (∀ {p0 : Treader} {r : Treader} {bp0 : Nat} {wp0_list : AV} , impl_exprProduct K p0 = some r → HS Try.prog 87 [(.ptr bp0 0)] [.cell bp0 [(.str p0.s), (.int .i64 p0.at_), (.int .i64 p0.code), wp0_list, .undef], .row 3 wp0_list (List.map TNode.av p0.list)] fun v L' => ∃ up0_list : AV, v = .tup [] ∧ L' = [.cell bp0 [(.str r.s), (.int .i64 r.at_), (.int .i64 r.code), up0_list, .undef], .row 3 up0_list (List.map TNode.av r.list)]) := impl_exprSum.grp_ok.2.1

theorem impl_exprAtom_ok {K : Nat} : (∀ {p0 : Treader} {r : Treader} {bp0 : Nat} {wp0_list : AV} , impl_exprAtom K p0 = some r → HS Try.prog 98 [(.ptr bp0 0)] [.cell bp0 [(.str p0.s), (.int .i64 p0.at_), (.int .i64 p0.code), wp0_list, .undef], .row 3 wp0_list (List.map TNode.av p0.list)] fun v L' => ∃ up0_list : AV, v = .tup [] ∧ L' = [.cell bp0 [(.str r.s), (.int .i64 r.at_), (.int .i64 r.code), up0_list, .undef], .row 3 up0_list (List.map TNode.av r.list)]) := impl_exprSum.grp_ok.2.2

set_option maxRecDepth 10000 in
theorem impl_ExprParse_ok {K : Nat} {p0 : ByteArray} {r : ((List TNode) × Int × Int)} (hF : impl_ExprParse K p0 = some r) : HS Try.prog 28 [(.str p0)] [] fun v L' => ∃ o0 : AV, v = .tup [o0, (.int .i64 r.2.1), (.int .i64 r.2.2)] ∧ L' = [.row 3 o0 (List.map TNode.av r.1)] := by
  intro H S hS
  refine HC.enter Try.func28 rfl Try.ntmps28 (by simp) ?_
  simp only [List.cons_append, List.nil_append] at hS
  unfold impl_ExprParse at hF
  refine AWP.seqR rfl ?_
  have hS := hNil (s := 3) (f := TNode.av) hS
  refine ASL.q (v := .nil) rfl rfl (Light.quiet (opAssign rfl rfl)) ?_
  refine ASL.q (v := (.int .i64 0)) rfl rfl (Light.quiet (opAssign rfl rfl)) ?_
  refine ASL.q (v := (.int .i64 0)) rfl rfl (Light.quiet (opAssign rfl rfl)) ?_
  refine ASL.done ?_
  refine AWP.seqR rfl ?_
  refine ASL.q (v := (.str p0)) rfl rfl (Light.quiet (opMove rfl rfl)) ?_
  obtain ⟨a6, ha6, hF⟩ := bindE hF
  refine ASL.x rfl rfl (hCallSR hS rfl rfl call_52 (impl_parsed_ok call_64 (fun _ _ _ _ h => impl_exprSum_ok h) ha6) ⟨.same _, .same _, trivial⟩ (by rintro _ _ G ⟨w2, rfl, rfl⟩ hG; exact ⟨(Scal.tup (ScalC.cons (hG.scR (k := 0) rfl) (ScalC.cons (by constructor) (ScalC.cons (by constructor) ScalC.nil)))), ⟨(Scal.row (fun _ => by simp only [TNode.av, cells, List.mem_cons, List.not_mem_nil, or_false]; rintro c hc; rcases hc with rfl | rfl | rfl <;> constructor)), trivial⟩⟩) ?_); rintro _ _ G4 ⟨w2, rfl, rfl⟩ hK hS
  refine ASL.q (v := w2) rfl rfl (Light.quiet (opExtract rfl rfl rfl)) ?_
  refine ASL.q (v := (.int .i64 a6.2.1)) rfl rfl (Light.quiet (opExtract rfl rfl rfl)) ?_
  refine ASL.q (v := (.int .i64 a6.2.2)) rfl rfl (Light.quiet (opExtract rfl rfl rfl)) ?_
  refine ASL.q (v := w2) rfl rfl (Light.quiet (opAssign rfl rfl)) ?_
  refine ASL.q (v := (.int .i64 a6.2.1)) rfl rfl (Light.quiet (opAssign rfl rfl)) ?_
  refine ASL.q (v := (.int .i64 a6.2.2)) rfl rfl (Light.quiet (opAssign rfl rfl)) ?_
  refine ASL.done ?_
  refine AWP.ret ?_
  obtain rfl := someE hF
  exact QRet.many (vs := [w2, (.int .i64 a6.2.1), (.int .i64 a6.2.2)]) ⟨rfl, rfl, rfl, trivial⟩ (by simp) ⟨_, ⟨w2, rfl, rfl⟩, hS.pick [0, 2] rfl rfl⟩

set_option maxRecDepth 10000 in
theorem spec_l2Print.body_ok {p0 : (List TNode)} {p1 : Int} {r : ByteArray} {rec_spec_l2Print : (List TNode) → Int → Option ByteArray} (ih_spec_l2Print : ∀ {p0 : (List TNode)} {p1 : Int} {r : ByteArray} , rec_spec_l2Print p0 p1 = some r → PC Try.prog 65 [(.list 3 (List.map TNode.av p0)), (.int .i64 p1)] fun v => v = (.str r)) (hF : spec_l2Print.body rec_spec_l2Print p0 p1 = some r) : PC Try.prog 65 [(.list 3 (List.map TNode.av p0)), (.int .i64 p1)] fun v => v = (.str r) := by
  refine PC.enter Try.func65 rfl Try.ntmps65 (by simp) ?_
  have hS := Sep.void; unfold spec_l2Print.body at hF
  refine AWP.seqR rfl ?_
  refine ASL.q (v := (.str { data := #[] })) rfl rfl (Light.quiet (opAssign rfl rfl)) ?_
  refine ASL.done ?_
  refine AWP.seqR rfl ?_
  refine ASL.q (v := (.list 3 (List.map TNode.av p0))) rfl rfl (Light.quiet (opMove rfl rfl)) ?_
  refine ASL.q (v := (.int .i64 p1)) rfl rfl (Light.quiet (opMove rfl rfl)) ?_
  obtain ⟨a8, ha8, hF⟩ := bindE hF
  refine ASL.q (v := (.rptr [(.int .i64 a8.kind), (.int .i64 a8.a), (.int .i64 a8.b)])) rfl rfl (Light.quiet (kIx (f := TNode.av) ha8 rfl rfl rfl elemA_24 sizeA_31 rfl)) ?_
  refine ASL.q (v := (TNode.av a8)) rfl rfl (Light.quiet (opLoadRA rfl aggA_31 sizeA_31 rfl (nlt rfl) rfl)) ?_
  refine ASL.x rfl rfl (hNewZ hS [(.int .i64 0), (.int .i64 0), (.int .i64 0)] rfl zeroA_31 ⟨.inl rfl, .inl rfl, .inl rfl, trivial⟩ ?_); rintro b5 G1 hK hS
  refine ASL.n rfl rfl (hPutA hS (j := 0) rfl rfl sizeA_31 rfl rfl rfl rfl rfl (nlt rfl) ?_); rintro G3 hS
  refine ASL.done ?_
  refine AWP.seq ?_
  refine AWP.seqR rfl ?_
  refine ASL.q (v := (.ptr b5 0)) rfl rfl (Light.quiet (opFieldAddr rfl fieldA_31_0 rfl rfl)) ?_
  refine ASL.q (v := (.int .i64 a8.kind)) rfl rfl (Light.quiet (kAt hS (j := 0) rfl rfl aggA_3 rfl rfl)) ?_
  refine ASL.done ?_
  refine AWP.block ?_
  refine AWP.seqR rfl ?_
  refine ASL.q (v := (.bool (decide (a8.kind = 1)))) rfl rfl (Light.quiet (opInt rfl rfl rfl rfl)) ?_
  refine ASL.q (v := (.bool (decide (a8.kind = 1)))) rfl rfl (Light.quiet (opAssign rfl rfl)) ?_
  refine ASL.done ?_
  refine AWP.ifP hF rfl (fun hc4 hF => ?_) (fun hc4 hF => ?_)
  · skip
    refine AWP.seqR rfl ?_
    refine ASL.q (v := (.str { data := #[116] })) rfl rfl (Light.quiet (opAssign rfl rfl)) ?_
    refine ASL.done ?_
    refine AWP.ret ?_
    refine QBlock.ret ?_
    refine QThen.rt ?_
    obtain rfl := someE hF
    exact QRet.sole (v := (.str { data := #[116] })) ⟨rfl, trivial⟩ rfl
  · skip
    refine AWP.seqR rfl ?_
    refine ASL.q (v := (.bool (decide (a8.kind = 2)))) rfl rfl (Light.quiet (opInt rfl rfl rfl rfl)) ?_
    refine ASL.q (v := (.bool (decide (a8.kind = 2)))) rfl rfl (Light.quiet (opAssign rfl rfl)) ?_
    refine ASL.done ?_
    refine AWP.ifP hF rfl (fun hc5 hF => ?_) (fun hc5 hF => ?_)
    · skip
      refine AWP.seqR rfl ?_
      refine ASL.q (v := (.str { data := #[102] })) rfl rfl (Light.quiet (opAssign rfl rfl)) ?_
      refine ASL.done ?_
      refine AWP.ret ?_
      refine QBlock.ret ?_
      refine QThen.rt ?_
      obtain rfl := someE hF
      exact QRet.sole (v := (.str { data := #[102] })) ⟨rfl, trivial⟩ rfl
    · skip
      refine AWP.seqR rfl ?_
      refine ASL.q (v := (.bool (decide (a8.kind = 3)))) rfl rfl (Light.quiet (opInt rfl rfl rfl rfl)) ?_
      refine ASL.q (v := (.bool (decide (a8.kind = 3)))) rfl rfl (Light.quiet (opAssign rfl rfl)) ?_
      refine ASL.done ?_
      refine AWP.ifP hF rfl (fun hc6 hF => ?_) (fun hc6 hF => ?_)
      · skip
        refine AWP.seqR rfl ?_
        refine ASL.q (v := (.ptr b5 1)) rfl rfl (Light.quiet (opFieldAddr rfl fieldA_31_1 rfl rfl)) ?_
        refine ASL.q (v := (.int .i64 a8.a)) rfl rfl (Light.quiet (kAt hS (j := 0) rfl rfl aggA_3 rfl rfl)) ?_
        refine ASL.q (v := (.str (spec_l2Digit a8.a))) rfl rfl ((qCall rfl rfl call_83 (spec_l2Digit_ok a8.a) rfl)) ?_
        refine ASL.q (v := (.str (spec_l2Digit a8.a))) rfl rfl (Light.quiet (opAssign rfl rfl)) ?_
        refine ASL.done ?_
        refine AWP.ret ?_
        refine QBlock.ret ?_
        refine QThen.rt ?_
        obtain rfl := someE hF
        exact QRet.sole (v := (.str (spec_l2Digit a8.a))) ⟨rfl, trivial⟩ rfl
      · skip
        refine AWP.seqR rfl ?_
        refine ASL.q (v := (.bool (decide (a8.kind = 4)))) rfl rfl (Light.quiet (opInt rfl rfl rfl rfl)) ?_
        refine ASL.q (v := (.bool (decide (a8.kind = 4)))) rfl rfl (Light.quiet (opAssign rfl rfl)) ?_
        refine ASL.done ?_
        refine AWP.ifP hF rfl (fun hc7 hF => ?_) (fun hc7 hF => ?_)
        · skip
          refine AWP.seqR rfl ?_
          refine ASL.q (v := (.list 3 (List.map TNode.av p0))) rfl rfl (Light.quiet (opMove rfl rfl)) ?_
          refine ASL.q (v := (.ptr b5 1)) rfl rfl (Light.quiet (opFieldAddr rfl fieldA_31_1 rfl rfl)) ?_
          refine ASL.q (v := (.int .i64 a8.a)) rfl rfl (Light.quiet (kAt hS (j := 0) rfl rfl aggA_3 rfl rfl)) ?_
          obtain ⟨a26, ha26, hF⟩ := bindE hF
          refine ASL.q (v := (.str a26)) rfl rfl ((qCall rfl rfl call_65 (ih_spec_l2Print ha26) rfl)) ?_
          obtain ⟨a27, ha27, hF⟩ := bindE hF
          refine ASL.q (v := (.str a27)) rfl rfl (Light.quiet (opCat ha27 rfl rfl rfl)) ?_
          refine ASL.q (v := (.str a27)) rfl rfl (Light.quiet (opAssign rfl rfl)) ?_
          refine ASL.done ?_
          refine AWP.ret ?_
          refine QBlock.ret ?_
          refine QThen.rt ?_
          obtain rfl := someE hF
          exact QRet.sole (v := (.str a27)) ⟨rfl, trivial⟩ rfl
        · skip
          refine AWP.seqR rfl ?_
          refine ASL.q (v := (.bool (decide (a8.kind = 5)))) rfl rfl (Light.quiet (opInt rfl rfl rfl rfl)) ?_
          refine ASL.q (v := (.bool (decide (a8.kind = 5)))) rfl rfl (Light.quiet (opAssign rfl rfl)) ?_
          refine ASL.done ?_
          refine AWP.ifP hF rfl (fun hc8 hF => ?_) (fun hc8 hF => ?_)
          · skip
            refine AWP.seqD [(0, false), (1, false), (2, false), (3, false), (4, false), (5, false), (6, false), (7, false), (8, false), (9, false), (10, false), (11, false), (12, false)] mixed (by kernel_rfl) rfl ?_
            refine ARL.q0 (v := (.list 3 (List.map TNode.av p0))) rfl rfl (Light.quiet (opMove rfl rfl)) ?_
            refine ARL.q0 (v := (.ptr b5 1)) rfl rfl (Light.quiet (opFieldAddr rfl fieldA_31_1 rfl rfl)) ?_
            refine ARL.q (v := (.int .i64 a8.a)) rfl rfl (hS.aliveC (k := 0) rfl) (Light.quiet (kAt hS (j := 0) rfl rfl aggA_3 rfl rfl)) ?_
            obtain ⟨a33, ha33, hF⟩ := bindE hF
            refine ARL.q0 (v := (.str a33)) rfl rfl ((qCall rfl rfl call_65 (ih_spec_l2Print ha33) rfl)) ?_
            obtain ⟨a34, ha34, hF⟩ := bindE hF
            refine ARL.q0 (v := (.str a34)) rfl rfl (Light.quiet (opCat ha34 rfl rfl rfl)) ?_
            obtain ⟨a35, ha35, hF⟩ := bindE hF
            refine ARL.q0 (v := (.str a35)) rfl rfl (Light.quiet (opCat ha35 rfl rfl rfl)) ?_
            refine ARL.q0 (v := (.list 3 (List.map TNode.av p0))) rfl rfl (Light.quiet (opMove rfl rfl)) ?_
            refine ARL.q0 (v := (.ptr b5 2)) rfl rfl (Light.quiet (opFieldAddr rfl fieldA_31_2 rfl rfl)) ?_
            refine ARL.q (v := (.int .i64 a8.b)) rfl rfl (hS.aliveC (k := 0) rfl) (Light.quiet (kAt hS (j := 0) rfl rfl aggA_3 rfl rfl)) ?_
            obtain ⟨a39, ha39, hF⟩ := bindE hF
            refine ARL.q0 (v := (.str a39)) rfl rfl ((qCall rfl rfl call_65 (ih_spec_l2Print ha39) rfl)) ?_
            obtain ⟨a40, ha40, hF⟩ := bindE hF
            refine ARL.q0 (v := (.str a40)) rfl rfl (Light.quiet (opCat ha40 rfl rfl rfl)) ?_
            obtain ⟨a41, ha41, hF⟩ := bindE hF
            refine ARL.q0 (v := (.str a41)) rfl rfl (Light.quiet (opCat ha41 rfl rfl rfl)) ?_
            refine ARL.q0 (v := (.str a41)) rfl rfl (Light.quiet (opAssign rfl rfl)) ?_
            refine ARL.done ?_
            refine AWP.ret ?_
            refine QBlock.ret ?_
            refine QThen.rt ?_
            obtain rfl := someE hF
            exact QRet.sole (v := (.str a41)) ⟨rfl, trivial⟩ rfl
          · skip
            refine AWP.skip ?_
            refine QBlock.nrm ?_
            refine QThen.nrm ?_
            refine AWP.seqD [(0, false), (1, false), (2, false), (3, false), (4, false), (5, false), (6, false), (7, false), (8, false), (9, false), (10, false), (11, false), (12, false)] mixed (by kernel_rfl) rfl ?_
            refine ARL.q0 (v := (.list 3 (List.map TNode.av p0))) rfl rfl (Light.quiet (opMove rfl rfl)) ?_
            refine ARL.q0 (v := (.ptr b5 1)) rfl rfl (Light.quiet (opFieldAddr rfl fieldA_31_1 rfl rfl)) ?_
            refine ARL.q (v := (.int .i64 a8.a)) rfl rfl (hS.aliveC (k := 0) rfl) (Light.quiet (kAt hS (j := 0) rfl rfl aggA_3 rfl rfl)) ?_
            obtain ⟨a45, ha45, hF⟩ := bindE hF
            refine ARL.q0 (v := (.str a45)) rfl rfl ((qCall rfl rfl call_65 (ih_spec_l2Print ha45) rfl)) ?_
            obtain ⟨a46, ha46, hF⟩ := bindE hF
            refine ARL.q0 (v := (.str a46)) rfl rfl (Light.quiet (opCat ha46 rfl rfl rfl)) ?_
            obtain ⟨a47, ha47, hF⟩ := bindE hF
            refine ARL.q0 (v := (.str a47)) rfl rfl (Light.quiet (opCat ha47 rfl rfl rfl)) ?_
            refine ARL.q0 (v := (.list 3 (List.map TNode.av p0))) rfl rfl (Light.quiet (opMove rfl rfl)) ?_
            refine ARL.q0 (v := (.ptr b5 2)) rfl rfl (Light.quiet (opFieldAddr rfl fieldA_31_2 rfl rfl)) ?_
            refine ARL.q (v := (.int .i64 a8.b)) rfl rfl (hS.aliveC (k := 0) rfl) (Light.quiet (kAt hS (j := 0) rfl rfl aggA_3 rfl rfl)) ?_
            obtain ⟨a51, ha51, hF⟩ := bindE hF
            refine ARL.q0 (v := (.str a51)) rfl rfl ((qCall rfl rfl call_65 (ih_spec_l2Print ha51) rfl)) ?_
            obtain ⟨a52, ha52, hF⟩ := bindE hF
            refine ARL.q0 (v := (.str a52)) rfl rfl (Light.quiet (opCat ha52 rfl rfl rfl)) ?_
            obtain ⟨a53, ha53, hF⟩ := bindE hF
            refine ARL.q0 (v := (.str a53)) rfl rfl (Light.quiet (opCat ha53 rfl rfl rfl)) ?_
            refine ARL.q0 (v := (.str a53)) rfl rfl (Light.quiet (opAssign rfl rfl)) ?_
            refine ARL.done ?_
            refine AWP.ret ?_
            obtain rfl := someE hF
            exact QRet.sole (v := (.str a53)) ⟨rfl, trivial⟩ rfl
theorem spec_l2Print_ok {K : Nat} : ∀ {p0 : (List TNode)} {p1 : Int} {r : ByteArray} , spec_l2Print K p0 p1 = some r → PC Try.prog 65 [(.list 3 (List.map TNode.av p0)), (.int .i64 p1)] fun v => v = (.str r) := by
  induction K with
  | zero => intros; rename_i h; cases h
  | succ K ih => intros; rename_i h; exact spec_l2Print.body_ok ih h

set_option maxRecDepth 10000 in
theorem spec_DrawExprParse_ok {K : Nat} {p0 : (List Int)} {r : ByteArray} (hF : spec_DrawExprParse K p0 = some r) : PC Try.prog 29 [(.list 1 (List.map (AV.int .u8) p0))] fun v => v = (.str r) := by
  refine PC.enter Try.func29 rfl Try.ntmps29 (by simp) ?_
  have hS := Sep.void; unfold spec_DrawExprParse at hF
  refine AWP.seqR rfl ?_
  refine ASL.q (v := (.str { data := #[] })) rfl rfl (Light.quiet (opAssign rfl rfl)) ?_
  refine ASL.done ?_
  refine AWP.seqR rfl ?_
  refine ASL.q (v := (.list 1 (List.map (AV.int .u8) p0))) rfl rfl (Light.quiet (opMove rfl rfl)) ?_
  obtain ⟨a7, ha7, hF⟩ := bindE hF
  refine ASL.x rfl rfl (hCallS hS [] (F := []) rfl rfl rfl call_31 (spec_l1New_ok ha7) rfl rfl ?_); rintro _ _ G3 ⟨bq1, rfl, rfl⟩ hS
  refine ASL.q (v := (.ptr bq1 0)) rfl rfl (Light.quiet (opAssign rfl rfl)) ?_
  refine ASL.done ?_
  refine AWP.seqR rfl ?_
  refine ASL.q (v := (.ptr bq1 0)) rfl rfl (Light.quiet (opMove rfl rfl)) ?_
  obtain ⟨a9, ha9, hF⟩ := bindE hF
  refine ASL.x rfl rfl (hCallS hS [0] (F := []) rfl rfl rfl call_66 (spec_l2DrawExpr_ok ha9) rfl rfl ?_); rintro w4 _ G6 ⟨_, rfl, rfl⟩ hS
  obtain ⟨a10, ha10, hF⟩ := bindE hF
  refine ASL.q (v := (.str a10)) rfl rfl ((qCallR hS rfl rfl call_65 (spec_l2Print_ok ha10) ⟨.row (k := 0) rfl, .same _, trivial⟩ (by constructor))) ?_
  refine ASL.q (v := (.str a10)) rfl rfl (Light.quiet (opAssign rfl rfl)) ?_
  refine ASL.done ?_
  refine AWP.seqR rfl ?_
  refine ASL.q (v := (.ptr bq1 0)) rfl rfl (Light.quiet (opMove rfl rfl)) ?_
  obtain ⟨a12, ha12, hF⟩ := bindE hF
  refine ASL.x rfl rfl (hCallS hS [1, 0] (F := [.row 3 w4 (List.map TNode.av a9.1)]) rfl rfl rfl call_66 (spec_l2DrawExpr_ok ha12) rfl rfl ?_); rintro w7 _ G9 ⟨_, rfl, rfl⟩ hS
  refine ASL.q (v := w7) rfl rfl (Light.quiet (opAssign rfl rfl)) ?_
  refine ASL.done ?_
  refine AWP.seqR rfl ?_
  refine ASL.q (v := w7) rfl rfl (Light.quiet (opMove rfl rfl)) ?_
  refine ASL.q (v := w7) rfl rfl (Light.quiet (opMove rfl rfl)) ?_
  refine ASL.q (v := (.int .i64 (a12.1.length : Int))) rfl rfl (Light.quiet (kLen hS (j := 0) rfl rfl rfl rfl lenT_24 rfl)) ?_
  refine ASL.q (v := (.int .i64 (W (((a12.1.length : Int)) - 1)))) rfl rfl (Light.quiet (opInt rfl rfl rfl rfl)) ?_
  obtain ⟨a17, ha17, hF⟩ := bindE hF
  refine ASL.q (v := (.str a17)) rfl rfl ((qCallR hS rfl rfl call_65 (spec_l2Print_ok ha17) ⟨.row (k := 0) rfl, .same _, trivial⟩ (by constructor))) ?_
  refine ASL.q (v := (.str a17)) rfl rfl (Light.quiet (opAssign rfl rfl)) ?_
  refine ASL.done ?_
  refine AWP.seqM (fun e H => ∃ y10 : (List Int), ∃ y11 : Int, ∃ y12 : Int, ∃ x4_1 : ByteArray, E.Told e [(3, (.ptr bq1 0)), (4, (.str x4_1))] ∧ E.Sep H [.cell bq1 [(.list 1 (List.map (AV.int .u8) y10)), (.int .i64 y11), (.int .i64 y12)]] ∧ spec_DrawExprParse.k0 y10 y11 y12 x4_1 = some r) ?_ ?_
  · rintro e0 G34 ⟨y10, y11, y12, x4_1, hT, hS, hF⟩; refine AWP.only _ hT ?_; unfold spec_DrawExprParse.k0 at hF
    refine AWP.seqM (fun e H => ∃ y13 : (List Int), ∃ y14 : Int, ∃ y15 : Int, ∃ x4_2 : ByteArray, E.Told e [(3, (.ptr bq1 0)), (4, (.str x4_2))] ∧ E.Sep H [.cell bq1 [(.list 1 (List.map (AV.int .u8) y13)), (.int .i64 y14), (.int .i64 y15)]] ∧ spec_DrawExprParse.k1 y13 y14 y15 x4_2 = some r) ?_ ?_
    · rintro e0 G30 ⟨y13, y14, y15, x4_2, hT, hS, hF⟩; refine AWP.only _ hT ?_; unfold spec_DrawExprParse.k1 at hF
      refine AWP.seqM (fun e H => ∃ x4_3 : ByteArray, E.Told e [(4, (.str x4_3))] ∧ E.Sep H [] ∧ spec_DrawExprParse.k2 x4_3 = some r) ?_ ?_
      · rintro e0 G16 ⟨x4_3, hT, hS, hF⟩; refine AWP.only _ hT ?_; unfold spec_DrawExprParse.k2 at hF
        refine AWP.seqR rfl ?_
        refine ASL.q (v := (.str x4_3)) rfl rfl (Light.quiet (opMove rfl rfl)) ?_
        refine ASL.q (v := (.str x4_3)) rfl rfl (Light.quiet (opAssign rfl rfl)) ?_
        refine ASL.done ?_
        refine AWP.ret ?_
        obtain rfl := someE hF
        exact QRet.sole (v := (.str x4_3)) ⟨rfl, trivial⟩ rfl
      · skip
        refine AWP.seqR rfl ?_
        refine ASL.q (v := (.ptr bq1 0)) rfl rfl (Light.quiet (opMove rfl rfl)) ?_
        obtain ⟨a30, ha30, hF⟩ := bindE hF
        refine ASL.x rfl rfl (hCallS hS [0] (F := []) rfl rfl rfl call_33 (spec_l1Once_ok ha30) rfl rfl ?_); rintro _ _ G17 ⟨rfl, rfl⟩ hS
        refine ASL.done ?_
        refine AWP.ifB hF rfl (fun hc18 hF => ?_) (fun hc18 hF => ?_)
        · skip
          refine AWP.block ?_
          obtain ⟨o25, hL24, hR26⟩ := bindE hF
          refine AWP.loopF (ω := Unit) hL24 (fun s w => [(3, (.ptr bq1 0)), (4, (.str s.2.2.2))]) (fun s w => [.cell bq1 [(.list 1 (List.map (AV.int .u8) s.1)), (.int .i64 s.2.1), (.int .i64 s.2.2.1)]]) () ⟨rfl, rfl, trivial⟩ (hS.pick [0] rfl rfl) ?_
          rintro ⟨y19, y20, y21, x4_l0⟩ _ G27 hS x22 hF hx23
          try dsimp only at hS ⊢
          have hF : spec_DrawExprParse.b0 y19 y20 y21 x4_l0 = some x22 := hF; unfold spec_DrawExprParse.b0 at hF
          refine AWP.seq ?_
          refine AWP.seqR rfl ?_
          refine ASL.q (v := (.str x4_l0)) rfl rfl (Light.quiet (opMove rfl rfl)) ?_
          refine ASL.q (v := (.int .i64 (x4_l0.size : Int))) rfl rfl (Light.quiet (opLenOf rfl rfl rfl lenT_9 rfl rfl)) ?_
          refine ASL.q (v := (.ptr bq1 0)) rfl rfl (Light.quiet (opMove rfl rfl)) ?_
          obtain ⟨a34, ha34, hF⟩ := bindE hF
          refine ASL.x rfl rfl (hCallS hS [0] (F := []) rfl rfl rfl call_34 (spec_l1Below_ok ha34) rfl rfl ?_); rintro _ _ G28 ⟨rfl, rfl⟩ hS
          refine ASL.q (v := (.int .i64 (W (199 + a34.1)))) rfl rfl (Light.quiet (opInt rfl rfl rfl rfl)) ?_
          refine ASL.q (v := (.bool (decide (((x4_l0.size : Int)) < ((W (199 + a34.1))))))) rfl rfl (Light.quiet (opInt rfl rfl rfl rfl)) ?_
          refine ASL.done ?_
          refine AWP.ifP hF rfl (fun hc29 hF => ?_) (fun hc29 hF => ?_)
          · skip
            refine AWP.skip ?_
            refine QThen.nrm ?_
            refine AWP.block ?_
            refine AWP.lastR rfl ?_
            refine ASL.q (v := (.str x4_l0)) rfl rfl (Light.quiet (opMove rfl rfl)) ?_
            obtain ⟨a38, ha38, hF⟩ := bindE hF
            refine ASL.q (v := (.str a38)) rfl rfl (Light.quiet (opCat ha38 rfl rfl rfl)) ?_
            refine ASL.q (v := (.str a38)) rfl rfl (Light.quiet (opAssign rfl rfl)) ?_
            refine ASL.done ?_
            refine QBlock.nrm ?_
            refine QThen.nrm ?_
            exact ⟨(a34.2.b, a34.2.i, a34.2.h, a38), (), (someE hF).symm, ⟨rfl, rfl, trivial⟩, (hS.pick [0] rfl rfl)⟩
          · skip
            refine AWP.exit ?_
            refine QThen.ext ?_
            refine QThen.ext ?_
            refine QBlock.hit ?_
            obtain rfl := (hx23 _ (someE hF).symm)
            have hF := hR26
            refine QThen.nrm ?_
            exact ⟨x4_l0, ⟨rfl, trivial⟩, (hS.pick [] rfl rfl), hF⟩
        · skip
          refine AWP.skip ?_
          refine QThen.nrm ?_
          exact ⟨x4_2, ⟨rfl, trivial⟩, (hS.pick [] rfl rfl), hF⟩
    · skip
      refine AWP.seqR rfl ?_
      refine ASL.q (v := (.ptr bq1 0)) rfl rfl (Light.quiet (opMove rfl rfl)) ?_
      obtain ⟨a24, ha24, hF⟩ := bindE hF
      refine ASL.x rfl rfl (hCallS hS [0] (F := []) rfl rfl rfl call_33 (spec_l1Once_ok ha24) rfl rfl ?_); rintro _ _ G31 ⟨rfl, rfl⟩ hS
      refine ASL.done ?_
      refine AWP.ifB hF rfl (fun hc32 hF => ?_) (fun hc32 hF => ?_)
      · skip
        refine AWP.lastR rfl ?_
        refine ASL.q (v := (.ptr bq1 0)) rfl rfl (Light.quiet (opMove rfl rfl)) ?_
        refine ASL.q (v := (.str x4_1)) rfl rfl (Light.quiet (opMove rfl rfl)) ?_
        refine ASL.q (v := (.list 1 (List.map AV.str [{ data := #[33] }, { data := #[40] }, { data := #[41] }, { data := #[38] }, { data := #[124] }, { data := #[48] }, { data := #[51] }, { data := #[116] }, { data := #[120] }, { data := #[32] }]))) rfl rfl ((qLit (xs := [(.str { data := #[33] }), (.str { data := #[40] }), (.str { data := #[41] }), (.str { data := #[38] }), (.str { data := #[124] }), (.str { data := #[48] }), (.str { data := #[51] }), (.str { data := #[116] }), (.str { data := #[120] }), (.str { data := #[32] })]) rfl elemA_71 sizeA_9 zeroA_9 rfl rfl rfl rfl (by simp [cells]) (nlt rfl))) ?_
        obtain ⟨a28, ha28, hF⟩ := bindE hF
        refine ASL.x rfl rfl (hCallS hS [0] (F := []) rfl rfl rfl call_57 (spec_l2Dent_ok ha28) rfl rfl ?_); rintro _ _ G33 ⟨rfl, rfl⟩ hS
        refine ASL.q (v := (.str a28.1)) rfl rfl (Light.quiet (opAssign rfl rfl)) ?_
        refine ASL.done ?_
        refine QThen.nrm ?_
        exact ⟨a28.2.b, a28.2.i, a28.2.h, a28.1, ⟨rfl, rfl, trivial⟩, (hS.pick [0] rfl rfl), hF⟩
      · skip
        refine AWP.skip ?_
        refine QThen.nrm ?_
        exact ⟨a24.2.b, a24.2.i, a24.2.h, x4_1, ⟨rfl, rfl, trivial⟩, (hS.pick [0] rfl rfl), hF⟩
  · skip
    refine AWP.seqR rfl ?_
    refine ASL.q (v := (.ptr bq1 0)) rfl rfl (Light.quiet (opMove rfl rfl)) ?_
    obtain ⟨a19, ha19, hF⟩ := bindE hF
    refine ASL.x rfl rfl (hCallS hS [1, 0, 2] (F := [.row 3 w7 (List.map TNode.av a12.1), .row 3 w4 (List.map TNode.av a9.1)]) rfl rfl rfl call_33 (spec_l1Once_ok ha19) rfl rfl ?_); rintro _ _ G35 ⟨rfl, rfl⟩ hS
    refine ASL.done ?_
    refine AWP.ifB hF rfl (fun hc36 hF => ?_) (fun hc36 hF => ?_)
    · skip
      refine AWP.lastR rfl ?_
      refine ASL.q (v := (.ptr bq1 0)) rfl rfl (Light.quiet (opMove rfl rfl)) ?_
      refine ASL.q (v := (.list 1 (List.map AV.str [{ data := #[48, 38, 49, 124, 50] }, { data := #[48, 124, 49, 38, 50, 124, 33, 48] }, { data := #[33, 40, 48, 124, 49, 41, 38, 50] }, { data := #[116] }, { data := #[40, 40, 48, 41, 41] }, { data := #[33, 33, 102] }, { data := #[48, 38, 49, 38, 50, 124, 116, 124, 102] }]))) rfl rfl ((qLit (xs := [(.str { data := #[48, 38, 49, 124, 50] }), (.str { data := #[48, 124, 49, 38, 50, 124, 33, 48] }), (.str { data := #[33, 40, 48, 124, 49, 41, 38, 50] }), (.str { data := #[116] }), (.str { data := #[40, 40, 48, 41, 41] }), (.str { data := #[33, 33, 102] }), (.str { data := #[48, 38, 49, 38, 50, 124, 116, 124, 102] })]) rfl elemA_71 sizeA_9 zeroA_9 rfl rfl rfl rfl (by simp [cells]) (nlt rfl))) ?_
      obtain ⟨a22, ha22, hF⟩ := bindE hF
      refine ASL.x rfl rfl (hCallS hS [0, 1, 2] (F := [.row 3 w7 (List.map TNode.av a12.1), .row 3 w4 (List.map TNode.av a9.1)]) rfl rfl rfl call_56 (spec_l1Pick_ok ha22) rfl rfl ?_); rintro _ _ G37 ⟨rfl, rfl⟩ hS
      refine ASL.q (v := (.str a22.1)) rfl rfl (Light.quiet (opAssign rfl rfl)) ?_
      refine ASL.done ?_
      refine QThen.nrm ?_
      exact ⟨a22.2.b, a22.2.i, a22.2.h, a22.1, ⟨rfl, rfl, trivial⟩, (hS.pick [0] rfl rfl), hF⟩
    · skip
      refine AWP.skip ?_
      refine QThen.nrm ?_
      exact ⟨a19.2.b, a19.2.i, a19.2.h, a17, ⟨rfl, rfl, trivial⟩, (hS.pick [0] rfl rfl), hF⟩

set_option maxRecDepth 10000 in
theorem spec_l2Read.body_ok {p0 : ByteArray} {p1 : Int} {p2 : Int} {p3 : (List TNode)} {r : ((List TNode) × Int × Int)} {vp3 : AV} {rec_spec_l2Read : ByteArray → Int → Int → (List TNode) → Option ((List TNode) × Int × Int)} {rec_spec_l2Atom : ByteArray → Int → (List TNode) → Option ((List TNode) × Int × Int)} (ih_spec_l2Read : ∀ {p0 : ByteArray} {p1 : Int} {p2 : Int} {p3 : (List TNode)} {r : ((List TNode) × Int × Int)} {vp3 : AV} , rec_spec_l2Read p0 p1 p2 p3 = some r → HS Try.prog 67 [(.str p0), (.int .i64 p1), (.int .i64 p2), vp3] [.row 3 vp3 (List.map TNode.av p3)] fun v L' => ∃ o0 : AV, v = .tup [o0, (.int .i64 r.2.1), (.int .i64 r.2.2)] ∧ L' = [.row 3 o0 (List.map TNode.av r.1)]) (ih_spec_l2Atom : ∀ {p0 : ByteArray} {p1 : Int} {p2 : (List TNode)} {r : ((List TNode) × Int × Int)} {vp2 : AV} , rec_spec_l2Atom p0 p1 p2 = some r → HS Try.prog 89 [(.str p0), (.int .i64 p1), vp2] [.row 3 vp2 (List.map TNode.av p2)] fun v L' => ∃ o0 : AV, v = .tup [o0, (.int .i64 r.2.1), (.int .i64 r.2.2)] ∧ L' = [.row 3 o0 (List.map TNode.av r.1)]) (hF : spec_l2Read.body rec_spec_l2Read rec_spec_l2Atom p0 p1 p2 p3 = some r) : HS Try.prog 67 [(.str p0), (.int .i64 p1), (.int .i64 p2), vp3] [.row 3 vp3 (List.map TNode.av p3)] fun v L' => ∃ o0 : AV, v = .tup [o0, (.int .i64 r.2.1), (.int .i64 r.2.2)] ∧ L' = [.row 3 o0 (List.map TNode.av r.1)] := by
  intro H S hS
  refine HC.enter Try.func67 rfl Try.ntmps67 (by simp) ?_
  simp only [List.cons_append, List.nil_append] at hS
  unfold spec_l2Read.body at hF
  refine AWP.seqR rfl ?_
  have hS := hNil (s := 3) (f := TNode.av) hS
  refine ASL.q (v := .nil) rfl rfl (Light.quiet (opAssign rfl rfl)) ?_
  refine ASL.q (v := (.int .i64 0)) rfl rfl (Light.quiet (opAssign rfl rfl)) ?_
  refine ASL.q (v := (.int .i64 0)) rfl rfl (Light.quiet (opAssign rfl rfl)) ?_
  refine ASL.done ?_
  refine AWP.seq ?_
  refine AWP.seqR rfl ?_
  refine ASL.q (v := (.int .i64 p2)) rfl rfl (Light.quiet (opMove rfl rfl)) ?_
  refine ASL.q (v := (.bool (decide (p2 = 2)))) rfl rfl (Light.quiet (opInt rfl rfl rfl rfl)) ?_
  refine ASL.done ?_
  refine AWP.ifP hF rfl (fun hc3 hF => ?_) (fun hc3 hF => ?_)
  · skip
    refine AWP.seqR rfl ?_
    refine ASL.q (v := (.str p0)) rfl rfl (Light.quiet (opMove rfl rfl)) ?_
    refine ASL.q (v := (.int .i64 p1)) rfl rfl (Light.quiet (opMove rfl rfl)) ?_
    refine ASL.q (v := vp3) rfl rfl (Light.quiet (opMove rfl rfl)) ?_
    obtain ⟨a22, ha22, hF⟩ := bindE hF
    refine ASL.x rfl rfl (hCallS hS [1, 0, 2] (F := [.row 3 .nil (List.map TNode.av ([])), .snap S]) rfl rfl rfl call_89 (ih_spec_l2Atom ha22) rfl rfl ?_); rintro _ _ G6 ⟨w4, rfl, rfl⟩ hS
    refine ASL.q (v := w4) rfl rfl (Light.quiet (opExtract rfl rfl rfl)) ?_
    refine ASL.q (v := (.int .i64 a22.2.1)) rfl rfl (Light.quiet (opExtract rfl rfl rfl)) ?_
    refine ASL.q (v := (.int .i64 a22.2.2)) rfl rfl (Light.quiet (opExtract rfl rfl rfl)) ?_
    refine ASL.q (v := w4) rfl rfl (Light.quiet (opAssign rfl rfl)) ?_
    refine ASL.q (v := (.int .i64 a22.2.1)) rfl rfl (Light.quiet (opAssign rfl rfl)) ?_
    refine ASL.q (v := (.int .i64 a22.2.2)) rfl rfl (Light.quiet (opAssign rfl rfl)) ?_
    refine ASL.done ?_
    refine AWP.ret ?_
    refine QThen.rt ?_
    obtain rfl := someE hF
    exact QRet.many (vs := [w4, (.int .i64 a22.2.1), (.int .i64 a22.2.2)]) ⟨rfl, rfl, rfl, trivial⟩ (by simp) ⟨_, ⟨w4, rfl, rfl⟩, hS.pick [0, 2] rfl rfl⟩
  · skip
    refine AWP.skip ?_
    refine QThen.nrm ?_
    refine AWP.seqR rfl ?_
    refine ASL.q (v := (.list 1 (List.map (AV.int .u8) [124, 38]))) rfl rfl ((qLit (xs := [(.int .u8 124), (.int .u8 38)]) rfl elemA_22 sizeA_5 zeroA_5 rfl rfl rfl rfl (by simp [cells]) (nlt rfl))) ?_
    refine ASL.q (v := (.int .i64 p2)) rfl rfl (Light.quiet (opMove rfl rfl)) ?_
    obtain ⟨a28, ha28, hF⟩ := bindE hF
    refine ASL.q (v := (.rptr [(.int .u8 a28)])) rfl rfl (Light.quiet (kIx (f := (AV.int .u8)) ha28 rfl rfl rfl elemA_22 sizeA_5 rfl)) ?_
    refine ASL.q (v := (.int .u8 a28)) rfl rfl (Light.quiet (opLoadR rfl aggA_5 rfl rfl)) ?_
    refine ASL.q (v := (.int .u8 a28)) rfl rfl (Light.quiet (opAssign rfl rfl)) ?_
    refine ASL.done ?_
    refine AWP.seqR rfl ?_
    refine ASL.q (v := (.list 1 (List.map (AV.int .i64) [6, 5]))) rfl rfl ((qLit (xs := [(.int .i64 6), (.int .i64 5)]) rfl elemA_25 sizeA_3 zeroA_3 rfl rfl rfl rfl (by simp [cells]) (nlt rfl))) ?_
    refine ASL.q (v := (.int .i64 p2)) rfl rfl (Light.quiet (opMove rfl rfl)) ?_
    obtain ⟨a32, ha32, hF⟩ := bindE hF
    refine ASL.q (v := (.rptr [(.int .i64 a32)])) rfl rfl (Light.quiet (kIx (f := (AV.int .i64)) ha32 rfl rfl rfl elemA_25 sizeA_3 rfl)) ?_
    refine ASL.q (v := (.int .i64 a32)) rfl rfl (Light.quiet (opLoadR rfl aggA_3 rfl rfl)) ?_
    refine ASL.q (v := (.int .i64 a32)) rfl rfl (Light.quiet (opAssign rfl rfl)) ?_
    refine ASL.done ?_
    refine AWP.seqR rfl ?_
    refine ASL.q (v := (.str p0)) rfl rfl (Light.quiet (opMove rfl rfl)) ?_
    refine ASL.q (v := (.int .i64 p1)) rfl rfl (Light.quiet (opMove rfl rfl)) ?_
    refine ASL.q (v := (.int .i64 p2)) rfl rfl (Light.quiet (opMove rfl rfl)) ?_
    refine ASL.q (v := (.int .i64 (W (p2 + 1)))) rfl rfl (Light.quiet (opInt rfl rfl rfl rfl)) ?_
    refine ASL.q (v := vp3) rfl rfl (Light.quiet (opMove rfl rfl)) ?_
    obtain ⟨a40, ha40, hF⟩ := bindE hF
    refine ASL.x rfl rfl (hCallS hS [1, 0, 2] (F := [.row 3 .nil (List.map TNode.av ([])), .snap S]) rfl rfl rfl call_67 (ih_spec_l2Read ha40) rfl rfl ?_); rintro _ _ G9 ⟨w7, rfl, rfl⟩ hS
    refine ASL.q (v := (.tup [w7, (.int .i64 a40.2.1), (.int .i64 a40.2.2)])) rfl rfl (Light.quiet (opMove rfl rfl)) ?_
    refine ASL.q (v := w7) rfl rfl (Light.quiet (opExtract rfl rfl rfl)) ?_
    refine ASL.q (v := (.int .i64 a40.2.1)) rfl rfl (Light.quiet (opExtract rfl rfl rfl)) ?_
    refine ASL.q (v := (.int .i64 a40.2.2)) rfl rfl (Light.quiet (opExtract rfl rfl rfl)) ?_
    refine ASL.q (v := w7) rfl rfl (Light.quiet (opAssign rfl rfl)) ?_
    refine ASL.q (v := (.int .i64 a40.2.1)) rfl rfl (Light.quiet (opAssign rfl rfl)) ?_
    refine ASL.q (v := (.int .i64 a40.2.2)) rfl rfl (Light.quiet (opAssign rfl rfl)) ?_
    refine ASL.done ?_
    refine AWP.seqM (fun e H => ∃ y10 : (List TNode), ∃ x14_1 : Int, ∃ x15_1 : Int, ∃ w11 : AV, E.Told e [(13, w11), (14, (.int .i64 x14_1)), (15, (.int .i64 x15_1))] ∧ E.Sep H [.row 3 w11 (List.map TNode.av y10), .snap S] ∧ spec_l2Read.k0 y10 x14_1 x15_1 = some r) ?_ ?_
    · rintro e0 G13 ⟨y10, x14_1, x15_1, w11, hT, hS, hF⟩; refine AWP.only _ hT ?_; unfold spec_l2Read.k0 at hF
      refine AWP.seqR rfl ?_
      refine ASL.q (v := w11) rfl rfl (Light.quiet (opMove rfl rfl)) ?_
      refine ASL.q (v := (.int .i64 x14_1)) rfl rfl (Light.quiet (opMove rfl rfl)) ?_
      refine ASL.q (v := (.int .i64 x15_1)) rfl rfl (Light.quiet (opMove rfl rfl)) ?_
      refine ASL.q (v := w11) rfl rfl (Light.quiet (opAssign rfl rfl)) ?_
      refine ASL.q (v := (.int .i64 x14_1)) rfl rfl (Light.quiet (opAssign rfl rfl)) ?_
      refine ASL.q (v := (.int .i64 x15_1)) rfl rfl (Light.quiet (opAssign rfl rfl)) ?_
      refine ASL.done ?_
      refine AWP.ret ?_
      obtain rfl := someE hF
      exact QRet.many (vs := [w11, (.int .i64 x14_1), (.int .i64 x15_1)]) ⟨rfl, rfl, rfl, trivial⟩ (by simp) ⟨_, ⟨w11, rfl, rfl⟩, hS.pick [0, 1] rfl rfl⟩
    · skip
      refine AWP.block ?_
      obtain ⟨o20, hL19, hR21⟩ := bindE hF
      refine AWP.loopF (ω := AV) hL19 (fun s w => [(0, (.str p0)), (2, (.int .i64 p2)), (11, (.int .u8 a28)), (12, (.int .i64 a32)), (13, w), (14, (.int .i64 s.2.1)), (15, (.int .i64 s.2.2))]) (fun s w => [.row 3 w (List.map TNode.av s.1), .snap S]) w7 ⟨rfl, rfl, rfl, rfl, rfl, rfl, rfl, trivial⟩ (hS.pick [0, 2] rfl rfl) ?_
      rintro ⟨y14, x14_l0, x15_l0⟩ w15 G22 hS x17 hF hx18
      try dsimp only at hS ⊢
      have hF : spec_l2Read.b0 p0 a28 rec_spec_l2Read p2 a32 y14 x14_l0 x15_l0 = some x17 := hF; unfold spec_l2Read.b0 at hF
      refine AWP.seq ?_
      refine AWP.seqR rfl ?_
      refine ASL.q (v := (.int .i64 x15_l0)) rfl rfl (Light.quiet (opMove rfl rfl)) ?_
      refine ASL.q (v := (.bool (decide (x15_l0 = 0)))) rfl rfl (Light.quiet (opInt rfl rfl rfl rfl)) ?_
      obtain ⟨c46, hc46, hF⟩ := bndE hF
      refine ASL.q (v := (.bool c46)) rfl rfl ((Quiet.cast (Light.quiet (opMove rfl rfl)) (congrArg AV.bool hc46.symm))) ?_
      refine ASL.g (v := (.int .i64 x14_l0)) (.bool c46) true rfl (wT _) rfl (fun hG => by have q0 := hG; subst q0; exact Light.quiet (opMove rfl rfl)) ?_
      refine ASL.g (v := (.str p0)) (.bool c46) true rfl (wT _) rfl (fun hG => by have q0 := hG; subst q0; exact Light.quiet (opMove rfl rfl)) ?_
      refine ASL.g (v := (.int .i64 (p0.size : Int))) (.bool c46) true rfl (wT _) rfl (fun hG => by have q0 := hG; subst q0; exact Light.quiet (opLenOf rfl rfl rfl lenT_9 rfl rfl)) ?_
      refine ASL.g (v := (.bool (decide (x14_l0 < ((p0.size : Int)))))) (.bool c46) true rfl (wT _) rfl (fun hG => by have q0 := hG; subst q0; exact Light.quiet (opInt rfl rfl rfl rfl)) ?_
      refine ASL.q (v := (.bool (c46 && (decide (x14_l0 < ((p0.size : Int))))))) rfl rfl (Light.quiet (opPick (b := c46) rfl rfl (by cases c46 <;> rfl))) ?_
      obtain ⟨c52, hc52, hF⟩ := bndE hF
      refine ASL.q (v := (.bool c52)) rfl rfl ((Quiet.cast (Light.quiet (opMove rfl rfl)) (congrArg AV.bool hc52.symm))) ?_
      refine ASL.g (v := (.str p0)) (.bool c52) true rfl (wT _) rfl (fun hG => by have q0 := hG; subst q0; exact Light.quiet (opMove rfl rfl)) ?_
      refine ASL.g (v := (.int .i64 x14_l0)) (.bool c52) true rfl (wT _) rfl (fun hG => by have q0 := hG; subst q0; exact Light.quiet (opMove rfl rfl)) ?_
      obtain ⟨a55, ha55, hF⟩ := bindE hF
      refine ASL.g (v := (.int .u8 a55)) (.bool c52) true rfl (wT _) rfl (fun hG => by have q0 := hG; subst q0; exact Light.quiet (kIxS (whenE ha55) rfl und_9 rfl rfl)) ?_
      refine ASL.g (v := (.int .u8 a28)) (.bool c52) true rfl (wT _) rfl (fun hG => by have q0 := hG; subst q0; exact Light.quiet (opMove rfl rfl)) ?_
      refine ASL.g (v := (.bool (decide (a55 = a28)))) (.bool c52) true rfl (wT _) rfl (fun hG => by have q0 := hG; subst q0; exact Light.quiet (opInt rfl rfl rfl rfl)) ?_
      refine ASL.q (v := (.bool (c52 && (decide (a55 = a28))))) rfl rfl (Light.quiet (opPick (b := c52) rfl rfl (by cases c52 <;> rfl))) ?_
      refine ASL.done ?_
      refine AWP.ifB hF rfl (fun hc23 hF => ?_) (fun hc23 hF => ?_)
      · skip
        refine AWP.skip ?_
        refine QThen.nrm ?_
        refine AWP.block ?_
        refine AWP.seqR rfl ?_
        refine ASL.q (v := w15) rfl rfl (Light.quiet (opMove rfl rfl)) ?_
        refine ASL.q (v := (.int .i64 (y14.length : Int))) rfl rfl (Light.quiet (kLen hS (j := 0) rfl rfl rfl rfl lenT_24 rfl)) ?_
        refine ASL.q (v := (.int .i64 (W (((y14.length : Int)) - 1)))) rfl rfl (Light.quiet (opInt rfl rfl rfl rfl)) ?_
        refine ASL.q (v := (.int .i64 (W (((y14.length : Int)) - 1)))) rfl rfl (Light.quiet (opAssign rfl rfl)) ?_
        refine ASL.done ?_
        refine AWP.seqR rfl ?_
        refine ASL.q (v := (.str p0)) rfl rfl (Light.quiet (opMove rfl rfl)) ?_
        refine ASL.q (v := (.int .i64 x14_l0)) rfl rfl (Light.quiet (opMove rfl rfl)) ?_
        refine ASL.q (v := (.int .i64 (W (x14_l0 + 1)))) rfl rfl (Light.quiet (opInt rfl rfl rfl rfl)) ?_
        refine ASL.q (v := (.int .i64 p2)) rfl rfl (Light.quiet (opMove rfl rfl)) ?_
        refine ASL.q (v := (.int .i64 (W (p2 + 1)))) rfl rfl (Light.quiet (opInt rfl rfl rfl rfl)) ?_
        refine ASL.q (v := w15) rfl rfl (Light.quiet (opMove rfl rfl)) ?_
        obtain ⟨a69, ha69, hF⟩ := bindE hF
        refine ASL.x rfl rfl (hCallS hS [0, 1] (F := [.snap S]) rfl rfl rfl call_67 (ih_spec_l2Read ha69) rfl rfl ?_); rintro _ _ G26 ⟨w24, rfl, rfl⟩ hS
        refine ASL.q (v := (.tup [w24, (.int .i64 a69.2.1), (.int .i64 a69.2.2)])) rfl rfl (Light.quiet (opMove rfl rfl)) ?_
        refine ASL.q (v := w24) rfl rfl (Light.quiet (opExtract rfl rfl rfl)) ?_
        refine ASL.q (v := (.int .i64 a69.2.1)) rfl rfl (Light.quiet (opExtract rfl rfl rfl)) ?_
        refine ASL.q (v := (.int .i64 a69.2.2)) rfl rfl (Light.quiet (opExtract rfl rfl rfl)) ?_
        refine ASL.q (v := w24) rfl rfl (Light.quiet (opAssign rfl rfl)) ?_
        refine ASL.q (v := (.int .i64 a69.2.1)) rfl rfl (Light.quiet (opAssign rfl rfl)) ?_
        refine ASL.q (v := (.int .i64 a69.2.2)) rfl rfl (Light.quiet (opAssign rfl rfl)) ?_
        refine ASL.done ?_
        refine AWP.seqR rfl ?_
        refine ASL.q (v := (.int .i64 a69.2.2)) rfl rfl (Light.quiet (opMove rfl rfl)) ?_
        refine ASL.q (v := (.bool (decide (a69.2.2 = 0)))) rfl rfl (Light.quiet (opInt rfl rfl rfl rfl)) ?_
        refine ASL.done ?_
        refine AWP.ifP hF rfl (fun hc27 hF => ?_) (fun hc27 hF => ?_)
        · skip
          refine AWP.lastR rfl ?_
          refine ASL.q (v := w24) rfl rfl (Light.quiet (opMove rfl rfl)) ?_
          refine ASL.q (v := (.int .i64 a32)) rfl rfl (Light.quiet (opMove rfl rfl)) ?_
          refine ASL.q (v := (.int .i64 (W (((y14.length : Int)) - 1)))) rfl rfl (Light.quiet (opMove rfl rfl)) ?_
          refine ASL.q (v := w24) rfl rfl (Light.quiet (opMove rfl rfl)) ?_
          refine ASL.q (v := (.int .i64 (a69.1.length : Int))) rfl rfl (Light.quiet (kLen hS (j := 0) rfl rfl rfl rfl lenT_24 rfl)) ?_
          refine ASL.q (v := (.int .i64 (W (((a69.1.length : Int)) - 1)))) rfl rfl (Light.quiet (opInt rfl rfl rfl rfl)) ?_
          refine ASL.q (v := (.agg [(.int .i64 a32), (.int .i64 (W (((y14.length : Int)) - 1))), (.int .i64 (W (((a69.1.length : Int)) - 1)))])) rfl rfl (Light.quiet (opBuildZ (zs := [(.int .i64 0), (.int .i64 0), (.int .i64 0)]) rfl plan_31 zeroA_31 ⟨.inl rfl, .inl rfl, .inl rfl, trivial⟩ rfl)) ?_
          refine ASL.q (v := (.list 3 (List.map TNode.av [(TNode.mk a32 ((W (((y14.length : Int)) - 1))) ((W (((a69.1.length : Int)) - 1))))]))) rfl rfl ((qLit (xs := [(.agg [(.int .i64 a32), (.int .i64 (W (((y14.length : Int)) - 1))), (.int .i64 (W (((a69.1.length : Int)) - 1)))])]) rfl elemA_24 sizeA_31 zeroA_31 rfl rfl rfl rfl (by simp [cells, TNode.av]) (nlt rfl))) ?_
          obtain ⟨z83, hz83, hF⟩ := bindE hF
          refine ASL.x rfl rfl (hApp (f := TNode.av) (ws := [(TNode.mk a32 ((W (((y14.length : Int)) - 1))) ((W (((a69.1.length : Int)) - 1))))]) hS (j := 0) rfl hz83 rfl elemA_24 rfl sizeA_31 bytesA_31 zeroA_31 rfl rfl rfl (fun _ => rfl) ?_); rintro v83 G28 hS
          refine ASL.q (v := v83) rfl rfl (Light.quiet (opAssign rfl rfl)) ?_
          refine ASL.done ?_
          refine QBlock.nrm ?_
          refine QThen.nrm ?_
          exact ⟨(z83, a69.2.1, a69.2.2), v83, (someE hF).symm, ⟨rfl, rfl, rfl, rfl, rfl, rfl, rfl, trivial⟩, (hS.pick [0, 1] rfl rfl)⟩
        · skip
          refine AWP.skip ?_
          refine QBlock.nrm ?_
          refine QThen.nrm ?_
          exact ⟨(a69.1, a69.2.1, a69.2.2), w24, (someE hF).symm, ⟨rfl, rfl, rfl, rfl, rfl, rfl, rfl, trivial⟩, (hS.pick [0, 1] rfl rfl)⟩
      · skip
        refine AWP.exit ?_
        refine QThen.ext ?_
        refine QThen.ext ?_
        refine QBlock.hit ?_
        obtain rfl := (hx18 _ (someE hF).symm)
        have hF := hR21
        refine QThen.nrm ?_
        exact ⟨y14, x14_l0, x15_l0, w15, ⟨rfl, rfl, rfl, trivial⟩, (hS.pick [0, 1] rfl rfl), hF⟩

set_option maxRecDepth 10000 in
theorem spec_l2Atom.body_ok {p0 : ByteArray} {p1 : Int} {p2 : (List TNode)} {r : ((List TNode) × Int × Int)} {vp2 : AV} {rec_spec_l2Read : ByteArray → Int → Int → (List TNode) → Option ((List TNode) × Int × Int)} {rec_spec_l2Atom : ByteArray → Int → (List TNode) → Option ((List TNode) × Int × Int)} (ih_spec_l2Read : ∀ {p0 : ByteArray} {p1 : Int} {p2 : Int} {p3 : (List TNode)} {r : ((List TNode) × Int × Int)} {vp3 : AV} , rec_spec_l2Read p0 p1 p2 p3 = some r → HS Try.prog 67 [(.str p0), (.int .i64 p1), (.int .i64 p2), vp3] [.row 3 vp3 (List.map TNode.av p3)] fun v L' => ∃ o0 : AV, v = .tup [o0, (.int .i64 r.2.1), (.int .i64 r.2.2)] ∧ L' = [.row 3 o0 (List.map TNode.av r.1)]) (ih_spec_l2Atom : ∀ {p0 : ByteArray} {p1 : Int} {p2 : (List TNode)} {r : ((List TNode) × Int × Int)} {vp2 : AV} , rec_spec_l2Atom p0 p1 p2 = some r → HS Try.prog 89 [(.str p0), (.int .i64 p1), vp2] [.row 3 vp2 (List.map TNode.av p2)] fun v L' => ∃ o0 : AV, v = .tup [o0, (.int .i64 r.2.1), (.int .i64 r.2.2)] ∧ L' = [.row 3 o0 (List.map TNode.av r.1)]) (hF : spec_l2Atom.body rec_spec_l2Read rec_spec_l2Atom p0 p1 p2 = some r) : HS Try.prog 89 [(.str p0), (.int .i64 p1), vp2] [.row 3 vp2 (List.map TNode.av p2)] fun v L' => ∃ o0 : AV, v = .tup [o0, (.int .i64 r.2.1), (.int .i64 r.2.2)] ∧ L' = [.row 3 o0 (List.map TNode.av r.1)] := by
  intro H S hS
  refine HC.enter Try.func89 rfl Try.ntmps89 (by simp) ?_
  simp only [List.cons_append, List.nil_append] at hS
  unfold spec_l2Atom.body at hF
  refine AWP.seqR rfl ?_
  have hS := hNil (s := 3) (f := TNode.av) hS
  refine ASL.q (v := .nil) rfl rfl (Light.quiet (opAssign rfl rfl)) ?_
  refine ASL.q (v := (.int .i64 0)) rfl rfl (Light.quiet (opAssign rfl rfl)) ?_
  refine ASL.q (v := (.int .i64 0)) rfl rfl (Light.quiet (opAssign rfl rfl)) ?_
  refine ASL.done ?_
  refine AWP.seq ?_
  refine AWP.seqR rfl ?_
  refine ASL.q (v := (.int .i64 p1)) rfl rfl (Light.quiet (opMove rfl rfl)) ?_
  refine ASL.q (v := (.str p0)) rfl rfl (Light.quiet (opMove rfl rfl)) ?_
  refine ASL.q (v := (.int .i64 (p0.size : Int))) rfl rfl (Light.quiet (opLenOf rfl rfl rfl lenT_9 rfl rfl)) ?_
  refine ASL.q (v := (.bool (decide (p1 ≥ ((p0.size : Int)))))) rfl rfl (Light.quiet (opInt rfl rfl rfl rfl)) ?_
  refine ASL.done ?_
  refine AWP.ifP hF rfl (fun hc3 hF => ?_) (fun hc3 hF => ?_)
  · skip
    refine AWP.seqR rfl ?_
    refine ASL.q (v := vp2) rfl rfl (Light.quiet (opMove rfl rfl)) ?_
    refine ASL.q (v := (.str p0)) rfl rfl (Light.quiet (opMove rfl rfl)) ?_
    refine ASL.q (v := (.int .i64 (p0.size : Int))) rfl rfl (Light.quiet (opLenOf rfl rfl rfl lenT_9 rfl rfl)) ?_
    refine ASL.q (v := vp2) rfl rfl (Light.quiet (opAssign rfl rfl)) ?_
    refine ASL.q (v := (.int .i64 (p0.size : Int))) rfl rfl (Light.quiet (opAssign rfl rfl)) ?_
    refine ASL.q (v := (.int .i64 2)) rfl rfl (Light.quiet (opAssign rfl rfl)) ?_
    refine ASL.done ?_
    refine AWP.ret ?_
    refine QThen.rt ?_
    obtain rfl := someE hF
    exact QRet.many (vs := [vp2, (.int .i64 (p0.size : Int)), (.int .i64 2)]) ⟨rfl, rfl, rfl, trivial⟩ (by simp) ⟨_, ⟨vp2, rfl, rfl⟩, hS.pick [1, 2] rfl rfl⟩
  · skip
    refine AWP.skip ?_
    refine QThen.nrm ?_
    refine AWP.seq ?_
    refine AWP.block ?_
    refine AWP.seqR rfl ?_
    refine ASL.q (v := (.str p0)) rfl rfl (Light.quiet (opMove rfl rfl)) ?_
    refine ASL.q (v := (.int .i64 p1)) rfl rfl (Light.quiet (opMove rfl rfl)) ?_
    obtain ⟨a25, ha25, hF⟩ := bindE hF
    refine ASL.q (v := (.int .u8 a25)) rfl rfl (Light.quiet (kIxS ha25 rfl und_9 rfl rfl)) ?_
    refine ASL.q (v := (.bool (decide (a25 = 116)))) rfl rfl (Light.quiet (opInt rfl rfl rfl rfl)) ?_
    refine ASL.q (v := (.bool (decide (a25 = 116)))) rfl rfl (Light.quiet (opAssign rfl rfl)) ?_
    refine ASL.done ?_
    refine AWP.ifP hF rfl (fun hc4 hF => ?_) (fun hc4 hF => ?_)
    · skip
      refine AWP.seqR rfl ?_
      refine ASL.q (v := vp2) rfl rfl (Light.quiet (opMove rfl rfl)) ?_
      refine ASL.q (v := (.agg [(.int .i64 1), (.int .i64 0), (.int .i64 0)])) rfl rfl (Light.quiet (opBuildZ (zs := [(.int .i64 0), (.int .i64 0), (.int .i64 0)]) rfl plan_31 zeroA_31 ⟨.inl rfl, .inl rfl, .inl rfl, trivial⟩ rfl)) ?_
      refine ASL.q (v := (.list 3 (List.map TNode.av [(TNode.mk 1 0 0)]))) rfl rfl ((qLit (xs := [(.agg [(.int .i64 1), (.int .i64 0), (.int .i64 0)])]) rfl elemA_24 sizeA_31 zeroA_31 rfl rfl rfl rfl (by simp [cells, TNode.av]) (nlt rfl))) ?_
      obtain ⟨z30, hz30, hF⟩ := bindE hF
      refine ASL.x rfl rfl (hApp (f := TNode.av) (ws := [(TNode.mk 1 0 0)]) hS (j := 1) rfl hz30 rfl elemA_24 rfl sizeA_31 bytesA_31 zeroA_31 rfl rfl rfl (fun _ => rfl) ?_); rintro v30 G5 hS
      refine ASL.q (v := (.int .i64 p1)) rfl rfl (Light.quiet (opMove rfl rfl)) ?_
      refine ASL.q (v := (.int .i64 (W (p1 + 1)))) rfl rfl (Light.quiet (opInt rfl rfl rfl rfl)) ?_
      refine ASL.q (v := v30) rfl rfl (Light.quiet (opAssign rfl rfl)) ?_
      refine ASL.q (v := (.int .i64 (W (p1 + 1)))) rfl rfl (Light.quiet (opAssign rfl rfl)) ?_
      refine ASL.q (v := (.int .i64 0)) rfl rfl (Light.quiet (opAssign rfl rfl)) ?_
      refine ASL.done ?_
      refine AWP.ret ?_
      refine QBlock.ret ?_
      refine QThen.rt ?_
      obtain rfl := someE hF
      exact QRet.many (vs := [v30, (.int .i64 (W (p1 + 1))), (.int .i64 0)]) ⟨rfl, rfl, rfl, trivial⟩ (by simp) ⟨_, ⟨v30, rfl, rfl⟩, hS.pick [1, 2] rfl rfl⟩
    · skip
      refine AWP.seqR rfl ?_
      refine ASL.q (v := (.str p0)) rfl rfl (Light.quiet (opMove rfl rfl)) ?_
      refine ASL.q (v := (.int .i64 p1)) rfl rfl (Light.quiet (opMove rfl rfl)) ?_
      obtain ⟨a36, ha36, hF⟩ := bindE hF
      refine ASL.q (v := (.int .u8 a36)) rfl rfl (Light.quiet (kIxS ha36 rfl und_9 rfl rfl)) ?_
      refine ASL.q (v := (.bool (decide (a36 = 102)))) rfl rfl (Light.quiet (opInt rfl rfl rfl rfl)) ?_
      refine ASL.q (v := (.bool (decide (a36 = 102)))) rfl rfl (Light.quiet (opAssign rfl rfl)) ?_
      refine ASL.done ?_
      refine AWP.ifP hF rfl (fun hc7 hF => ?_) (fun hc7 hF => ?_)
      · skip
        refine AWP.seqR rfl ?_
        refine ASL.q (v := vp2) rfl rfl (Light.quiet (opMove rfl rfl)) ?_
        refine ASL.q (v := (.agg [(.int .i64 2), (.int .i64 0), (.int .i64 0)])) rfl rfl (Light.quiet (opBuildZ (zs := [(.int .i64 0), (.int .i64 0), (.int .i64 0)]) rfl plan_31 zeroA_31 ⟨.inl rfl, .inl rfl, .inl rfl, trivial⟩ rfl)) ?_
        refine ASL.q (v := (.list 3 (List.map TNode.av [(TNode.mk 2 0 0)]))) rfl rfl ((qLit (xs := [(.agg [(.int .i64 2), (.int .i64 0), (.int .i64 0)])]) rfl elemA_24 sizeA_31 zeroA_31 rfl rfl rfl rfl (by simp [cells, TNode.av]) (nlt rfl))) ?_
        obtain ⟨z41, hz41, hF⟩ := bindE hF
        refine ASL.x rfl rfl (hApp (f := TNode.av) (ws := [(TNode.mk 2 0 0)]) hS (j := 1) rfl hz41 rfl elemA_24 rfl sizeA_31 bytesA_31 zeroA_31 rfl rfl rfl (fun _ => rfl) ?_); rintro v41 G8 hS
        refine ASL.q (v := (.int .i64 p1)) rfl rfl (Light.quiet (opMove rfl rfl)) ?_
        refine ASL.q (v := (.int .i64 (W (p1 + 1)))) rfl rfl (Light.quiet (opInt rfl rfl rfl rfl)) ?_
        refine ASL.q (v := v41) rfl rfl (Light.quiet (opAssign rfl rfl)) ?_
        refine ASL.q (v := (.int .i64 (W (p1 + 1)))) rfl rfl (Light.quiet (opAssign rfl rfl)) ?_
        refine ASL.q (v := (.int .i64 0)) rfl rfl (Light.quiet (opAssign rfl rfl)) ?_
        refine ASL.done ?_
        refine AWP.ret ?_
        refine QBlock.ret ?_
        refine QThen.rt ?_
        obtain rfl := someE hF
        exact QRet.many (vs := [v41, (.int .i64 (W (p1 + 1))), (.int .i64 0)]) ⟨rfl, rfl, rfl, trivial⟩ (by simp) ⟨_, ⟨v41, rfl, rfl⟩, hS.pick [1, 2] rfl rfl⟩
      · skip
        refine AWP.seqR rfl ?_
        refine ASL.q (v := (.str p0)) rfl rfl (Light.quiet (opMove rfl rfl)) ?_
        refine ASL.q (v := (.int .i64 p1)) rfl rfl (Light.quiet (opMove rfl rfl)) ?_
        obtain ⟨a47, ha47, hF⟩ := bindE hF
        refine ASL.q (v := (.int .u8 a47)) rfl rfl (Light.quiet (kIxS ha47 rfl und_9 rfl rfl)) ?_
        refine ASL.q (v := (.bool (decide (a47 ≥ 48)))) rfl rfl (Light.quiet (opInt rfl rfl rfl rfl)) ?_
        obtain ⟨c49, hc49, hF⟩ := bndE hF
        refine ASL.q (v := (.bool c49)) rfl rfl ((Quiet.cast (Light.quiet (opMove rfl rfl)) (congrArg AV.bool hc49.symm))) ?_
        refine ASL.g (v := (.str p0)) (.bool c49) true rfl (wT _) rfl (fun hG => by have q0 := hG; subst q0; exact Light.quiet (opMove rfl rfl)) ?_
        refine ASL.g (v := (.int .i64 p1)) (.bool c49) true rfl (wT _) rfl (fun hG => by have q0 := hG; subst q0; exact Light.quiet (opMove rfl rfl)) ?_
        obtain ⟨a52, ha52, hF⟩ := bindE hF
        refine ASL.g (v := (.int .u8 a52)) (.bool c49) true rfl (wT _) rfl (fun hG => by have q0 := hG; subst q0; exact Light.quiet (kIxS (whenE ha52) rfl und_9 rfl rfl)) ?_
        refine ASL.g (v := (.int .i64 (IntKind.i64.wrap a52))) (.bool c49) true rfl (wT _) rfl (fun hG => by have q0 := hG; subst q0; exact Light.quiet (opConv rfl rfl und_5 und_3 rfl)) ?_
        refine ASL.g (v := (.bool (decide (((IntKind.i64.wrap a52)) < 51)))) (.bool c49) true rfl (wT _) rfl (fun hG => by have q0 := hG; subst q0; exact Light.quiet (opInt rfl rfl rfl rfl)) ?_
        refine ASL.q (v := (.bool (c49 && (decide (((IntKind.i64.wrap a52)) < 51))))) rfl rfl (Light.quiet (opPick (b := c49) rfl rfl (by cases c49 <;> rfl))) ?_
        refine ASL.q (v := (.bool (c49 && (decide (((IntKind.i64.wrap a52)) < 51))))) rfl rfl (Light.quiet (opAssign rfl rfl)) ?_
        refine ASL.done ?_
        refine AWP.ifB hF rfl (fun hc10 hF => ?_) (fun hc10 hF => ?_)
        · skip
          refine AWP.seqR rfl ?_
          refine ASL.q (v := vp2) rfl rfl (Light.quiet (opMove rfl rfl)) ?_
          refine ASL.q (v := (.str p0)) rfl rfl (Light.quiet (opMove rfl rfl)) ?_
          refine ASL.q (v := (.int .i64 p1)) rfl rfl (Light.quiet (opMove rfl rfl)) ?_
          obtain ⟨a59, ha59, hF⟩ := bindE hF
          refine ASL.q (v := (.int .u8 a59)) rfl rfl (Light.quiet (kIxS ha59 rfl und_9 rfl rfl)) ?_
          refine ASL.q (v := (.int .i64 (IntKind.i64.wrap a59))) rfl rfl (Light.quiet (opConv rfl rfl und_5 und_3 rfl)) ?_
          refine ASL.q (v := (.int .i64 (W (((IntKind.i64.wrap a59)) - 48)))) rfl rfl (Light.quiet (opInt rfl rfl rfl rfl)) ?_
          refine ASL.q (v := (.agg [(.int .i64 3), (.int .i64 (W (((IntKind.i64.wrap a59)) - 48))), (.int .i64 0)])) rfl rfl (Light.quiet (opBuildZ (zs := [(.int .i64 0), (.int .i64 0), (.int .i64 0)]) rfl plan_31 zeroA_31 ⟨.inl rfl, .inl rfl, .inl rfl, trivial⟩ rfl)) ?_
          refine ASL.q (v := (.list 3 (List.map TNode.av [(TNode.mk 3 ((W (((IntKind.i64.wrap a59)) - 48))) 0)]))) rfl rfl ((qLit (xs := [(.agg [(.int .i64 3), (.int .i64 (W (((IntKind.i64.wrap a59)) - 48))), (.int .i64 0)])]) rfl elemA_24 sizeA_31 zeroA_31 rfl rfl rfl rfl (by simp [cells, TNode.av]) (nlt rfl))) ?_
          obtain ⟨z64, hz64, hF⟩ := bindE hF
          refine ASL.x rfl rfl (hApp (f := TNode.av) (ws := [(TNode.mk 3 ((W (((IntKind.i64.wrap a59)) - 48))) 0)]) hS (j := 1) rfl hz64 rfl elemA_24 rfl sizeA_31 bytesA_31 zeroA_31 rfl rfl rfl (fun _ => rfl) ?_); rintro v64 G11 hS
          refine ASL.q (v := (.int .i64 p1)) rfl rfl (Light.quiet (opMove rfl rfl)) ?_
          refine ASL.q (v := (.int .i64 (W (p1 + 1)))) rfl rfl (Light.quiet (opInt rfl rfl rfl rfl)) ?_
          refine ASL.q (v := v64) rfl rfl (Light.quiet (opAssign rfl rfl)) ?_
          refine ASL.q (v := (.int .i64 (W (p1 + 1)))) rfl rfl (Light.quiet (opAssign rfl rfl)) ?_
          refine ASL.q (v := (.int .i64 0)) rfl rfl (Light.quiet (opAssign rfl rfl)) ?_
          refine ASL.done ?_
          refine AWP.ret ?_
          refine QBlock.ret ?_
          refine QThen.rt ?_
          obtain rfl := someE hF
          exact QRet.many (vs := [v64, (.int .i64 (W (p1 + 1))), (.int .i64 0)]) ⟨rfl, rfl, rfl, trivial⟩ (by simp) ⟨_, ⟨v64, rfl, rfl⟩, hS.pick [1, 2] rfl rfl⟩
        · skip
          refine AWP.seqR rfl ?_
          refine ASL.q (v := (.str p0)) rfl rfl (Light.quiet (opMove rfl rfl)) ?_
          refine ASL.q (v := (.int .i64 p1)) rfl rfl (Light.quiet (opMove rfl rfl)) ?_
          obtain ⟨a70, ha70, hF⟩ := bindE hF
          refine ASL.q (v := (.int .u8 a70)) rfl rfl (Light.quiet (kIxS ha70 rfl und_9 rfl rfl)) ?_
          refine ASL.q (v := (.bool (decide (a70 = 33)))) rfl rfl (Light.quiet (opInt rfl rfl rfl rfl)) ?_
          refine ASL.q (v := (.bool (decide (a70 = 33)))) rfl rfl (Light.quiet (opAssign rfl rfl)) ?_
          refine ASL.done ?_
          refine AWP.ifP hF rfl (fun hc13 hF => ?_) (fun hc13 hF => ?_)
          · skip
            refine AWP.seqR rfl ?_
            refine ASL.q (v := (.str p0)) rfl rfl (Light.quiet (opMove rfl rfl)) ?_
            refine ASL.q (v := (.int .i64 p1)) rfl rfl (Light.quiet (opMove rfl rfl)) ?_
            refine ASL.q (v := (.int .i64 (W (p1 + 1)))) rfl rfl (Light.quiet (opInt rfl rfl rfl rfl)) ?_
            refine ASL.q (v := vp2) rfl rfl (Light.quiet (opMove rfl rfl)) ?_
            obtain ⟨a77, ha77, hF⟩ := bindE hF
            refine ASL.x rfl rfl (hCallS hS [1, 0, 2] (F := [.row 3 .nil (List.map TNode.av ([])), .snap S]) rfl rfl rfl call_89 (ih_spec_l2Atom ha77) rfl rfl ?_); rintro _ _ G16 ⟨w14, rfl, rfl⟩ hS
            refine ASL.q (v := (.tup [w14, (.int .i64 a77.2.1), (.int .i64 a77.2.2)])) rfl rfl (Light.quiet (opMove rfl rfl)) ?_
            refine ASL.q (v := w14) rfl rfl (Light.quiet (opExtract rfl rfl rfl)) ?_
            refine ASL.q (v := (.int .i64 a77.2.1)) rfl rfl (Light.quiet (opExtract rfl rfl rfl)) ?_
            refine ASL.q (v := (.int .i64 a77.2.2)) rfl rfl (Light.quiet (opExtract rfl rfl rfl)) ?_
            refine ASL.q (v := w14) rfl rfl (Light.quiet (opAssign rfl rfl)) ?_
            refine ASL.q (v := (.int .i64 a77.2.1)) rfl rfl (Light.quiet (opAssign rfl rfl)) ?_
            refine ASL.q (v := (.int .i64 a77.2.2)) rfl rfl (Light.quiet (opAssign rfl rfl)) ?_
            refine ASL.done ?_
            refine AWP.seq ?_
            refine AWP.seqR rfl ?_
            refine ASL.q (v := (.int .i64 a77.2.2)) rfl rfl (Light.quiet (opMove rfl rfl)) ?_
            refine ASL.q (v := (.bool (decide (a77.2.2 = 0)))) rfl rfl (Light.quiet (opInt rfl rfl rfl rfl)) ?_
            refine ASL.done ?_
            refine AWP.ifP hF rfl (fun hc17 hF => ?_) (fun hc17 hF => ?_)
            · skip
              refine AWP.lastR rfl ?_
              refine ASL.q (v := w14) rfl rfl (Light.quiet (opMove rfl rfl)) ?_
              refine ASL.q (v := w14) rfl rfl (Light.quiet (opMove rfl rfl)) ?_
              refine ASL.q (v := (.int .i64 (a77.1.length : Int))) rfl rfl (Light.quiet (kLen hS (j := 0) rfl rfl rfl rfl lenT_24 rfl)) ?_
              refine ASL.q (v := (.int .i64 (W (((a77.1.length : Int)) - 1)))) rfl rfl (Light.quiet (opInt rfl rfl rfl rfl)) ?_
              refine ASL.q (v := (.agg [(.int .i64 4), (.int .i64 (W (((a77.1.length : Int)) - 1))), (.int .i64 0)])) rfl rfl (Light.quiet (opBuildZ (zs := [(.int .i64 0), (.int .i64 0), (.int .i64 0)]) rfl plan_31 zeroA_31 ⟨.inl rfl, .inl rfl, .inl rfl, trivial⟩ rfl)) ?_
              refine ASL.q (v := (.list 3 (List.map TNode.av [(TNode.mk 4 ((W (((a77.1.length : Int)) - 1))) 0)]))) rfl rfl ((qLit (xs := [(.agg [(.int .i64 4), (.int .i64 (W (((a77.1.length : Int)) - 1))), (.int .i64 0)])]) rfl elemA_24 sizeA_31 zeroA_31 rfl rfl rfl rfl (by simp [cells, TNode.av]) (nlt rfl))) ?_
              obtain ⟨z89, hz89, hF⟩ := bindE hF
              refine ASL.x rfl rfl (hApp (f := TNode.av) (ws := [(TNode.mk 4 ((W (((a77.1.length : Int)) - 1))) 0)]) hS (j := 0) rfl hz89 rfl elemA_24 rfl sizeA_31 bytesA_31 zeroA_31 rfl rfl rfl (fun _ => rfl) ?_); rintro v89 G18 hS
              refine ASL.q (v := v89) rfl rfl (Light.quiet (opAssign rfl rfl)) ?_
              refine ASL.done ?_
              refine QThen.nrm ?_
              refine AWP.seqR rfl ?_
              refine ASL.q (v := v89) rfl rfl (Light.quiet (opMove rfl rfl)) ?_
              refine ASL.q (v := (.int .i64 a77.2.1)) rfl rfl (Light.quiet (opMove rfl rfl)) ?_
              refine ASL.q (v := (.int .i64 a77.2.2)) rfl rfl (Light.quiet (opMove rfl rfl)) ?_
              refine ASL.q (v := v89) rfl rfl (Light.quiet (opAssign rfl rfl)) ?_
              refine ASL.q (v := (.int .i64 a77.2.1)) rfl rfl (Light.quiet (opAssign rfl rfl)) ?_
              refine ASL.q (v := (.int .i64 a77.2.2)) rfl rfl (Light.quiet (opAssign rfl rfl)) ?_
              refine ASL.done ?_
              refine AWP.ret ?_
              refine QBlock.ret ?_
              refine QThen.rt ?_
              obtain rfl := someE hF
              exact QRet.many (vs := [v89, (.int .i64 a77.2.1), (.int .i64 a77.2.2)]) ⟨rfl, rfl, rfl, trivial⟩ (by simp) ⟨_, ⟨v89, rfl, rfl⟩, hS.pick [0, 2] rfl rfl⟩
            · skip
              refine AWP.skip ?_
              refine QThen.nrm ?_
              refine AWP.seqR rfl ?_
              refine ASL.q (v := w14) rfl rfl (Light.quiet (opMove rfl rfl)) ?_
              refine ASL.q (v := (.int .i64 a77.2.1)) rfl rfl (Light.quiet (opMove rfl rfl)) ?_
              refine ASL.q (v := (.int .i64 a77.2.2)) rfl rfl (Light.quiet (opMove rfl rfl)) ?_
              refine ASL.q (v := w14) rfl rfl (Light.quiet (opAssign rfl rfl)) ?_
              refine ASL.q (v := (.int .i64 a77.2.1)) rfl rfl (Light.quiet (opAssign rfl rfl)) ?_
              refine ASL.q (v := (.int .i64 a77.2.2)) rfl rfl (Light.quiet (opAssign rfl rfl)) ?_
              refine ASL.done ?_
              refine AWP.ret ?_
              refine QBlock.ret ?_
              refine QThen.rt ?_
              obtain rfl := someE hF
              exact QRet.many (vs := [w14, (.int .i64 a77.2.1), (.int .i64 a77.2.2)]) ⟨rfl, rfl, rfl, trivial⟩ (by simp) ⟨_, ⟨w14, rfl, rfl⟩, hS.pick [0, 2] rfl rfl⟩
          · skip
            refine AWP.seqR rfl ?_
            refine ASL.q (v := (.str p0)) rfl rfl (Light.quiet (opMove rfl rfl)) ?_
            refine ASL.q (v := (.int .i64 p1)) rfl rfl (Light.quiet (opMove rfl rfl)) ?_
            obtain ⟨a96, ha96, hF⟩ := bindE hF
            refine ASL.q (v := (.int .u8 a96)) rfl rfl (Light.quiet (kIxS ha96 rfl und_9 rfl rfl)) ?_
            refine ASL.q (v := (.bool (decide (a96 = 40)))) rfl rfl (Light.quiet (opInt rfl rfl rfl rfl)) ?_
            refine ASL.q (v := (.bool (decide (a96 = 40)))) rfl rfl (Light.quiet (opAssign rfl rfl)) ?_
            refine ASL.done ?_
            refine AWP.ifP hF rfl (fun hc20 hF => ?_) (fun hc20 hF => ?_)
            · skip
              refine AWP.seqR rfl ?_
              refine ASL.q (v := (.str p0)) rfl rfl (Light.quiet (opMove rfl rfl)) ?_
              refine ASL.q (v := (.int .i64 p1)) rfl rfl (Light.quiet (opMove rfl rfl)) ?_
              refine ASL.q (v := (.int .i64 (W (p1 + 1)))) rfl rfl (Light.quiet (opInt rfl rfl rfl rfl)) ?_
              refine ASL.q (v := vp2) rfl rfl (Light.quiet (opMove rfl rfl)) ?_
              obtain ⟨a103, ha103, hF⟩ := bindE hF
              refine ASL.x rfl rfl (hCallS hS [1, 0, 2] (F := [.row 3 .nil (List.map TNode.av ([])), .snap S]) rfl rfl rfl call_67 (ih_spec_l2Read ha103) rfl rfl ?_); rintro _ _ G23 ⟨w21, rfl, rfl⟩ hS
              refine ASL.q (v := (.tup [w21, (.int .i64 a103.2.1), (.int .i64 a103.2.2)])) rfl rfl (Light.quiet (opMove rfl rfl)) ?_
              refine ASL.q (v := w21) rfl rfl (Light.quiet (opExtract rfl rfl rfl)) ?_
              refine ASL.q (v := (.int .i64 a103.2.1)) rfl rfl (Light.quiet (opExtract rfl rfl rfl)) ?_
              refine ASL.q (v := (.int .i64 a103.2.2)) rfl rfl (Light.quiet (opExtract rfl rfl rfl)) ?_
              refine ASL.q (v := w21) rfl rfl (Light.quiet (opAssign rfl rfl)) ?_
              refine ASL.q (v := (.int .i64 a103.2.1)) rfl rfl (Light.quiet (opAssign rfl rfl)) ?_
              refine ASL.q (v := (.int .i64 a103.2.2)) rfl rfl (Light.quiet (opAssign rfl rfl)) ?_
              refine ASL.done ?_
              refine AWP.seq ?_
              refine AWP.block ?_
              refine AWP.seqR rfl ?_
              refine ASL.q (v := (.int .i64 a103.2.2)) rfl rfl (Light.quiet (opMove rfl rfl)) ?_
              refine ASL.q (v := (.bool (decide (a103.2.2 ≠ 0)))) rfl rfl (Light.quiet (opInt rfl rfl rfl rfl)) ?_
              refine ASL.q (v := (.bool (decide (a103.2.2 ≠ 0)))) rfl rfl (Light.quiet (opAssign rfl rfl)) ?_
              refine ASL.done ?_
              refine AWP.ifP hF rfl (fun hc24 hF => ?_) (fun hc24 hF => ?_)
              · skip
                refine AWP.seqR rfl ?_
                refine ASL.q (v := w21) rfl rfl (Light.quiet (opMove rfl rfl)) ?_
                refine ASL.q (v := (.int .i64 a103.2.1)) rfl rfl (Light.quiet (opMove rfl rfl)) ?_
                refine ASL.q (v := (.int .i64 a103.2.2)) rfl rfl (Light.quiet (opMove rfl rfl)) ?_
                refine ASL.q (v := w21) rfl rfl (Light.quiet (opAssign rfl rfl)) ?_
                refine ASL.q (v := (.int .i64 a103.2.1)) rfl rfl (Light.quiet (opAssign rfl rfl)) ?_
                refine ASL.q (v := (.int .i64 a103.2.2)) rfl rfl (Light.quiet (opAssign rfl rfl)) ?_
                refine ASL.done ?_
                refine AWP.ret ?_
                refine QBlock.ret ?_
                refine QThen.rt ?_
                refine QBlock.ret ?_
                refine QThen.rt ?_
                obtain rfl := someE hF
                exact QRet.many (vs := [w21, (.int .i64 a103.2.1), (.int .i64 a103.2.2)]) ⟨rfl, rfl, rfl, trivial⟩ (by simp) ⟨_, ⟨w21, rfl, rfl⟩, hS.pick [0, 2] rfl rfl⟩
              · skip
                refine AWP.seqR rfl ?_
                refine ASL.q (v := (.int .i64 a103.2.1)) rfl rfl (Light.quiet (opMove rfl rfl)) ?_
                refine ASL.q (v := (.str p0)) rfl rfl (Light.quiet (opMove rfl rfl)) ?_
                refine ASL.q (v := (.int .i64 (p0.size : Int))) rfl rfl (Light.quiet (opLenOf rfl rfl rfl lenT_9 rfl rfl)) ?_
                refine ASL.q (v := (.bool (decide (a103.2.1 ≥ ((p0.size : Int)))))) rfl rfl (Light.quiet (opInt rfl rfl rfl rfl)) ?_
                refine ASL.q (v := (.bool (decide (a103.2.1 ≥ ((p0.size : Int)))))) rfl rfl (Light.quiet (opAssign rfl rfl)) ?_
                refine ASL.done ?_
                refine AWP.ifP hF rfl (fun hc25 hF => ?_) (fun hc25 hF => ?_)
                · skip
                  refine AWP.seqR rfl ?_
                  refine ASL.q (v := w21) rfl rfl (Light.quiet (opMove rfl rfl)) ?_
                  refine ASL.q (v := (.str p0)) rfl rfl (Light.quiet (opMove rfl rfl)) ?_
                  refine ASL.q (v := (.int .i64 (p0.size : Int))) rfl rfl (Light.quiet (opLenOf rfl rfl rfl lenT_9 rfl rfl)) ?_
                  refine ASL.q (v := w21) rfl rfl (Light.quiet (opAssign rfl rfl)) ?_
                  refine ASL.q (v := (.int .i64 (p0.size : Int))) rfl rfl (Light.quiet (opAssign rfl rfl)) ?_
                  refine ASL.q (v := (.int .i64 2)) rfl rfl (Light.quiet (opAssign rfl rfl)) ?_
                  refine ASL.done ?_
                  refine AWP.ret ?_
                  refine QBlock.ret ?_
                  refine QThen.rt ?_
                  refine QBlock.ret ?_
                  refine QThen.rt ?_
                  obtain rfl := someE hF
                  exact QRet.many (vs := [w21, (.int .i64 (p0.size : Int)), (.int .i64 2)]) ⟨rfl, rfl, rfl, trivial⟩ (by simp) ⟨_, ⟨w21, rfl, rfl⟩, hS.pick [0, 2] rfl rfl⟩
                · skip
                  refine AWP.seqR rfl ?_
                  refine ASL.q (v := (.str p0)) rfl rfl (Light.quiet (opMove rfl rfl)) ?_
                  refine ASL.q (v := (.int .i64 a103.2.1)) rfl rfl (Light.quiet (opMove rfl rfl)) ?_
                  obtain ⟨a124, ha124, hF⟩ := bindE hF
                  refine ASL.q (v := (.int .u8 a124)) rfl rfl (Light.quiet (kIxS ha124 rfl und_9 rfl rfl)) ?_
                  refine ASL.q (v := (.bool (decide (a124 ≠ 41)))) rfl rfl (Light.quiet (opInt rfl rfl rfl rfl)) ?_
                  refine ASL.q (v := (.bool (decide (a124 ≠ 41)))) rfl rfl (Light.quiet (opAssign rfl rfl)) ?_
                  refine ASL.done ?_
                  refine AWP.ifP hF rfl (fun hc26 hF => ?_) (fun hc26 hF => ?_)
                  · skip
                    refine AWP.seqR rfl ?_
                    refine ASL.q (v := w21) rfl rfl (Light.quiet (opMove rfl rfl)) ?_
                    refine ASL.q (v := (.int .i64 a103.2.1)) rfl rfl (Light.quiet (opMove rfl rfl)) ?_
                    refine ASL.q (v := w21) rfl rfl (Light.quiet (opAssign rfl rfl)) ?_
                    refine ASL.q (v := (.int .i64 a103.2.1)) rfl rfl (Light.quiet (opAssign rfl rfl)) ?_
                    refine ASL.q (v := (.int .i64 3)) rfl rfl (Light.quiet (opAssign rfl rfl)) ?_
                    refine ASL.done ?_
                    refine AWP.ret ?_
                    refine QBlock.ret ?_
                    refine QThen.rt ?_
                    refine QBlock.ret ?_
                    refine QThen.rt ?_
                    obtain rfl := someE hF
                    exact QRet.many (vs := [w21, (.int .i64 a103.2.1), (.int .i64 3)]) ⟨rfl, rfl, rfl, trivial⟩ (by simp) ⟨_, ⟨w21, rfl, rfl⟩, hS.pick [0, 2] rfl rfl⟩
                  · skip
                    refine AWP.skip ?_
                    refine QBlock.nrm ?_
                    refine QThen.nrm ?_
                    refine AWP.seqR rfl ?_
                    refine ASL.q (v := w21) rfl rfl (Light.quiet (opMove rfl rfl)) ?_
                    refine ASL.q (v := (.int .i64 a103.2.1)) rfl rfl (Light.quiet (opMove rfl rfl)) ?_
                    refine ASL.q (v := (.int .i64 (W (a103.2.1 + 1)))) rfl rfl (Light.quiet (opInt rfl rfl rfl rfl)) ?_
                    refine ASL.q (v := w21) rfl rfl (Light.quiet (opAssign rfl rfl)) ?_
                    refine ASL.q (v := (.int .i64 (W (a103.2.1 + 1)))) rfl rfl (Light.quiet (opAssign rfl rfl)) ?_
                    refine ASL.q (v := (.int .i64 0)) rfl rfl (Light.quiet (opAssign rfl rfl)) ?_
                    refine ASL.done ?_
                    refine AWP.ret ?_
                    refine QBlock.ret ?_
                    refine QThen.rt ?_
                    obtain rfl := someE hF
                    exact QRet.many (vs := [w21, (.int .i64 (W (a103.2.1 + 1))), (.int .i64 0)]) ⟨rfl, rfl, rfl, trivial⟩ (by simp) ⟨_, ⟨w21, rfl, rfl⟩, hS.pick [0, 2] rfl rfl⟩
            · skip
              refine AWP.skip ?_
              refine QBlock.nrm ?_
              refine QThen.nrm ?_
              refine AWP.seqR rfl ?_
              refine ASL.q (v := vp2) rfl rfl (Light.quiet (opMove rfl rfl)) ?_
              refine ASL.q (v := (.int .i64 p1)) rfl rfl (Light.quiet (opMove rfl rfl)) ?_
              refine ASL.q (v := vp2) rfl rfl (Light.quiet (opAssign rfl rfl)) ?_
              refine ASL.q (v := (.int .i64 p1)) rfl rfl (Light.quiet (opAssign rfl rfl)) ?_
              refine ASL.q (v := (.int .i64 3)) rfl rfl (Light.quiet (opAssign rfl rfl)) ?_
              refine ASL.done ?_
              refine AWP.ret ?_
              obtain rfl := someE hF
              exact QRet.many (vs := [vp2, (.int .i64 p1), (.int .i64 3)]) ⟨rfl, rfl, rfl, trivial⟩ (by simp) ⟨_, ⟨vp2, rfl, rfl⟩, hS.pick [1, 2] rfl rfl⟩
theorem spec_l2Read.grp_ok {K : Nat} : (∀ {p0 : ByteArray} {p1 : Int} {p2 : Int} {p3 : (List TNode)} {r : ((List TNode) × Int × Int)} {vp3 : AV} , spec_l2Read K p0 p1 p2 p3 = some r → HS Try.prog 67 [(.str p0), (.int .i64 p1), (.int .i64 p2), vp3] [.row 3 vp3 (List.map TNode.av p3)] fun v L' => ∃ o0 : AV, v = .tup [o0, (.int .i64 r.2.1), (.int .i64 r.2.2)] ∧ L' = [.row 3 o0 (List.map TNode.av r.1)]) ∧ (∀ {p0 : ByteArray} {p1 : Int} {p2 : (List TNode)} {r : ((List TNode) × Int × Int)} {vp2 : AV} , spec_l2Atom K p0 p1 p2 = some r → HS Try.prog 89 [(.str p0), (.int .i64 p1), vp2] [.row 3 vp2 (List.map TNode.av p2)] fun v L' => ∃ o0 : AV, v = .tup [o0, (.int .i64 r.2.1), (.int .i64 r.2.2)] ∧ L' = [.row 3 o0 (List.map TNode.av r.1)]) := by
  induction K with
  | zero => exact ⟨(by intros; rename_i h; cases h), (by intros; rename_i h; cases h)⟩
  | succ K ih => exact ⟨(by intros; rename_i h; exact spec_l2Read.body_ok ih.1 ih.2 h), (by intros; rename_i h; exact spec_l2Atom.body_ok ih.1 ih.2 h)⟩

theorem spec_l2Read_ok {K : Nat} : (∀ {p0 : ByteArray} {p1 : Int} {p2 : Int} {p3 : (List TNode)} {r : ((List TNode) × Int × Int)} {vp3 : AV} , spec_l2Read K p0 p1 p2 p3 = some r → HS Try.prog 67 [(.str p0), (.int .i64 p1), (.int .i64 p2), vp3] [.row 3 vp3 (List.map TNode.av p3)] fun v L' => ∃ o0 : AV, v = .tup [o0, (.int .i64 r.2.1), (.int .i64 r.2.2)] ∧ L' = [.row 3 o0 (List.map TNode.av r.1)]) := spec_l2Read.grp_ok.1

theorem spec_l2Atom_ok {K : Nat} : (∀ {p0 : ByteArray} {p1 : Int} {p2 : (List TNode)} {r : ((List TNode) × Int × Int)} {vp2 : AV} , spec_l2Atom K p0 p1 p2 = some r → HS Try.prog 89 [(.str p0), (.int .i64 p1), vp2] [.row 3 vp2 (List.map TNode.av p2)] fun v L' => ∃ o0 : AV, v = .tup [o0, (.int .i64 r.2.1), (.int .i64 r.2.2)] ∧ L' = [.row 3 o0 (List.map TNode.av r.1)]) := spec_l2Read.grp_ok.2

set_option maxRecDepth 10000 in
theorem spec_ExprParse_ok {K : Nat} {p0 : ByteArray} {r : ((List TNode) × Int × Int)} (hF : spec_ExprParse K p0 = some r) : HS Try.prog 30 [(.str p0)] [] fun v L' => ∃ o0 : AV, v = .tup [o0, (.int .i64 r.2.1), (.int .i64 r.2.2)] ∧ L' = [.row 3 o0 (List.map TNode.av r.1)] := by
  intro H S hS
  refine HC.enter Try.func30 rfl Try.ntmps30 (by simp) ?_
  simp only [List.cons_append, List.nil_append] at hS
  unfold spec_ExprParse at hF
  refine AWP.seqR rfl ?_
  have hS := hNil (s := 3) (f := TNode.av) hS
  refine ASL.q (v := .nil) rfl rfl (Light.quiet (opAssign rfl rfl)) ?_
  refine ASL.q (v := (.int .i64 0)) rfl rfl (Light.quiet (opAssign rfl rfl)) ?_
  refine ASL.q (v := (.int .i64 0)) rfl rfl (Light.quiet (opAssign rfl rfl)) ?_
  refine ASL.done ?_
  refine AWP.seq ?_
  refine AWP.seqR rfl ?_
  refine ASL.q (v := (.str p0)) rfl rfl (Light.quiet (opMove rfl rfl)) ?_
  refine ASL.q (v := (.int .i64 (p0.size : Int))) rfl rfl (Light.quiet (opLenOf rfl rfl rfl lenT_9 rfl rfl)) ?_
  refine ASL.q (v := (.bool (decide (((p0.size : Int)) > 200)))) rfl rfl (Light.quiet (opInt rfl rfl rfl rfl)) ?_
  refine ASL.done ?_
  refine AWP.ifP hF rfl (fun hc2 hF => ?_) (fun hc2 hF => ?_)
  · skip
    refine AWP.seqR rfl ?_
    refine ASL.x rfl rfl (hLit (f := TNode.av) (zs := []) hS rfl rfl elemA_24 sizeA_31 zeroA_31 rfl rfl rfl rfl (by simp [cells, TNode.av]) (nlt rfl) ?_); rintro v11 G3 hK hS
    refine ASL.q (v := v11) rfl rfl (Light.quiet (opAssign rfl rfl)) ?_
    refine ASL.q (v := (.int .i64 0)) rfl rfl (Light.quiet (opAssign rfl rfl)) ?_
    refine ASL.q (v := (.int .i64 1)) rfl rfl (Light.quiet (opAssign rfl rfl)) ?_
    refine ASL.done ?_
    refine AWP.ret ?_
    refine QThen.rt ?_
    obtain rfl := someE hF
    exact QRet.many (vs := [v11, (.int .i64 0), (.int .i64 1)]) ⟨rfl, rfl, rfl, trivial⟩ (by simp) ⟨_, ⟨v11, rfl, rfl⟩, hS.pick [0, 2] rfl rfl⟩
  · skip
    refine AWP.skip ?_
    refine QThen.nrm ?_
    refine AWP.seqR rfl ?_
    refine ASL.q (v := (.str p0)) rfl rfl (Light.quiet (opMove rfl rfl)) ?_
    refine ASL.x rfl rfl (hLit (f := TNode.av) (zs := []) hS rfl rfl elemA_24 sizeA_31 zeroA_31 rfl rfl rfl rfl (by simp [cells, TNode.av]) (nlt rfl) ?_); rintro v14 G5 hK hS
    obtain ⟨a15, ha15, hF⟩ := bindE hF
    refine ASL.x rfl rfl (hCallS hS [0, 1, 2] (F := [.row 3 .nil (List.map TNode.av ([])), .snap S]) rfl rfl rfl call_67 (spec_l2Read_ok ha15) rfl rfl ?_); rintro _ _ G9 ⟨w7, rfl, rfl⟩ hS
    refine ASL.q (v := (.tup [w7, (.int .i64 a15.2.1), (.int .i64 a15.2.2)])) rfl rfl (Light.quiet (opMove rfl rfl)) ?_
    refine ASL.q (v := w7) rfl rfl (Light.quiet (opExtract rfl rfl rfl)) ?_
    refine ASL.q (v := (.int .i64 a15.2.1)) rfl rfl (Light.quiet (opExtract rfl rfl rfl)) ?_
    refine ASL.q (v := (.int .i64 a15.2.2)) rfl rfl (Light.quiet (opExtract rfl rfl rfl)) ?_
    refine ASL.q (v := w7) rfl rfl (Light.quiet (opAssign rfl rfl)) ?_
    refine ASL.q (v := (.int .i64 a15.2.1)) rfl rfl (Light.quiet (opAssign rfl rfl)) ?_
    refine ASL.q (v := (.int .i64 a15.2.2)) rfl rfl (Light.quiet (opAssign rfl rfl)) ?_
    refine ASL.done ?_
    refine AWP.seq ?_
    refine AWP.block ?_
    refine AWP.seqR rfl ?_
    refine ASL.q (v := (.int .i64 a15.2.2)) rfl rfl (Light.quiet (opMove rfl rfl)) ?_
    refine ASL.q (v := (.bool (decide (a15.2.2 ≠ 0)))) rfl rfl (Light.quiet (opInt rfl rfl rfl rfl)) ?_
    refine ASL.q (v := (.bool (decide (a15.2.2 ≠ 0)))) rfl rfl (Light.quiet (opAssign rfl rfl)) ?_
    refine ASL.done ?_
    refine AWP.ifP hF rfl (fun hc10 hF => ?_) (fun hc10 hF => ?_)
    · skip
      refine AWP.seqR rfl ?_
      refine ASL.x rfl rfl (hLit (f := TNode.av) (zs := []) hS rfl rfl elemA_24 sizeA_31 zeroA_31 rfl rfl rfl rfl (by simp [cells, TNode.av]) (nlt rfl) ?_); rintro v22 G11 hK hS
      refine ASL.q (v := (.int .i64 a15.2.1)) rfl rfl (Light.quiet (opMove rfl rfl)) ?_
      refine ASL.q (v := (.int .i64 a15.2.2)) rfl rfl (Light.quiet (opMove rfl rfl)) ?_
      refine ASL.q (v := v22) rfl rfl (Light.quiet (opAssign rfl rfl)) ?_
      refine ASL.q (v := (.int .i64 a15.2.1)) rfl rfl (Light.quiet (opAssign rfl rfl)) ?_
      refine ASL.q (v := (.int .i64 a15.2.2)) rfl rfl (Light.quiet (opAssign rfl rfl)) ?_
      refine ASL.done ?_
      refine AWP.ret ?_
      refine QBlock.ret ?_
      refine QThen.rt ?_
      obtain rfl := someE hF
      exact QRet.many (vs := [v22, (.int .i64 a15.2.1), (.int .i64 a15.2.2)]) ⟨rfl, rfl, rfl, trivial⟩ (by simp) ⟨_, ⟨v22, rfl, rfl⟩, hS.pick [0, 3] rfl rfl⟩
    · skip
      refine AWP.seqR rfl ?_
      refine ASL.q (v := (.int .i64 a15.2.1)) rfl rfl (Light.quiet (opMove rfl rfl)) ?_
      refine ASL.q (v := (.str p0)) rfl rfl (Light.quiet (opMove rfl rfl)) ?_
      refine ASL.q (v := (.int .i64 (p0.size : Int))) rfl rfl (Light.quiet (opLenOf rfl rfl rfl lenT_9 rfl rfl)) ?_
      refine ASL.q (v := (.bool (decide (a15.2.1 < ((p0.size : Int)))))) rfl rfl (Light.quiet (opInt rfl rfl rfl rfl)) ?_
      refine ASL.q (v := (.bool (decide (a15.2.1 < ((p0.size : Int)))))) rfl rfl (Light.quiet (opAssign rfl rfl)) ?_
      refine ASL.done ?_
      refine AWP.ifP hF rfl (fun hc13 hF => ?_) (fun hc13 hF => ?_)
      · skip
        refine AWP.seqR rfl ?_
        refine ASL.x rfl rfl (hLit (f := TNode.av) (zs := []) hS rfl rfl elemA_24 sizeA_31 zeroA_31 rfl rfl rfl rfl (by simp [cells, TNode.av]) (nlt rfl) ?_); rintro v30 G14 hK hS
        refine ASL.q (v := (.int .i64 a15.2.1)) rfl rfl (Light.quiet (opMove rfl rfl)) ?_
        refine ASL.q (v := v30) rfl rfl (Light.quiet (opAssign rfl rfl)) ?_
        refine ASL.q (v := (.int .i64 a15.2.1)) rfl rfl (Light.quiet (opAssign rfl rfl)) ?_
        refine ASL.q (v := (.int .i64 5)) rfl rfl (Light.quiet (opAssign rfl rfl)) ?_
        refine ASL.done ?_
        refine AWP.ret ?_
        refine QBlock.ret ?_
        refine QThen.rt ?_
        obtain rfl := someE hF
        exact QRet.many (vs := [v30, (.int .i64 a15.2.1), (.int .i64 5)]) ⟨rfl, rfl, rfl, trivial⟩ (by simp) ⟨_, ⟨v30, rfl, rfl⟩, hS.pick [0, 3] rfl rfl⟩
      · skip
        refine AWP.seqR rfl ?_
        refine ASL.q (v := w7) rfl rfl (Light.quiet (opMove rfl rfl)) ?_
        refine ASL.q (v := (.int .i64 (a15.1.length : Int))) rfl rfl (Light.quiet (kLen hS (j := 0) rfl rfl rfl rfl lenT_24 rfl)) ?_
        refine ASL.q (v := (.bool (decide (((a15.1.length : Int)) > 31)))) rfl rfl (Light.quiet (opInt rfl rfl rfl rfl)) ?_
        refine ASL.q (v := (.bool (decide (((a15.1.length : Int)) > 31)))) rfl rfl (Light.quiet (opAssign rfl rfl)) ?_
        refine ASL.done ?_
        refine AWP.ifP hF rfl (fun hc16 hF => ?_) (fun hc16 hF => ?_)
        · skip
          refine AWP.seqR rfl ?_
          refine ASL.x rfl rfl (hLit (f := TNode.av) (zs := []) hS rfl rfl elemA_24 sizeA_31 zeroA_31 rfl rfl rfl rfl (by simp [cells, TNode.av]) (nlt rfl) ?_); rintro v36 G17 hK hS
          refine ASL.q (v := v36) rfl rfl (Light.quiet (opAssign rfl rfl)) ?_
          refine ASL.q (v := (.int .i64 0)) rfl rfl (Light.quiet (opAssign rfl rfl)) ?_
          refine ASL.q (v := (.int .i64 4)) rfl rfl (Light.quiet (opAssign rfl rfl)) ?_
          refine ASL.done ?_
          refine AWP.ret ?_
          refine QBlock.ret ?_
          refine QThen.rt ?_
          obtain rfl := someE hF
          exact QRet.many (vs := [v36, (.int .i64 0), (.int .i64 4)]) ⟨rfl, rfl, rfl, trivial⟩ (by simp) ⟨_, ⟨v36, rfl, rfl⟩, hS.pick [0, 3] rfl rfl⟩
        · skip
          refine AWP.skip ?_
          refine QBlock.nrm ?_
          refine QThen.nrm ?_
          refine AWP.seqR rfl ?_
          refine ASL.q (v := w7) rfl rfl (Light.quiet (opMove rfl rfl)) ?_
          refine ASL.q (v := (.str p0)) rfl rfl (Light.quiet (opMove rfl rfl)) ?_
          refine ASL.q (v := (.int .i64 (p0.size : Int))) rfl rfl (Light.quiet (opLenOf rfl rfl rfl lenT_9 rfl rfl)) ?_
          refine ASL.q (v := w7) rfl rfl (Light.quiet (opAssign rfl rfl)) ?_
          refine ASL.q (v := (.int .i64 (p0.size : Int))) rfl rfl (Light.quiet (opAssign rfl rfl)) ?_
          refine ASL.q (v := (.int .i64 0)) rfl rfl (Light.quiet (opAssign rfl rfl)) ?_
          refine ASL.done ?_
          refine AWP.ret ?_
          obtain rfl := someE hF
          exact QRet.many (vs := [w7, (.int .i64 (p0.size : Int)), (.int .i64 0)]) ⟨rfl, rfl, rfl, trivial⟩ (by simp) ⟨_, ⟨w7, rfl, rfl⟩, hS.pick [0, 2] rfl rfl⟩

set_option maxRecDepth 10000 in
theorem laws_FnExprText_ok {K : Nat} {p0 : (List Int)} {r : Bool} (hF : laws_FnExprText K p0 = some r) : PC Try.prog 6 [(.list 1 (List.map (AV.int .u8) p0))] fun v => v = (.bool r) := by
  refine PC.enter Try.func6 rfl Try.ntmps6 (by simp) ?_
  have hS := Sep.void; unfold laws_FnExprText at hF
  refine AWP.seqR rfl ?_
  refine ASL.q (v := (.bool false)) rfl rfl (Light.quiet (opAssign rfl rfl)) ?_
  refine ASL.done ?_
  refine AWP.seq ?_
  refine AWP.seqR rfl ?_
  refine ASL.q (v := (.list 1 (List.map (AV.int .u8) p0))) rfl rfl (Light.quiet (opMove rfl rfl)) ?_
  refine ASL.q (v := (.bool (laws_big p0))) rfl rfl ((qCall rfl rfl call_7 (laws_big_ok p0) rfl)) ?_
  refine ASL.done ?_
  refine AWP.ifB hF rfl (fun hc1 hF => ?_) (fun hc1 hF => ?_)
  · skip
    refine AWP.seqR rfl ?_
    refine ASL.q (v := (.bool true)) rfl rfl (Light.quiet (opAssign rfl rfl)) ?_
    refine ASL.done ?_
    refine AWP.ret ?_
    refine QThen.rt ?_
    obtain rfl := someE hF
    exact QRet.sole (v := (.bool true)) ⟨rfl, trivial⟩ rfl
  · skip
    refine AWP.skip ?_
    refine QThen.nrm ?_
    refine AWP.seqR rfl ?_
    refine ASL.q (v := (.list 1 (List.map (AV.int .u8) p0))) rfl rfl (Light.quiet (opMove rfl rfl)) ?_
    obtain ⟨a21, ha21, hF⟩ := bindE hF
    refine ASL.q (v := (.list 3 (List.map TNode.av a21))) rfl rfl ((qCall rfl rfl call_24 (PO.list (spec_DrawExprPrint_ok ha21)) rfl)) ?_
    refine ASL.q (v := (.list 3 (List.map TNode.av a21))) rfl rfl (Light.quiet (opAssign rfl rfl)) ?_
    refine ASL.done ?_
    refine AWP.seqR rfl ?_
    refine ASL.q (v := (.list 3 (List.map TNode.av a21))) rfl rfl (Light.quiet (opMove rfl rfl)) ?_
    obtain ⟨a23, ha23, hF⟩ := bindE hF
    refine ASL.q (v := (.str a23)) rfl rfl ((qCall rfl rfl call_25 (impl_ExprPrint_ok ha23) rfl)) ?_
    refine ASL.q (v := (.str a23)) rfl rfl (Light.quiet (opAssign rfl rfl)) ?_
    refine ASL.done ?_
    refine AWP.seq ?_
    refine AWP.seqR rfl ?_
    refine ASL.q (v := (.list 3 (List.map TNode.av a21))) rfl rfl (Light.quiet (opMove rfl rfl)) ?_
    obtain ⟨a25, ha25, hF⟩ := bindE hF
    refine ASL.q (v := (.bool a25)) rfl rfl ((qCall rfl rfl call_26 (spec_ExprOk_ok ha25) rfl)) ?_
    refine ASL.q (v := (.bool (!a25))) rfl rfl (Light.quiet (opNot rfl rfl)) ?_
    refine ASL.done ?_
    refine AWP.ifB hF rfl (fun hc2 hF => ?_) (fun hc2 hF => ?_)
    · skip
      refine AWP.seqR rfl ?_
      refine ASL.q (v := (.str a23)) rfl rfl (Light.quiet (opMove rfl rfl)) ?_
      refine ASL.q (v := (.bool (a23.toList == ({ data := #[] } : ByteArray).toList))) rfl rfl (Light.quiet (opStr rfl rfl rfl rfl)) ?_
      obtain ⟨c29, hc29, hF⟩ := bndE hF
      refine ASL.q (v := (.bool c29)) rfl rfl ((Quiet.cast (Light.quiet (opMove rfl rfl)) (congrArg AV.bool hc29.symm))) ?_
      refine ASL.g (v := (.list 3 (List.map TNode.av a21))) (.bool c29) true rfl (wT _) rfl (fun hG => by have q0 := hG; subst q0; exact Light.quiet (opMove rfl rfl)) ?_
      obtain ⟨a31, ha31, hF⟩ := bindE hF
      refine ASL.g (v := (.bool a31)) (.bool c29) true rfl (wT _) rfl (fun hG => by have q0 := hG; subst q0; exact (qCall rfl rfl call_27 (impl_ExprOk_ok (whenE ha31)) rfl)) ?_
      refine ASL.g (v := (.bool (!a31))) (.bool c29) true rfl (wT _) rfl (fun hG => by have q0 := hG; subst q0; exact Light.quiet (opNot rfl rfl)) ?_
      refine ASL.q (v := (.bool (c29 && (!a31)))) rfl rfl (Light.quiet (opPick (b := c29) rfl rfl (by cases c29 <;> rfl))) ?_
      refine ASL.q (v := (.bool (c29 && (!a31)))) rfl rfl (Light.quiet (opAssign rfl rfl)) ?_
      refine ASL.done ?_
      refine AWP.ret ?_
      refine QThen.rt ?_
      obtain rfl := someE hF
      exact QRet.sole (v := (.bool (c29 && (!a31)))) ⟨rfl, trivial⟩ rfl
    · skip
      refine AWP.skip ?_
      refine QThen.nrm ?_
      refine AWP.seqR rfl ?_
      refine ASL.q (v := (.str a23)) rfl rfl (Light.quiet (opMove rfl rfl)) ?_
      obtain ⟨a36, ha36, hF⟩ := bindE hF
      refine ASL.x rfl rfl (hCallSR hS rfl rfl call_28 (impl_ExprParse_ok ha36) ⟨.same _, trivial⟩ (by rintro _ _ G ⟨w3, rfl, rfl⟩ hG; exact ⟨(Scal.tup (ScalC.cons (hG.scR (k := 0) rfl) (ScalC.cons (by constructor) (ScalC.cons (by constructor) ScalC.nil)))), ⟨(Scal.row (fun _ => by simp only [TNode.av, cells, List.mem_cons, List.not_mem_nil, or_false]; rintro c hc; rcases hc with rfl | rfl | rfl <;> constructor)), trivial⟩⟩) ?_); rintro _ _ G5 ⟨w3, rfl, rfl⟩ hK hS
      refine ASL.q (v := (.tup [w3, (.int .i64 a36.2.1), (.int .i64 a36.2.2)])) rfl rfl (Light.quiet (opMove rfl rfl)) ?_
      refine ASL.q (v := w3) rfl rfl (Light.quiet (opExtract rfl rfl rfl)) ?_
      refine ASL.q (v := (.int .i64 a36.2.1)) rfl rfl (Light.quiet (opExtract rfl rfl rfl)) ?_
      refine ASL.q (v := (.int .i64 a36.2.2)) rfl rfl (Light.quiet (opExtract rfl rfl rfl)) ?_
      refine ASL.q (v := w3) rfl rfl (Light.quiet (opAssign rfl rfl)) ?_
      refine ASL.q (v := (.int .i64 a36.2.1)) rfl rfl (Light.quiet (opAssign rfl rfl)) ?_
      refine ASL.q (v := (.int .i64 a36.2.2)) rfl rfl (Light.quiet (opAssign rfl rfl)) ?_
      refine ASL.done ?_
      refine AWP.seq ?_
      refine AWP.seqR rfl ?_
      refine ASL.q (v := (.str a23)) rfl rfl (Light.quiet (opMove rfl rfl)) ?_
      refine ASL.q (v := (.int .i64 (a23.size : Int))) rfl rfl (Light.quiet (opLenOf rfl rfl rfl lenT_9 rfl rfl)) ?_
      refine ASL.q (v := (.bool (decide (((a23.size : Int)) ≤ 200)))) rfl rfl (Light.quiet (opInt rfl rfl rfl rfl)) ?_
      obtain ⟨c43, hc43, hF⟩ := bndE hF
      refine ASL.q (v := (.bool c43)) rfl rfl ((Quiet.cast (Light.quiet (opMove rfl rfl)) (congrArg AV.bool hc43.symm))) ?_
      refine ASL.g (v := (.int .i64 a36.2.2)) (.bool c43) true rfl (wT _) rfl (fun hG => by have q0 := hG; subst q0; exact Light.quiet (opMove rfl rfl)) ?_
      refine ASL.g (v := (.bool (decide (a36.2.2 ≠ 0)))) (.bool c43) true rfl (wT _) rfl (fun hG => by have q0 := hG; subst q0; exact Light.quiet (opInt rfl rfl rfl rfl)) ?_
      obtain ⟨c46, hc46, hF⟩ := bndE hF
      refine ASL.g (v := (.bool c46)) (.bool c43) true rfl (wT _) rfl (fun hG => by have q0 := hG; subst q0; exact (Quiet.cast (Light.quiet (opMove rfl rfl)) (congrArg AV.bool hc46.symm))) ?_
      refine ASL.g (v := (.int .i64 a36.2.1)) (bif c43 then (.bool c46) else .tup []) false rfl (wGF _ _) rfl (fun hG => by have q0 := gA1 hG; have q1 := gN (gA2 hG); subst q0; subst q1; exact Light.quiet (opMove rfl rfl)) ?_
      refine ASL.g (v := (.str a23)) (bif c43 then (.bool c46) else .tup []) false rfl (wGF _ _) rfl (fun hG => by have q0 := gA1 hG; have q1 := gN (gA2 hG); subst q0; subst q1; exact Light.quiet (opMove rfl rfl)) ?_
      refine ASL.g (v := (.int .i64 (a23.size : Int))) (bif c43 then (.bool c46) else .tup []) false rfl (wGF _ _) rfl (fun hG => by have q0 := gA1 hG; have q1 := gN (gA2 hG); subst q0; subst q1; exact Light.quiet (opLenOf rfl rfl rfl lenT_9 rfl rfl)) ?_
      refine ASL.g (v := (.bool (decide (a36.2.1 ≠ ((a23.size : Int)))))) (bif c43 then (.bool c46) else .tup []) false rfl (wGF _ _) rfl (fun hG => by have q0 := gA1 hG; have q1 := gN (gA2 hG); subst q0; subst q1; exact Light.quiet (opInt rfl rfl rfl rfl)) ?_
      refine ASL.g (v := (.bool (c46 || (decide (a36.2.1 ≠ ((a23.size : Int))))))) (.bool c43) true rfl (wT _) rfl (fun hG => by have q0 := hG; subst q0; exact Light.quiet (opPick (b := c46) rfl rfl (by cases c46 <;> rfl))) ?_
      obtain ⟨c52, hc52, hF⟩ := bndE hF
      refine ASL.g (v := (.bool c52)) (.bool c43) true rfl (wT _) rfl (fun hG => by have q0 := hG; subst q0; exact (Quiet.cast (Light.quiet (opMove rfl rfl)) (congrArg AV.bool hc52.symm))) ?_
      refine ASL.g (v := w3) (bif c43 then (.bool c52) else .tup []) false rfl (wGF _ _) rfl (fun hG => by have q0 := gA1 hG; have q1 := gN (gA2 hG); subst q0; subst q1; exact Light.quiet (opMove rfl rfl)) ?_
      refine ASL.g (v := (.list 3 (List.map TNode.av a21))) (bif c43 then (.bool c52) else .tup []) false rfl (wGF _ _) rfl (fun hG => by have q0 := gA1 hG; have q1 := gN (gA2 hG); subst q0; subst q1; exact Light.quiet (opMove rfl rfl)) ?_
      obtain ⟨a55, ha55, hF⟩ := bindE hF
      refine ASL.g (v := (.bool a55)) (bif c43 then (.bool c52) else .tup []) false rfl (wGF _ _) rfl (fun hG => by have q0 := gA1 hG; have q1 := gN (gA2 hG); subst q0; subst q1; exact (qCallR hS rfl rfl call_21 (laws_sameNodes_ok (whenE ha55)) ⟨.row (k := 0) rfl, .same _, trivial⟩ (by constructor))) ?_
      refine ASL.g (v := (.bool (!a55))) (bif c43 then (.bool c52) else .tup []) false rfl (wGF _ _) rfl (fun hG => by have q0 := gA1 hG; have q1 := gN (gA2 hG); subst q0; subst q1; exact Light.quiet (opNot rfl rfl)) ?_
      refine ASL.g (v := (.bool (c52 || (!a55)))) (.bool c43) true rfl (wT _) rfl (fun hG => by have q0 := hG; subst q0; exact Light.quiet (opPick (b := c52) rfl rfl (by cases c52 <;> rfl))) ?_
      refine ASL.q (v := (.bool (c43 && (c52 || (!a55))))) rfl rfl (Light.quiet (opPick (b := c43) rfl rfl (by cases c43 <;> rfl))) ?_
      refine ASL.done ?_
      refine AWP.ifB hF rfl (fun hc6 hF => ?_) (fun hc6 hF => ?_)
      · skip
        refine AWP.seqR rfl ?_
        refine ASL.q (v := (.bool false)) rfl rfl (Light.quiet (opAssign rfl rfl)) ?_
        refine ASL.done ?_
        refine AWP.ret ?_
        refine QThen.rt ?_
        obtain rfl := someE hF
        exact QRet.sole (v := (.bool false)) ⟨rfl, trivial⟩ rfl
      · skip
        refine AWP.skip ?_
        refine QThen.nrm ?_
        refine AWP.seqR rfl ?_
        refine ASL.q (v := (.list 1 (List.map (AV.int .u8) p0))) rfl rfl (Light.quiet (opMove rfl rfl)) ?_
        obtain ⟨a60, ha60, hF⟩ := bindE hF
        refine ASL.q (v := (.str a60)) rfl rfl ((qCall rfl rfl call_29 (spec_DrawExprParse_ok ha60) rfl)) ?_
        refine ASL.q (v := (.str a60)) rfl rfl (Light.quiet (opAssign rfl rfl)) ?_
        refine ASL.done ?_
        refine AWP.seqR rfl ?_
        refine ASL.q (v := (.str a60)) rfl rfl (Light.quiet (opMove rfl rfl)) ?_
        obtain ⟨a63, ha63, hF⟩ := bindE hF
        refine ASL.x rfl rfl (hCallSR hS rfl rfl call_28 (impl_ExprParse_ok ha63) ⟨.same _, trivial⟩ (by rintro _ _ G ⟨w7, rfl, rfl⟩ hG; exact ⟨(Scal.tup (ScalC.cons (hG.scR (k := 0) rfl) (ScalC.cons (by constructor) (ScalC.cons (by constructor) ScalC.nil)))), ⟨(Scal.row (fun _ => by simp only [TNode.av, cells, List.mem_cons, List.not_mem_nil, or_false]; rintro c hc; rcases hc with rfl | rfl | rfl <;> constructor)), trivial⟩⟩) ?_); rintro _ _ G9 ⟨w7, rfl, rfl⟩ hK hS
        refine ASL.q (v := (.tup [w7, (.int .i64 a63.2.1), (.int .i64 a63.2.2)])) rfl rfl (Light.quiet (opMove rfl rfl)) ?_
        refine ASL.q (v := w7) rfl rfl (Light.quiet (opExtract rfl rfl rfl)) ?_
        refine ASL.q (v := (.int .i64 a63.2.1)) rfl rfl (Light.quiet (opExtract rfl rfl rfl)) ?_
        refine ASL.q (v := (.int .i64 a63.2.2)) rfl rfl (Light.quiet (opExtract rfl rfl rfl)) ?_
        refine ASL.q (v := w7) rfl rfl (Light.quiet (opAssign rfl rfl)) ?_
        refine ASL.q (v := (.int .i64 a63.2.1)) rfl rfl (Light.quiet (opAssign rfl rfl)) ?_
        refine ASL.q (v := (.int .i64 a63.2.2)) rfl rfl (Light.quiet (opAssign rfl rfl)) ?_
        refine ASL.done ?_
        refine AWP.seqR rfl ?_
        refine ASL.q (v := (.str a60)) rfl rfl (Light.quiet (opMove rfl rfl)) ?_
        obtain ⟨a69, ha69, hF⟩ := bindE hF
        refine ASL.x rfl rfl (hCallSR hS rfl rfl call_30 (spec_ExprParse_ok ha69) ⟨.same _, trivial⟩ (by rintro _ _ G ⟨w10, rfl, rfl⟩ hG; exact ⟨(Scal.tup (ScalC.cons (hG.scR (k := 0) rfl) (ScalC.cons (by constructor) (ScalC.cons (by constructor) ScalC.nil)))), ⟨(Scal.row (fun _ => by simp only [TNode.av, cells, List.mem_cons, List.not_mem_nil, or_false]; rintro c hc; rcases hc with rfl | rfl | rfl <;> constructor)), trivial⟩⟩) ?_); rintro _ _ G12 ⟨w10, rfl, rfl⟩ hK hS
        refine ASL.q (v := (.tup [w10, (.int .i64 a69.2.1), (.int .i64 a69.2.2)])) rfl rfl (Light.quiet (opMove rfl rfl)) ?_
        refine ASL.q (v := w10) rfl rfl (Light.quiet (opExtract rfl rfl rfl)) ?_
        refine ASL.q (v := (.int .i64 a69.2.1)) rfl rfl (Light.quiet (opExtract rfl rfl rfl)) ?_
        refine ASL.q (v := (.int .i64 a69.2.2)) rfl rfl (Light.quiet (opExtract rfl rfl rfl)) ?_
        refine ASL.q (v := w10) rfl rfl (Light.quiet (opAssign rfl rfl)) ?_
        refine ASL.q (v := (.int .i64 a69.2.1)) rfl rfl (Light.quiet (opAssign rfl rfl)) ?_
        refine ASL.q (v := (.int .i64 a69.2.2)) rfl rfl (Light.quiet (opAssign rfl rfl)) ?_
        refine ASL.done ?_
        refine AWP.seq ?_
        refine AWP.seqR rfl ?_
        refine ASL.q (v := (.int .i64 a63.2.1)) rfl rfl (Light.quiet (opMove rfl rfl)) ?_
        refine ASL.q (v := (.int .i64 a69.2.1)) rfl rfl (Light.quiet (opMove rfl rfl)) ?_
        refine ASL.q (v := (.bool (decide (a63.2.1 ≠ a69.2.1)))) rfl rfl (Light.quiet (opInt rfl rfl rfl rfl)) ?_
        obtain ⟨c76, hc76, hF⟩ := bndE hF
        refine ASL.q (v := (.bool c76)) rfl rfl ((Quiet.cast (Light.quiet (opMove rfl rfl)) (congrArg AV.bool hc76.symm))) ?_
        refine ASL.g (v := (.int .i64 a63.2.2)) (.bool c76) false rfl (wF _) rfl (fun hG => by have q0 := gN hG; subst q0; exact Light.quiet (opMove rfl rfl)) ?_
        refine ASL.g (v := (.int .i64 a69.2.2)) (.bool c76) false rfl (wF _) rfl (fun hG => by have q0 := gN hG; subst q0; exact Light.quiet (opMove rfl rfl)) ?_
        refine ASL.g (v := (.bool (decide (a63.2.2 ≠ a69.2.2)))) (.bool c76) false rfl (wF _) rfl (fun hG => by have q0 := gN hG; subst q0; exact Light.quiet (opInt rfl rfl rfl rfl)) ?_
        refine ASL.q (v := (.bool (c76 || (decide (a63.2.2 ≠ a69.2.2))))) rfl rfl (Light.quiet (opPick (b := c76) rfl rfl (by cases c76 <;> rfl))) ?_
        refine ASL.done ?_
        refine AWP.ifB hF rfl (fun hc13 hF => ?_) (fun hc13 hF => ?_)
        · skip
          refine AWP.seqR rfl ?_
          refine ASL.q (v := (.bool false)) rfl rfl (Light.quiet (opAssign rfl rfl)) ?_
          refine ASL.done ?_
          refine AWP.ret ?_
          refine QThen.rt ?_
          obtain rfl := someE hF
          exact QRet.sole (v := (.bool false)) ⟨rfl, trivial⟩ rfl
        · skip
          refine AWP.skip ?_
          refine QThen.nrm ?_
          refine AWP.seq ?_
          refine AWP.seqR rfl ?_
          refine ASL.q (v := (.int .i64 a63.2.2)) rfl rfl (Light.quiet (opMove rfl rfl)) ?_
          refine ASL.q (v := (.bool (decide (a63.2.2 ≠ 0)))) rfl rfl (Light.quiet (opInt rfl rfl rfl rfl)) ?_
          refine ASL.done ?_
          refine AWP.ifP hF rfl (fun hc14 hF => ?_) (fun hc14 hF => ?_)
          · skip
            refine AWP.seqR rfl ?_
            refine ASL.q (v := w7) rfl rfl (Light.quiet (opMove rfl rfl)) ?_
            refine ASL.q (v := (.int .i64 (a63.1.length : Int))) rfl rfl (Light.quiet (kLen hS (j := 1) rfl rfl rfl rfl lenT_24 rfl)) ?_
            refine ASL.q (v := (.bool (decide (((a63.1.length : Int)) = 0)))) rfl rfl (Light.quiet (opInt rfl rfl rfl rfl)) ?_
            obtain ⟨c86, hc86, hF⟩ := bndE hF
            refine ASL.q (v := (.bool c86)) rfl rfl ((Quiet.cast (Light.quiet (opMove rfl rfl)) (congrArg AV.bool hc86.symm))) ?_
            refine ASL.g (v := (.int .i64 a63.2.1)) (.bool c86) true rfl (wT _) rfl (fun hG => by have q0 := hG; subst q0; exact Light.quiet (opMove rfl rfl)) ?_
            refine ASL.g (v := (.str a60)) (.bool c86) true rfl (wT _) rfl (fun hG => by have q0 := hG; subst q0; exact Light.quiet (opMove rfl rfl)) ?_
            refine ASL.g (v := (.int .i64 (a60.size : Int))) (.bool c86) true rfl (wT _) rfl (fun hG => by have q0 := hG; subst q0; exact Light.quiet (opLenOf rfl rfl rfl lenT_9 rfl rfl)) ?_
            refine ASL.g (v := (.bool (decide (a63.2.1 ≤ ((a60.size : Int)))))) (.bool c86) true rfl (wT _) rfl (fun hG => by have q0 := hG; subst q0; exact Light.quiet (opInt rfl rfl rfl rfl)) ?_
            refine ASL.q (v := (.bool (c86 && (decide (a63.2.1 ≤ ((a60.size : Int))))))) rfl rfl (Light.quiet (opPick (b := c86) rfl rfl (by cases c86 <;> rfl))) ?_
            refine ASL.q (v := (.bool (c86 && (decide (a63.2.1 ≤ ((a60.size : Int))))))) rfl rfl (Light.quiet (opAssign rfl rfl)) ?_
            refine ASL.done ?_
            refine AWP.ret ?_
            refine QThen.rt ?_
            obtain rfl := someE hF
            exact QRet.sole (v := (.bool (c86 && (decide (a63.2.1 ≤ ((a60.size : Int))))))) ⟨rfl, trivial⟩ rfl
          · skip
            refine AWP.skip ?_
            refine QThen.nrm ?_
            refine AWP.seqR rfl ?_
            refine ASL.q (v := w7) rfl rfl (Light.quiet (opMove rfl rfl)) ?_
            obtain ⟨a94, ha94, hF⟩ := bindE hF
            refine ASL.q (v := (.str a94)) rfl rfl ((qCallR hS rfl rfl call_25 (impl_ExprPrint_ok ha94) ⟨.row (k := 1) rfl, trivial⟩ (by constructor))) ?_
            obtain ⟨a95, ha95, hF⟩ := bindE hF
            refine ASL.x rfl rfl (hCallSR hS rfl rfl call_28 (impl_ExprParse_ok ha95) ⟨.same _, trivial⟩ (by rintro _ _ G ⟨w15, rfl, rfl⟩ hG; exact ⟨(Scal.tup (ScalC.cons (hG.scR (k := 0) rfl) (ScalC.cons (by constructor) (ScalC.cons (by constructor) ScalC.nil)))), ⟨(Scal.row (fun _ => by simp only [TNode.av, cells, List.mem_cons, List.not_mem_nil, or_false]; rintro c hc; rcases hc with rfl | rfl | rfl <;> constructor)), trivial⟩⟩) ?_); rintro _ _ G17 ⟨w15, rfl, rfl⟩ hK hS
            refine ASL.q (v := (.tup [w15, (.int .i64 a95.2.1), (.int .i64 a95.2.2)])) rfl rfl (Light.quiet (opMove rfl rfl)) ?_
            refine ASL.q (v := w15) rfl rfl (Light.quiet (opExtract rfl rfl rfl)) ?_
            refine ASL.q (v := (.int .i64 a95.2.1)) rfl rfl (Light.quiet (opExtract rfl rfl rfl)) ?_
            refine ASL.q (v := (.int .i64 a95.2.2)) rfl rfl (Light.quiet (opExtract rfl rfl rfl)) ?_
            refine ASL.q (v := w15) rfl rfl (Light.quiet (opAssign rfl rfl)) ?_
            refine ASL.q (v := (.int .i64 a95.2.1)) rfl rfl (Light.quiet (opAssign rfl rfl)) ?_
            refine ASL.q (v := (.int .i64 a95.2.2)) rfl rfl (Light.quiet (opAssign rfl rfl)) ?_
            refine ASL.done ?_
            refine AWP.seqR rfl ?_
            refine ASL.q (v := (.int .i64 a95.2.2)) rfl rfl (Light.quiet (opMove rfl rfl)) ?_
            refine ASL.q (v := (.bool (decide (a95.2.2 = 0)))) rfl rfl (Light.quiet (opInt rfl rfl rfl rfl)) ?_
            obtain ⟨c101, hc101, hF⟩ := bndE hF
            refine ASL.q (v := (.bool c101)) rfl rfl ((Quiet.cast (Light.quiet (opMove rfl rfl)) (congrArg AV.bool hc101.symm))) ?_
            refine ASL.g (v := w7) (.bool c101) true rfl (wT _) rfl (fun hG => by have q0 := hG; subst q0; exact Light.quiet (opMove rfl rfl)) ?_
            refine ASL.g (v := w15) (.bool c101) true rfl (wT _) rfl (fun hG => by have q0 := hG; subst q0; exact Light.quiet (opMove rfl rfl)) ?_
            obtain ⟨a104, ha104, hF⟩ := bindE hF
            refine ASL.g (v := (.bool a104)) (.bool c101) true rfl (wT _) rfl (fun hG => by have q0 := hG; subst q0; exact (qCallR hS rfl rfl call_21 (laws_sameNodes_ok (whenE ha104)) ⟨.row (k := 2) rfl, .row (k := 0) rfl, trivial⟩ (by constructor))) ?_
            refine ASL.q (v := (.bool (c101 && a104))) rfl rfl (Light.quiet (opPick (b := c101) rfl rfl (by cases c101 <;> rfl))) ?_
            refine ASL.q (v := (.bool (c101 && a104))) rfl rfl (Light.quiet (opAssign rfl rfl)) ?_
            refine ASL.done ?_
            refine AWP.ret ?_
            obtain rfl := someE hF
            exact QRet.sole (v := (.bool (c101 && a104))) ⟨rfl, trivial⟩ rfl

end Go.Proofs.Ytmmgpcnngaekoaa
