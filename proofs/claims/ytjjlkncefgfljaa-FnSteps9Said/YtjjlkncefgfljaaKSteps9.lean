/- Each of these functions of the program comes to just what its plain function says: FnSteps9. -/
import Derived.Test.YtjjlkncefgfljaaDSteps9
import Derived.Test.YtjjlkncefgfljaaFa
import Derived.Test.YtjjlkncefgfljaaKPair8
import Derived.Test.YtjjlkncefgfljaaKLtlAt
namespace Go.Proofs.Ytjjlkncefgfljaa
open Go Go.RowKit E
set_option linter.unusedVariables false
set_option maxRecDepth 10000 in
theorem spec_l3DrawLetters_ok {p0 : Tl1Cur} {p1 : Int} {p2 : Int} {r : ((List Int) × Tl1Cur)} {bp0 : Nat} (hF : spec_l3DrawLetters p0 p1 p2 = some r) : HS Try.prog 129 [(.ptr bp0 0), (.int .i64 p1), (.int .i64 p2)] [.cell bp0 [(.list 1 (List.map (AV.int .u8) p0.b)), (.int .i64 p0.i), (.int .i64 p0.h)]] fun v L' => ∃ o0 : AV, v = o0 ∧ L' = [.row 1 o0 (List.map (AV.int .i64) r.1), .cell bp0 [(.list 1 (List.map (AV.int .u8) r.2.b)), (.int .i64 r.2.i), (.int .i64 r.2.h)]] := by
  intro H S hS
  refine HC.enter Try.func129 rfl Try.ntmps129 (by simp) ?_
  simp only [List.cons_append, List.nil_append] at hS
  unfold spec_l3DrawLetters at hF
  refine AWP.seqR rfl ?_
  have hS := hNil (s := 1) (f := (AV.int .i64)) hS
  refine ASL.q (v := .nil) rfl rfl (Light.quiet (opAssign rfl rfl)) ?_
  refine ASL.done ?_
  refine AWP.seqR rfl ?_
  refine ASL.x rfl rfl (hLit (f := (AV.int .i64)) (zs := []) hS rfl rfl elemA_32 sizeA_3 zeroA_3 rfl rfl rfl rfl (by simp [cells]) (nlt rfl) ?_); rintro v10 G3 hK hS
  refine ASL.q (v := v10) rfl rfl (Light.quiet (opAssign rfl rfl)) ?_
  refine ASL.done ?_
  refine AWP.seqR rfl ?_
  refine ASL.q (v := (.ptr bp0 0)) rfl rfl (Light.quiet (opMove rfl rfl)) ?_
  refine ASL.q (v := (.int .i64 p1)) rfl rfl (Light.quiet (opMove rfl rfl)) ?_
  refine ASL.q (v := (.int .i64 (W (p1 + 1)))) rfl rfl (Light.quiet (opInt rfl rfl rfl rfl)) ?_
  obtain ⟨a14, ha14, hF⟩ := bindE hF
  refine ASL.x rfl rfl (hCallS hS [2, 0, 1, 3] (F := [.row 1 v10 (List.map (AV.int .i64) ([])), .row 1 .nil (List.map (AV.int .i64) ([])), .snap S]) rfl rfl rfl call_97 (spec_l1Below_ok ha14) rfl rfl ?_); rintro _ _ G5 ⟨rfl, rfl⟩ hS
  refine ASL.q (v := (.int .i64 a14.1)) rfl rfl (Light.quiet (opAssign rfl rfl)) ?_
  refine ASL.done ?_
  refine AWP.seqM (fun e H => ∃ y6 : (List Int), ∃ y9 : (List Int), ∃ y10 : Int, ∃ y11 : Int, ∃ w7 : AV, E.Told e [(7, w7)] ∧ E.Sep H [.row 1 w7 (List.map (AV.int .i64) y6), .cell bp0 [(.list 1 (List.map (AV.int .u8) y9)), (.int .i64 y10), (.int .i64 y11)], .snap S] ∧ spec_l3DrawLetters.k0 y6 y9 y10 y11 = some r) ?_ ?_
  · rintro e0 G12 ⟨y6, y9, y10, y11, w7, hT, hS, hF⟩; refine AWP.only _ hT ?_; unfold spec_l3DrawLetters.k0 at hF
    refine AWP.seqR rfl ?_
    refine ASL.q (v := w7) rfl rfl (Light.quiet (opMove rfl rfl)) ?_
    refine ASL.q (v := w7) rfl rfl (Light.quiet (opAssign rfl rfl)) ?_
    refine ASL.done ?_
    refine AWP.ret ?_
    obtain rfl := someE hF
    exact QRet.sole (v := w7) ⟨rfl, trivial⟩ ⟨_, ⟨w7, rfl, rfl⟩, hS.pick [0, 1, 2] rfl rfl⟩
  · skip
    refine AWP.seqR rfl ?_
    refine ASL.q (v := (.int .i64 0)) rfl rfl (Light.quiet (opAssign rfl rfl)) ?_
    refine ASL.done ?_
    refine AWP.block ?_
    obtain ⟨o22, hL21, hR23⟩ := bindE hF
    refine AWP.loopF (ω := AV) hL21 (fun s w => [(0, (.ptr bp0 0)), (2, (.int .i64 p2)), (7, w), (8, (.int .i64 a14.1)), (9, (.int .i64 s.2.2.2.2))]) (fun s w => [.cell bp0 [(.list 1 (List.map (AV.int .u8) s.1)), (.int .i64 s.2.1), (.int .i64 s.2.2.1)], .row 1 w (List.map (AV.int .i64) s.2.2.2.1), .snap S]) v10 ⟨rfl, rfl, rfl, rfl, rfl, trivial⟩ (hS.pick [0, 1, 3] rfl rfl) ?_
    rintro ⟨y13, y14, y15, y16, x9_l0⟩ w17 G24 hS x19 hF hx20
    try dsimp only at hS ⊢
    have hF : spec_l3DrawLetters.b0 a14 p2 y13 y14 y15 y16 x9_l0 = some x19 := hF; unfold spec_l3DrawLetters.b0 at hF
    refine AWP.seq ?_
    refine AWP.seqR rfl ?_
    refine ASL.q (v := (.int .i64 x9_l0)) rfl rfl (Light.quiet (opMove rfl rfl)) ?_
    refine ASL.q (v := (.int .i64 a14.1)) rfl rfl (Light.quiet (opMove rfl rfl)) ?_
    refine ASL.q (v := (.bool (decide (x9_l0 < a14.1)))) rfl rfl (Light.quiet (opInt rfl rfl rfl rfl)) ?_
    refine ASL.done ?_
    refine AWP.ifP hF rfl (fun hc25 hF => ?_) (fun hc25 hF => ?_)
    · skip
      refine AWP.skip ?_
      refine QThen.nrm ?_
      refine AWP.seq ?_
      refine AWP.block ?_
      refine AWP.lastR rfl ?_
      refine ASL.q (v := w17) rfl rfl (Light.quiet (opMove rfl rfl)) ?_
      refine ASL.q (v := (.ptr bp0 0)) rfl rfl (Light.quiet (opMove rfl rfl)) ?_
      refine ASL.q (v := (.int .i64 p2)) rfl rfl (Light.quiet (opMove rfl rfl)) ?_
      obtain ⟨a23, ha23, hF⟩ := bindE hF
      refine ASL.x rfl rfl (hCallS hS [0, 1, 2] (F := [.row 1 w17 (List.map (AV.int .i64) y16), .snap S]) rfl rfl rfl call_97 (spec_l1Below_ok ha23) rfl rfl ?_); rintro _ _ G26 ⟨rfl, rfl⟩ hS
      refine ASL.q (v := (.list 1 (List.map (AV.int .i64) [a23.1]))) rfl rfl ((qLit (xs := [(.int .i64 a23.1)]) rfl elemA_32 sizeA_3 zeroA_3 rfl rfl rfl rfl (by simp [cells]) (nlt rfl))) ?_
      obtain ⟨z25, hz25, hF⟩ := bindE hF
      refine ASL.x rfl rfl (hApp (f := (AV.int .i64)) (ws := [a23.1]) hS (j := 1) rfl hz25 rfl elemA_32 rfl sizeA_3 bytesA_3 zeroA_3 rfl rfl rfl (fun _ => rfl) ?_); rintro v25 G27 hS
      refine ASL.q (v := v25) rfl rfl (Light.quiet (opAssign rfl rfl)) ?_
      refine ASL.done ?_
      refine QBlock.nrm ?_
      refine QThen.nrm ?_
      refine AWP.lastR rfl ?_
      refine ASL.q (v := (.int .i64 x9_l0)) rfl rfl (Light.quiet (opMove rfl rfl)) ?_
      refine ASL.q (v := (.int .i64 (W (x9_l0 + 1)))) rfl rfl (Light.quiet (opInt rfl rfl rfl rfl)) ?_
      refine ASL.q (v := (.int .i64 (W (x9_l0 + 1)))) rfl rfl (Light.quiet (opAssign rfl rfl)) ?_
      refine ASL.done ?_
      refine QThen.nrm ?_
      exact ⟨(a23.2.b, a23.2.i, a23.2.h, z25, (W (x9_l0 + 1))), v25, (someE hF).symm, ⟨rfl, rfl, rfl, rfl, rfl, trivial⟩, (hS.pick [0, 1, 2] rfl rfl)⟩
    · skip
      refine AWP.exit ?_
      refine QThen.ext ?_
      refine QThen.ext ?_
      refine QBlock.hit ?_
      obtain rfl := (hx20 _ (someE hF).symm)
      have hF := hR23
      refine QThen.nrm ?_
      exact ⟨y16, y13, y14, y15, w17, ⟨rfl, trivial⟩, (hS.pick [1, 0, 2] rfl rfl), hF⟩

set_option maxRecDepth 10000 in
theorem spec_l1Once_ok {p0 : Tl1Cur} {p1 : Int} {r : (Bool × Tl1Cur)} {bp0 : Nat} (hF : spec_l1Once p0 p1 = some r) : HS Try.prog 111 [(.ptr bp0 0), (.int .i64 p1)] [.cell bp0 [(.list 1 (List.map (AV.int .u8) p0.b)), (.int .i64 p0.i), (.int .i64 p0.h)]] fun v L' => v = (.bool r.1) ∧ L' = [.cell bp0 [(.list 1 (List.map (AV.int .u8) r.2.b)), (.int .i64 r.2.i), (.int .i64 r.2.h)]] := by
  intro H S hS
  refine HC.enter Try.func111 rfl Try.ntmps111 (by simp) ?_
  simp only [List.cons_append, List.nil_append] at hS
  unfold spec_l1Once at hF
  refine AWP.seqR rfl ?_
  refine ASL.q (v := (.bool false)) rfl rfl (Light.quiet (opAssign rfl rfl)) ?_
  refine ASL.done ?_
  refine AWP.seqR rfl ?_
  refine ASL.q (v := (.ptr bp0 0)) rfl rfl (Light.quiet (opMove rfl rfl)) ?_
  refine ASL.q (v := (.int .i64 p1)) rfl rfl (Light.quiet (opMove rfl rfl)) ?_
  obtain ⟨a7, ha7, hF⟩ := bindE hF
  refine ASL.x rfl rfl (hCallS hS [0, 1] (F := [.snap S]) rfl rfl rfl call_97 (spec_l1Below_ok ha7) rfl rfl ?_); rintro _ _ G2 ⟨rfl, rfl⟩ hS
  refine ASL.q (v := (.bool (decide (a7.1 = 0)))) rfl rfl (Light.quiet (opInt rfl rfl rfl rfl)) ?_
  refine ASL.q (v := (.bool (decide (a7.1 = 0)))) rfl rfl (Light.quiet (opAssign rfl rfl)) ?_
  refine ASL.done ?_
  refine AWP.ret ?_
  obtain rfl := someE hF
  exact QRet.sole (v := (.bool (decide (a7.1 = 0)))) ⟨rfl, trivial⟩ ⟨_, ⟨rfl, rfl⟩, hS.pick [0, 1] rfl rfl⟩

set_option maxRecDepth 10000 in
theorem spec_l3Told_ok {p0 : TWord} {r : (TWord × Bool)} {vp0_Stem : AV} {vp0_Loop : AV} (hF : spec_l3Told p0 = some r) : HS Try.prog 132 [(.agg [vp0_Stem, vp0_Loop])] [.row 1 vp0_Stem (List.map (AV.int .i64) p0.stem), .row 1 vp0_Loop (List.map (AV.int .i64) p0.loop)] fun v L' => ∃ o0_Stem : AV, ∃ o0_Loop : AV, v = .tup [(.agg [o0_Stem, o0_Loop]), (.bool r.2)] ∧ L' = [.row 1 o0_Stem (List.map (AV.int .i64) r.1.stem), .row 1 o0_Loop (List.map (AV.int .i64) r.1.loop)] := by
  intro H S hS
  refine HC.enter Try.func132 rfl Try.ntmps132 (by simp) ?_
  simp only [List.cons_append, List.nil_append] at hS
  unfold spec_l3Told at hF
  refine AWP.seqR rfl ?_
  refine ASL.x rfl rfl (hBox hS rfl rfl rfl ?_); rintro b1 G3 hK hS
  have hS := hNil (s := 1) (f := (AV.int .i64)) hS
  have hS := hNil (s := 1) (f := (AV.int .i64)) hS
  refine ASL.x rfl rfl (hNewZ hS [.nil, .nil] rfl zeroA_41 ⟨.inl rfl, .inl rfl, trivial⟩ ?_); rintro b2 G5 hK hS
  refine ASL.q (v := (.bool false)) rfl rfl (Light.quiet (opAssign rfl rfl)) ?_
  refine ASL.done ?_
  refine AWP.seq ?_
  refine AWP.seqR rfl ?_
  refine ASL.q (v := (.agg [vp0_Stem, vp0_Loop])) rfl rfl (Light.quiet (kAtA hS (j := 3) rfl rfl aggA_41 sizeA_41 rfl (nlt rfl) rfl)) ?_
  obtain ⟨a5, ha5, hF⟩ := bindE hF
  refine ASL.q (v := (.bool a5)) rfl rfl ((qCallR hS rfl rfl call_72 (spec_l3Right_ok ha5) ⟨.aggL ⟨.row (k := 4) rfl, .row (k := 5) rfl, trivial⟩, trivial⟩ (by constructor))) ?_
  refine ASL.q (v := (.bool (!a5))) rfl rfl (Light.quiet (opNot rfl rfl)) ?_
  refine ASL.done ?_
  refine AWP.ifB hF rfl (fun hc9 hF => ?_) (fun hc9 hF => ?_)
  · skip
    refine AWP.seqR rfl ?_
    refine ASL.q (v := (.agg [.nil, .nil])) rfl rfl (Light.quiet (opBuildZ (zs := [.nil, .nil]) rfl plan_41 zeroA_41 ⟨.inl rfl, .inl rfl, trivial⟩ rfl)) ?_
    have hS := hNil (s := 1) (f := (AV.int .i64)) hS
    have hS := hNil (s := 1) (f := (AV.int .i64)) hS
    refine ASL.n rfl rfl (hPutA hS (j := 2) rfl rfl sizeA_41 rfl rfl rfl rfl (allC (hS.one (k := 1) rfl) (allC (hS.one (k := 0) rfl) rfl)) (nlt rfl) ?_); rintro G10 hS
    refine ASL.q (v := (.bool false)) rfl rfl (Light.quiet (opAssign rfl rfl)) ?_
    refine ASL.done ?_
    refine AWP.ret ?_
    refine QThen.rt ?_
    obtain rfl := someE hF
    exact QRet.many (vs := [(.agg [.nil, .nil]), (.bool false)]) ⟨resOne.at hS (k := 2) rfl rfl aggA_41 sizeA_41, rfl, trivial⟩ (by simp) ⟨_, ⟨.nil, .nil, rfl, rfl⟩, hS.pick [1, 0, 8] rfl rfl⟩
  · skip
    refine AWP.skip ?_
    refine QThen.nrm ?_
    refine AWP.seqR rfl ?_
    refine ASL.q (v := (.agg [vp0_Stem, vp0_Loop])) rfl rfl (Light.quiet (kAtA hS (j := 3) rfl rfl aggA_41 sizeA_41 rfl (nlt rfl) rfl)) ?_
    refine ASL.n rfl rfl (hPutA hS (j := 0) rfl rfl sizeA_41 rfl rfl rfl rfl (allC (hS.one (k := 4) rfl) (allC (hS.one (k := 5) rfl) rfl)) (nlt rfl) ?_); rintro G13 hS
    refine ASL.q (v := (.bool true)) rfl rfl (Light.quiet (opAssign rfl rfl)) ?_
    refine ASL.done ?_
    refine AWP.ret ?_
    obtain rfl := someE hF
    exact QRet.many (vs := [(.agg [vp0_Stem, vp0_Loop]), (.bool true)]) ⟨resOne.at hS (k := 0) rfl rfl aggA_41 sizeA_41, rfl, trivial⟩ (by simp) ⟨_, ⟨vp0_Stem, vp0_Loop, rfl, rfl⟩, hS.pick [4, 5, 6] rfl rfl⟩

set_option maxRecDepth 10000 in
theorem spec_WordPower_ok {p0 : TWord} {p1 : Int} {r : (TWord × Bool)} (hF : spec_WordPower p0 p1 = some r) : HS Try.prog 130 [(TWord.av p0), (.int .i64 p1)] [] fun v L' => ∃ o0_Stem : AV, ∃ o0_Loop : AV, v = .tup [(.agg [o0_Stem, o0_Loop]), (.bool r.2)] ∧ L' = [.row 1 o0_Stem (List.map (AV.int .i64) r.1.stem), .row 1 o0_Loop (List.map (AV.int .i64) r.1.loop)] := by
  intro H S hS
  refine HC.enter Try.func130 rfl Try.ntmps130 (by simp) ?_
  simp only [List.cons_append, List.nil_append] at hS
  unfold spec_WordPower at hF
  refine AWP.seqR rfl ?_
  refine ASL.q (v := (.rptr [(.list 1 (List.map (AV.int .i64) p0.stem)), (.list 1 (List.map (AV.int .i64) p0.loop))])) rfl rfl ((qBoxI (v := (TWord.av p0)) rfl rfl rfl rfl)) ?_
  have hS := hNil (s := 1) (f := (AV.int .i64)) hS
  have hS := hNil (s := 1) (f := (AV.int .i64)) hS
  refine ASL.x rfl rfl (hNewZ hS [.nil, .nil] rfl zeroA_41 ⟨.inl rfl, .inl rfl, trivial⟩ ?_); rintro b4 G1 hK hS
  refine ASL.q (v := (.bool false)) rfl rfl (Light.quiet (opAssign rfl rfl)) ?_
  refine ASL.done ?_
  refine AWP.seq ?_
  refine AWP.seqR rfl ?_
  refine ASL.q (v := (TWord.av p0)) rfl rfl (Light.quiet (opLoadRA rfl aggA_41 sizeA_41 rfl (nlt rfl) rfl)) ?_
  obtain ⟨a9, ha9, hF⟩ := bindE hF
  refine ASL.q (v := (.bool a9)) rfl rfl ((qCall rfl rfl call_72 (spec_l3Right_ok ha9) rfl)) ?_
  refine ASL.q (v := (.bool (!a9))) rfl rfl (Light.quiet (opNot rfl rfl)) ?_
  obtain ⟨c11, hc11, hF⟩ := bndE hF
  refine ASL.q (v := (.bool c11)) rfl rfl ((Quiet.cast (Light.quiet (opMove rfl rfl)) (congrArg AV.bool hc11.symm))) ?_
  refine ASL.g (v := (.int .i64 p1)) (.bool c11) false rfl (wF _) rfl (fun hG => by have q0 := gN hG; subst q0; exact Light.quiet (opMove rfl rfl)) ?_
  refine ASL.g (v := (.bool (spec_l1In p1 1 40))) (.bool c11) false rfl (wF _) rfl (fun hG => by have q0 := gN hG; subst q0; exact (qCall rfl rfl call_86 (spec_l1In_ok p1 1 40) rfl)) ?_
  refine ASL.g (v := (.bool (!(spec_l1In p1 1 40)))) (.bool c11) false rfl (wF _) rfl (fun hG => by have q0 := gN hG; subst q0; exact Light.quiet (opNot rfl rfl)) ?_
  refine ASL.q (v := (.bool (c11 || (!(spec_l1In p1 1 40))))) rfl rfl (Light.quiet (opPick (b := c11) rfl rfl (by cases c11 <;> rfl))) ?_
  refine ASL.done ?_
  refine AWP.ifB hF rfl (fun hc5 hF => ?_) (fun hc5 hF => ?_)
  · skip
    refine AWP.seqR rfl ?_
    refine ASL.q (v := (.agg [.nil, .nil])) rfl rfl (Light.quiet (opBuildZ (zs := [.nil, .nil]) rfl plan_41 zeroA_41 ⟨.inl rfl, .inl rfl, trivial⟩ rfl)) ?_
    have hS := hNil (s := 1) (f := (AV.int .i64)) hS
    have hS := hNil (s := 1) (f := (AV.int .i64)) hS
    refine ASL.n rfl rfl (hPutA hS (j := 2) rfl rfl sizeA_41 rfl rfl rfl rfl (allC (hS.one (k := 1) rfl) (allC (hS.one (k := 0) rfl) rfl)) (nlt rfl) ?_); rintro G6 hS
    refine ASL.q (v := (.bool false)) rfl rfl (Light.quiet (opAssign rfl rfl)) ?_
    refine ASL.done ?_
    refine AWP.ret ?_
    refine QThen.rt ?_
    obtain rfl := someE hF
    exact QRet.many (vs := [(.agg [.nil, .nil]), (.bool false)]) ⟨resOne.at hS (k := 2) rfl rfl aggA_41 sizeA_41, rfl, trivial⟩ (by simp) ⟨_, ⟨.nil, .nil, rfl, rfl⟩, hS.pick [1, 0, 5] rfl rfl⟩
  · skip
    refine AWP.skip ?_
    refine QThen.nrm ?_
    refine AWP.seqR rfl ?_
    refine ASL.x rfl rfl (hLit (f := (AV.int .i64)) (zs := []) hS rfl rfl elemA_32 sizeA_3 zeroA_3 rfl rfl rfl rfl (by simp [cells]) (nlt rfl) ?_); rintro v17 G9 hK hS
    refine ASL.q (v := (.rptr [(.list 1 (List.map (AV.int .i64) p0.stem)), (.list 1 (List.map (AV.int .i64) p0.loop))])) rfl rfl (Light.quiet (opFieldAddrR rfl fieldA_41_0 rfl rfl)) ?_
    refine ASL.q (v := (.list 1 (List.map (AV.int .i64) p0.stem))) rfl rfl (Light.quiet (opLoadR rfl aggA_32 rfl rfl)) ?_
    obtain ⟨z20, hz20, hF⟩ := bindE hF
    refine ASL.x rfl rfl (hApp (f := (AV.int .i64)) (ws := p0.stem) hS (j := 0) rfl hz20 rfl elemA_32 rfl sizeA_3 bytesA_3 zeroA_3 rfl rfl rfl (fun _ => rfl) ?_); rintro v20 G11 hS
    refine ASL.q (v := (.agg [v20, .nil])) rfl rfl (Light.quiet (opBuildZ (zs := [(.list 1 (List.map (AV.int .i64) [])), .nil]) rfl plan_41 zeroA_41 ⟨.inr ⟨_, rfl, rfl⟩, .inl rfl, trivial⟩ (putO (hS.one (k := 0) rfl) rfl rfl rfl))) ?_
    have hS := hNil (s := 1) (f := (AV.int .i64)) hS
    have hS := hNil (s := 1) (f := (AV.int .i64)) hS
    refine ASL.x rfl rfl (hNewZ hS [.nil, .nil] rfl zeroA_41 ⟨.inl rfl, .inl rfl, trivial⟩ ?_); rintro b6 G13 hK hS
    have hS := hNil (s := 1) (f := (AV.int .i64)) hS
    refine ASL.n rfl rfl (hPutA hS (j := 1) rfl rfl sizeA_41 rfl rfl rfl rfl (allC (hS.one (k := 4) rfl) (allC (hS.one (k := 0) rfl) rfl)) (nlt rfl) ?_); rintro G17 hS
    refine ASL.done ?_
    refine AWP.seqM (fun e H => ∃ y19 : (List Int), ∃ y22 : (List Int), ∃ w20 : AV, ∃ w23 : AV, E.Told e [(4, (.ptr b4 0)), (6, (.ptr b6 0))] ∧ E.Sep H [.row 1 .nil (List.map (AV.int .i64) ([])), .row 1 .nil (List.map (AV.int .i64) ([])), .cell b4 [.nil, .nil], .row 1 w20 (List.map (AV.int .i64) y19), .row 1 w23 (List.map (AV.int .i64) y22), .cell b6 [w20, w23], .snap S] ∧ spec_WordPower.k0 y19 y22 = some r) ?_ ?_
    · rintro e0 G31 ⟨y19, y22, w20, w23, hT, hS, hF⟩; refine AWP.only _ hT ?_; unfold spec_WordPower.k0 at hF
      refine AWP.seqR rfl ?_
      refine ASL.q (v := (.agg [w20, w23])) rfl rfl (Light.quiet (kAtA hS (j := 5) rfl rfl aggA_41 sizeA_41 rfl (nlt rfl) rfl)) ?_
      obtain ⟨a34, ha34, hF⟩ := bindE hF
      refine ASL.x rfl rfl (hCallS hS [3, 4, 0, 1, 2, 5, 6] (F := [.row 1 .nil (List.map (AV.int .i64) ([])), .row 1 .nil (List.map (AV.int .i64) ([])), .cell b4 [.nil, .nil], .cell b6 [w20, w23], .snap S]) rfl rfl rfl call_132 (spec_l3Told_ok ha34) rfl rfl ?_); rintro _ _ G29 ⟨w25, w27, rfl, rfl⟩ hS
      refine ASL.q (v := (.agg [w25, w27])) rfl rfl (Light.quiet (opExtract rfl rfl rfl)) ?_
      refine ASL.q (v := (.bool a34.2)) rfl rfl (Light.quiet (opExtract rfl rfl rfl)) ?_
      refine ASL.n rfl rfl (hPutA hS (j := 4) rfl rfl sizeA_41 rfl rfl rfl rfl (allC (hS.one (k := 0) rfl) (allC (hS.one (k := 1) rfl) rfl)) (nlt rfl) ?_); rintro G30 hS
      refine ASL.q (v := (.bool a34.2)) rfl rfl (Light.quiet (opAssign rfl rfl)) ?_
      refine ASL.done ?_
      refine AWP.ret ?_
      obtain rfl := someE hF
      exact QRet.many (vs := [(.agg [w25, w27]), (.bool a34.2)]) ⟨resOne.at hS (k := 4) rfl rfl aggA_41 sizeA_41, rfl, trivial⟩ (by simp) ⟨_, ⟨w25, w27, rfl, rfl⟩, hS.pick [0, 1, 6] rfl rfl⟩
    · skip
      refine AWP.seqR rfl ?_
      refine ASL.q (v := (.int .i64 0)) rfl rfl (Light.quiet (opAssign rfl rfl)) ?_
      refine ASL.done ?_
      refine AWP.block ?_
      obtain ⟨o41, hL40, hR42⟩ := bindE hF
      refine AWP.loopF (ω := (AV × AV)) hL40 (fun s w => [(1, (.int .i64 p1)), (2, (.rptr [(.list 1 (List.map (AV.int .i64) p0.stem)), (.list 1 (List.map (AV.int .i64) p0.loop))])), (4, (.ptr b4 0)), (6, (.ptr b6 0)), (7, (.int .i64 s.2.2))]) (fun s w => [.row 1 .nil (List.map (AV.int .i64) ([])), .row 1 .nil (List.map (AV.int .i64) ([])), .cell b4 [.nil, .nil], .row 1 w.1 (List.map (AV.int .i64) s.1), .row 1 w.2 (List.map (AV.int .i64) s.2.1), .cell b6 [w.1, w.2], .snap S]) (v20, .nil) ⟨rfl, rfl, rfl, rfl, rfl, trivial⟩ (hS.pick [7, 6, 5, 4, 0, 1, 8] rfl rfl) ?_
      rintro ⟨y32, y35, x7_l0⟩ ⟨w33, w36⟩ G43 hS x38 hF hx39
      try dsimp only at hS ⊢
      have hF : spec_WordPower.b0 p1 p0 y32 y35 x7_l0 = some x38 := hF; unfold spec_WordPower.b0 at hF
      refine AWP.seq ?_
      refine AWP.seqR rfl ?_
      refine ASL.q (v := (.int .i64 x7_l0)) rfl rfl (Light.quiet (opMove rfl rfl)) ?_
      refine ASL.q (v := (.int .i64 p1)) rfl rfl (Light.quiet (opMove rfl rfl)) ?_
      refine ASL.q (v := (.bool (decide (x7_l0 < p1)))) rfl rfl (Light.quiet (opInt rfl rfl rfl rfl)) ?_
      refine ASL.done ?_
      refine AWP.ifP hF rfl (fun hc44 hF => ?_) (fun hc44 hF => ?_)
      · skip
        refine AWP.skip ?_
        refine QThen.nrm ?_
        refine AWP.seq ?_
        refine AWP.block ?_
        refine AWP.lastR rfl ?_
        refine ASL.q (v := (.ptr b6 1)) rfl rfl (Light.quiet (opFieldAddr rfl fieldA_41_1 rfl rfl)) ?_
        refine ASL.q (v := w36) rfl rfl (Light.quiet (kAt hS (j := 5) rfl rfl aggA_32 rfl rfl)) ?_
        refine ASL.q (v := (.rptr [(.list 1 (List.map (AV.int .i64) p0.loop))])) rfl rfl (Light.quiet (opFieldAddrR rfl fieldA_41_1 rfl rfl)) ?_
        refine ASL.q (v := (.list 1 (List.map (AV.int .i64) p0.loop))) rfl rfl (Light.quiet (opLoadR rfl aggA_32 rfl rfl)) ?_
        obtain ⟨z31, hz31, hF⟩ := bindE hF
        refine ASL.x rfl rfl (hApp (f := (AV.int .i64)) (ws := p0.loop) hS (j := 4) rfl hz31 rfl elemA_32 rfl sizeA_3 bytesA_3 zeroA_3 rfl rfl rfl (fun _ => rfl) ?_); rintro v31 G45 hS
        refine ASL.q (v := (.ptr b6 1)) rfl rfl (Light.quiet (opFieldAddr rfl fieldA_41_1 rfl rfl)) ?_
        refine ASL.n rfl rfl (hPut hS (j := 5) rfl rfl sizeA_32 rfl rfl (hS.one (k := 4) rfl) (nlt rfl) ?_); rintro G47 hS
        refine ASL.done ?_
        refine QBlock.nrm ?_
        refine QThen.nrm ?_
        refine AWP.lastR rfl ?_
        refine ASL.q (v := (.int .i64 x7_l0)) rfl rfl (Light.quiet (opMove rfl rfl)) ?_
        refine ASL.q (v := (.int .i64 (W (x7_l0 + 1)))) rfl rfl (Light.quiet (opInt rfl rfl rfl rfl)) ?_
        refine ASL.q (v := (.int .i64 (W (x7_l0 + 1)))) rfl rfl (Light.quiet (opAssign rfl rfl)) ?_
        refine ASL.done ?_
        refine QThen.nrm ?_
        exact ⟨(y32, z31, (W (x7_l0 + 1))), (w33, v31), (someE hF).symm, ⟨rfl, rfl, rfl, rfl, rfl, trivial⟩, (hS.pick [0, 1, 2, 3, 4, 5, 6] rfl rfl)⟩
      · skip
        refine AWP.exit ?_
        refine QThen.ext ?_
        refine QThen.ext ?_
        refine QBlock.hit ?_
        obtain rfl := (hx39 _ (someE hF).symm)
        have hF := hR42
        refine QThen.nrm ?_
        exact ⟨y32, y35, w33, w36, ⟨rfl, rfl, trivial⟩, (hS.pick [0, 1, 2, 3, 4, 5, 6] rfl rfl), hF⟩

set_option maxRecDepth 10000 in
theorem spec_WordTurn_ok {p0 : TWord} {r : (TWord × Bool)} (hF : spec_WordTurn p0 = some r) : HS Try.prog 131 [(TWord.av p0)] [] fun v L' => ∃ o0_Stem : AV, ∃ o0_Loop : AV, v = .tup [(.agg [o0_Stem, o0_Loop]), (.bool r.2)] ∧ L' = [.row 1 o0_Stem (List.map (AV.int .i64) r.1.stem), .row 1 o0_Loop (List.map (AV.int .i64) r.1.loop)] := by
  intro H S hS
  refine HC.enter Try.func131 rfl Try.ntmps131 (by simp) ?_
  simp only [List.cons_append, List.nil_append] at hS
  unfold spec_WordTurn at hF
  refine AWP.seqR rfl ?_
  refine ASL.q (v := (.rptr [(.list 1 (List.map (AV.int .i64) p0.stem)), (.list 1 (List.map (AV.int .i64) p0.loop))])) rfl rfl ((qBoxI (v := (TWord.av p0)) rfl rfl rfl rfl)) ?_
  have hS := hNil (s := 1) (f := (AV.int .i64)) hS
  have hS := hNil (s := 1) (f := (AV.int .i64)) hS
  refine ASL.x rfl rfl (hNewZ hS [.nil, .nil] rfl zeroA_41 ⟨.inl rfl, .inl rfl, trivial⟩ ?_); rintro b2 G1 hK hS
  refine ASL.q (v := (.bool false)) rfl rfl (Light.quiet (opAssign rfl rfl)) ?_
  refine ASL.done ?_
  refine AWP.seq ?_
  refine AWP.seqR rfl ?_
  refine ASL.q (v := (TWord.av p0)) rfl rfl (Light.quiet (opLoadRA rfl aggA_41 sizeA_41 rfl (nlt rfl) rfl)) ?_
  obtain ⟨a5, ha5, hF⟩ := bindE hF
  refine ASL.q (v := (.bool a5)) rfl rfl ((qCall rfl rfl call_72 (spec_l3Right_ok ha5) rfl)) ?_
  refine ASL.q (v := (.bool (!a5))) rfl rfl (Light.quiet (opNot rfl rfl)) ?_
  refine ASL.done ?_
  refine AWP.ifB hF rfl (fun hc5 hF => ?_) (fun hc5 hF => ?_)
  · skip
    refine AWP.seqR rfl ?_
    refine ASL.q (v := (.agg [.nil, .nil])) rfl rfl (Light.quiet (opBuildZ (zs := [.nil, .nil]) rfl plan_41 zeroA_41 ⟨.inl rfl, .inl rfl, trivial⟩ rfl)) ?_
    have hS := hNil (s := 1) (f := (AV.int .i64)) hS
    have hS := hNil (s := 1) (f := (AV.int .i64)) hS
    refine ASL.n rfl rfl (hPutA hS (j := 2) rfl rfl sizeA_41 rfl rfl rfl rfl (allC (hS.one (k := 1) rfl) (allC (hS.one (k := 0) rfl) rfl)) (nlt rfl) ?_); rintro G6 hS
    refine ASL.q (v := (.bool false)) rfl rfl (Light.quiet (opAssign rfl rfl)) ?_
    refine ASL.done ?_
    refine AWP.ret ?_
    refine QThen.rt ?_
    obtain rfl := someE hF
    exact QRet.many (vs := [(.agg [.nil, .nil]), (.bool false)]) ⟨resOne.at hS (k := 2) rfl rfl aggA_41 sizeA_41, rfl, trivial⟩ (by simp) ⟨_, ⟨.nil, .nil, rfl, rfl⟩, hS.pick [1, 0, 5] rfl rfl⟩
  · skip
    refine AWP.skip ?_
    refine QThen.nrm ?_
    obtain ⟨a14, ha14, hF⟩ := bindE hF
    obtain ⟨a21, ha21, hF⟩ := bindE hF
    obtain ⟨a25, ha25, hF⟩ := bindE hF
    obtain ⟨z11, hz11, hF⟩ := bindE hF
    obtain ⟨z17, hz17, hF⟩ := bindE hF
    obtain ⟨z22, hz22, hF⟩ := bindE hF
    obtain ⟨z28, hz28, hF⟩ := bindE hF
    obtain ⟨a30, ha30, hF⟩ := bindE hF
    refine AWP.seqT (fun e H => ∃ w4609 : AV, ∃ w4611 : AV, E.Told e [(2, (.ptr b2 0)), (3, (.bool a30.2))] ∧ E.Sep H [.row 1 w4609 (List.map (AV.int .i64) a30.1.stem), .row 1 w4611 (List.map (AV.int .i64) a30.1.loop), .cell b2 [w4609, w4611], .row 1 .nil (List.map (AV.int .i64) ([])), .row 1 .nil (List.map (AV.int .i64) ([])), .snap S]) (.q 1 (.q 2 (.q 4 (.q 5 (.q 6 (.q 7 (.q 8 (.q 11 (.q 12 (.q 13 (.q 15 (.q 16 (.q 17 (.q 18 (.q 19 (.fork (.h 0 (.fork (.h 3 (.fork (.h 9 (.h 10 (.h 14 (.h 20 (.q 21 (.h 22 (.q 23 (.q 24 (.h 25 (.q 26 .fin)))))))))) (.h 10 (.h 9 (.h 14 (.h 20 (.q 21 (.h 22 (.q 23 (.q 24 (.h 25 (.q 26 .fin)))))))))))) (.h 10 (.h 3 (.h 9 (.h 14 (.h 20 (.q 21 (.h 22 (.q 23 (.q 24 (.h 25 (.q 26 .fin))))))))))))) (.h 10 (.h 0 (.h 3 (.h 9 (.h 14 (.h 20 (.q 21 (.h 22 (.q 23 (.q 24 (.h 25 (.q 26 .fin)))))))))))))))))))))))))))) mixed (by kernel_rfl) ?_ ?_
    · rintro e0 G5809 ⟨w4609, w4611, hT, hS⟩; refine AWP.only _ hT ?_
      refine AWP.ret ?_
      obtain rfl := someE hF
      exact QRet.many (vs := [(.agg [w4609, w4611]), (.bool a30.2)]) ⟨resOne.at hS (k := 2) rfl rfl aggA_41 sizeA_41, rfl, trivial⟩ (by simp) ⟨_, ⟨w4609, w4611, rfl, rfl⟩, hS.pick [0, 1, 5] rfl rfl⟩
    · skip
      refine ART.q0 rfl (v := (.rptr [(.list 1 (List.map (AV.int .i64) p0.stem)), (.list 1 (List.map (AV.int .i64) p0.loop))])) rfl rfl (Light.quiet (opFieldAddrR rfl fieldA_41_0 rfl rfl)) ?_
      refine ART.q0 rfl (v := (.list 1 (List.map (AV.int .i64) p0.stem))) rfl rfl (Light.quiet (opLoadR rfl aggA_32 rfl rfl)) ?_
      refine ART.q0 rfl (v := (.rptr [(.list 1 (List.map (AV.int .i64) p0.loop))])) rfl rfl (Light.quiet (opFieldAddrR rfl fieldA_41_1 rfl rfl)) ?_
      refine ART.q0 rfl (v := (.list 1 (List.map (AV.int .i64) p0.loop))) rfl rfl (Light.quiet (opLoadR rfl aggA_32 rfl rfl)) ?_
      refine ART.q0 rfl (v := (.rptr [(.int .i64 a14)])) rfl rfl (Light.quiet (kIx (f := (AV.int .i64)) ha14 rfl rfl rfl elemA_32 sizeA_3 rfl)) ?_
      refine ART.q0 rfl (v := (.int .i64 a14)) rfl rfl (Light.quiet (opLoadR rfl aggA_3 rfl rfl)) ?_
      refine ART.q0 rfl (v := (.list 1 (List.map (AV.int .i64) [a14]))) rfl rfl ((qLit (xs := [(.int .i64 a14)]) rfl elemA_32 sizeA_3 zeroA_3 rfl rfl rfl rfl (by simp [cells]) (nlt rfl))) ?_
      refine ART.q0 rfl (v := (.rptr [(.list 1 (List.map (AV.int .i64) p0.loop))])) rfl rfl (Light.quiet (opFieldAddrR rfl fieldA_41_1 rfl rfl)) ?_
      refine ART.q0 rfl (v := (.list 1 (List.map (AV.int .i64) p0.loop))) rfl rfl (Light.quiet (opLoadR rfl aggA_32 rfl rfl)) ?_
      refine ART.q0 rfl (v := (.list 1 (List.map (AV.int .i64) a21))) rfl rfl (Light.quiet (opCutL (f := (AV.int .i64)) ha21 rfl elemA_32 sizeA_3 rfl (.inr ⟨_, _, rfl, rfl⟩) (.inl ⟨rfl, rfl, rfl⟩))) ?_
      refine ART.q0 rfl (v := (.rptr [(.list 1 (List.map (AV.int .i64) p0.loop))])) rfl rfl (Light.quiet (opFieldAddrR rfl fieldA_41_1 rfl rfl)) ?_
      refine ART.q0 rfl (v := (.list 1 (List.map (AV.int .i64) p0.loop))) rfl rfl (Light.quiet (opLoadR rfl aggA_32 rfl rfl)) ?_
      refine ART.q0 rfl (v := (.rptr [(.int .i64 a25)])) rfl rfl (Light.quiet (kIx (f := (AV.int .i64)) ha25 rfl rfl rfl elemA_32 sizeA_3 rfl)) ?_
      refine ART.q0 rfl (v := (.int .i64 a25)) rfl rfl (Light.quiet (opLoadR rfl aggA_3 rfl rfl)) ?_
      refine ART.q0 rfl (v := (.list 1 (List.map (AV.int .i64) [a25]))) rfl rfl ((qLit (xs := [(.int .i64 a25)]) rfl elemA_32 sizeA_3 zeroA_3 rfl rfl rfl rfl (by simp [cells]) (nlt rfl))) ?_
      refine ART.fork ?_ ?_
      · skip
        refine ART.x rfl rfl rfl rfl (hLit (f := (AV.int .i64)) (zs := []) hS rfl rfl elemA_32 sizeA_3 zeroA_3 rfl rfl rfl rfl (by simp [cells]) (nlt rfl) ?_); rintro v8 G209 hK hS; refine ⟨hK, ?_⟩
        refine ART.fork ?_ ?_
        · skip
          refine ART.y rfl rfl rfl rfl rfl (hApp (f := (AV.int .i64)) (ws := p0.stem) hS (j := 0) rfl hz11 rfl elemA_32 rfl sizeA_3 bytesA_3 zeroA_3 rfl rfl rfl (fun _ => rfl) ?_); rintro v11 G809 hS
          refine ART.fork ?_ ?_
          · skip
            refine ART.y rfl rfl rfl rfl rfl (hApp (f := (AV.int .i64)) (ws := [a14]) hS (j := 0) rfl hz17 rfl elemA_32 rfl sizeA_3 bytesA_3 zeroA_3 rfl rfl rfl (fun _ => rfl) ?_); rintro v17 G2009 hS
            refine ART.x rfl rfl rfl rfl (hLit (f := (AV.int .i64)) (zs := []) hS rfl rfl elemA_32 sizeA_3 zeroA_3 rfl rfl rfl rfl (by simp [cells]) (nlt rfl) ?_); rintro v18 G2209 hK hS; refine ⟨hK, ?_⟩
            refine ART.y rfl rfl rfl rfl rfl (hApp (f := (AV.int .i64)) (ws := a21) hS (j := 0) rfl hz22 rfl elemA_32 rfl sizeA_3 bytesA_3 zeroA_3 rfl rfl rfl (fun _ => rfl) ?_); rintro v22 G3009 hS
            refine ART.y rfl rfl rfl rfl rfl (hApp (f := (AV.int .i64)) (ws := [a25]) hS (j := 0) rfl hz28 rfl elemA_32 rfl sizeA_3 bytesA_3 zeroA_3 rfl rfl rfl (fun _ => rfl) ?_); rintro v28 G4209 hS
            refine ART.q0 rfl (v := (.agg [v17, v28])) rfl rfl (Light.quiet (opBuildZ (zs := [(.list 1 (List.map (AV.int .i64) [])), (.list 1 (List.map (AV.int .i64) []))]) rfl plan_41 zeroA_41 ⟨.inr ⟨_, rfl, rfl⟩, .inr ⟨_, rfl, rfl⟩, trivial⟩ (putO (hS.one (k := 1) rfl) rfl rfl (putO (hS.one (k := 0) rfl) rfl rfl rfl)))) ?_
            refine ART.y rfl rfl rfl rfl rfl (hCallS hS [1, 0, 2, 3, 4, 5] (F := [.cell b2 [.nil, .nil], .row 1 .nil (List.map (AV.int .i64) ([])), .row 1 .nil (List.map (AV.int .i64) ([])), .snap S]) rfl rfl rfl call_132 (spec_l3Told_ok ha30) rfl rfl ?_); rintro _ _ G4613 ⟨w4609, w4611, rfl, rfl⟩ hS
            refine ART.q0 rfl (v := (.agg [w4609, w4611])) rfl rfl (Light.quiet (opExtract rfl rfl rfl)) ?_
            refine ART.q0 rfl (v := (.bool a30.2)) rfl rfl (Light.quiet (opExtract rfl rfl rfl)) ?_
            refine ART.n rfl rfl rfl rfl rfl (hPutA hS (j := 2) rfl rfl sizeA_41 rfl rfl rfl rfl (allC (hS.one (k := 0) rfl) (allC (hS.one (k := 1) rfl) rfl)) (nlt rfl) ?_); rintro G5209 hS
            refine ART.q0 rfl (v := (.bool a30.2)) rfl rfl (Light.quiet (opAssign rfl rfl)) ?_
            refine ART.done ?_
            exact ⟨w4609, w4611, ⟨rfl, rfl, trivial⟩, hS.pick [0, 1, 2, 3, 4, 5] rfl rfl⟩
          · skip
            refine ART.x rfl rfl rfl rfl (hLit (f := (AV.int .i64)) (zs := []) hS rfl rfl elemA_32 sizeA_3 zeroA_3 rfl rfl rfl rfl (by simp [cells]) (nlt rfl) ?_); rintro v18 G2209 hK hS; refine ⟨hK, ?_⟩
            refine ART.y rfl rfl rfl rfl rfl (hApp (f := (AV.int .i64)) (ws := [a14]) hS (j := 1) rfl hz17 rfl elemA_32 rfl sizeA_3 bytesA_3 zeroA_3 rfl rfl rfl (fun _ => rfl) ?_); rintro v17 G2009 hS
            refine ART.y rfl rfl rfl rfl rfl (hApp (f := (AV.int .i64)) (ws := a21) hS (j := 0) rfl hz22 rfl elemA_32 rfl sizeA_3 bytesA_3 zeroA_3 rfl rfl rfl (fun _ => rfl) ?_); rintro v22 G3009 hS
            refine ART.y rfl rfl rfl rfl rfl (hApp (f := (AV.int .i64)) (ws := [a25]) hS (j := 0) rfl hz28 rfl elemA_32 rfl sizeA_3 bytesA_3 zeroA_3 rfl rfl rfl (fun _ => rfl) ?_); rintro v28 G4209 hS
            refine ART.q0 rfl (v := (.agg [v17, v28])) rfl rfl (Light.quiet (opBuildZ (zs := [(.list 1 (List.map (AV.int .i64) [])), (.list 1 (List.map (AV.int .i64) []))]) rfl plan_41 zeroA_41 ⟨.inr ⟨_, rfl, rfl⟩, .inr ⟨_, rfl, rfl⟩, trivial⟩ (putO (hS.one (k := 1) rfl) rfl rfl (putO (hS.one (k := 0) rfl) rfl rfl rfl)))) ?_
            refine ART.y rfl rfl rfl rfl rfl (hCallS hS [1, 0, 2, 3, 4, 5] (F := [.cell b2 [.nil, .nil], .row 1 .nil (List.map (AV.int .i64) ([])), .row 1 .nil (List.map (AV.int .i64) ([])), .snap S]) rfl rfl rfl call_132 (spec_l3Told_ok ha30) rfl rfl ?_); rintro _ _ G4613 ⟨w4609, w4611, rfl, rfl⟩ hS
            refine ART.q0 rfl (v := (.agg [w4609, w4611])) rfl rfl (Light.quiet (opExtract rfl rfl rfl)) ?_
            refine ART.q0 rfl (v := (.bool a30.2)) rfl rfl (Light.quiet (opExtract rfl rfl rfl)) ?_
            refine ART.n rfl rfl rfl rfl rfl (hPutA hS (j := 2) rfl rfl sizeA_41 rfl rfl rfl rfl (allC (hS.one (k := 0) rfl) (allC (hS.one (k := 1) rfl) rfl)) (nlt rfl) ?_); rintro G5209 hS
            refine ART.q0 rfl (v := (.bool a30.2)) rfl rfl (Light.quiet (opAssign rfl rfl)) ?_
            refine ART.done ?_
            exact ⟨w4609, w4611, ⟨rfl, rfl, trivial⟩, hS.pick [0, 1, 2, 3, 4, 5] rfl rfl⟩
        · skip
          refine ART.x rfl rfl rfl rfl (hLit (f := (AV.int .i64)) (zs := []) hS rfl rfl elemA_32 sizeA_3 zeroA_3 rfl rfl rfl rfl (by simp [cells]) (nlt rfl) ?_); rintro v18 G2209 hK hS; refine ⟨hK, ?_⟩
          refine ART.y rfl rfl rfl rfl rfl (hApp (f := (AV.int .i64)) (ws := p0.stem) hS (j := 1) rfl hz11 rfl elemA_32 rfl sizeA_3 bytesA_3 zeroA_3 rfl rfl rfl (fun _ => rfl) ?_); rintro v11 G809 hS
          refine ART.y rfl rfl rfl rfl rfl (hApp (f := (AV.int .i64)) (ws := [a14]) hS (j := 1) rfl hz17 rfl elemA_32 rfl sizeA_3 bytesA_3 zeroA_3 rfl rfl rfl (fun _ => rfl) ?_); rintro v17 G2009 hS
          refine ART.y rfl rfl rfl rfl rfl (hApp (f := (AV.int .i64)) (ws := a21) hS (j := 0) rfl hz22 rfl elemA_32 rfl sizeA_3 bytesA_3 zeroA_3 rfl rfl rfl (fun _ => rfl) ?_); rintro v22 G3009 hS
          refine ART.y rfl rfl rfl rfl rfl (hApp (f := (AV.int .i64)) (ws := [a25]) hS (j := 0) rfl hz28 rfl elemA_32 rfl sizeA_3 bytesA_3 zeroA_3 rfl rfl rfl (fun _ => rfl) ?_); rintro v28 G4209 hS
          refine ART.q0 rfl (v := (.agg [v17, v28])) rfl rfl (Light.quiet (opBuildZ (zs := [(.list 1 (List.map (AV.int .i64) [])), (.list 1 (List.map (AV.int .i64) []))]) rfl plan_41 zeroA_41 ⟨.inr ⟨_, rfl, rfl⟩, .inr ⟨_, rfl, rfl⟩, trivial⟩ (putO (hS.one (k := 1) rfl) rfl rfl (putO (hS.one (k := 0) rfl) rfl rfl rfl)))) ?_
          refine ART.y rfl rfl rfl rfl rfl (hCallS hS [1, 0, 2, 3, 4, 5] (F := [.cell b2 [.nil, .nil], .row 1 .nil (List.map (AV.int .i64) ([])), .row 1 .nil (List.map (AV.int .i64) ([])), .snap S]) rfl rfl rfl call_132 (spec_l3Told_ok ha30) rfl rfl ?_); rintro _ _ G4613 ⟨w4609, w4611, rfl, rfl⟩ hS
          refine ART.q0 rfl (v := (.agg [w4609, w4611])) rfl rfl (Light.quiet (opExtract rfl rfl rfl)) ?_
          refine ART.q0 rfl (v := (.bool a30.2)) rfl rfl (Light.quiet (opExtract rfl rfl rfl)) ?_
          refine ART.n rfl rfl rfl rfl rfl (hPutA hS (j := 2) rfl rfl sizeA_41 rfl rfl rfl rfl (allC (hS.one (k := 0) rfl) (allC (hS.one (k := 1) rfl) rfl)) (nlt rfl) ?_); rintro G5209 hS
          refine ART.q0 rfl (v := (.bool a30.2)) rfl rfl (Light.quiet (opAssign rfl rfl)) ?_
          refine ART.done ?_
          exact ⟨w4609, w4611, ⟨rfl, rfl, trivial⟩, hS.pick [0, 1, 2, 3, 4, 5] rfl rfl⟩
      · skip
        refine ART.x rfl rfl rfl rfl (hLit (f := (AV.int .i64)) (zs := []) hS rfl rfl elemA_32 sizeA_3 zeroA_3 rfl rfl rfl rfl (by simp [cells]) (nlt rfl) ?_); rintro v18 G2209 hK hS; refine ⟨hK, ?_⟩
        refine ART.x rfl rfl rfl rfl (hLit (f := (AV.int .i64)) (zs := []) hS rfl rfl elemA_32 sizeA_3 zeroA_3 rfl rfl rfl rfl (by simp [cells]) (nlt rfl) ?_); rintro v8 G209 hK hS; refine ⟨hK, ?_⟩
        refine ART.y rfl rfl rfl rfl rfl (hApp (f := (AV.int .i64)) (ws := p0.stem) hS (j := 0) rfl hz11 rfl elemA_32 rfl sizeA_3 bytesA_3 zeroA_3 rfl rfl rfl (fun _ => rfl) ?_); rintro v11 G809 hS
        refine ART.y rfl rfl rfl rfl rfl (hApp (f := (AV.int .i64)) (ws := [a14]) hS (j := 0) rfl hz17 rfl elemA_32 rfl sizeA_3 bytesA_3 zeroA_3 rfl rfl rfl (fun _ => rfl) ?_); rintro v17 G2009 hS
        refine ART.y rfl rfl rfl rfl rfl (hApp (f := (AV.int .i64)) (ws := a21) hS (j := 1) rfl hz22 rfl elemA_32 rfl sizeA_3 bytesA_3 zeroA_3 rfl rfl rfl (fun _ => rfl) ?_); rintro v22 G3009 hS
        refine ART.y rfl rfl rfl rfl rfl (hApp (f := (AV.int .i64)) (ws := [a25]) hS (j := 1) rfl hz28 rfl elemA_32 rfl sizeA_3 bytesA_3 zeroA_3 rfl rfl rfl (fun _ => rfl) ?_); rintro v28 G4209 hS
        refine ART.q0 rfl (v := (.agg [v17, v28])) rfl rfl (Light.quiet (opBuildZ (zs := [(.list 1 (List.map (AV.int .i64) [])), (.list 1 (List.map (AV.int .i64) []))]) rfl plan_41 zeroA_41 ⟨.inr ⟨_, rfl, rfl⟩, .inr ⟨_, rfl, rfl⟩, trivial⟩ (putO (hS.one (k := 0) rfl) rfl rfl (putO (hS.one (k := 1) rfl) rfl rfl rfl)))) ?_
        refine ART.y rfl rfl rfl rfl rfl (hCallS hS [0, 1, 2, 3, 4, 5] (F := [.cell b2 [.nil, .nil], .row 1 .nil (List.map (AV.int .i64) ([])), .row 1 .nil (List.map (AV.int .i64) ([])), .snap S]) rfl rfl rfl call_132 (spec_l3Told_ok ha30) rfl rfl ?_); rintro _ _ G4613 ⟨w4609, w4611, rfl, rfl⟩ hS
        refine ART.q0 rfl (v := (.agg [w4609, w4611])) rfl rfl (Light.quiet (opExtract rfl rfl rfl)) ?_
        refine ART.q0 rfl (v := (.bool a30.2)) rfl rfl (Light.quiet (opExtract rfl rfl rfl)) ?_
        refine ART.n rfl rfl rfl rfl rfl (hPutA hS (j := 2) rfl rfl sizeA_41 rfl rfl rfl rfl (allC (hS.one (k := 0) rfl) (allC (hS.one (k := 1) rfl) rfl)) (nlt rfl) ?_); rintro G5209 hS
        refine ART.q0 rfl (v := (.bool a30.2)) rfl rfl (Light.quiet (opAssign rfl rfl)) ?_
        refine ART.done ?_
        exact ⟨w4609, w4611, ⟨rfl, rfl, trivial⟩, hS.pick [0, 1, 2, 3, 4, 5] rfl rfl⟩

set_option maxRecDepth 10000 in
theorem spec_l3DrawRight_ok {p0 : Tl1Cur} {p1 : Int} {r : (TWord × Tl1Cur)} {bp0 : Nat} (hF : spec_l3DrawRight p0 p1 = some r) : HS Try.prog 127 [(.ptr bp0 0), (.int .i64 p1)] [.cell bp0 [(.list 1 (List.map (AV.int .u8) p0.b)), (.int .i64 p0.i), (.int .i64 p0.h)]] fun v L' => ∃ o0_Stem : AV, ∃ o0_Loop : AV, v = (.agg [o0_Stem, o0_Loop]) ∧ L' = [.row 1 o0_Stem (List.map (AV.int .i64) r.1.stem), .row 1 o0_Loop (List.map (AV.int .i64) r.1.loop), .cell bp0 [(.list 1 (List.map (AV.int .u8) r.2.b)), (.int .i64 r.2.i), (.int .i64 r.2.h)]] := by
  intro H S hS
  refine HC.enter Try.func127 rfl Try.ntmps127 (by simp) ?_
  simp only [List.cons_append, List.nil_append] at hS
  unfold spec_l3DrawRight at hF
  refine AWP.seqR rfl ?_
  have hS := hNil (s := 1) (f := (AV.int .i64)) hS
  have hS := hNil (s := 1) (f := (AV.int .i64)) hS
  refine ASL.x rfl rfl (hNewZ hS [.nil, .nil] rfl zeroA_41 ⟨.inl rfl, .inl rfl, trivial⟩ ?_); rintro b4 G2 hK hS
  refine ASL.done ?_
  refine AWP.seqR rfl ?_
  refine ASL.q (v := (.ptr bp0 0)) rfl rfl (Light.quiet (opMove rfl rfl)) ?_
  refine ASL.q (v := (.int .i64 p1)) rfl rfl (Light.quiet (opMove rfl rfl)) ?_
  obtain ⟨a8, ha8, hF⟩ := bindE hF
  refine ASL.x rfl rfl (hCallS hS [3, 0, 1, 2, 4] (F := [.cell b4 [.nil, .nil], .row 1 .nil (List.map (AV.int .i64) ([])), .row 1 .nil (List.map (AV.int .i64) ([])), .snap S]) rfl rfl rfl call_129 (spec_l3DrawLetters_ok ha8) rfl rfl ?_); rintro w6 _ G8 ⟨_, rfl, rfl⟩ hS
  refine ASL.q (v := (.ptr bp0 0)) rfl rfl (Light.quiet (opMove rfl rfl)) ?_
  refine ASL.q (v := (.int .i64 p1)) rfl rfl (Light.quiet (opMove rfl rfl)) ?_
  obtain ⟨a11, ha11, hF⟩ := bindE hF
  refine ASL.x rfl rfl (hCallS hS [1, 0, 2, 3, 4, 5] (F := [.row 1 w6 (List.map (AV.int .i64) a8.1), .cell b4 [.nil, .nil], .row 1 .nil (List.map (AV.int .i64) ([])), .row 1 .nil (List.map (AV.int .i64) ([])), .snap S]) rfl rfl rfl call_129 (spec_l3DrawLetters_ok ha11) rfl rfl ?_); rintro w9 _ G11 ⟨_, rfl, rfl⟩ hS
  refine ASL.q (v := (.ptr bp0 0)) rfl rfl (Light.quiet (opMove rfl rfl)) ?_
  refine ASL.q (v := (.int .i64 p1)) rfl rfl (Light.quiet (opMove rfl rfl)) ?_
  obtain ⟨a14, ha14, hF⟩ := bindE hF
  refine ASL.x rfl rfl (hCallS hS [1, 0, 2, 3, 4, 5, 6] (F := [.row 1 w9 (List.map (AV.int .i64) a11.1), .row 1 w6 (List.map (AV.int .i64) a8.1), .cell b4 [.nil, .nil], .row 1 .nil (List.map (AV.int .i64) ([])), .row 1 .nil (List.map (AV.int .i64) ([])), .snap S]) rfl rfl rfl call_97 (spec_l1Below_ok ha14) rfl rfl ?_); rintro _ _ G12 ⟨rfl, rfl⟩ hS
  refine ASL.q (v := (.list 1 (List.map (AV.int .i64) [a14.1]))) rfl rfl ((qLit (xs := [(.int .i64 a14.1)]) rfl elemA_32 sizeA_3 zeroA_3 rfl rfl rfl rfl (by simp [cells]) (nlt rfl))) ?_
  obtain ⟨z16, hz16, hF⟩ := bindE hF
  refine ASL.x rfl rfl (hApp (f := (AV.int .i64)) (ws := [a14.1]) hS (j := 1) rfl hz16 rfl elemA_32 rfl sizeA_3 bytesA_3 zeroA_3 rfl rfl rfl (fun _ => rfl) ?_); rintro v16 G13 hS
  refine ASL.q (v := (.agg [w6, v16])) rfl rfl (Light.quiet (opBuildZ (zs := [(.list 1 (List.map (AV.int .i64) [])), (.list 1 (List.map (AV.int .i64) []))]) rfl plan_41 zeroA_41 ⟨.inr ⟨_, rfl, rfl⟩, .inr ⟨_, rfl, rfl⟩, trivial⟩ (putO (hS.one (k := 2) rfl) rfl rfl (putO (hS.one (k := 1) rfl) rfl rfl rfl)))) ?_
  have hS := hNil (s := 1) (f := (AV.int .i64)) hS
  have hS := hNil (s := 1) (f := (AV.int .i64)) hS
  refine ASL.x rfl rfl (hNewZ hS [.nil, .nil] rfl zeroA_41 ⟨.inl rfl, .inl rfl, trivial⟩ ?_); rintro b5 G15 hK hS
  refine ASL.n rfl rfl (hPutA hS (j := 0) rfl rfl sizeA_41 rfl rfl rfl rfl (allC (hS.one (k := 5) rfl) (allC (hS.one (k := 4) rfl) rfl)) (nlt rfl) ?_); rintro G19 hS
  refine ASL.done ?_
  refine AWP.seqM (fun e H => ∃ y20 : (List Int), ∃ y21 : Int, ∃ y22 : Int, ∃ y23 : (List Int), ∃ y26 : (List Int), ∃ w24 : AV, ∃ w27 : AV, E.Told e [(0, (.ptr bp0 0)), (4, (.ptr b4 0)), (5, (.ptr b5 0))] ∧ E.Sep H [.cell bp0 [(.list 1 (List.map (AV.int .u8) y20)), (.int .i64 y21), (.int .i64 y22)], .row 1 .nil (List.map (AV.int .i64) ([])), .row 1 .nil (List.map (AV.int .i64) ([])), .cell b4 [.nil, .nil], .row 1 w24 (List.map (AV.int .i64) y23), .row 1 w27 (List.map (AV.int .i64) y26), .cell b5 [w24, w27], .snap S] ∧ spec_l3DrawRight.k0 y20 y21 y22 y23 y26 = some r) ?_ ?_
  · rintro e0 G39 ⟨y20, y21, y22, y23, y26, w24, w27, hT, hS, hF⟩; refine AWP.only _ hT ?_; unfold spec_l3DrawRight.k0 at hF
    refine AWP.seq ?_
    refine AWP.seqR rfl ?_
    refine ASL.q (v := (.ptr bp0 0)) rfl rfl (Light.quiet (opMove rfl rfl)) ?_
    obtain ⟨a26, ha26, hF⟩ := bindE hF
    refine ASL.x rfl rfl (hCallS hS [0, 1, 2, 3, 4, 5, 6, 7] (F := [.row 1 .nil (List.map (AV.int .i64) ([])), .row 1 .nil (List.map (AV.int .i64) ([])), .cell b4 [.nil, .nil], .row 1 w24 (List.map (AV.int .i64) y23), .row 1 w27 (List.map (AV.int .i64) y26), .cell b5 [w24, w27], .snap S]) rfl rfl rfl call_111 (spec_l1Once_ok ha26) rfl rfl ?_); rintro _ _ G29 ⟨rfl, rfl⟩ hS
    refine ASL.done ?_
    refine AWP.ifB hF rfl (fun hc30 hF => ?_) (fun hc30 hF => ?_)
    · skip
      refine AWP.lastR rfl ?_
      refine ASL.q (v := (.agg [w24, w27])) rfl rfl (Light.quiet (kAtA hS (j := 6) rfl rfl aggA_41 sizeA_41 rfl (nlt rfl) rfl)) ?_
      obtain ⟨a29, ha29, hF⟩ := bindE hF
      refine ASL.x rfl rfl (hCallSR hS rfl rfl call_131 (spec_WordTurn_ok ha29) ⟨.aggL ⟨.row (k := 4) rfl, .row (k := 5) rfl, trivial⟩, trivial⟩ (by rintro _ _ G ⟨w31, w33, rfl, rfl⟩ hG; exact ⟨(Scal.tup (ScalC.cons (Scal.agg (ScalC.cons (hG.scR (k := 0) rfl) (ScalC.cons (hG.scR (k := 1) rfl) ScalC.nil))) (ScalC.cons (by constructor) ScalC.nil))), ⟨(Scal.ints _ _), (Scal.ints _ _), trivial⟩⟩) ?_); rintro _ _ G35 ⟨w31, w33, rfl, rfl⟩ hK hS
      refine ASL.q (v := (.tup [(.agg [w31, w33]), (.bool a29.2)])) rfl rfl (Light.quiet (opMove rfl rfl)) ?_
      refine ASL.q (v := (.agg [w31, w33])) rfl rfl (Light.quiet (opExtract rfl rfl rfl)) ?_
      refine ASL.q (v := (.bool a29.2)) rfl rfl (Light.quiet (opExtract rfl rfl rfl)) ?_
      refine ASL.n rfl rfl (hPutA hS (j := 8) rfl rfl sizeA_41 rfl rfl rfl rfl (allC (hS.one (k := 0) rfl) (allC (hS.one (k := 1) rfl) rfl)) (nlt rfl) ?_); rintro G36 hS
      refine ASL.done ?_
      refine QThen.nrm ?_
      refine AWP.seqR rfl ?_
      refine ASL.q (v := (.agg [w31, w33])) rfl rfl (Light.quiet (kAtA hS (j := 8) rfl rfl aggA_41 sizeA_41 rfl (nlt rfl) rfl)) ?_
      refine ASL.n rfl rfl (hPutA hS (j := 5) rfl rfl sizeA_41 rfl rfl rfl rfl (allC (hS.one (k := 0) rfl) (allC (hS.one (k := 1) rfl) rfl)) (nlt rfl) ?_); rintro G37 hS
      refine ASL.done ?_
      refine AWP.ret ?_
      obtain rfl := someE hF
      exact QRet.sole (v := (.agg [w31, w33])) ⟨resOne.at hS (k := 5) rfl rfl aggA_41 sizeA_41, trivial⟩ ⟨_, ⟨w31, w33, rfl, rfl⟩, hS.pick [0, 1, 2, 9] rfl rfl⟩
    · skip
      refine AWP.skip ?_
      refine QThen.nrm ?_
      refine AWP.seqR rfl ?_
      refine ASL.q (v := (.agg [w24, w27])) rfl rfl (Light.quiet (kAtA hS (j := 6) rfl rfl aggA_41 sizeA_41 rfl (nlt rfl) rfl)) ?_
      refine ASL.n rfl rfl (hPutA hS (j := 3) rfl rfl sizeA_41 rfl rfl rfl rfl (allC (hS.one (k := 4) rfl) (allC (hS.one (k := 5) rfl) rfl)) (nlt rfl) ?_); rintro G38 hS
      refine ASL.done ?_
      refine AWP.ret ?_
      obtain rfl := someE hF
      exact QRet.sole (v := (.agg [w24, w27])) ⟨resOne.at hS (k := 3) rfl rfl aggA_41 sizeA_41, trivial⟩ ⟨_, ⟨w24, w27, rfl, rfl⟩, hS.pick [4, 5, 0, 7] rfl rfl⟩
  · skip
    refine AWP.seqR rfl ?_
    refine ASL.q (v := (.ptr bp0 0)) rfl rfl (Light.quiet (opMove rfl rfl)) ?_
    obtain ⟨a19, ha19, hF⟩ := bindE hF
    refine ASL.x rfl rfl (hCallS hS [3, 0, 1, 2, 4, 5, 6, 7, 8, 9] (F := [.cell b5 [w6, v16], .row 1 .nil (List.map (AV.int .i64) ([])), .row 1 .nil (List.map (AV.int .i64) ([])), .row 1 v16 (List.map (AV.int .i64) z16), .row 1 w6 (List.map (AV.int .i64) a8.1), .cell b4 [.nil, .nil], .row 1 .nil (List.map (AV.int .i64) ([])), .row 1 .nil (List.map (AV.int .i64) ([])), .snap S]) rfl rfl rfl call_111 (spec_l1Once_ok ha19) rfl rfl ?_); rintro _ _ G40 ⟨rfl, rfl⟩ hS
    refine ASL.done ?_
    refine AWP.ifB hF rfl (fun hc41 hF => ?_) (fun hc41 hF => ?_)
    · skip
      refine AWP.lastR rfl ?_
      refine ASL.q (v := (.agg [w6, v16])) rfl rfl (Light.quiet (kAtA hS (j := 1) rfl rfl aggA_41 sizeA_41 rfl (nlt rfl) rfl)) ?_
      obtain ⟨a22, ha22, hF⟩ := bindE hF
      refine ASL.x rfl rfl (hCallSR hS rfl rfl call_130 (spec_WordPower_ok ha22) ⟨.aggL ⟨.row (k := 5) rfl, .row (k := 4) rfl, trivial⟩, .same _, trivial⟩ (by rintro _ _ G ⟨w42, w44, rfl, rfl⟩ hG; exact ⟨(Scal.tup (ScalC.cons (Scal.agg (ScalC.cons (hG.scR (k := 0) rfl) (ScalC.cons (hG.scR (k := 1) rfl) ScalC.nil))) (ScalC.cons (by constructor) ScalC.nil))), ⟨(Scal.ints _ _), (Scal.ints _ _), trivial⟩⟩) ?_); rintro _ _ G46 ⟨w42, w44, rfl, rfl⟩ hK hS
      refine ASL.q (v := (.tup [(.agg [w42, w44]), (.bool a22.2)])) rfl rfl (Light.quiet (opMove rfl rfl)) ?_
      refine ASL.q (v := (.agg [w42, w44])) rfl rfl (Light.quiet (opExtract rfl rfl rfl)) ?_
      refine ASL.q (v := (.bool a22.2)) rfl rfl (Light.quiet (opExtract rfl rfl rfl)) ?_
      refine ASL.n rfl rfl (hPutA hS (j := 3) rfl rfl sizeA_41 rfl rfl rfl rfl (allC (hS.one (k := 0) rfl) (allC (hS.one (k := 1) rfl) rfl)) (nlt rfl) ?_); rintro G47 hS
      refine ASL.done ?_
      refine QThen.nrm ?_
      exact ⟨a19.2.b, a19.2.i, a19.2.h, a22.1.stem, a22.1.loop, w42, w44, ⟨rfl, rfl, rfl, trivial⟩, (hS.pick [2, 10, 9, 8, 0, 1, 3, 11] rfl rfl), hF⟩
    · skip
      refine AWP.skip ?_
      refine QThen.nrm ?_
      exact ⟨a19.2.b, a19.2.i, a19.2.h, a8.1, z16, w6, v16, ⟨rfl, rfl, rfl, trivial⟩, (hS.pick [0, 8, 7, 6, 5, 4, 1, 9] rfl rfl), hF⟩

set_option maxRecDepth 10000 in
theorem spec_l3DrawWord_ok {p0 : Tl1Cur} {r : (TWord × Tl1Cur)} {bp0 : Nat} (hF : spec_l3DrawWord p0 = some r) : HS Try.prog 107 [(.ptr bp0 0)] [.cell bp0 [(.list 1 (List.map (AV.int .u8) p0.b)), (.int .i64 p0.i), (.int .i64 p0.h)]] fun v L' => ∃ o0_Stem : AV, ∃ o0_Loop : AV, v = (.agg [o0_Stem, o0_Loop]) ∧ L' = [.row 1 o0_Stem (List.map (AV.int .i64) r.1.stem), .row 1 o0_Loop (List.map (AV.int .i64) r.1.loop), .cell bp0 [(.list 1 (List.map (AV.int .u8) r.2.b)), (.int .i64 r.2.i), (.int .i64 r.2.h)]] := by
  intro H S hS
  refine HC.enter Try.func107 rfl Try.ntmps107 (by simp) ?_
  simp only [List.cons_append, List.nil_append] at hS
  unfold spec_l3DrawWord at hF
  refine AWP.seqR rfl ?_
  have hS := hNil (s := 1) (f := (AV.int .i64)) hS
  have hS := hNil (s := 1) (f := (AV.int .i64)) hS
  refine ASL.x rfl rfl (hNewZ hS [.nil, .nil] rfl zeroA_41 ⟨.inl rfl, .inl rfl, trivial⟩ ?_); rintro b2 G2 hK hS
  refine ASL.done ?_
  refine AWP.seqR rfl ?_
  refine ASL.q (v := (.ptr bp0 0)) rfl rfl (Light.quiet (opMove rfl rfl)) ?_
  refine ASL.q (v := (.ptr bp0 0)) rfl rfl (Light.quiet (opMove rfl rfl)) ?_
  refine ASL.q (v := (.list 1 (List.map (AV.int .i64) [1, 2, 2, 3, 8]))) rfl rfl ((qLit (xs := [(.int .i64 1), (.int .i64 2), (.int .i64 2), (.int .i64 3), (.int .i64 8)]) rfl elemA_32 sizeA_3 zeroA_3 rfl rfl rfl rfl (by simp [cells]) (nlt rfl))) ?_
  obtain ⟨a7, ha7, hF⟩ := bindE hF
  refine ASL.x rfl rfl (hCallS hS [3, 0, 1, 2, 4] (F := [.cell b2 [.nil, .nil], .row 1 .nil (List.map (AV.int .i64) ([])), .row 1 .nil (List.map (AV.int .i64) ([])), .snap S]) rfl rfl rfl call_51 (spec_l1PickInt_ok ha7) rfl rfl ?_); rintro _ _ G6 ⟨rfl, rfl⟩ hS
  obtain ⟨a8, ha8, hF⟩ := bindE hF
  refine ASL.x rfl rfl (hCallS hS [0, 1, 2, 3, 4] (F := [.cell b2 [.nil, .nil], .row 1 .nil (List.map (AV.int .i64) ([])), .row 1 .nil (List.map (AV.int .i64) ([])), .snap S]) rfl rfl rfl call_127 (spec_l3DrawRight_ok ha8) rfl rfl ?_); rintro _ _ G11 ⟨w7, w9, rfl, rfl⟩ hS
  have hS := hNil (s := 1) (f := (AV.int .i64)) hS
  have hS := hNil (s := 1) (f := (AV.int .i64)) hS
  refine ASL.x rfl rfl (hNewZ hS [.nil, .nil] rfl zeroA_41 ⟨.inl rfl, .inl rfl, trivial⟩ ?_); rintro b3 G12 hK hS
  refine ASL.n rfl rfl (hPutA hS (j := 0) rfl rfl sizeA_41 rfl rfl rfl rfl (allC (hS.one (k := 3) rfl) (allC (hS.one (k := 4) rfl) rfl)) (nlt rfl) ?_); rintro G16 hS
  refine ASL.done ?_
  refine AWP.seqM (fun e H => ∃ y17 : (List Int), ∃ y20 : (List Int), ∃ y23 : (List Int), ∃ y24 : Int, ∃ y25 : Int, ∃ w18 : AV, ∃ w21 : AV, E.Told e [(2, (.ptr b2 0)), (3, (.ptr b3 0))] ∧ E.Sep H [.row 1 .nil (List.map (AV.int .i64) ([])), .row 1 .nil (List.map (AV.int .i64) ([])), .cell b2 [.nil, .nil], .row 1 w18 (List.map (AV.int .i64) y17), .row 1 w21 (List.map (AV.int .i64) y20), .cell b3 [w18, w21], .cell bp0 [(.list 1 (List.map (AV.int .u8) y23)), (.int .i64 y24), (.int .i64 y25)], .snap S] ∧ spec_l3DrawWord.k0 y17 y20 y23 y24 y25 = some r) ?_ ?_
  · rintro e0 G27 ⟨y17, y20, y23, y24, y25, w18, w21, hT, hS, hF⟩; refine AWP.only _ hT ?_; unfold spec_l3DrawWord.k0 at hF
    refine AWP.seqR rfl ?_
    refine ASL.q (v := (.agg [w18, w21])) rfl rfl (Light.quiet (kAtA hS (j := 5) rfl rfl aggA_41 sizeA_41 rfl (nlt rfl) rfl)) ?_
    refine ASL.n rfl rfl (hPutA hS (j := 2) rfl rfl sizeA_41 rfl rfl rfl rfl (allC (hS.one (k := 3) rfl) (allC (hS.one (k := 4) rfl) rfl)) (nlt rfl) ?_); rintro G26 hS
    refine ASL.done ?_
    refine AWP.ret ?_
    obtain rfl := someE hF
    exact QRet.sole (v := (.agg [w18, w21])) ⟨resOne.at hS (k := 2) rfl rfl aggA_41 sizeA_41, trivial⟩ ⟨_, ⟨w18, w21, rfl, rfl⟩, hS.pick [3, 4, 6, 7] rfl rfl⟩
  · skip
    refine AWP.seqR rfl ?_
    refine ASL.q (v := (.ptr bp0 0)) rfl rfl (Light.quiet (opMove rfl rfl)) ?_
    obtain ⟨a10, ha10, hF⟩ := bindE hF
    refine ASL.x rfl rfl (hCallS hS [5, 0, 1, 2, 3, 4, 6, 7, 8, 9] (F := [.cell b3 [w7, w9], .row 1 .nil (List.map (AV.int .i64) ([])), .row 1 .nil (List.map (AV.int .i64) ([])), .row 1 w7 (List.map (AV.int .i64) a8.1.stem), .row 1 w9 (List.map (AV.int .i64) a8.1.loop), .cell b2 [.nil, .nil], .row 1 .nil (List.map (AV.int .i64) ([])), .row 1 .nil (List.map (AV.int .i64) ([])), .snap S]) rfl rfl rfl call_97 (spec_l1Below_ok ha10) rfl rfl ?_); rintro _ _ G28 ⟨rfl, rfl⟩ hS
    refine ASL.done ?_
    refine AWP.block ?_
    refine AWP.seqR rfl ?_
    refine ASL.q (v := (.bool (decide (a10.1 = 0)))) rfl rfl (Light.quiet (opInt rfl rfl rfl rfl)) ?_
    refine ASL.q (v := (.bool (decide (a10.1 = 0)))) rfl rfl (Light.quiet (opAssign rfl rfl)) ?_
    refine ASL.done ?_
    refine AWP.ifP hF rfl (fun hc29 hF => ?_) (fun hc29 hF => ?_)
    · skip
      refine AWP.lastR rfl ?_
      refine ASL.q (v := (.ptr b3 1)) rfl rfl (Light.quiet (opFieldAddr rfl fieldA_41_1 rfl rfl)) ?_
      have hS := hNil (s := 1) (f := (AV.int .i64)) hS
      refine ASL.n rfl rfl (hPut hS (j := 2) rfl rfl sizeA_32 rfl rfl (hS.one (k := 0) rfl) (nlt rfl) ?_); rintro G30 hS
      refine ASL.done ?_
      refine QBlock.nrm ?_
      refine QThen.nrm ?_
      exact ⟨a8.1.stem, [], a10.2.b, a10.2.i, a10.2.h, w7, .nil, ⟨rfl, rfl, trivial⟩, (hS.pick [9, 8, 7, 5, 0, 2, 1, 10] rfl rfl), hF⟩
    · skip
      refine AWP.seqR rfl ?_
      refine ASL.q (v := (.bool (decide (a10.1 = 1)))) rfl rfl (Light.quiet (opInt rfl rfl rfl rfl)) ?_
      refine ASL.q (v := (.bool (decide (a10.1 = 1)))) rfl rfl (Light.quiet (opAssign rfl rfl)) ?_
      refine ASL.done ?_
      refine AWP.ifP hF rfl (fun hc32 hF => ?_) (fun hc32 hF => ?_)
      · skip
        refine AWP.lastD [(0, false), (1, false), (2, false), (3, false), (4, true), (5, false), (6, true), (7, false), (8, true)] mixed (by kernel_rfl) rfl ?_
        refine ARL.q0 (v := (.ptr b3 0)) rfl rfl (Light.quiet (opFieldAddr rfl fieldA_41_0 rfl rfl)) ?_
        refine ARL.q (v := w7) rfl rfl (hS.aliveC (k := 1) rfl) (Light.quiet (kAt hS (j := 1) rfl rfl aggA_32 rfl rfl)) ?_
        refine ARL.q0 (v := (.ptr bp0 0)) rfl rfl (Light.quiet (opMove rfl rfl)) ?_
        refine ARL.q0 (v := (.list 1 (List.map (AV.int .i64) [(-1), 7, 8]))) rfl rfl ((qLit (xs := [(.int .i64 (-1)), (.int .i64 7), (.int .i64 8)]) rfl elemA_32 sizeA_3 zeroA_3 rfl rfl rfl rfl (by simp [cells]) (nlt rfl))) ?_
        obtain ⟨a20, ha20, hF⟩ := bindE hF
        refine ARL.yK (fs := [.cell b3 [w7, w9], .row 1 .nil (List.map (AV.int .i64) ([])), .row 1 .nil (List.map (AV.int .i64) ([])), .row 1 w7 (List.map (AV.int .i64) a8.1.stem), .row 1 w9 (List.map (AV.int .i64) a8.1.loop), .cell b2 [.nil, .nil], .row 1 .nil (List.map (AV.int .i64) ([])), .row 1 .nil (List.map (AV.int .i64) ([])), .snap S]) rfl rfl rfl ⟨.inr (by simp), .inr (by simp), .inr (inF (r := .cell b3 [w7, w9]) (k := 0) rfl), .inr (by simp), trivial⟩ (hCallSB hS [0, 1, 2, 3, 4, 5, 6, 7, 8, 9] (F := [.cell b3 [w7, w9], .row 1 .nil (List.map (AV.int .i64) ([])), .row 1 .nil (List.map (AV.int .i64) ([])), .row 1 w7 (List.map (AV.int .i64) a8.1.stem), .row 1 w9 (List.map (AV.int .i64) a8.1.loop), .cell b2 [.nil, .nil], .row 1 .nil (List.map (AV.int .i64) ([])), .row 1 .nil (List.map (AV.int .i64) ([])), .snap S]) rfl rfl rfl call_51 (spec_l1PickInt_ok ha20) rfl rfl ?_); rintro _ _ G33 ⟨rfl, rfl⟩ hB hS; refine ⟨hB, ?_⟩
        refine ARL.q0 (v := (.list 1 (List.map (AV.int .i64) [a20.1]))) rfl rfl ((qLit (xs := [(.int .i64 a20.1)]) rfl elemA_32 sizeA_3 zeroA_3 rfl rfl rfl rfl (by simp [cells]) (nlt rfl))) ?_
        obtain ⟨z22, hz22, hF⟩ := bindE hF
        refine ARL.y rfl rfl rfl rfl (hApp (f := (AV.int .i64)) (ws := [a20.1]) hS (j := 4) rfl hz22 rfl elemA_32 rfl sizeA_3 bytesA_3 zeroA_3 rfl rfl rfl (fun _ => rfl) ?_); rintro v22 G34 hS
        refine ARL.q0 (v := (.ptr b3 0)) rfl rfl (Light.quiet (opFieldAddr rfl fieldA_41_0 rfl rfl)) ?_
        refine ARL.n rfl rfl rfl rfl (hPut hS (j := 1) rfl rfl sizeA_32 rfl rfl (hS.one (k := 4) rfl) (nlt rfl) ?_); rintro G36 hS
        refine ARL.done ?_
        refine QBlock.nrm ?_
        refine QThen.nrm ?_
        exact ⟨z22, a8.1.loop, a20.2.b, a20.2.i, a20.2.h, v22, w9, ⟨rfl, rfl, trivial⟩, (hS.pick [8, 7, 6, 4, 5, 1, 0, 9] rfl rfl), hF⟩
      · skip
        refine AWP.seqR rfl ?_
        refine ASL.q (v := (.bool (decide (a10.1 = 2)))) rfl rfl (Light.quiet (opInt rfl rfl rfl rfl)) ?_
        refine ASL.q (v := (.bool (decide (a10.1 = 2)))) rfl rfl (Light.quiet (opAssign rfl rfl)) ?_
        refine ASL.done ?_
        refine AWP.ifP hF rfl (fun hc37 hF => ?_) (fun hc37 hF => ?_)
        · skip
          refine AWP.lastR rfl ?_
          refine ASL.q (v := (.ptr bp0 0)) rfl rfl (Light.quiet (opMove rfl rfl)) ?_
          obtain ⟨a27, ha27, hF⟩ := bindE hF
          refine ASL.x rfl rfl (hCallS hS [0, 1, 2, 3, 4, 5, 6, 7, 8, 9] (F := [.cell b3 [w7, w9], .row 1 .nil (List.map (AV.int .i64) ([])), .row 1 .nil (List.map (AV.int .i64) ([])), .row 1 w7 (List.map (AV.int .i64) a8.1.stem), .row 1 w9 (List.map (AV.int .i64) a8.1.loop), .cell b2 [.nil, .nil], .row 1 .nil (List.map (AV.int .i64) ([])), .row 1 .nil (List.map (AV.int .i64) ([])), .snap S]) rfl rfl rfl call_97 (spec_l1Below_ok ha27) rfl rfl ?_); rintro _ _ G38 ⟨rfl, rfl⟩ hS
          refine ASL.q (v := (.int .i64 (W (40 + a27.1)))) rfl rfl (Light.quiet (opInt rfl rfl rfl rfl)) ?_
          obtain ⟨z29, hz29, hF⟩ := bindE hF
          refine ASL.x rfl rfl (hMk (f := (AV.int .i64)) hS hz29 (by decide) rfl elemA_32 sizeA_3 bytesA_3 zeroA_3 rfl rfl (by decide) rfl rfl ?_); rintro v29 G39 hK hS
          refine ASL.q (v := (.ptr b3 0)) rfl rfl (Light.quiet (opFieldAddr rfl fieldA_41_0 rfl rfl)) ?_
          refine ASL.n rfl rfl (hPut hS (j := 2) rfl rfl sizeA_32 rfl rfl (hS.one (k := 0) rfl) (nlt rfl) ?_); rintro G41 hS
          refine ASL.done ?_
          refine QBlock.nrm ?_
          refine QThen.nrm ?_
          exact ⟨z29, a8.1.loop, a27.2.b, a27.2.i, a27.2.h, v29, w9, ⟨rfl, rfl, trivial⟩, (hS.pick [9, 8, 7, 0, 6, 2, 1, 10] rfl rfl), hF⟩
        · skip
          refine AWP.seqR rfl ?_
          refine ASL.q (v := (.bool (decide (a10.1 = 3)))) rfl rfl (Light.quiet (opInt rfl rfl rfl rfl)) ?_
          refine ASL.q (v := (.bool (decide (a10.1 = 3)))) rfl rfl (Light.quiet (opAssign rfl rfl)) ?_
          refine ASL.done ?_
          refine AWP.ifP hF rfl (fun hc42 hF => ?_) (fun hc42 hF => ?_)
          · skip
            refine AWP.lastR rfl ?_
            refine ASL.q (v := (.ptr bp0 0)) rfl rfl (Light.quiet (opMove rfl rfl)) ?_
            obtain ⟨a34, ha34, hF⟩ := bindE hF
            refine ASL.x rfl rfl (hCallS hS [0, 1, 2, 3, 4, 5, 6, 7, 8, 9] (F := [.cell b3 [w7, w9], .row 1 .nil (List.map (AV.int .i64) ([])), .row 1 .nil (List.map (AV.int .i64) ([])), .row 1 w7 (List.map (AV.int .i64) a8.1.stem), .row 1 w9 (List.map (AV.int .i64) a8.1.loop), .cell b2 [.nil, .nil], .row 1 .nil (List.map (AV.int .i64) ([])), .row 1 .nil (List.map (AV.int .i64) ([])), .snap S]) rfl rfl rfl call_97 (spec_l1Below_ok ha34) rfl rfl ?_); rintro _ _ G43 ⟨rfl, rfl⟩ hS
            refine ASL.q (v := (.int .i64 (W (40 + a34.1)))) rfl rfl (Light.quiet (opInt rfl rfl rfl rfl)) ?_
            obtain ⟨z36, hz36, hF⟩ := bindE hF
            refine ASL.x rfl rfl (hMk (f := (AV.int .i64)) hS hz36 (by decide) rfl elemA_32 sizeA_3 bytesA_3 zeroA_3 rfl rfl (by decide) rfl rfl ?_); rintro v36 G44 hK hS
            refine ASL.q (v := (.ptr b3 1)) rfl rfl (Light.quiet (opFieldAddr rfl fieldA_41_1 rfl rfl)) ?_
            refine ASL.n rfl rfl (hPut hS (j := 2) rfl rfl sizeA_32 rfl rfl (hS.one (k := 0) rfl) (nlt rfl) ?_); rintro G46 hS
            refine ASL.done ?_
            refine QBlock.nrm ?_
            refine QThen.nrm ?_
            exact ⟨a8.1.stem, z36, a34.2.b, a34.2.i, a34.2.h, w7, v36, ⟨rfl, rfl, trivial⟩, (hS.pick [9, 8, 7, 5, 0, 2, 1, 10] rfl rfl), hF⟩
          · skip
            refine AWP.skip ?_
            refine QBlock.nrm ?_
            refine QThen.nrm ?_
            exact ⟨a8.1.stem, a8.1.loop, a10.2.b, a10.2.i, a10.2.h, w7, w9, ⟨rfl, rfl, trivial⟩, (hS.pick [8, 7, 6, 4, 5, 1, 0, 9] rfl rfl), hF⟩

set_option maxRecDepth 10000 in
theorem spec_l9DrawBoth_ok {K : Nat} {p0 : (List Int)} {r : ((List TNode) × TWord)} (hF : spec_l9DrawBoth K p0 = some r) : PC Try.prog 78 [(.list 1 (List.map (AV.int .u8) p0))] fun v => v = .tup [(.list 3 (List.map TNode.av r.1)), (TWord.av r.2)] := by
  refine PC.enter Try.func78 rfl Try.ntmps78 (by simp) ?_
  have hS := Sep.void; unfold spec_l9DrawBoth at hF
  refine AWP.seqR rfl ?_
  refine ASL.q (v := (.list 3 (List.map TNode.av []))) rfl rfl (Light.quiet (opNilL rfl rfl)) ?_
  refine ASL.x rfl rfl (hNewZ hS [(.list 1 (List.map (AV.int .i64) [])), (.list 1 (List.map (AV.int .i64) []))] rfl zeroA_41 ⟨.inr ⟨_, rfl, rfl⟩, .inr ⟨_, rfl, rfl⟩, trivial⟩ ?_); rintro b3 G1 hK hS
  refine ASL.done ?_
  refine AWP.seqR rfl ?_
  refine ASL.q (v := (.list 1 (List.map (AV.int .u8) p0))) rfl rfl (Light.quiet (opMove rfl rfl)) ?_
  obtain ⟨a7, ha7, hF⟩ := bindE hF
  refine ASL.x rfl rfl (hCallS hS [0] (F := [.cell b3 [(.list 1 (List.map (AV.int .i64) [])), (.list 1 (List.map (AV.int .i64) []))]]) rfl rfl rfl call_50 (spec_l1New_ok ha7) rfl rfl ?_); rintro _ _ G5 ⟨bq3, rfl, rfl⟩ hS
  refine ASL.q (v := (.ptr bq3 0)) rfl rfl (Light.quiet (opAssign rfl rfl)) ?_
  refine ASL.done ?_
  refine AWP.seqR rfl ?_
  refine ASL.q (v := (.ptr bq3 0)) rfl rfl (Light.quiet (opMove rfl rfl)) ?_
  obtain ⟨a9, ha9, hF⟩ := bindE hF
  refine ASL.x rfl rfl (hCallS hS [0, 1] (F := [.cell b3 [(.list 1 (List.map (AV.int .i64) [])), (.list 1 (List.map (AV.int .i64) []))]]) rfl rfl rfl call_52 (spec_l8DrawAny_ok ha9) rfl rfl ?_); rintro w6 _ G8 ⟨_, rfl, rfl⟩ hS
  refine ASL.q (v := w6) rfl rfl (Light.quiet (opAssign rfl rfl)) ?_
  refine ASL.done ?_
  refine AWP.frz (L' := [.cell bq3 [(.list 1 (List.map (AV.int .u8) a9.2.b)), (.int .i64 a9.2.i), (.int .i64 a9.2.h)], .cell b3 [(.list 1 (List.map (AV.int .i64) [])), (.list 1 (List.map (AV.int .i64) []))]]) hS (k := 0) rfl [(3, (.ptr b3 0)), (4, (.ptr bq3 0)), (5, (.list 3 (List.map TNode.av a9.1)))] ⟨.inl rfl, .inl rfl, .inr (.inl ⟨rfl, rfl⟩), trivial⟩ ⟨⟨_, rfl, ⟨.inl rfl, .inl rfl, .inl rfl, trivial⟩⟩, ⟨_, rfl, ⟨.inl rfl, .inl rfl, trivial⟩⟩, trivial⟩ (fun G9 hS => ?_)
  refine AWP.seqR rfl ?_
  refine ASL.q (v := (.list 3 (List.map TNode.av a9.1))) rfl rfl (Light.quiet (opMove rfl rfl)) ?_
  refine ASL.q (v := (.ptr bq3 0)) rfl rfl (Light.quiet (opMove rfl rfl)) ?_
  obtain ⟨a12, ha12, hF⟩ := bindE hF
  refine ASL.x rfl rfl (hCallS hS [0, 1] (F := [.cell b3 [(.list 1 (List.map (AV.int .i64) [])), (.list 1 (List.map (AV.int .i64) []))]]) rfl rfl rfl call_107 (spec_l3DrawWord_ok ha12) rfl rfl ?_); rintro _ _ G14 ⟨w10, w12, rfl, rfl⟩ hS
  refine ASL.q (v := (.list 3 (List.map TNode.av a9.1))) rfl rfl (Light.quiet (opAssign rfl rfl)) ?_
  refine ASL.n rfl rfl (hPutA hS (j := 3) rfl rfl sizeA_41 rfl rfl rfl rfl (allC (hS.one (k := 0) rfl) (allC (hS.one (k := 1) rfl) rfl)) (nlt rfl) ?_); rintro G15 hS
  refine ASL.done ?_
  refine AWP.frz (L' := [.row 1 w12 (List.map (AV.int .i64) a12.1.loop), .cell bq3 [(.list 1 (List.map (AV.int .u8) a12.2.b)), (.int .i64 a12.2.i), (.int .i64 a12.2.h)], .cell b3 [(.list 1 (List.map (AV.int .i64) a12.1.stem)), w12]]) hS (k := 0) rfl [(2, (.list 3 (List.map TNode.av a9.1))), (3, (.ptr b3 0)), (4, (.ptr bq3 0)), (5, (.list 3 (List.map TNode.av a9.1)))] ⟨.inl rfl, .inl rfl, .inl rfl, .inl rfl, trivial⟩ ⟨rfl, ⟨_, rfl, ⟨.inl rfl, .inl rfl, .inl rfl, trivial⟩⟩, ⟨_, rfl, ⟨.inr ⟨rfl, rfl⟩, .inl rfl, trivial⟩⟩, trivial⟩ (fun G16 hS => ?_)
  refine AWP.frz (L' := [.cell bq3 [(.list 1 (List.map (AV.int .u8) a12.2.b)), (.int .i64 a12.2.i), (.int .i64 a12.2.h)], .cell b3 [(.list 1 (List.map (AV.int .i64) a12.1.stem)), (.list 1 (List.map (AV.int .i64) a12.1.loop))]]) hS (k := 0) rfl [(2, (.list 3 (List.map TNode.av a9.1))), (3, (.ptr b3 0)), (4, (.ptr bq3 0)), (5, (.list 3 (List.map TNode.av a9.1)))] ⟨.inl rfl, .inl rfl, .inl rfl, .inl rfl, trivial⟩ ⟨⟨_, rfl, ⟨.inl rfl, .inl rfl, .inl rfl, trivial⟩⟩, ⟨_, rfl, ⟨.inl rfl, .inr ⟨rfl, rfl⟩, trivial⟩⟩, trivial⟩ (fun G17 hS => ?_)
  refine AWP.ret ?_
  obtain rfl := someE hF
  exact QRet.many (vs := [(.list 3 (List.map TNode.av a9.1)), (TWord.av a12.1)]) ⟨rfl, resOne.at hS (k := 1) rfl rfl aggA_41 sizeA_41, trivial⟩ (by simp) rfl

set_option maxRecDepth 10000 in
theorem spec_DrawLtlTable_ok {K : Nat} {p0 : (List Int)} {r : ((List TNode) × TWord)} (hF : spec_DrawLtlTable K p0 = some r) : PC Try.prog 37 [(.list 1 (List.map (AV.int .u8) p0))] fun v => v = .tup [(.list 3 (List.map TNode.av r.1)), (TWord.av r.2)] := by
  refine PC.enter Try.func37 rfl Try.ntmps37 (by simp) ?_
  have hS := Sep.void; unfold spec_DrawLtlTable at hF
  refine AWP.seqR rfl ?_
  refine ASL.q (v := (.list 3 (List.map TNode.av []))) rfl rfl (Light.quiet (opNilL rfl rfl)) ?_
  refine ASL.x rfl rfl (hNewZ hS [(.list 1 (List.map (AV.int .i64) [])), (.list 1 (List.map (AV.int .i64) []))] rfl zeroA_41 ⟨.inr ⟨_, rfl, rfl⟩, .inr ⟨_, rfl, rfl⟩, trivial⟩ ?_); rintro b3 G1 hK hS
  refine ASL.done ?_
  refine AWP.seqR rfl ?_
  refine ASL.q (v := (.list 1 (List.map (AV.int .u8) p0))) rfl rfl (Light.quiet (opMove rfl rfl)) ?_
  obtain ⟨a8, ha8, hF⟩ := bindE hF
  refine ASL.q (v := (.tup [(.list 3 (List.map TNode.av a8.1)), (TWord.av a8.2)])) rfl rfl ((qCall rfl rfl call_78 (spec_l9DrawBoth_ok ha8) rfl)) ?_
  refine ASL.q (v := (.tup [(.list 3 (List.map TNode.av a8.1)), (TWord.av a8.2)])) rfl rfl (Light.quiet (opMove rfl rfl)) ?_
  refine ASL.q (v := (.list 3 (List.map TNode.av a8.1))) rfl rfl (Light.quiet (opExtract rfl rfl rfl)) ?_
  refine ASL.q (v := (TWord.av a8.2)) rfl rfl (Light.quiet (opExtract rfl rfl rfl)) ?_
  refine ASL.x rfl rfl (hNewZ hS [(.list 1 (List.map (AV.int .i64) [])), (.list 1 (List.map (AV.int .i64) []))] rfl zeroA_41 ⟨.inr ⟨_, rfl, rfl⟩, .inr ⟨_, rfl, rfl⟩, trivial⟩ ?_); rintro b5 G3 hK hS
  refine ASL.q (v := (.list 3 (List.map TNode.av a8.1))) rfl rfl (Light.quiet (opAssign rfl rfl)) ?_
  refine ASL.n rfl rfl (hPutA hS (j := 0) rfl rfl sizeA_41 rfl rfl rfl rfl rfl (nlt rfl) ?_); rintro G5 hS
  refine ASL.done ?_
  refine AWP.seqD [(0, false), (1, false), (2, false), (3, true)] mixed (by kernel_rfl) rfl ?_
  refine ARL.q0 (v := (.list 3 (List.map TNode.av a8.1))) rfl rfl (Light.quiet (opMove rfl rfl)) ?_
  refine ARL.q (v := (TWord.av a8.2)) rfl rfl (hS.aliveC (k := 0) rfl) (Light.quiet (kAtA hS (j := 0) rfl rfl aggA_41 sizeA_41 rfl (nlt rfl) rfl)) ?_
  refine ARL.q0 (v := (.list 3 (List.map TNode.av a8.1))) rfl rfl (Light.quiet (opAssign rfl rfl)) ?_
  refine ARL.n rfl rfl rfl rfl (hPutA hS (j := 1) rfl rfl sizeA_41 rfl rfl rfl rfl rfl (nlt rfl) ?_); rintro G6 hS
  refine ARL.done ?_
  refine AWP.ret ?_
  obtain rfl := someE hF
  exact QRet.many (vs := [(.list 3 (List.map TNode.av a8.1)), (TWord.av a8.2)]) ⟨rfl, resOne.at hS (k := 1) rfl rfl aggA_41 sizeA_41, trivial⟩ (by simp) rfl

set_option maxRecDepth 10000 in
theorem impl_LtlTable_ok {p0 : (List TNode)} {p1 : TWord} {r : (List (List Bool))} (hF : impl_LtlTable p0 p1 = some r) : PO Try.prog 31 [(.list 3 (List.map TNode.av p0)), (TWord.av p1)] 1 (List.map (fun xs : (List Bool) => AV.list 1 (List.map AV.bool xs)) r) := by
  refine HC.enter Try.func31 rfl Try.ntmps31 (by simp) ?_
  have hS := Sep.void; unfold impl_LtlTable at hF
  refine AWP.seqR rfl ?_
  refine ASL.q (v := (.rptr [(.list 1 (List.map (AV.int .i64) p1.stem)), (.list 1 (List.map (AV.int .i64) p1.loop))])) rfl rfl ((qBoxI (v := (TWord.av p1)) rfl rfl rfl rfl)) ?_
  have hS := hNil (s := 1) (f := (fun xs : (List Bool) => AV.list 1 (List.map AV.bool xs))) hS
  refine ASL.q (v := .nil) rfl rfl (Light.quiet (opAssign rfl rfl)) ?_
  refine ASL.done ?_
  refine AWP.seq ?_
  refine AWP.seqR rfl ?_
  refine ASL.q (v := (.list 3 (List.map TNode.av p0))) rfl rfl (Light.quiet (opMove rfl rfl)) ?_
  obtain ⟨a6, ha6, hF⟩ := bindE hF
  refine ASL.q (v := (.bool a6)) rfl rfl ((qCall rfl rfl call_16 (impl_LtlOk_ok ha6) rfl)) ?_
  refine ASL.q (v := (.bool (!a6))) rfl rfl (Light.quiet (opNot rfl rfl)) ?_
  obtain ⟨c8, hc8, hF⟩ := bndE hF
  refine ASL.q (v := (.bool c8)) rfl rfl ((Quiet.cast (Light.quiet (opMove rfl rfl)) (congrArg AV.bool hc8.symm))) ?_
  refine ASL.g (v := (TWord.av p1)) (.bool c8) false rfl (wF _) rfl (fun hG => by have q0 := gN hG; subst q0; exact Light.quiet (opLoadRA rfl aggA_41 sizeA_41 rfl (nlt rfl) rfl)) ?_
  obtain ⟨a10, ha10, hF⟩ := bindE hF
  refine ASL.g (v := (.bool a10)) (.bool c8) false rfl (wF _) rfl (fun hG => by have q0 := gN hG; subst q0; exact (qCall rfl rfl call_67 (impl_isRight_ok (whenE ha10)) rfl)) ?_
  refine ASL.g (v := (.bool (!a10))) (.bool c8) false rfl (wF _) rfl (fun hG => by have q0 := gN hG; subst q0; exact Light.quiet (opNot rfl rfl)) ?_
  refine ASL.q (v := (.bool (c8 || (!a10)))) rfl rfl (Light.quiet (opPick (b := c8) rfl rfl (by cases c8 <;> rfl))) ?_
  refine ASL.done ?_
  refine AWP.ifB hF rfl (fun hc2 hF => ?_) (fun hc2 hF => ?_)
  · skip
    refine AWP.seqR rfl ?_
    have hS := hNil (s := 1) (f := (fun xs : (List Bool) => AV.list 1 (List.map AV.bool xs))) hS
    refine ASL.q (v := .nil) rfl rfl (Light.quiet (opAssign rfl rfl)) ?_
    refine ASL.done ?_
    refine AWP.ret ?_
    refine QThen.rt ?_
    obtain rfl := someE hF
    exact QRet.sole (v := .nil) ⟨rfl, trivial⟩ (hS.get (k := 0) rfl)
  · skip
    refine AWP.skip ?_
    refine QThen.nrm ?_
    refine AWP.seqR rfl ?_
    refine ASL.q (v := (.list 3 (List.map TNode.av p0))) rfl rfl (Light.quiet (opMove rfl rfl)) ?_
    refine ASL.q (v := (TWord.av p1)) rfl rfl (Light.quiet (opLoadRA rfl aggA_41 sizeA_41 rfl (nlt rfl) rfl)) ?_
    obtain ⟨a15, ha15, hF⟩ := bindE hF
    refine ASL.x rfl rfl (hCallO hS rfl rfl call_68 (impl_tableOf_ok ha15) rfl ?_); rintro v15 G4 hK hS
    refine ASL.q (v := v15) rfl rfl (Light.quiet (opAssign rfl rfl)) ?_
    refine ASL.done ?_
    refine AWP.ret ?_
    obtain rfl := someE hF
    exact QRet.sole (v := v15) ⟨rfl, trivial⟩ (hS.get (k := 0) rfl)

set_option maxRecDepth 10000 in
theorem impl_isLetter_ok (p0 : Int) : PC Try.prog 79 [(.int .i64 p0)] fun v => v = (.bool (impl_isLetter p0)) := by
  generalize hF : impl_isLetter p0 = r
  refine PC.enter Try.func79 rfl Try.ntmps79 (by simp) ?_
  have hS := Sep.void; unfold impl_isLetter at hF
  refine AWP.seqR rfl ?_
  refine ASL.q (v := (.bool false)) rfl rfl (Light.quiet (opAssign rfl rfl)) ?_
  refine ASL.done ?_
  refine AWP.seqR rfl ?_
  refine ASL.q (v := (.int .i64 p0)) rfl rfl (Light.quiet (opMove rfl rfl)) ?_
  refine ASL.q (v := (.bool (impl_inRange p0 0 7))) rfl rfl ((qCall rfl rfl call_90 (impl_inRange_ok p0 0 7) rfl)) ?_
  refine ASL.q (v := (.bool (impl_inRange p0 0 7))) rfl rfl (Light.quiet (opAssign rfl rfl)) ?_
  refine ASL.done ?_
  refine AWP.ret ?_
  obtain rfl := hF
  exact QRet.sole (v := (.bool (impl_inRange p0 0 7))) ⟨rfl, trivial⟩ rfl

set_option maxRecDepth 10000 in
theorem impl_SetOk_ok (p0 : Int) : PC Try.prog 80 [(.int .i64 p0)] fun v => v = (.bool (impl_SetOk p0)) := by
  generalize hF : impl_SetOk p0 = r
  refine PC.enter Try.func80 rfl Try.ntmps80 (by simp) ?_
  have hS := Sep.void; unfold impl_SetOk at hF
  refine AWP.seqR rfl ?_
  refine ASL.q (v := (.bool false)) rfl rfl (Light.quiet (opAssign rfl rfl)) ?_
  refine ASL.done ?_
  refine AWP.seqR rfl ?_
  refine ASL.q (v := (.int .i64 p0)) rfl rfl (Light.quiet (opMove rfl rfl)) ?_
  refine ASL.q (v := (.bool (impl_inRange p0 0 2147483647))) rfl rfl ((qCall rfl rfl call_90 (impl_inRange_ok p0 0 2147483647) rfl)) ?_
  refine ASL.q (v := (.bool (impl_inRange p0 0 2147483647))) rfl rfl (Light.quiet (opAssign rfl rfl)) ?_
  refine ASL.done ?_
  refine AWP.ret ?_
  obtain rfl := hF
  exact QRet.sole (v := (.bool (impl_inRange p0 0 2147483647))) ⟨rfl, trivial⟩ rfl

set_option maxRecDepth 10000 in
theorem slices_Index_int_int_ok {p0 : (List Int)} {p1 : Int} {r : Int} (hF : slices_Index_int_int p0 p1 = some r) : PC Try.prog 108 [(.list 1 (List.map (AV.int .i64) p0)), (.int .i64 p1)] fun v => v = (.int .i64 r) := by
  refine PC.enter Try.func108 rfl Try.ntmps108 (by simp) ?_
  have hS := Sep.void; unfold slices_Index_int_int at hF
  refine AWP.seqR rfl ?_
  refine ASL.q (v := (.int .i64 0)) rfl rfl (Light.quiet (opAssign rfl rfl)) ?_
  refine ASL.done ?_
  refine AWP.seqM (fun e H => E.Told e [] ∧ E.Sep H [] ∧ slices_Index_int_int.k0 = some r) ?_ ?_
  · rintro e0 G1 ⟨hT, hS, hF⟩; refine AWP.only _ hT ?_; unfold slices_Index_int_int.k0 at hF
    refine AWP.seqR rfl ?_
    refine ASL.q (v := (.int .i64 (-1))) rfl rfl (Light.quiet (opAssign rfl rfl)) ?_
    refine ASL.done ?_
    refine AWP.ret ?_
    obtain rfl := someE hF
    exact QRet.sole (v := (.int .i64 (-1))) ⟨rfl, trivial⟩ rfl
  · skip
    refine AWP.seqR rfl ?_
    refine ASL.q (v := (.list 1 (List.map (AV.int .i64) p0))) rfl rfl (Light.quiet (opMove rfl rfl)) ?_
    refine ASL.q (v := (.int .i64 (p0.length : Int))) rfl rfl (Light.quiet (opLenMap (f := (AV.int .i64)) rfl rfl rfl lenT_32 rfl)) ?_
    refine ASL.q (v := (.int .i64 0)) rfl rfl (Light.quiet (opMove rfl rfl)) ?_
    refine ASL.done ?_
    refine AWP.block ?_
    obtain ⟨o5, hL4, hR6⟩ := bindE hF
    refine AWP.loopF (ω := Unit) hL4 (fun s w => [(0, (.list 1 (List.map (AV.int .i64) p0))), (1, (.int .i64 p1)), (7, (.int .i64 (p0.length : Int))), (8, (.int .i64 s))]) (fun s w => []) () ⟨rfl, rfl, rfl, rfl, trivial⟩ (hS.pick [] rfl rfl) ?_
    rintro x8_l0 _ G7 hS x2 hF hx3
    try dsimp only at hS ⊢
    have hF : slices_Index_int_int.b0 p0 p1 x8_l0 = some x2 := hF; unfold slices_Index_int_int.b0 at hF
    refine AWP.seqR rfl ?_
    refine ASL.q (v := (.bool (decide (x8_l0 < ((p0.length : Int)))))) rfl rfl (Light.quiet (opInt rfl rfl rfl rfl)) ?_
    refine ASL.done ?_
    refine AWP.seq ?_
    refine AWP.ifP hF rfl (fun hc8 hF => ?_) (fun hc8 hF => ?_)
    · skip
      refine AWP.skip ?_
      refine QThen.nrm ?_
      refine AWP.seq ?_
      refine AWP.block ?_
      refine AWP.seqR rfl ?_
      refine ASL.q (v := (.int .i64 x8_l0)) rfl rfl (Light.quiet (opMove rfl rfl)) ?_
      refine ASL.q (v := (.int .i64 x8_l0)) rfl rfl (Light.quiet (opAssign rfl rfl)) ?_
      refine ASL.done ?_
      refine AWP.seqR rfl ?_
      refine ASL.q (v := (.int .i64 p1)) rfl rfl (Light.quiet (opMove rfl rfl)) ?_
      refine ASL.q (v := (.list 1 (List.map (AV.int .i64) p0))) rfl rfl (Light.quiet (opMove rfl rfl)) ?_
      refine ASL.q (v := (.int .i64 x8_l0)) rfl rfl (Light.quiet (opMove rfl rfl)) ?_
      obtain ⟨a14, ha14, hF⟩ := bindE hF
      refine ASL.q (v := (.rptr [(.int .i64 a14)])) rfl rfl (Light.quiet (kIx (f := (AV.int .i64)) ha14 rfl rfl rfl elemA_32 sizeA_3 rfl)) ?_
      refine ASL.q (v := (.int .i64 a14)) rfl rfl (Light.quiet (opLoadR rfl aggA_3 rfl rfl)) ?_
      refine ASL.q (v := (.bool (decide (p1 = a14)))) rfl rfl (Light.quiet (opInt rfl rfl rfl rfl)) ?_
      refine ASL.done ?_
      refine AWP.ifP hF rfl (fun hc9 hF => ?_) (fun hc9 hF => ?_)
      · skip
        refine AWP.seqR rfl ?_
        refine ASL.q (v := (.int .i64 x8_l0)) rfl rfl (Light.quiet (opMove rfl rfl)) ?_
        refine ASL.q (v := (.int .i64 x8_l0)) rfl rfl (Light.quiet (opAssign rfl rfl)) ?_
        refine ASL.done ?_
        refine AWP.ret ?_
        refine QBlock.ret ?_
        refine QThen.rt ?_
        refine QThen.rt ?_
        refine QBlock.ret ?_
        refine QThen.rt ?_
        obtain rfl := (hx3 _ (someE hF).symm)
        have hF := hR6
        have hF := sumR hF
        obtain rfl := someE hF
        exact QRet.sole (v := (.int .i64 x8_l0)) ⟨rfl, trivial⟩ rfl
      · skip
        refine AWP.skip ?_
        refine QBlock.nrm ?_
        refine QThen.nrm ?_
        refine AWP.lastR rfl ?_
        refine ASL.q (v := (.int .i64 (W (x8_l0 + 1)))) rfl rfl (Light.quiet (opInt rfl rfl rfl rfl)) ?_
        refine ASL.q (v := (.int .i64 (W (x8_l0 + 1)))) rfl rfl (Light.quiet (opMove rfl rfl)) ?_
        refine ASL.done ?_
        refine QThen.nrm ?_
        exact ⟨(W (x8_l0 + 1)), (), (someE hF).symm, ⟨rfl, rfl, rfl, rfl, trivial⟩, (hS.pick [] rfl rfl)⟩
    · skip
      refine AWP.exit ?_
      refine QThen.ext ?_
      refine QThen.ext ?_
      refine QBlock.hit ?_
      obtain rfl := (hx3 _ (someE hF).symm)
      have hF := hR6
      have hF := sumL hF
      refine QThen.nrm ?_
      exact ⟨trivial, (hS.pick [] rfl rfl), hF⟩

set_option maxRecDepth 10000 in
theorem impl_stepOf_ok {p0 : (List TNode)} {p1 : Int} {p2 : Int} {r : (List Bool)} (hF : impl_stepOf p0 p1 p2 = some r) : PO Try.prog 81 [(.list 3 (List.map TNode.av p0)), (.int .i64 p1), (.int .i64 p2)] 1 (List.map AV.bool r) := by
  refine HC.enter Try.func81 rfl Try.ntmps81 (by simp) ?_
  have hS := Sep.void; unfold impl_stepOf at hF
  refine AWP.seqR rfl ?_
  have hS := hNil (s := 1) (f := AV.bool) hS
  refine ASL.q (v := .nil) rfl rfl (Light.quiet (opAssign rfl rfl)) ?_
  refine ASL.done ?_
  refine AWP.seqR rfl ?_
  refine ASL.q (v := (.list 3 (List.map TNode.av p0))) rfl rfl (Light.quiet (opMove rfl rfl)) ?_
  refine ASL.q (v := (.int .i64 (p0.length : Int))) rfl rfl (Light.quiet (opLenMap (f := TNode.av) rfl rfl rfl lenT_24 rfl)) ?_
  obtain ⟨z14, hz14, hF⟩ := bindE hF
  refine ASL.x rfl rfl (hMk (f := AV.bool) hS hz14 (by decide) rfl elemA_56 sizeA_4 bytesA_4 zeroA_4 rfl rfl (by decide) rfl rfl ?_); rintro v14 G2 hK hS
  refine ASL.q (v := v14) rfl rfl (Light.quiet (opAssign rfl rfl)) ?_
  refine ASL.done ?_
  refine AWP.seqR rfl ?_
  refine ASL.q (v := (.list 3 (List.map TNode.av p0))) rfl rfl (Light.quiet (opMove rfl rfl)) ?_
  obtain ⟨a16, ha16, hF⟩ := bindE hF
  refine ASL.q (v := (.list 1 (List.map (AV.int .i64) a16))) rfl rfl ((qCall rfl rfl call_62 (PO.list (impl_temporal_ok ha16)) rfl)) ?_
  refine ASL.q (v := (.list 1 (List.map (AV.int .i64) a16))) rfl rfl (Light.quiet (opAssign rfl rfl)) ?_
  refine ASL.done ?_
  refine AWP.seqM (fun e H => ∃ y4 : (List Bool), E.Told e [(7, v14)] ∧ E.Sep H [.row 1 v14 (List.map AV.bool y4)] ∧ impl_stepOf.k0 y4 = some r) ?_ ?_
  · rintro e0 G5 ⟨y4, hT, hS, hF⟩; refine AWP.only _ hT ?_; unfold impl_stepOf.k0 at hF
    refine AWP.seqR rfl ?_
    refine ASL.q (v := v14) rfl rfl (Light.quiet (opMove rfl rfl)) ?_
    refine ASL.q (v := v14) rfl rfl (Light.quiet (opAssign rfl rfl)) ?_
    refine ASL.done ?_
    refine AWP.ret ?_
    obtain rfl := someE hF
    exact QRet.sole (v := v14) ⟨rfl, trivial⟩ (hS.get (k := 0) rfl)
  · skip
    refine AWP.seqR rfl ?_
    refine ASL.q (v := (.list 3 (List.map TNode.av p0))) rfl rfl (Light.quiet (opMove rfl rfl)) ?_
    refine ASL.q (v := (.int .i64 (p0.length : Int))) rfl rfl (Light.quiet (opLenMap (f := TNode.av) rfl rfl rfl lenT_24 rfl)) ?_
    refine ASL.q (v := (.int .i64 0)) rfl rfl (Light.quiet (opMove rfl rfl)) ?_
    refine ASL.done ?_
    refine AWP.block ?_
    obtain ⟨o10, hL9, hR11⟩ := bindE hF
    refine AWP.loopF (ω := Unit) hL9 (fun s w => [(1, (.int .i64 p1)), (2, (.int .i64 p2)), (7, v14), (8, (.list 1 (List.map (AV.int .i64) a16))), (17, (.list 3 (List.map TNode.av p0))), (18, (.int .i64 (p0.length : Int))), (19, (.int .i64 s.2))]) (fun s w => [.row 1 v14 (List.map AV.bool s.1)]) () ⟨rfl, rfl, rfl, rfl, rfl, rfl, rfl, trivial⟩ (hS.pick [0] rfl rfl) ?_
    rintro ⟨y6, x19_l0⟩ _ G12 hS x7 hF hx8
    try dsimp only at hS ⊢
    have hF : impl_stepOf.b0 p0 a16 p1 p2 y6 x19_l0 = some x7 := hF; unfold impl_stepOf.b0 at hF
    refine AWP.seqR rfl ?_
    refine ASL.q (v := (.bool (decide (x19_l0 < ((p0.length : Int)))))) rfl rfl (Light.quiet (opInt rfl rfl rfl rfl)) ?_
    refine ASL.done ?_
    refine AWP.seq ?_
    refine AWP.ifP hF rfl (fun hc13 hF => ?_) (fun hc13 hF => ?_)
    · skip
      refine AWP.skip ?_
      refine QThen.nrm ?_
      refine AWP.seq ?_
      refine AWP.block ?_
      refine AWP.seqR rfl ?_
      refine ASL.q (v := (.int .i64 x19_l0)) rfl rfl (Light.quiet (opMove rfl rfl)) ?_
      obtain ⟨a22, ha22, hF⟩ := bindE hF
      refine ASL.q (v := (.rptr [(.int .i64 a22.kind), (.int .i64 a22.a), (.int .i64 a22.b)])) rfl rfl (Light.quiet (kIx (f := TNode.av) ha22 rfl rfl rfl elemA_24 sizeA_59 rfl)) ?_
      refine ASL.q (v := (TNode.av a22)) rfl rfl (Light.quiet (opLoadRA rfl aggA_59 sizeA_59 rfl (nlt rfl) rfl)) ?_
      refine ASL.x rfl rfl (hNewZ hS [(.int .i64 0), (.int .i64 0), (.int .i64 0)] rfl zeroA_59 ⟨.inl rfl, .inl rfl, .inl rfl, trivial⟩ ?_); rintro b10 G14 hK hS
      refine ASL.q (v := (.int .i64 x19_l0)) rfl rfl (Light.quiet (opAssign rfl rfl)) ?_
      refine ASL.n rfl rfl (hPutA hS (j := 0) rfl rfl sizeA_59 rfl rfl rfl rfl rfl (nlt rfl) ?_); rintro G16 hS
      refine ASL.done ?_
      refine AWP.seqR rfl ?_
      refine ASL.q (v := (.list 1 (List.map (AV.int .i64) a16))) rfl rfl (Light.quiet (opMove rfl rfl)) ?_
      refine ASL.q (v := (.int .i64 x19_l0)) rfl rfl (Light.quiet (opMove rfl rfl)) ?_
      obtain ⟨a26, ha26, hF⟩ := bindE hF
      refine ASL.q (v := (.int .i64 a26)) rfl rfl ((qCall rfl rfl call_108 (slices_Index_int_int_ok ha26) rfl)) ?_
      refine ASL.q (v := (.int .i64 a26)) rfl rfl (Light.quiet (opAssign rfl rfl)) ?_
      refine ASL.done ?_
      refine AWP.lastD [(0, false), (1, false), (2, false), (3, false), (4, false), (5, false), (6, false), (7, false), (8, false), (9, false), (10, false), (11, false), (12, false), (13, false), (14, true)] mixed (by kernel_rfl) rfl ?_
      refine ARL.q0 (v := v14) rfl rfl (Light.quiet (opMove rfl rfl)) ?_
      refine ARL.q0 (v := (.int .i64 x19_l0)) rfl rfl (Light.quiet (opMove rfl rfl)) ?_
      refine ARL.q (v := (TNode.av a22)) rfl rfl (hS.aliveC (k := 0) rfl) (Light.quiet (kAtA hS (j := 0) rfl rfl aggA_59 sizeA_59 rfl (nlt rfl) rfl)) ?_
      refine ARL.q0 (v := v14) rfl rfl (Light.quiet (opMove rfl rfl)) ?_
      refine ARL.q0 (v := (.int .i64 p1)) rfl rfl (Light.quiet (opMove rfl rfl)) ?_
      refine ARL.q0 (v := (.int .i64 a26)) rfl rfl (Light.quiet (opMove rfl rfl)) ?_
      refine ARL.q0 (v := (.bool (decide (a26 ≥ 0)))) rfl rfl (Light.quiet (opInt rfl rfl rfl rfl)) ?_
      obtain ⟨c34, hc34, hF⟩ := bndE hF
      refine ARL.q0 (v := (.bool c34)) rfl rfl ((Quiet.cast (Light.quiet (opMove rfl rfl)) (congrArg AV.bool hc34.symm))) ?_
      refine ARL.g (v := (.int .i64 p2)) (.bool c34) true rfl (wT _) rfl noneAlive (fun hG => by have q0 := hG; subst q0; exact Light.quiet (opMove rfl rfl)) ?_
      refine ARL.g (v := (.int .i64 a26)) (.bool c34) true rfl (wT _) rfl noneAlive (fun hG => by have q0 := hG; subst q0; exact Light.quiet (opMove rfl rfl)) ?_
      refine ARL.g (v := (.bool (impl_has p2 a26))) (.bool c34) true rfl (wT _) rfl noneAlive (fun hG => by have q0 := hG; subst q0; exact (qCall rfl rfl call_110 (impl_has_ok p2 a26) rfl)) ?_
      refine ARL.q0 (v := (.bool (c34 && (impl_has p2 a26)))) rfl rfl (Light.quiet (opPick (b := c34) rfl rfl (by cases c34 <;> rfl))) ?_
      obtain ⟨a39, ha39, hF⟩ := bindE hF
      refine ARL.q (v := (.bool a39)) rfl rfl (hS.aliveAll) ((qCallR hS rfl rfl call_109 (impl_soBy_ok ha39) ⟨.same _, .row (k := 1) rfl, .same _, .same _, trivial⟩ (by constructor))) ?_
      obtain ⟨m40, hm40, hF⟩ := bindE hF
      refine ARL.q0 (v := (ptrTo v14 m40 1)) rfl rfl (Light.quiet (kIxO hS (j := 1) rfl hm40 rfl rfl rfl elemA_56 sizeA_4)) ?_
      refine ARL.n rfl rfl rfl rfl (hSt (f := AV.bool) (a := a39) hS (j := 1) rfl hm40 rfl sizeA_4 rfl rfl ⟨rfl, rfl, rfl⟩ ?_); rintro G17 hS
      refine ARL.done ?_
      refine QBlock.nrm ?_
      refine QThen.nrm ?_
      refine AWP.lastR rfl ?_
      refine ASL.q (v := (.int .i64 (W (x19_l0 + 1)))) rfl rfl (Light.quiet (opInt rfl rfl rfl rfl)) ?_
      refine ASL.q (v := (.int .i64 (W (x19_l0 + 1)))) rfl rfl (Light.quiet (opMove rfl rfl)) ?_
      refine ASL.done ?_
      refine QThen.nrm ?_
      exact ⟨((y6.set m40 a39), (W (x19_l0 + 1))), (), (someE hF).symm, ⟨rfl, rfl, rfl, rfl, rfl, rfl, rfl, trivial⟩, (hS.pick [1] rfl rfl)⟩
    · skip
      refine AWP.exit ?_
      refine QThen.ext ?_
      refine QThen.ext ?_
      refine QBlock.hit ?_
      obtain rfl := (hx8 _ (someE hF).symm)
      have hF := hR11
      refine QThen.nrm ?_
      exact ⟨y6, ⟨rfl, trivial⟩, (hS.pick [0] rfl rfl), hF⟩

set_option maxRecDepth 10000 in
theorem impl_LtlStep_ok {p0 : (List TNode)} {p1 : Int} {p2 : Int} {r : (List Bool)} (hF : impl_LtlStep p0 p1 p2 = some r) : PO Try.prog 38 [(.list 3 (List.map TNode.av p0)), (.int .i64 p1), (.int .i64 p2)] 1 (List.map AV.bool r) := by
  refine HC.enter Try.func38 rfl Try.ntmps38 (by simp) ?_
  have hS := Sep.void; unfold impl_LtlStep at hF
  refine AWP.seqR rfl ?_
  have hS := hNil (s := 1) (f := AV.bool) hS
  refine ASL.q (v := .nil) rfl rfl (Light.quiet (opAssign rfl rfl)) ?_
  refine ASL.done ?_
  refine AWP.seq ?_
  refine AWP.seqR rfl ?_
  refine ASL.q (v := (.int .i64 p1)) rfl rfl (Light.quiet (opMove rfl rfl)) ?_
  refine ASL.q (v := (.bool (impl_isLetter p1))) rfl rfl ((qCall rfl rfl call_79 (impl_isLetter_ok p1) rfl)) ?_
  refine ASL.q (v := (.bool (!(impl_isLetter p1)))) rfl rfl (Light.quiet (opNot rfl rfl)) ?_
  obtain ⟨c10, hc10, hF⟩ := bndE hF
  refine ASL.q (v := (.bool c10)) rfl rfl ((Quiet.cast (Light.quiet (opMove rfl rfl)) (congrArg AV.bool hc10.symm))) ?_
  refine ASL.g (v := (.int .i64 p2)) (.bool c10) false rfl (wF _) rfl (fun hG => by have q0 := gN hG; subst q0; exact Light.quiet (opMove rfl rfl)) ?_
  refine ASL.g (v := (.bool (impl_SetOk p2))) (.bool c10) false rfl (wF _) rfl (fun hG => by have q0 := gN hG; subst q0; exact (qCall rfl rfl call_80 (impl_SetOk_ok p2) rfl)) ?_
  refine ASL.g (v := (.bool (!(impl_SetOk p2)))) (.bool c10) false rfl (wF _) rfl (fun hG => by have q0 := gN hG; subst q0; exact Light.quiet (opNot rfl rfl)) ?_
  refine ASL.q (v := (.bool (c10 || (!(impl_SetOk p2))))) rfl rfl (Light.quiet (opPick (b := c10) rfl rfl (by cases c10 <;> rfl))) ?_
  obtain ⟨c15, hc15, hF⟩ := bndE hF
  refine ASL.q (v := (.bool c15)) rfl rfl ((Quiet.cast (Light.quiet (opMove rfl rfl)) (congrArg AV.bool hc15.symm))) ?_
  refine ASL.g (v := (.list 3 (List.map TNode.av p0))) (.bool c15) false rfl (wF _) rfl (fun hG => by have q0 := gN hG; subst q0; exact Light.quiet (opMove rfl rfl)) ?_
  obtain ⟨a17, ha17, hF⟩ := bindE hF
  refine ASL.g (v := (.bool a17)) (.bool c15) false rfl (wF _) rfl (fun hG => by have q0 := gN hG; subst q0; exact (qCall rfl rfl call_16 (impl_LtlOk_ok (whenE ha17)) rfl)) ?_
  refine ASL.g (v := (.bool (!a17))) (.bool c15) false rfl (wF _) rfl (fun hG => by have q0 := gN hG; subst q0; exact Light.quiet (opNot rfl rfl)) ?_
  refine ASL.q (v := (.bool (c15 || (!a17)))) rfl rfl (Light.quiet (opPick (b := c15) rfl rfl (by cases c15 <;> rfl))) ?_
  refine ASL.done ?_
  refine AWP.ifB hF rfl (fun hc2 hF => ?_) (fun hc2 hF => ?_)
  · skip
    refine AWP.seqR rfl ?_
    have hS := hNil (s := 1) (f := AV.bool) hS
    refine ASL.q (v := .nil) rfl rfl (Light.quiet (opAssign rfl rfl)) ?_
    refine ASL.done ?_
    refine AWP.ret ?_
    refine QThen.rt ?_
    obtain rfl := someE hF
    exact QRet.sole (v := .nil) ⟨rfl, trivial⟩ (hS.get (k := 0) rfl)
  · skip
    refine AWP.skip ?_
    refine QThen.nrm ?_
    refine AWP.seqR rfl ?_
    refine ASL.q (v := (.list 3 (List.map TNode.av p0))) rfl rfl (Light.quiet (opMove rfl rfl)) ?_
    refine ASL.q (v := (.int .i64 p1)) rfl rfl (Light.quiet (opMove rfl rfl)) ?_
    refine ASL.q (v := (.int .i64 p2)) rfl rfl (Light.quiet (opMove rfl rfl)) ?_
    obtain ⟨a23, ha23, hF⟩ := bindE hF
    refine ASL.x rfl rfl (hCallO hS rfl rfl call_81 (impl_stepOf_ok ha23) rfl ?_); rintro v23 G4 hK hS
    refine ASL.q (v := v23) rfl rfl (Light.quiet (opAssign rfl rfl)) ?_
    refine ASL.done ?_
    refine AWP.ret ?_
    obtain rfl := someE hF
    exact QRet.sole (v := v23) ⟨rfl, trivial⟩ (hS.get (k := 0) rfl)

set_option maxRecDepth 10000 in
theorem impl_isMember_ok (p0 : Int) : PC Try.prog 82 [(.int .i64 p0)] fun v => v = (.bool (impl_isMember p0)) := by
  generalize hF : impl_isMember p0 = r
  refine PC.enter Try.func82 rfl Try.ntmps82 (by simp) ?_
  have hS := Sep.void; unfold impl_isMember at hF
  refine AWP.seqR rfl ?_
  refine ASL.q (v := (.bool false)) rfl rfl (Light.quiet (opAssign rfl rfl)) ?_
  refine ASL.done ?_
  refine AWP.seqR rfl ?_
  refine ASL.q (v := (.int .i64 p0)) rfl rfl (Light.quiet (opMove rfl rfl)) ?_
  refine ASL.q (v := (.bool (impl_inRange p0 0 30))) rfl rfl ((qCall rfl rfl call_90 (impl_inRange_ok p0 0 30) rfl)) ?_
  refine ASL.q (v := (.bool (impl_inRange p0 0 30))) rfl rfl (Light.quiet (opAssign rfl rfl)) ?_
  refine ASL.done ?_
  refine AWP.ret ?_
  obtain rfl := hF
  exact QRet.sole (v := (.bool (impl_inRange p0 0 30))) ⟨rfl, trivial⟩ rfl

set_option maxRecDepth 10000 in
theorem impl_only_ok (p0 : Int) : PC Try.prog 83 [(.int .i64 p0)] fun v => v = (.int .i64 (impl_only p0)) := by
  generalize hF : impl_only p0 = r
  refine PC.enter Try.func83 rfl Try.ntmps83 (by simp) ?_
  have hS := Sep.void; unfold impl_only at hF
  refine AWP.seqR rfl ?_
  refine ASL.q (v := (.int .i64 0)) rfl rfl (Light.quiet (opAssign rfl rfl)) ?_
  refine ASL.done ?_
  refine AWP.seqR rfl ?_
  refine ASL.q (v := (.int .i64 p0)) rfl rfl (Light.quiet (opMove rfl rfl)) ?_
  refine ASL.q (v := (.int .u64 (IntKind.u64.wrap p0))) rfl rfl (Light.quiet (opConv rfl rfl und_3 und_118 rfl)) ?_
  refine ASL.q (v := (.int .i64 (shl .i64 1 ((IntKind.u64.wrap p0))))) rfl rfl (Light.quiet (opShl rfl rfl rfl (wrapU_nn rfl _) rfl)) ?_
  refine ASL.q (v := (.int .i64 (shl .i64 1 ((IntKind.u64.wrap p0))))) rfl rfl (Light.quiet (opAssign rfl rfl)) ?_
  refine ASL.done ?_
  refine AWP.ret ?_
  obtain rfl := hF
  exact QRet.sole (v := (.int .i64 (shl .i64 1 ((IntKind.u64.wrap p0))))) ⟨rfl, trivial⟩ rfl

set_option maxRecDepth 10000 in
theorem impl_SetPut_ok (p0 : Int) (p1 : Int) : PC Try.prog 39 [(.int .i64 p0), (.int .i64 p1)] fun v => v = (.int .i64 (impl_SetPut p0 p1)) := by
  generalize hF : impl_SetPut p0 p1 = r
  refine PC.enter Try.func39 rfl Try.ntmps39 (by simp) ?_
  have hS := Sep.void; unfold impl_SetPut at hF
  refine AWP.seqR rfl ?_
  refine ASL.q (v := (.int .i64 0)) rfl rfl (Light.quiet (opAssign rfl rfl)) ?_
  refine ASL.done ?_
  refine AWP.seq ?_
  refine AWP.block ?_
  refine AWP.seqR rfl ?_
  refine ASL.q (v := (.int .i64 p0)) rfl rfl (Light.quiet (opMove rfl rfl)) ?_
  refine ASL.q (v := (.bool (impl_SetOk p0))) rfl rfl ((qCall rfl rfl call_80 (impl_SetOk_ok p0) rfl)) ?_
  refine ASL.q (v := (.bool (!(impl_SetOk p0)))) rfl rfl (Light.quiet (opNot rfl rfl)) ?_
  refine ASL.q (v := (.bool (!(impl_SetOk p0)))) rfl rfl (Light.quiet (opAssign rfl rfl)) ?_
  refine ASL.done ?_
  refine AWP.ifB hF rfl (fun hc1 hF => ?_) (fun hc1 hF => ?_)
  · skip
    refine AWP.seqR rfl ?_
    refine ASL.q (v := (.int .i64 0)) rfl rfl (Light.quiet (opAssign rfl rfl)) ?_
    refine ASL.done ?_
    refine AWP.ret ?_
    refine QBlock.ret ?_
    refine QThen.rt ?_
    obtain rfl := hF
    exact QRet.sole (v := (.int .i64 0)) ⟨rfl, trivial⟩ rfl
  · skip
    refine AWP.seqR rfl ?_
    refine ASL.q (v := (.int .i64 p1)) rfl rfl (Light.quiet (opMove rfl rfl)) ?_
    refine ASL.q (v := (.bool (impl_isMember p1))) rfl rfl ((qCall rfl rfl call_82 (impl_isMember_ok p1) rfl)) ?_
    refine ASL.q (v := (.bool (!(impl_isMember p1)))) rfl rfl (Light.quiet (opNot rfl rfl)) ?_
    refine ASL.q (v := (.bool (!(impl_isMember p1)))) rfl rfl (Light.quiet (opAssign rfl rfl)) ?_
    refine ASL.done ?_
    refine AWP.ifB hF rfl (fun hc2 hF => ?_) (fun hc2 hF => ?_)
    · skip
      refine AWP.seqR rfl ?_
      refine ASL.q (v := (.int .i64 p0)) rfl rfl (Light.quiet (opMove rfl rfl)) ?_
      refine ASL.q (v := (.int .i64 p0)) rfl rfl (Light.quiet (opAssign rfl rfl)) ?_
      refine ASL.done ?_
      refine AWP.ret ?_
      refine QBlock.ret ?_
      refine QThen.rt ?_
      obtain rfl := hF
      exact QRet.sole (v := (.int .i64 p0)) ⟨rfl, trivial⟩ rfl
    · skip
      refine AWP.skip ?_
      refine QBlock.nrm ?_
      refine QThen.nrm ?_
      refine AWP.seqR rfl ?_
      refine ASL.q (v := (.int .i64 p0)) rfl rfl (Light.quiet (opMove rfl rfl)) ?_
      refine ASL.q (v := (.int .i64 p1)) rfl rfl (Light.quiet (opMove rfl rfl)) ?_
      refine ASL.q (v := (.int .i64 (impl_only p1))) rfl rfl ((qCall rfl rfl call_83 (impl_only_ok p1) rfl)) ?_
      refine ASL.q (v := (.int .i64 (bOr .i64 p0 ((impl_only p1))))) rfl rfl (Light.quiet (opInt rfl rfl rfl rfl)) ?_
      refine ASL.q (v := (.int .i64 (bOr .i64 p0 ((impl_only p1))))) rfl rfl (Light.quiet (opAssign rfl rfl)) ?_
      refine ASL.done ?_
      refine AWP.ret ?_
      obtain rfl := hF
      exact QRet.sole (v := (.int .i64 (bOr .i64 p0 ((impl_only p1))))) ⟨rfl, trivial⟩ rfl

set_option maxRecDepth 10000 in
theorem spec_WordAt_ok {p0 : TWord} {p1 : Int} {r : Int} (hF : spec_WordAt p0 p1 = some r) : PC Try.prog 40 [(TWord.av p0), (.int .i64 p1)] fun v => v = (.int .i64 r) := by
  refine PC.enter Try.func40 rfl Try.ntmps40 (by simp) ?_
  have hS := Sep.void; unfold spec_WordAt at hF
  refine AWP.seqR rfl ?_
  refine ASL.q (v := (.rptr [(.list 1 (List.map (AV.int .i64) p0.stem)), (.list 1 (List.map (AV.int .i64) p0.loop))])) rfl rfl ((qBoxI (v := (TWord.av p0)) rfl rfl rfl rfl)) ?_
  refine ASL.q (v := (.int .i64 0)) rfl rfl (Light.quiet (opAssign rfl rfl)) ?_
  refine ASL.done ?_
  refine AWP.seq ?_
  refine AWP.seqR rfl ?_
  refine ASL.q (v := (TWord.av p0)) rfl rfl (Light.quiet (opLoadRA rfl aggA_41 sizeA_41 rfl (nlt rfl) rfl)) ?_
  obtain ⟨a6, ha6, hF⟩ := bindE hF
  refine ASL.q (v := (.bool a6)) rfl rfl ((qCall rfl rfl call_72 (spec_l3Right_ok ha6) rfl)) ?_
  refine ASL.q (v := (.bool (!a6))) rfl rfl (Light.quiet (opNot rfl rfl)) ?_
  obtain ⟨c8, hc8, hF⟩ := bndE hF
  refine ASL.q (v := (.bool c8)) rfl rfl ((Quiet.cast (Light.quiet (opMove rfl rfl)) (congrArg AV.bool hc8.symm))) ?_
  refine ASL.g (v := (.int .i64 p1)) (.bool c8) false rfl (wF _) rfl (fun hG => by have q0 := gN hG; subst q0; exact Light.quiet (opMove rfl rfl)) ?_
  refine ASL.g (v := (.bool (decide (p1 < 0)))) (.bool c8) false rfl (wF _) rfl (fun hG => by have q0 := gN hG; subst q0; exact Light.quiet (opInt rfl rfl rfl rfl)) ?_
  refine ASL.q (v := (.bool (c8 || (decide (p1 < 0))))) rfl rfl (Light.quiet (opPick (b := c8) rfl rfl (by cases c8 <;> rfl))) ?_
  refine ASL.done ?_
  refine AWP.ifB hF rfl (fun hc1 hF => ?_) (fun hc1 hF => ?_)
  · skip
    refine AWP.seqR rfl ?_
    refine ASL.q (v := (.int .i64 (-1))) rfl rfl (Light.quiet (opAssign rfl rfl)) ?_
    refine ASL.done ?_
    refine AWP.ret ?_
    refine QThen.rt ?_
    obtain rfl := someE hF
    exact QRet.sole (v := (.int .i64 (-1))) ⟨rfl, trivial⟩ rfl
  · skip
    refine AWP.skip ?_
    refine QThen.nrm ?_
    refine AWP.seqR rfl ?_
    refine ASL.q (v := (TWord.av p0)) rfl rfl (Light.quiet (opLoadRA rfl aggA_41 sizeA_41 rfl (nlt rfl) rfl)) ?_
    refine ASL.q (v := (.int .i64 p1)) rfl rfl (Light.quiet (opMove rfl rfl)) ?_
    obtain ⟨a14, ha14, hF⟩ := bindE hF
    refine ASL.q (v := (.int .i64 a14)) rfl rfl ((qCall rfl rfl call_84 (spec_l3At_ok ha14) rfl)) ?_
    refine ASL.q (v := (.int .i64 a14)) rfl rfl (Light.quiet (opAssign rfl rfl)) ?_
    refine ASL.done ?_
    refine AWP.ret ?_
    obtain rfl := someE hF
    exact QRet.sole (v := (.int .i64 a14)) ⟨rfl, trivial⟩ rfl

set_option maxRecDepth 10000 in
theorem laws_FnSteps9_ok {K : Nat} {p0 : (List Int)} {r : Bool} (hF : laws_FnSteps9 K p0 = some r) : PC Try.prog 7 [(.list 1 (List.map (AV.int .u8) p0))] fun v => v = (.bool r) := by
  refine PC.enter Try.func7 rfl Try.ntmps7 (by simp) ?_
  have hS := Sep.void; unfold laws_FnSteps9 at hF
  refine AWP.seqR rfl ?_
  refine ASL.q (v := (.bool false)) rfl rfl (Light.quiet (opAssign rfl rfl)) ?_
  refine ASL.done ?_
  refine AWP.seq ?_
  refine AWP.seqR rfl ?_
  refine ASL.q (v := (.list 1 (List.map (AV.int .u8) p0))) rfl rfl (Light.quiet (opMove rfl rfl)) ?_
  refine ASL.q (v := (.bool (laws_big p0))) rfl rfl ((qCall rfl rfl call_10 (laws_big_ok p0) rfl)) ?_
  refine ASL.done ?_
  refine AWP.ifB hF rfl (fun hc1 hF => ?_) (fun hc1 hF => ?_)
  · skip
    refine AWP.seqR rfl ?_
    refine ASL.q (v := (.bool true)) rfl rfl (Light.quiet (opAssign rfl rfl)) ?_
    refine ASL.done ?_
    refine AWP.ret ?_
    refine QThen.rt ?_
    obtain rfl := someE hF
    exact QRet.sole (v := (.bool true)) ⟨rfl, trivial⟩ rfl
  · skip
    refine AWP.skip ?_
    refine QThen.nrm ?_
    refine AWP.seqR rfl ?_
    refine ASL.q (v := (.list 1 (List.map (AV.int .u8) p0))) rfl rfl (Light.quiet (opMove rfl rfl)) ?_
    obtain ⟨a20, ha20, hF⟩ := bindE hF
    refine ASL.q (v := (.tup [(.list 3 (List.map TNode.av a20.1)), (TWord.av a20.2)])) rfl rfl ((qCall rfl rfl call_37 (spec_DrawLtlTable_ok ha20) rfl)) ?_
    refine ASL.q (v := (.tup [(.list 3 (List.map TNode.av a20.1)), (TWord.av a20.2)])) rfl rfl (Light.quiet (opMove rfl rfl)) ?_
    refine ASL.q (v := (.list 3 (List.map TNode.av a20.1))) rfl rfl (Light.quiet (opExtract rfl rfl rfl)) ?_
    refine ASL.q (v := (TWord.av a20.2)) rfl rfl (Light.quiet (opExtract rfl rfl rfl)) ?_
    refine ASL.x rfl rfl (hNewZ hS [(.list 1 (List.map (AV.int .i64) [])), (.list 1 (List.map (AV.int .i64) []))] rfl zeroA_41 ⟨.inr ⟨_, rfl, rfl⟩, .inr ⟨_, rfl, rfl⟩, trivial⟩ ?_); rintro b4 G2 hK hS
    refine ASL.q (v := (.list 3 (List.map TNode.av a20.1))) rfl rfl (Light.quiet (opAssign rfl rfl)) ?_
    refine ASL.n rfl rfl (hPutA hS (j := 0) rfl rfl sizeA_41 rfl rfl rfl rfl rfl (nlt rfl) ?_); rintro G4 hS
    refine ASL.done ?_
    refine AWP.seqR rfl ?_
    refine ASL.q (v := (.list 3 (List.map TNode.av a20.1))) rfl rfl (Light.quiet (opMove rfl rfl)) ?_
    refine ASL.q (v := (TWord.av a20.2)) rfl rfl (Light.quiet (kAtA hS (j := 0) rfl rfl aggA_41 sizeA_41 rfl (nlt rfl) rfl)) ?_
    obtain ⟨a25, ha25, hF⟩ := bindE hF
    refine ASL.q (v := (.list 1 (List.map (fun xs : (List Bool) => AV.list 1 (List.map AV.bool xs)) a25))) rfl rfl ((qCall rfl rfl call_31 (PO.list (impl_LtlTable_ok ha25)) rfl)) ?_
    refine ASL.q (v := (.list 1 (List.map (fun xs : (List Bool) => AV.list 1 (List.map AV.bool xs)) a25))) rfl rfl (Light.quiet (opAssign rfl rfl)) ?_
    refine ASL.done ?_
    refine AWP.seqR rfl ?_
    refine ASL.q (v := (.list 3 (List.map TNode.av a20.1))) rfl rfl (Light.quiet (opMove rfl rfl)) ?_
    refine ASL.q (v := (TWord.av a20.2)) rfl rfl (Light.quiet (kAtA hS (j := 0) rfl rfl aggA_41 sizeA_41 rfl (nlt rfl) rfl)) ?_
    obtain ⟨a28, ha28, hF⟩ := bindE hF
    refine ASL.q (v := (.list 1 (List.map (fun xs : (List Bool) => AV.list 1 (List.map AV.bool xs)) a28))) rfl rfl ((qCall rfl rfl call_30 (PO.list (spec_LtlTable_ok ha28)) rfl)) ?_
    refine ASL.q (v := (.list 1 (List.map (fun xs : (List Bool) => AV.list 1 (List.map AV.bool xs)) a28))) rfl rfl (Light.quiet (opAssign rfl rfl)) ?_
    refine ASL.done ?_
    refine AWP.seq ?_
    refine AWP.seqR rfl ?_
    refine ASL.q (v := (.list 1 (List.map (fun xs : (List Bool) => AV.list 1 (List.map AV.bool xs)) a25))) rfl rfl (Light.quiet (opMove rfl rfl)) ?_
    refine ASL.q (v := (.int .i64 (a25.length : Int))) rfl rfl (Light.quiet (opLenMap (f := (fun xs : (List Bool) => AV.list 1 (List.map AV.bool xs))) rfl rfl rfl lenT_48 rfl)) ?_
    refine ASL.q (v := (.list 1 (List.map (fun xs : (List Bool) => AV.list 1 (List.map AV.bool xs)) a28))) rfl rfl (Light.quiet (opMove rfl rfl)) ?_
    refine ASL.q (v := (.int .i64 (a28.length : Int))) rfl rfl (Light.quiet (opLenMap (f := (fun xs : (List Bool) => AV.list 1 (List.map AV.bool xs))) rfl rfl rfl lenT_48 rfl)) ?_
    refine ASL.q (v := (.bool (decide (((a25.length : Int)) ≠ ((a28.length : Int)))))) rfl rfl (Light.quiet (opInt rfl rfl rfl rfl)) ?_
    refine ASL.done ?_
    refine AWP.ifP hF rfl (fun hc5 hF => ?_) (fun hc5 hF => ?_)
    · skip
      refine AWP.seqR rfl ?_
      refine ASL.q (v := (.bool false)) rfl rfl (Light.quiet (opAssign rfl rfl)) ?_
      refine ASL.done ?_
      refine AWP.ret ?_
      refine QThen.rt ?_
      obtain rfl := someE hF
      exact QRet.sole (v := (.bool false)) ⟨rfl, trivial⟩ rfl
    · skip
      refine AWP.skip ?_
      refine QThen.nrm ?_
      refine AWP.seq ?_
      refine AWP.seqR rfl ?_
      refine ASL.q (v := (.list 1 (List.map (fun xs : (List Bool) => AV.list 1 (List.map AV.bool xs)) a25))) rfl rfl (Light.quiet (opMove rfl rfl)) ?_
      refine ASL.q (v := (.int .i64 (a25.length : Int))) rfl rfl (Light.quiet (opLenMap (f := (fun xs : (List Bool) => AV.list 1 (List.map AV.bool xs))) rfl rfl rfl lenT_48 rfl)) ?_
      refine ASL.q (v := (.bool (decide (((a25.length : Int)) = 0)))) rfl rfl (Light.quiet (opInt rfl rfl rfl rfl)) ?_
      refine ASL.done ?_
      refine AWP.ifP hF rfl (fun hc6 hF => ?_) (fun hc6 hF => ?_)
      · skip
        refine AWP.seqR rfl ?_
        refine ASL.q (v := (.list 3 (List.map TNode.av a20.1))) rfl rfl (Light.quiet (opMove rfl rfl)) ?_
        obtain ⟨a38, ha38, hF⟩ := bindE hF
        refine ASL.q (v := (.list 1 (List.map AV.bool a38))) rfl rfl ((qCall rfl rfl call_38 (PO.list (impl_LtlStep_ok ha38)) rfl)) ?_
        refine ASL.q (v := (.int .i64 (a38.length : Int))) rfl rfl (Light.quiet (opLenMap (f := AV.bool) rfl rfl rfl lenT_56 rfl)) ?_
        refine ASL.q (v := (.bool (decide (((a38.length : Int)) = 0)))) rfl rfl (Light.quiet (opInt rfl rfl rfl rfl)) ?_
        refine ASL.q (v := (.bool (decide (((a38.length : Int)) = 0)))) rfl rfl (Light.quiet (opAssign rfl rfl)) ?_
        refine ASL.done ?_
        refine AWP.ret ?_
        refine QThen.rt ?_
        obtain rfl := someE hF
        exact QRet.sole (v := (.bool (decide (((a38.length : Int)) = 0)))) ⟨rfl, trivial⟩ rfl
      · skip
        refine AWP.skip ?_
        refine QThen.nrm ?_
        refine AWP.seqR rfl ?_
        refine ASL.q (v := (.list 3 (List.map TNode.av a20.1))) rfl rfl (Light.quiet (opMove rfl rfl)) ?_
        obtain ⟨a42, ha42, hF⟩ := bindE hF
        refine ASL.q (v := (.list 1 (List.map (AV.int .i64) a42))) rfl rfl ((qCall rfl rfl call_19 (PO.list (spec_LtlTemporal_ok ha42)) rfl)) ?_
        refine ASL.q (v := (.list 1 (List.map (AV.int .i64) a42))) rfl rfl (Light.quiet (opAssign rfl rfl)) ?_
        refine ASL.done ?_
        refine AWP.seqR rfl ?_
        refine ASL.q (v := (.ptr b4 0)) rfl rfl (Light.quiet (opFieldAddr rfl fieldA_41_0 rfl rfl)) ?_
        refine ASL.q (v := (.list 1 (List.map (AV.int .i64) a20.2.stem))) rfl rfl (Light.quiet (kAt hS (j := 0) rfl rfl aggA_32 rfl rfl)) ?_
        refine ASL.q (v := (.int .i64 (a20.2.stem.length : Int))) rfl rfl (Light.quiet (opLenMap (f := (AV.int .i64)) rfl rfl rfl lenT_32 rfl)) ?_
        refine ASL.q (v := (.ptr b4 1)) rfl rfl (Light.quiet (opFieldAddr rfl fieldA_41_1 rfl rfl)) ?_
        refine ASL.q (v := (.list 1 (List.map (AV.int .i64) a20.2.loop))) rfl rfl (Light.quiet (kAt hS (j := 0) rfl rfl aggA_32 rfl rfl)) ?_
        refine ASL.q (v := (.int .i64 (a20.2.loop.length : Int))) rfl rfl (Light.quiet (opLenMap (f := (AV.int .i64)) rfl rfl rfl lenT_32 rfl)) ?_
        refine ASL.q (v := (.int .i64 (W (((a20.2.stem.length : Int)) + ((a20.2.loop.length : Int)))))) rfl rfl (Light.quiet (opInt rfl rfl rfl rfl)) ?_
        refine ASL.q (v := (.int .i64 (W (((a20.2.stem.length : Int)) + ((a20.2.loop.length : Int)))))) rfl rfl (Light.quiet (opAssign rfl rfl)) ?_
        refine ASL.done ?_
        refine AWP.seqM (fun e H => E.Told e [] ∧ E.Sep H [] ∧ laws_FnSteps9.k0 = some r) ?_ ?_
        · rintro e0 G7 ⟨hT, hS, hF⟩; refine AWP.only _ hT ?_; unfold laws_FnSteps9.k0 at hF
          refine AWP.seqR rfl ?_
          refine ASL.q (v := (.bool true)) rfl rfl (Light.quiet (opAssign rfl rfl)) ?_
          refine ASL.done ?_
          refine AWP.ret ?_
          obtain rfl := someE hF
          exact QRet.sole (v := (.bool true)) ⟨rfl, trivial⟩ rfl
        · skip
          refine AWP.seqR rfl ?_
          refine ASL.q (v := (.int .i64 0)) rfl rfl (Light.quiet (opAssign rfl rfl)) ?_
          refine ASL.done ?_
          refine AWP.block ?_
          obtain ⟨o11, hL10, hR12⟩ := bindE hF
          refine AWP.loopF (ω := Unit) hL10 (fun s w => [(3, (.list 3 (List.map TNode.av a20.1))), (4, (.ptr b4 0)), (5, (.list 1 (List.map (fun xs : (List Bool) => AV.list 1 (List.map AV.bool xs)) a25))), (7, (.list 1 (List.map (AV.int .i64) a42))), (8, (.int .i64 (W (((a20.2.stem.length : Int)) + ((a20.2.loop.length : Int)))))), (9, (.int .i64 s))]) (fun s w => [.cell b4 [(.list 1 (List.map (AV.int .i64) a20.2.stem)), (.list 1 (List.map (AV.int .i64) a20.2.loop))]]) () ⟨rfl, rfl, rfl, rfl, rfl, rfl, trivial⟩ (hS.pick [0] rfl rfl) ?_
          rintro x9_l0 _ G13 hS x8 hF hx9
          try dsimp only at hS ⊢
          have hF : laws_FnSteps9.b0 a20 a42 a25 x9_l0 = some x8 := hF; unfold laws_FnSteps9.b0 at hF
          refine AWP.seq ?_
          refine AWP.seqR rfl ?_
          refine ASL.q (v := (.int .i64 x9_l0)) rfl rfl (Light.quiet (opMove rfl rfl)) ?_
          refine ASL.q (v := (.int .i64 (W (((a20.2.stem.length : Int)) + ((a20.2.loop.length : Int)))))) rfl rfl (Light.quiet (opMove rfl rfl)) ?_
          refine ASL.q (v := (.bool (decide (x9_l0 < ((W (((a20.2.stem.length : Int)) + ((a20.2.loop.length : Int))))))))) rfl rfl (Light.quiet (opInt rfl rfl rfl rfl)) ?_
          refine ASL.done ?_
          refine AWP.ifP hF rfl (fun hc14 hF => ?_) (fun hc14 hF => ?_)
          · skip
            refine AWP.skip ?_
            refine QThen.nrm ?_
            refine AWP.seqM (fun e H => E.Told e [(3, (.list 3 (List.map TNode.av a20.1))), (4, (.ptr b4 0)), (5, (.list 1 (List.map (fun xs : (List Bool) => AV.list 1 (List.map AV.bool xs)) a25))), (7, (.list 1 (List.map (AV.int .i64) a42))), (8, (.int .i64 (W (((a20.2.stem.length : Int)) + ((a20.2.loop.length : Int)))))), (9, (.int .i64 x9_l0))] ∧ E.Sep H [.cell b4 [(.list 1 (List.map (AV.int .i64) a20.2.stem)), (.list 1 (List.map (AV.int .i64) a20.2.loop))]] ∧ laws_FnSteps9.k1 x9_l0 = some x8) ?_ ?_
            · rintro e0 G15 ⟨hT, hS, hF⟩; refine AWP.only _ hT ?_; unfold laws_FnSteps9.k1 at hF
              refine AWP.lastR rfl ?_
              refine ASL.q (v := (.int .i64 x9_l0)) rfl rfl (Light.quiet (opMove rfl rfl)) ?_
              refine ASL.q (v := (.int .i64 (W (x9_l0 + 1)))) rfl rfl (Light.quiet (opInt rfl rfl rfl rfl)) ?_
              refine ASL.q (v := (.int .i64 (W (x9_l0 + 1)))) rfl rfl (Light.quiet (opAssign rfl rfl)) ?_
              refine ASL.done ?_
              refine QThen.nrm ?_
              exact ⟨(W (x9_l0 + 1)), (), (someE hF).symm, ⟨rfl, rfl, rfl, rfl, rfl, rfl, trivial⟩, (hS.pick [0] rfl rfl)⟩
            · skip
              refine AWP.block ?_
              refine AWP.seqR rfl ?_
              refine ASL.q (v := (.int .i64 x9_l0)) rfl rfl (Light.quiet (opMove rfl rfl)) ?_
              refine ASL.q (v := (.int .i64 (W (x9_l0 + 1)))) rfl rfl (Light.quiet (opInt rfl rfl rfl rfl)) ?_
              refine ASL.q (v := (.int .i64 (W (x9_l0 + 1)))) rfl rfl (Light.quiet (opAssign rfl rfl)) ?_
              refine ASL.done ?_
              refine AWP.seqM (fun e H => ∃ x10_3 : Int, E.Told e [(3, (.list 3 (List.map TNode.av a20.1))), (4, (.ptr b4 0)), (5, (.list 1 (List.map (fun xs : (List Bool) => AV.list 1 (List.map AV.bool xs)) a25))), (7, (.list 1 (List.map (AV.int .i64) a42))), (8, (.int .i64 (W (((a20.2.stem.length : Int)) + ((a20.2.loop.length : Int)))))), (9, (.int .i64 x9_l0)), (10, (.int .i64 x10_3))] ∧ E.Sep H [.cell b4 [(.list 1 (List.map (AV.int .i64) a20.2.stem)), (.list 1 (List.map (AV.int .i64) a20.2.loop))]] ∧ laws_FnSteps9.k2 a42 a20 a25 x9_l0 x10_3 = some x8) ?_ ?_
              · rintro e0 G36 ⟨x10_3, hT, hS, hF⟩; refine AWP.only _ hT ?_; unfold laws_FnSteps9.k2 at hF
                refine AWP.seqR rfl ?_
                refine ASL.q (v := (.int .i64 0)) rfl rfl (Light.quiet (opAssign rfl rfl)) ?_
                refine ASL.done ?_
                refine AWP.seqM (fun e H => ∃ x11_4 : Int, E.Told e [(3, (.list 3 (List.map TNode.av a20.1))), (4, (.ptr b4 0)), (5, (.list 1 (List.map (fun xs : (List Bool) => AV.list 1 (List.map AV.bool xs)) a25))), (7, (.list 1 (List.map (AV.int .i64) a42))), (8, (.int .i64 (W (((a20.2.stem.length : Int)) + ((a20.2.loop.length : Int)))))), (9, (.int .i64 x9_l0)), (11, (.int .i64 x11_4))] ∧ E.Sep H [.cell b4 [(.list 1 (List.map (AV.int .i64) a20.2.stem)), (.list 1 (List.map (AV.int .i64) a20.2.loop))]] ∧ laws_FnSteps9.k3 a20 x9_l0 a25 x11_4 = some x8) ?_ ?_
                · rintro e0 G24 ⟨x11_4, hT, hS, hF⟩; refine AWP.only _ hT ?_; unfold laws_FnSteps9.k3 at hF
                  refine AWP.seqR rfl ?_
                  refine ASL.q (v := (.list 3 (List.map TNode.av a20.1))) rfl rfl (Light.quiet (opMove rfl rfl)) ?_
                  refine ASL.q (v := (TWord.av a20.2)) rfl rfl (Light.quiet (kAtA hS (j := 0) rfl rfl aggA_41 sizeA_41 rfl (nlt rfl) rfl)) ?_
                  refine ASL.q (v := (.int .i64 x9_l0)) rfl rfl (Light.quiet (opMove rfl rfl)) ?_
                  obtain ⟨a104, ha104, hF⟩ := bindE hF
                  refine ASL.q (v := (.int .i64 a104)) rfl rfl ((qCall rfl rfl call_40 (spec_WordAt_ok ha104) rfl)) ?_
                  refine ASL.q (v := (.int .i64 x11_4)) rfl rfl (Light.quiet (opMove rfl rfl)) ?_
                  obtain ⟨a106, ha106, hF⟩ := bindE hF
                  refine ASL.q (v := (.list 1 (List.map AV.bool a106))) rfl rfl ((qCall rfl rfl call_38 (PO.list (impl_LtlStep_ok ha106)) rfl)) ?_
                  refine ASL.q (v := (.list 1 (List.map AV.bool a106))) rfl rfl (Light.quiet (opAssign rfl rfl)) ?_
                  refine ASL.done ?_
                  refine AWP.seqR rfl ?_
                  refine ASL.q (v := (.int .i64 0)) rfl rfl (Light.quiet (opAssign rfl rfl)) ?_
                  refine ASL.done ?_
                  refine AWP.block ?_
                  obtain ⟨o19, hL18, hR20⟩ := bindE hF
                  refine AWP.loopF (ω := Unit) hL18 (fun s w => [(3, (.list 3 (List.map TNode.av a20.1))), (4, (.ptr b4 0)), (5, (.list 1 (List.map (fun xs : (List Bool) => AV.list 1 (List.map AV.bool xs)) a25))), (7, (.list 1 (List.map (AV.int .i64) a42))), (8, (.int .i64 (W (((a20.2.stem.length : Int)) + ((a20.2.loop.length : Int)))))), (9, (.int .i64 x9_l0)), (14, (.list 1 (List.map AV.bool a106))), (15, (.int .i64 s))]) (fun s w => [.cell b4 [(.list 1 (List.map (AV.int .i64) a20.2.stem)), (.list 1 (List.map (AV.int .i64) a20.2.loop))]]) () ⟨rfl, rfl, rfl, rfl, rfl, rfl, rfl, rfl, trivial⟩ (hS.pick [0] rfl rfl) ?_
                  rintro x15_l1 _ G21 hS x16 hF hx17
                  try dsimp only at hS ⊢
                  have hF : laws_FnSteps9.b1 a20 a106 a25 x9_l0 x15_l1 = some x16 := hF; unfold laws_FnSteps9.b1 at hF
                  refine AWP.seq ?_
                  refine AWP.seqR rfl ?_
                  refine ASL.q (v := (.int .i64 x15_l1)) rfl rfl (Light.quiet (opMove rfl rfl)) ?_
                  refine ASL.q (v := (.list 3 (List.map TNode.av a20.1))) rfl rfl (Light.quiet (opMove rfl rfl)) ?_
                  refine ASL.q (v := (.int .i64 (a20.1.length : Int))) rfl rfl (Light.quiet (opLenMap (f := TNode.av) rfl rfl rfl lenT_24 rfl)) ?_
                  refine ASL.q (v := (.bool (decide (x15_l1 < ((a20.1.length : Int)))))) rfl rfl (Light.quiet (opInt rfl rfl rfl rfl)) ?_
                  refine ASL.done ?_
                  refine AWP.ifP hF rfl (fun hc22 hF => ?_) (fun hc22 hF => ?_)
                  · skip
                    refine AWP.skip ?_
                    refine QThen.nrm ?_
                    refine AWP.seq ?_
                    refine AWP.block ?_
                    refine AWP.seqD [(0, false), (1, false), (2, false), (3, false), (4, false), (5, false), (6, false), (7, false), (8, false), (9, false), (10, false), (11, false), (12, false), (13, false), (14, false), (15, false), (16, false), (17, false), (18, false), (19, false), (20, false), (21, false), (22, false), (23, false), (24, false), (25, false), (26, false), (27, false)] mixed (by kernel_rfl) rfl ?_
                    refine ARL.q0 (v := (.list 1 (List.map AV.bool a106))) rfl rfl (Light.quiet (opMove rfl rfl)) ?_
                    refine ARL.q0 (v := (.int .i64 (a106.length : Int))) rfl rfl (Light.quiet (opLenMap (f := AV.bool) rfl rfl rfl lenT_56 rfl)) ?_
                    refine ARL.q0 (v := (.list 3 (List.map TNode.av a20.1))) rfl rfl (Light.quiet (opMove rfl rfl)) ?_
                    refine ARL.q0 (v := (.int .i64 (a20.1.length : Int))) rfl rfl (Light.quiet (opLenMap (f := TNode.av) rfl rfl rfl lenT_24 rfl)) ?_
                    refine ARL.q0 (v := (.bool (decide (((a106.length : Int)) ≠ ((a20.1.length : Int)))))) rfl rfl (Light.quiet (opInt rfl rfl rfl rfl)) ?_
                    obtain ⟨c118, hc118, hF⟩ := bndE hF
                    refine ARL.q0 (v := (.bool c118)) rfl rfl ((Quiet.cast (Light.quiet (opMove rfl rfl)) (congrArg AV.bool hc118.symm))) ?_
                    refine ARL.g (v := (.list 1 (List.map (fun xs : (List Bool) => AV.list 1 (List.map AV.bool xs)) a25))) (.bool c118) false rfl (wF _) rfl noneAlive (fun hG => by have q0 := gN hG; subst q0; exact Light.quiet (opMove rfl rfl)) ?_
                    refine ARL.g (v := (.int .i64 x15_l1)) (.bool c118) false rfl (wF _) rfl noneAlive (fun hG => by have q0 := gN hG; subst q0; exact Light.quiet (opMove rfl rfl)) ?_
                    obtain ⟨a121, ha121, hF⟩ := bindE hF
                    refine ARL.g (v := (.rptr [(.list 1 (List.map AV.bool a121))])) (.bool c118) false rfl (wF _) rfl noneAlive (fun hG => by have q0 := gN hG; subst q0; exact Light.quiet (kIx (f := (fun xs : (List Bool) => AV.list 1 (List.map AV.bool xs))) (whenE ha121) rfl rfl rfl elemA_48 sizeA_56 rfl)) ?_
                    refine ARL.g (v := (.list 1 (List.map AV.bool a121))) (.bool c118) false rfl (wF _) rfl noneAlive (fun hG => by have q0 := gN hG; subst q0; exact Light.quiet (opLoadR rfl aggA_56 rfl rfl)) ?_
                    refine ARL.g (v := (.int .i64 (a121.length : Int))) (.bool c118) false rfl (wF _) rfl noneAlive (fun hG => by have q0 := gN hG; subst q0; exact Light.quiet (opLenMap (f := AV.bool) rfl rfl rfl lenT_56 rfl)) ?_
                    refine ARL.g (v := (.int .i64 (W (((a20.2.stem.length : Int)) + ((a20.2.loop.length : Int)))))) (.bool c118) false rfl (wF _) rfl noneAlive (fun hG => by have q0 := gN hG; subst q0; exact Light.quiet (opMove rfl rfl)) ?_
                    refine ARL.g (v := (.bool (decide (((a121.length : Int)) ≠ ((W (((a20.2.stem.length : Int)) + ((a20.2.loop.length : Int))))))))) (.bool c118) false rfl (wF _) rfl noneAlive (fun hG => by have q0 := gN hG; subst q0; exact Light.quiet (opInt rfl rfl rfl rfl)) ?_
                    refine ARL.q0 (v := (.bool (c118 || (decide (((a121.length : Int)) ≠ ((W (((a20.2.stem.length : Int)) + ((a20.2.loop.length : Int)))))))))) rfl rfl (Light.quiet (opPick (b := c118) rfl rfl (by cases c118 <;> rfl))) ?_
                    obtain ⟨c127, hc127, hF⟩ := bndE hF
                    refine ARL.q0 (v := (.bool c127)) rfl rfl ((Quiet.cast (Light.quiet (opMove rfl rfl)) (congrArg AV.bool hc127.symm))) ?_
                    refine ARL.g (v := (.list 1 (List.map AV.bool a106))) (.bool c127) false rfl (wF _) rfl noneAlive (fun hG => by have q0 := gN hG; subst q0; exact Light.quiet (opMove rfl rfl)) ?_
                    refine ARL.g (v := (.int .i64 x15_l1)) (.bool c127) false rfl (wF _) rfl noneAlive (fun hG => by have q0 := gN hG; subst q0; exact Light.quiet (opMove rfl rfl)) ?_
                    obtain ⟨a130, ha130, hF⟩ := bindE hF
                    refine ARL.g (v := (.rptr [(.bool a130)])) (.bool c127) false rfl (wF _) rfl noneAlive (fun hG => by have q0 := gN hG; subst q0; exact Light.quiet (kIx (f := AV.bool) (whenE ha130) rfl rfl rfl elemA_56 sizeA_4 rfl)) ?_
                    refine ARL.g (v := (.bool a130)) (.bool c127) false rfl (wF _) rfl noneAlive (fun hG => by have q0 := gN hG; subst q0; exact Light.quiet (opLoadR rfl aggA_4 rfl rfl)) ?_
                    refine ARL.g (v := (.list 1 (List.map (fun xs : (List Bool) => AV.list 1 (List.map AV.bool xs)) a25))) (.bool c127) false rfl (wF _) rfl noneAlive (fun hG => by have q0 := gN hG; subst q0; exact Light.quiet (opMove rfl rfl)) ?_
                    refine ARL.g (v := (.int .i64 x15_l1)) (.bool c127) false rfl (wF _) rfl noneAlive (fun hG => by have q0 := gN hG; subst q0; exact Light.quiet (opMove rfl rfl)) ?_
                    obtain ⟨a134, ha134, hF⟩ := bindE hF
                    refine ARL.g (v := (.rptr [(.list 1 (List.map AV.bool a134))])) (.bool c127) false rfl (wF _) rfl noneAlive (fun hG => by have q0 := gN hG; subst q0; exact Light.quiet (kIx (f := (fun xs : (List Bool) => AV.list 1 (List.map AV.bool xs))) (whenE ha134) rfl rfl rfl elemA_48 sizeA_56 rfl)) ?_
                    refine ARL.g (v := (.list 1 (List.map AV.bool a134))) (.bool c127) false rfl (wF _) rfl noneAlive (fun hG => by have q0 := gN hG; subst q0; exact Light.quiet (opLoadR rfl aggA_56 rfl rfl)) ?_
                    refine ARL.g (v := (.int .i64 x9_l0)) (.bool c127) false rfl (wF _) rfl noneAlive (fun hG => by have q0 := gN hG; subst q0; exact Light.quiet (opMove rfl rfl)) ?_
                    obtain ⟨a137, ha137, hF⟩ := bindE hF
                    refine ARL.g (v := (.rptr [(.bool a137)])) (.bool c127) false rfl (wF _) rfl noneAlive (fun hG => by have q0 := gN hG; subst q0; exact Light.quiet (kIx (f := AV.bool) (whenE ha137) rfl rfl rfl elemA_56 sizeA_4 rfl)) ?_
                    refine ARL.g (v := (.bool a137)) (.bool c127) false rfl (wF _) rfl noneAlive (fun hG => by have q0 := gN hG; subst q0; exact Light.quiet (opLoadR rfl aggA_4 rfl rfl)) ?_
                    refine ARL.g (v := (.bool (!(a130 == a137)))) (.bool c127) false rfl (wF _) rfl noneAlive (fun hG => by have q0 := gN hG; subst q0; exact Light.quiet (opBoolEq rfl rfl rfl und_4 rfl)) ?_
                    refine ARL.q0 (v := (.bool (c127 || (!(a130 == a137))))) rfl rfl (Light.quiet (opPick (b := c127) rfl rfl (by cases c127 <;> rfl))) ?_
                    refine ARL.done ?_
                    refine AWP.ifB hF rfl (fun hc23 hF => ?_) (fun hc23 hF => ?_)
                    · skip
                      refine AWP.seqR rfl ?_
                      refine ASL.q (v := (.bool false)) rfl rfl (Light.quiet (opAssign rfl rfl)) ?_
                      refine ASL.done ?_
                      refine AWP.ret ?_
                      refine QBlock.ret ?_
                      refine QThen.rt ?_
                      refine QThen.rt ?_
                      refine QBlock.ret ?_
                      refine QBlock.ret ?_
                      refine QThen.rt ?_
                      refine QThen.rt ?_
                      refine QBlock.ret ?_
                      refine QThen.rt ?_
                      obtain rfl := (hx17 _ (someE hF).symm)
                      have hF := hR20
                      have hF := sumR hF
                      obtain rfl := (hx9 _ (someE hF).symm)
                      have hF := hR12
                      have hF := sumR hF
                      obtain rfl := someE hF
                      exact QRet.sole (v := (.bool false)) ⟨rfl, trivial⟩ rfl
                    · skip
                      refine AWP.skip ?_
                      refine QBlock.nrm ?_
                      refine QThen.nrm ?_
                      refine AWP.lastR rfl ?_
                      refine ASL.q (v := (.int .i64 x15_l1)) rfl rfl (Light.quiet (opMove rfl rfl)) ?_
                      refine ASL.q (v := (.int .i64 (W (x15_l1 + 1)))) rfl rfl (Light.quiet (opInt rfl rfl rfl rfl)) ?_
                      refine ASL.q (v := (.int .i64 (W (x15_l1 + 1)))) rfl rfl (Light.quiet (opAssign rfl rfl)) ?_
                      refine ASL.done ?_
                      refine QThen.nrm ?_
                      exact ⟨(W (x15_l1 + 1)), (), (someE hF).symm, ⟨rfl, rfl, rfl, rfl, rfl, rfl, rfl, rfl, trivial⟩, (hS.pick [0] rfl rfl)⟩
                  · skip
                    refine AWP.exit ?_
                    refine QThen.ext ?_
                    refine QThen.ext ?_
                    refine QBlock.hit ?_
                    obtain rfl := (hx17 _ (someE hF).symm)
                    have hF := hR20
                    have hF := sumL hF
                    refine QBlock.nrm ?_
                    refine QThen.nrm ?_
                    exact ⟨⟨rfl, rfl, rfl, rfl, rfl, rfl, trivial⟩, (hS.pick [0] rfl rfl), hF⟩
                · skip
                  refine AWP.seqR rfl ?_
                  refine ASL.q (v := (.int .i64 0)) rfl rfl (Light.quiet (opAssign rfl rfl)) ?_
                  refine ASL.done ?_
                  refine AWP.block ?_
                  obtain ⟨o28, hL27, hR29⟩ := bindE hF
                  refine AWP.loopF (ω := Unit) hL27 (fun s w => [(3, (.list 3 (List.map TNode.av a20.1))), (4, (.ptr b4 0)), (5, (.list 1 (List.map (fun xs : (List Bool) => AV.list 1 (List.map AV.bool xs)) a25))), (7, (.list 1 (List.map (AV.int .i64) a42))), (8, (.int .i64 (W (((a20.2.stem.length : Int)) + ((a20.2.loop.length : Int)))))), (9, (.int .i64 x9_l0)), (10, (.int .i64 x10_3)), (11, (.int .i64 s.1)), (12, (.int .i64 s.2))]) (fun s w => [.cell b4 [(.list 1 (List.map (AV.int .i64) a20.2.stem)), (.list 1 (List.map (AV.int .i64) a20.2.loop))]]) () ⟨rfl, rfl, rfl, rfl, rfl, rfl, rfl, rfl, rfl, trivial⟩ (hS.pick [0] rfl rfl) ?_
                  rintro ⟨x11_l2, x12_l2⟩ _ G30 hS x25 hF hx26
                  try dsimp only at hS ⊢
                  have hF : laws_FnSteps9.b2 a42 a20 a25 x10_3 x11_l2 x12_l2 = some x25 := hF; unfold laws_FnSteps9.b2 at hF
                  refine AWP.seq ?_
                  refine AWP.seqR rfl ?_
                  refine ASL.q (v := (.int .i64 x12_l2)) rfl rfl (Light.quiet (opMove rfl rfl)) ?_
                  refine ASL.q (v := (.list 1 (List.map (AV.int .i64) a42))) rfl rfl (Light.quiet (opMove rfl rfl)) ?_
                  refine ASL.q (v := (.int .i64 (a42.length : Int))) rfl rfl (Light.quiet (opLenMap (f := (AV.int .i64)) rfl rfl rfl lenT_32 rfl)) ?_
                  refine ASL.q (v := (.bool (decide (x12_l2 < ((a42.length : Int)))))) rfl rfl (Light.quiet (opInt rfl rfl rfl rfl)) ?_
                  refine ASL.done ?_
                  refine AWP.ifP hF rfl (fun hc31 hF => ?_) (fun hc31 hF => ?_)
                  · skip
                    refine AWP.skip ?_
                    refine QThen.nrm ?_
                    refine AWP.seq ?_
                    refine AWP.block ?_
                    refine AWP.seqR rfl ?_
                    refine ASL.q (v := (.list 1 (List.map (AV.int .i64) a42))) rfl rfl (Light.quiet (opMove rfl rfl)) ?_
                    refine ASL.q (v := (.int .i64 x12_l2)) rfl rfl (Light.quiet (opMove rfl rfl)) ?_
                    obtain ⟨a71, ha71, hF⟩ := bindE hF
                    refine ASL.q (v := (.rptr [(.int .i64 a71)])) rfl rfl (Light.quiet (kIx (f := (AV.int .i64)) ha71 rfl rfl rfl elemA_32 sizeA_3 rfl)) ?_
                    refine ASL.q (v := (.int .i64 a71)) rfl rfl (Light.quiet (opLoadR rfl aggA_3 rfl rfl)) ?_
                    refine ASL.q (v := (.int .i64 a71)) rfl rfl (Light.quiet (opAssign rfl rfl)) ?_
                    refine ASL.done ?_
                    refine AWP.seqM (fun e H => ∃ x13_5 : Int, E.Told e [(3, (.list 3 (List.map TNode.av a20.1))), (4, (.ptr b4 0)), (5, (.list 1 (List.map (fun xs : (List Bool) => AV.list 1 (List.map AV.bool xs)) a25))), (7, (.list 1 (List.map (AV.int .i64) a42))), (8, (.int .i64 (W (((a20.2.stem.length : Int)) + ((a20.2.loop.length : Int)))))), (9, (.int .i64 x9_l0)), (10, (.int .i64 x10_3)), (11, (.int .i64 x11_l2)), (12, (.int .i64 x12_l2)), (13, (.int .i64 x13_5))] ∧ E.Sep H [.cell b4 [(.list 1 (List.map (AV.int .i64) a20.2.stem)), (.list 1 (List.map (AV.int .i64) a20.2.loop))]] ∧ laws_FnSteps9.k4 a25 a20 x10_3 x11_l2 x12_l2 x13_5 = some x25) ?_ ?_
                    · rintro e0 G34 ⟨x13_5, hT, hS, hF⟩; refine AWP.only _ hT ?_; unfold laws_FnSteps9.k4 at hF
                      refine AWP.seq ?_
                      refine AWP.seqR rfl ?_
                      refine ASL.q (v := (.list 1 (List.map (fun xs : (List Bool) => AV.list 1 (List.map AV.bool xs)) a25))) rfl rfl (Light.quiet (opMove rfl rfl)) ?_
                      refine ASL.q (v := (.int .i64 x13_5)) rfl rfl (Light.quiet (opMove rfl rfl)) ?_
                      obtain ⟨a86, ha86, hF⟩ := bindE hF
                      refine ASL.q (v := (.rptr [(.list 1 (List.map AV.bool a86))])) rfl rfl (Light.quiet (kIx (f := (fun xs : (List Bool) => AV.list 1 (List.map AV.bool xs))) ha86 rfl rfl rfl elemA_48 sizeA_56 rfl)) ?_
                      refine ASL.q (v := (.list 1 (List.map AV.bool a86))) rfl rfl (Light.quiet (opLoadR rfl aggA_56 rfl rfl)) ?_
                      refine ASL.q (v := (.int .i64 (a86.length : Int))) rfl rfl (Light.quiet (opLenMap (f := AV.bool) rfl rfl rfl lenT_56 rfl)) ?_
                      refine ASL.q (v := (.int .i64 (W (((a20.2.stem.length : Int)) + ((a20.2.loop.length : Int)))))) rfl rfl (Light.quiet (opMove rfl rfl)) ?_
                      refine ASL.q (v := (.bool (decide (((a86.length : Int)) ≠ ((W (((a20.2.stem.length : Int)) + ((a20.2.loop.length : Int))))))))) rfl rfl (Light.quiet (opInt rfl rfl rfl rfl)) ?_
                      refine ASL.done ?_
                      refine AWP.ifP hF rfl (fun hc32 hF => ?_) (fun hc32 hF => ?_)
                      · skip
                        refine AWP.seqR rfl ?_
                        refine ASL.q (v := (.bool false)) rfl rfl (Light.quiet (opAssign rfl rfl)) ?_
                        refine ASL.done ?_
                        refine AWP.ret ?_
                        refine QThen.rt ?_
                        refine QBlock.ret ?_
                        refine QThen.rt ?_
                        refine QThen.rt ?_
                        refine QBlock.ret ?_
                        refine QThen.rt ?_
                        refine QBlock.ret ?_
                        refine QThen.rt ?_
                        refine QThen.rt ?_
                        refine QBlock.ret ?_
                        refine QThen.rt ?_
                        obtain rfl := (hx26 _ (someE hF).symm)
                        have hF := hR29
                        have hF := sumR hF
                        obtain rfl := (hx9 _ (someE hF).symm)
                        have hF := hR12
                        have hF := sumR hF
                        obtain rfl := someE hF
                        exact QRet.sole (v := (.bool false)) ⟨rfl, trivial⟩ rfl
                      · skip
                        refine AWP.skip ?_
                        refine QThen.nrm ?_
                        refine AWP.seqR rfl ?_
                        refine ASL.q (v := (.list 1 (List.map (fun xs : (List Bool) => AV.list 1 (List.map AV.bool xs)) a25))) rfl rfl (Light.quiet (opMove rfl rfl)) ?_
                        refine ASL.q (v := (.int .i64 x13_5)) rfl rfl (Light.quiet (opMove rfl rfl)) ?_
                        obtain ⟨a93, ha93, hF⟩ := bindE hF
                        refine ASL.q (v := (.rptr [(.list 1 (List.map AV.bool a93))])) rfl rfl (Light.quiet (kIx (f := (fun xs : (List Bool) => AV.list 1 (List.map AV.bool xs))) ha93 rfl rfl rfl elemA_48 sizeA_56 rfl)) ?_
                        refine ASL.q (v := (.list 1 (List.map AV.bool a93))) rfl rfl (Light.quiet (opLoadR rfl aggA_56 rfl rfl)) ?_
                        refine ASL.q (v := (.int .i64 x10_3)) rfl rfl (Light.quiet (opMove rfl rfl)) ?_
                        obtain ⟨a96, ha96, hF⟩ := bindE hF
                        refine ASL.q (v := (.rptr [(.bool a96)])) rfl rfl (Light.quiet (kIx (f := AV.bool) ha96 rfl rfl rfl elemA_56 sizeA_4 rfl)) ?_
                        refine ASL.q (v := (.bool a96)) rfl rfl (Light.quiet (opLoadR rfl aggA_4 rfl rfl)) ?_
                        refine ASL.done ?_
                        refine AWP.ifB hF rfl (fun hc33 hF => ?_) (fun hc33 hF => ?_)
                        · skip
                          refine AWP.lastR rfl ?_
                          refine ASL.q (v := (.int .i64 x11_l2)) rfl rfl (Light.quiet (opMove rfl rfl)) ?_
                          refine ASL.q (v := (.int .i64 x12_l2)) rfl rfl (Light.quiet (opMove rfl rfl)) ?_
                          refine ASL.q (v := (.int .i64 (impl_SetPut x11_l2 x12_l2))) rfl rfl ((qCall rfl rfl call_39 (impl_SetPut_ok x11_l2 x12_l2) rfl)) ?_
                          refine ASL.q (v := (.int .i64 (impl_SetPut x11_l2 x12_l2))) rfl rfl (Light.quiet (opAssign rfl rfl)) ?_
                          refine ASL.done ?_
                          refine QBlock.nrm ?_
                          refine QThen.nrm ?_
                          refine AWP.lastR rfl ?_
                          refine ASL.q (v := (.int .i64 x12_l2)) rfl rfl (Light.quiet (opMove rfl rfl)) ?_
                          refine ASL.q (v := (.int .i64 (W (x12_l2 + 1)))) rfl rfl (Light.quiet (opInt rfl rfl rfl rfl)) ?_
                          refine ASL.q (v := (.int .i64 (W (x12_l2 + 1)))) rfl rfl (Light.quiet (opAssign rfl rfl)) ?_
                          refine ASL.done ?_
                          refine QThen.nrm ?_
                          exact ⟨((impl_SetPut x11_l2 x12_l2), (W (x12_l2 + 1))), (), (someE hF).symm, ⟨rfl, rfl, rfl, rfl, rfl, rfl, rfl, rfl, rfl, trivial⟩, (hS.pick [0] rfl rfl)⟩
                        · skip
                          refine AWP.skip ?_
                          refine QBlock.nrm ?_
                          refine QThen.nrm ?_
                          refine AWP.lastR rfl ?_
                          refine ASL.q (v := (.int .i64 x12_l2)) rfl rfl (Light.quiet (opMove rfl rfl)) ?_
                          refine ASL.q (v := (.int .i64 (W (x12_l2 + 1)))) rfl rfl (Light.quiet (opInt rfl rfl rfl rfl)) ?_
                          refine ASL.q (v := (.int .i64 (W (x12_l2 + 1)))) rfl rfl (Light.quiet (opAssign rfl rfl)) ?_
                          refine ASL.done ?_
                          refine QThen.nrm ?_
                          exact ⟨(x11_l2, (W (x12_l2 + 1))), (), (someE hF).symm, ⟨rfl, rfl, rfl, rfl, rfl, rfl, rfl, rfl, rfl, trivial⟩, (hS.pick [0] rfl rfl)⟩
                    · skip
                      refine AWP.seqR rfl ?_
                      refine ASL.q (v := (.list 3 (List.map TNode.av a20.1))) rfl rfl (Light.quiet (opMove rfl rfl)) ?_
                      refine ASL.q (v := (.int .i64 a71)) rfl rfl (Light.quiet (opMove rfl rfl)) ?_
                      obtain ⟨a75, ha75, hF⟩ := bindE hF
                      refine ASL.q (v := (.rptr [(.int .i64 a75.kind), (.int .i64 a75.a), (.int .i64 a75.b)])) rfl rfl (Light.quiet (kIx (f := TNode.av) ha75 rfl rfl rfl elemA_24 sizeA_59 rfl)) ?_
                      refine ASL.q (v := (.rptr [(.int .i64 a75.kind), (.int .i64 a75.a), (.int .i64 a75.b)])) rfl rfl (Light.quiet (opFieldAddrR rfl fieldA_59_0 rfl rfl)) ?_
                      refine ASL.q (v := (.int .i64 a75.kind)) rfl rfl (Light.quiet (opLoadR rfl aggA_3 rfl rfl)) ?_
                      refine ASL.q (v := (.bool (decide (a75.kind = 7)))) rfl rfl (Light.quiet (opInt rfl rfl rfl rfl)) ?_
                      refine ASL.done ?_
                      refine AWP.ifP hF rfl (fun hc35 hF => ?_) (fun hc35 hF => ?_)
                      · skip
                        refine AWP.lastR rfl ?_
                        refine ASL.q (v := (.list 3 (List.map TNode.av a20.1))) rfl rfl (Light.quiet (opMove rfl rfl)) ?_
                        refine ASL.q (v := (.int .i64 a71)) rfl rfl (Light.quiet (opMove rfl rfl)) ?_
                        obtain ⟨a81, ha81, hF⟩ := bindE hF
                        refine ASL.q (v := (.rptr [(.int .i64 a81.kind), (.int .i64 a81.a), (.int .i64 a81.b)])) rfl rfl (Light.quiet (kIx (f := TNode.av) ha81 rfl rfl rfl elemA_24 sizeA_59 rfl)) ?_
                        refine ASL.q (v := (.rptr [(.int .i64 a81.a), (.int .i64 a81.b)])) rfl rfl (Light.quiet (opFieldAddrR rfl fieldA_59_1 rfl rfl)) ?_
                        refine ASL.q (v := (.int .i64 a81.a)) rfl rfl (Light.quiet (opLoadR rfl aggA_3 rfl rfl)) ?_
                        refine ASL.q (v := (.int .i64 a81.a)) rfl rfl (Light.quiet (opAssign rfl rfl)) ?_
                        refine ASL.done ?_
                        refine QThen.nrm ?_
                        exact ⟨a81.a, ⟨rfl, rfl, rfl, rfl, rfl, rfl, rfl, rfl, rfl, rfl, trivial⟩, (hS.pick [0] rfl rfl), hF⟩
                      · skip
                        refine AWP.skip ?_
                        refine QThen.nrm ?_
                        exact ⟨a71, ⟨rfl, rfl, rfl, rfl, rfl, rfl, rfl, rfl, rfl, rfl, trivial⟩, (hS.pick [0] rfl rfl), hF⟩
                  · skip
                    refine AWP.exit ?_
                    refine QThen.ext ?_
                    refine QThen.ext ?_
                    refine QBlock.hit ?_
                    obtain rfl := (hx26 _ (someE hF).symm)
                    have hF := hR29
                    have hF := sumL hF
                    refine QThen.nrm ?_
                    exact ⟨x11_l2, ⟨rfl, rfl, rfl, rfl, rfl, rfl, rfl, trivial⟩, (hS.pick [0] rfl rfl), hF⟩
              · skip
                refine AWP.seqR rfl ?_
                refine ASL.q (v := (.int .i64 (W (x9_l0 + 1)))) rfl rfl (Light.quiet (opMove rfl rfl)) ?_
                refine ASL.q (v := (.int .i64 (W (((a20.2.stem.length : Int)) + ((a20.2.loop.length : Int)))))) rfl rfl (Light.quiet (opMove rfl rfl)) ?_
                refine ASL.q (v := (.bool (decide (((W (x9_l0 + 1))) = ((W (((a20.2.stem.length : Int)) + ((a20.2.loop.length : Int))))))))) rfl rfl (Light.quiet (opInt rfl rfl rfl rfl)) ?_
                refine ASL.done ?_
                refine AWP.ifP hF rfl (fun hc37 hF => ?_) (fun hc37 hF => ?_)
                · skip
                  refine AWP.lastR rfl ?_
                  refine ASL.q (v := (.ptr b4 0)) rfl rfl (Light.quiet (opFieldAddr rfl fieldA_41_0 rfl rfl)) ?_
                  refine ASL.q (v := (.list 1 (List.map (AV.int .i64) a20.2.stem))) rfl rfl (Light.quiet (kAt hS (j := 0) rfl rfl aggA_32 rfl rfl)) ?_
                  refine ASL.q (v := (.int .i64 (a20.2.stem.length : Int))) rfl rfl (Light.quiet (opLenMap (f := (AV.int .i64)) rfl rfl rfl lenT_32 rfl)) ?_
                  refine ASL.q (v := (.int .i64 (a20.2.stem.length : Int))) rfl rfl (Light.quiet (opAssign rfl rfl)) ?_
                  refine ASL.done ?_
                  refine QThen.nrm ?_
                  exact ⟨(a20.2.stem.length : Int), ⟨rfl, rfl, rfl, rfl, rfl, rfl, rfl, trivial⟩, (hS.pick [0] rfl rfl), hF⟩
                · skip
                  refine AWP.skip ?_
                  refine QThen.nrm ?_
                  exact ⟨(W (x9_l0 + 1)), ⟨rfl, rfl, rfl, rfl, rfl, rfl, rfl, trivial⟩, (hS.pick [0] rfl rfl), hF⟩
          · skip
            refine AWP.exit ?_
            refine QThen.ext ?_
            refine QThen.ext ?_
            refine QBlock.hit ?_
            obtain rfl := (hx9 _ (someE hF).symm)
            have hF := hR12
            have hF := sumL hF
            refine QThen.nrm ?_
            exact ⟨trivial, (hS.pick [] rfl rfl), hF⟩

end Go.Proofs.Ytjjlkncefgfljaa
