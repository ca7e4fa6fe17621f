/- Each of these functions of the program comes to just what its plain function says: FnPair8. -/
import Derived.Test.YtjjlkncefgfljaaDPair8
import Derived.Test.YtjjlkncefgfljaaFa
namespace Go.Proofs.Ytjjlkncefgfljaa
open Go Go.RowKit E
set_option linter.unusedVariables false
set_option maxRecDepth 10000 in
theorem laws_big_ok (p0 : (List Int)) : PC Try.prog 10 [(.list 1 (List.map (AV.int .u8) p0))] fun v => v = (.bool (laws_big p0)) := by
  generalize hF : laws_big p0 = r
  refine PC.enter Try.func10 rfl Try.ntmps10 (by simp) ?_
  have hS := Sep.void; unfold laws_big at hF
  refine AWP.seqR rfl ?_
  refine ASL.q (v := (.bool false)) rfl rfl (Light.quiet (opAssign rfl rfl)) ?_
  refine ASL.done ?_
  refine AWP.seqR rfl ?_
  refine ASL.q (v := (.list 1 (List.map (AV.int .u8) p0))) rfl rfl (Light.quiet (opMove rfl rfl)) ?_
  refine ASL.q (v := (.int .i64 (p0.length : Int))) rfl rfl (Light.quiet (opLenMap (f := (AV.int .u8)) rfl rfl rfl lenT_22 rfl)) ?_
  refine ASL.q (v := (.bool (decide (((p0.length : Int)) > 1048576)))) rfl rfl (Light.quiet (opInt rfl rfl rfl rfl)) ?_
  refine ASL.q (v := (.bool (decide (((p0.length : Int)) > 1048576)))) rfl rfl (Light.quiet (opAssign rfl rfl)) ?_
  refine ASL.done ?_
  refine AWP.ret ?_
  obtain rfl := hF
  exact QRet.sole (v := (.bool (decide (((p0.length : Int)) > 1048576)))) ⟨rfl, trivial⟩ rfl

set_option maxRecDepth 10000 in
theorem spec_l1New_ok {p0 : (List Int)} {r : Tl1Cur} (hF : spec_l1New p0 = some r) : HS Try.prog 50 [(.list 1 (List.map (AV.int .u8) p0))] [] fun v L' => ∃ o0 : Nat, v = (.ptr o0 0) ∧ L' = [.cell o0 [(.list 1 (List.map (AV.int .u8) r.b)), (.int .i64 r.i), (.int .i64 r.h)]] := by
  intro H S hS
  refine HC.enter Try.func50 rfl Try.ntmps50 (by simp) ?_
  simp only [List.cons_append, List.nil_append] at hS
  unfold spec_l1New at hF
  refine AWP.seqR rfl ?_
  refine ASL.q (v := .nilptr) rfl rfl (Light.quiet (opAssign rfl rfl)) ?_
  refine ASL.done ?_
  refine AWP.seqR rfl ?_
  refine ASL.q (v := (.list 1 (List.map (AV.int .u8) p0))) rfl rfl (Light.quiet (opMove rfl rfl)) ?_
  refine ASL.q (v := (.int .i64 (p0.length : Int))) rfl rfl (Light.quiet (opLenMap (f := (AV.int .u8)) rfl rfl rfl lenT_22 rfl)) ?_
  refine ASL.q (v := (.int .i64 (W (10277 + ((p0.length : Int)))))) rfl rfl (Light.quiet (opInt rfl rfl rfl rfl)) ?_
  refine ASL.q (v := (.int .i64 (W (10277 + ((p0.length : Int)))))) rfl rfl (Light.quiet (opAssign rfl rfl)) ?_
  refine ASL.done ?_
  refine AWP.seqM (fun e H => ∃ x3_1 : Int, E.Told e [(0, (.list 1 (List.map (AV.int .u8) p0))), (3, (.int .i64 x3_1))] ∧ E.Sep H [.snap S] ∧ spec_l1New.k0 p0 x3_1 = some r) ?_ ?_
  · rintro e0 G3 ⟨x3_1, hT, hS, hF⟩; refine AWP.only _ hT ?_; unfold spec_l1New.k0 at hF
    refine AWP.seqR rfl ?_
    refine ASL.q (v := (.list 1 (List.map (AV.int .u8) p0))) rfl rfl (Light.quiet (opMove rfl rfl)) ?_
    refine ASL.q (v := (.int .i64 x3_1)) rfl rfl (Light.quiet (opMove rfl rfl)) ?_
    refine ASL.q (v := (.agg [(.list 1 (List.map (AV.int .u8) p0)), (.int .i64 0), (.int .i64 x3_1)])) rfl rfl (Light.quiet (opBuildZ (zs := [(.list 1 (List.map (AV.int .u8) [])), (.int .i64 0), (.int .i64 0)]) rfl plan_105 zeroA_105 ⟨.inr ⟨_, rfl, rfl⟩, .inl rfl, .inl rfl, trivial⟩ rfl)) ?_
    refine ASL.x rfl rfl (hBox hS rfl rfl rfl ?_); rintro b31 G1 hK hS
    refine ASL.q (v := (.ptr b31 0)) rfl rfl (Light.quiet (opAssign rfl rfl)) ?_
    refine ASL.done ?_
    refine AWP.ret ?_
    obtain rfl := someE hF
    exact QRet.sole (v := (.ptr b31 0)) ⟨rfl, trivial⟩ ⟨_, ⟨b31, rfl, rfl⟩, hS.pick [0, 1] rfl rfl⟩
  · skip
    refine AWP.seqR rfl ?_
    refine ASL.q (v := (.int .i64 0)) rfl rfl (Light.quiet (opAssign rfl rfl)) ?_
    refine ASL.done ?_
    refine AWP.block ?_
    obtain ⟨o7, hL6, hR8⟩ := bindE hF
    refine AWP.loopF (ω := Unit) hL6 (fun s w => [(0, (.list 1 (List.map (AV.int .u8) p0))), (3, (.int .i64 s.1)), (4, (.int .i64 s.2))]) (fun s w => [.snap S]) () ⟨rfl, rfl, rfl, trivial⟩ (hS.pick [0] rfl rfl) ?_
    rintro ⟨x3_l0, x4_l0⟩ _ G9 hS x4 hF hx5
    try dsimp only at hS ⊢
    have hF : spec_l1New.b0 p0 x3_l0 x4_l0 = some x4 := hF; unfold spec_l1New.b0 at hF
    refine AWP.seq ?_
    refine AWP.seqR rfl ?_
    refine ASL.q (v := (.int .i64 x4_l0)) rfl rfl (Light.quiet (opMove rfl rfl)) ?_
    refine ASL.q (v := (.list 1 (List.map (AV.int .u8) p0))) rfl rfl (Light.quiet (opMove rfl rfl)) ?_
    refine ASL.q (v := (.int .i64 (p0.length : Int))) rfl rfl (Light.quiet (opLenMap (f := (AV.int .u8)) rfl rfl rfl lenT_22 rfl)) ?_
    refine ASL.q (v := (.bool (decide (x4_l0 < ((p0.length : Int)))))) rfl rfl (Light.quiet (opInt rfl rfl rfl rfl)) ?_
    obtain ⟨c12, hc12, hF⟩ := bndE hF
    refine ASL.q (v := (.bool c12)) rfl rfl ((Quiet.cast (Light.quiet (opMove rfl rfl)) (congrArg AV.bool hc12.symm))) ?_
    refine ASL.g (v := (.int .i64 x4_l0)) (.bool c12) true rfl (wT _) rfl (fun hG => by have q0 := hG; subst q0; exact Light.quiet (opMove rfl rfl)) ?_
    refine ASL.g (v := (.bool (decide (x4_l0 < 4000)))) (.bool c12) true rfl (wT _) rfl (fun hG => by have q0 := hG; subst q0; exact Light.quiet (opInt rfl rfl rfl rfl)) ?_
    refine ASL.q (v := (.bool (c12 && (decide (x4_l0 < 4000))))) rfl rfl (Light.quiet (opPick (b := c12) rfl rfl (by cases c12 <;> rfl))) ?_
    refine ASL.done ?_
    refine AWP.ifB hF rfl (fun hc10 hF => ?_) (fun hc10 hF => ?_)
    · skip
      refine AWP.skip ?_
      refine QThen.nrm ?_
      refine AWP.seq ?_
      refine AWP.block ?_
      refine AWP.lastR rfl ?_
      refine ASL.q (v := (.int .i64 x3_l0)) rfl rfl (Light.quiet (opMove rfl rfl)) ?_
      refine ASL.q (v := (.int .i64 (W (x3_l0 * 131)))) rfl rfl (Light.quiet (opInt rfl rfl rfl rfl)) ?_
      refine ASL.q (v := (.list 1 (List.map (AV.int .u8) p0))) rfl rfl (Light.quiet (opMove rfl rfl)) ?_
      refine ASL.q (v := (.int .i64 x4_l0)) rfl rfl (Light.quiet (opMove rfl rfl)) ?_
      obtain ⟨a22, ha22, hF⟩ := bindE hF
      refine ASL.q (v := (.rptr [(.int .u8 a22)])) rfl rfl (Light.quiet (kIx (f := (AV.int .u8)) ha22 rfl rfl rfl elemA_22 sizeA_5 rfl)) ?_
      refine ASL.q (v := (.int .u8 a22)) rfl rfl (Light.quiet (opLoadR rfl aggA_5 rfl rfl)) ?_
      refine ASL.q (v := (.int .i64 (IntKind.i64.wrap a22))) rfl rfl (Light.quiet (opConv rfl rfl und_5 und_3 rfl)) ?_
      refine ASL.q (v := (.int .i64 (W (((W (x3_l0 * 131))) + ((IntKind.i64.wrap a22)))))) rfl rfl (Light.quiet (opInt rfl rfl rfl rfl)) ?_
      refine ASL.q (v := (.int .i64 (W (((W (((W (x3_l0 * 131))) + ((IntKind.i64.wrap a22))))) + 7)))) rfl rfl (Light.quiet (opInt rfl rfl rfl rfl)) ?_
      refine ASL.q (v := (.int .i64 (bAnd .i64 ((W (((W (((W (x3_l0 * 131))) + ((IntKind.i64.wrap a22))))) + 7))) 1073741823))) rfl rfl (Light.quiet (opInt rfl rfl rfl rfl)) ?_
      refine ASL.q (v := (.int .i64 (bAnd .i64 ((W (((W (((W (x3_l0 * 131))) + ((IntKind.i64.wrap a22))))) + 7))) 1073741823))) rfl rfl (Light.quiet (opAssign rfl rfl)) ?_
      refine ASL.done ?_
      refine QBlock.nrm ?_
      refine QThen.nrm ?_
      refine AWP.lastR rfl ?_
      refine ASL.q (v := (.int .i64 x4_l0)) rfl rfl (Light.quiet (opMove rfl rfl)) ?_
      refine ASL.q (v := (.int .i64 (W (x4_l0 + 1)))) rfl rfl (Light.quiet (opInt rfl rfl rfl rfl)) ?_
      refine ASL.q (v := (.int .i64 (W (x4_l0 + 1)))) rfl rfl (Light.quiet (opAssign rfl rfl)) ?_
      refine ASL.done ?_
      refine QThen.nrm ?_
      exact ⟨((bAnd .i64 ((W (((W (((W (x3_l0 * 131))) + ((IntKind.i64.wrap a22))))) + 7))) 1073741823), (W (x4_l0 + 1))), (), (someE hF).symm, ⟨rfl, rfl, rfl, trivial⟩, (hS.pick [0] rfl rfl)⟩
    · skip
      refine AWP.exit ?_
      refine QThen.ext ?_
      refine QThen.ext ?_
      refine QBlock.hit ?_
      obtain rfl := (hx5 _ (someE hF).symm)
      have hF := hR8
      refine QThen.nrm ?_
      exact ⟨x3_l0, ⟨rfl, rfl, trivial⟩, (hS.pick [0] rfl rfl), hF⟩

set_option maxRecDepth 10000 in
theorem spec_l1Byte_ok {p0 : Tl1Cur} {r : (Int × Tl1Cur)} {bp0 : Nat} (hF : spec_l1Byte p0 = some r) : HS Try.prog 117 [(.ptr bp0 0)] [.cell bp0 [(.list 1 (List.map (AV.int .u8) p0.b)), (.int .i64 p0.i), (.int .i64 p0.h)]] fun v L' => v = (.int .i64 r.1) ∧ L' = [.cell bp0 [(.list 1 (List.map (AV.int .u8) r.2.b)), (.int .i64 r.2.i), (.int .i64 r.2.h)]] := by
  intro H S hS
  refine HC.enter Try.func117 rfl Try.ntmps117 (by simp) ?_
  simp only [List.cons_append, List.nil_append] at hS
  unfold spec_l1Byte at hF
  refine AWP.seqR rfl ?_
  refine ASL.q (v := (.int .i64 0)) rfl rfl (Light.quiet (opAssign rfl rfl)) ?_
  refine ASL.done ?_
  refine AWP.seqR rfl ?_
  refine ASL.q (v := (.ptr bp0 0)) rfl rfl (Light.quiet (opMove rfl rfl)) ?_
  refine ASL.q (v := (.ptr bp0 0)) rfl rfl (Light.quiet (opMove rfl rfl)) ?_
  refine ASL.q (v := (.ptr bp0 0)) rfl rfl (Light.quiet (opNil rfl rfl rfl)) ?_
  refine ASL.q (v := (.ptr bp0 2)) rfl rfl (Light.quiet (opFieldAddr rfl fieldA_105_2 rfl rfl)) ?_
  refine ASL.q (v := (.int .i64 p0.h)) rfl rfl (Light.quiet (kAt hS (j := 0) rfl rfl aggA_3 rfl rfl)) ?_
  refine ASL.q (v := (.int .i64 (W (p0.h * 6364136223846793005)))) rfl rfl (Light.quiet (opInt rfl rfl rfl rfl)) ?_
  refine ASL.q (v := (.int .i64 (W (((W (p0.h * 6364136223846793005))) + 1442695040888963407)))) rfl rfl (Light.quiet (opInt rfl rfl rfl rfl)) ?_
  refine ASL.q (v := (.ptr bp0 0)) rfl rfl (Light.quiet (opNil rfl rfl rfl)) ?_
  refine ASL.q (v := (.ptr bp0 2)) rfl rfl (Light.quiet (opFieldAddr rfl fieldA_105_2 rfl rfl)) ?_
  refine ASL.n rfl rfl (hPut hS (j := 0) rfl rfl sizeA_3 rfl rfl rfl (nlt rfl) ?_); rintro G2 hS
  refine ASL.done ?_
  refine AWP.seqD [(0, false), (1, false), (2, false), (3, false), (4, false), (5, false), (6, false), (7, false), (8, false), (9, false), (10, false), (11, false), (12, false)] mixed (by kernel_rfl) rfl ?_
  refine ARL.q0 (v := (.ptr bp0 0)) rfl rfl (Light.quiet (opMove rfl rfl)) ?_
  refine ARL.q0 (v := (.ptr bp0 0)) rfl rfl (Light.quiet (opNil rfl rfl rfl)) ?_
  refine ARL.q0 (v := (.ptr bp0 2)) rfl rfl (Light.quiet (opFieldAddr rfl fieldA_105_2 rfl rfl)) ?_
  refine ARL.q (v := (.int .i64 (W (((W (p0.h * 6364136223846793005))) + 1442695040888963407)))) rfl rfl (hS.aliveC (k := 0) rfl) (Light.quiet (kAt hS (j := 0) rfl rfl aggA_3 rfl rfl)) ?_
  refine ARL.q0 (v := (.int .i64 (shr .i64 ((W (((W (p0.h * 6364136223846793005))) + 1442695040888963407))) 33))) rfl rfl (Light.quiet (opShr rfl rfl rfl (by decide) rfl)) ?_
  refine ARL.q0 (v := (.ptr bp0 0)) rfl rfl (Light.quiet (opMove rfl rfl)) ?_
  refine ARL.q0 (v := (.ptr bp0 0)) rfl rfl (Light.quiet (opNil rfl rfl rfl)) ?_
  refine ARL.q0 (v := (.ptr bp0 2)) rfl rfl (Light.quiet (opFieldAddr rfl fieldA_105_2 rfl rfl)) ?_
  refine ARL.q (v := (.int .i64 (W (((W (p0.h * 6364136223846793005))) + 1442695040888963407)))) rfl rfl (hS.aliveC (k := 0) rfl) (Light.quiet (kAt hS (j := 0) rfl rfl aggA_3 rfl rfl)) ?_
  refine ARL.q0 (v := (.int .i64 (shr .i64 ((W (((W (p0.h * 6364136223846793005))) + 1442695040888963407))) 45))) rfl rfl (Light.quiet (opShr rfl rfl rfl (by decide) rfl)) ?_
  refine ARL.q0 (v := (.int .i64 (bXor .i64 ((shr .i64 ((W (((W (p0.h * 6364136223846793005))) + 1442695040888963407))) 33)) ((shr .i64 ((W (((W (p0.h * 6364136223846793005))) + 1442695040888963407))) 45))))) rfl rfl (Light.quiet (opInt rfl rfl rfl rfl)) ?_
  refine ARL.q0 (v := (.int .i64 (bAnd .i64 ((bXor .i64 ((shr .i64 ((W (((W (p0.h * 6364136223846793005))) + 1442695040888963407))) 33)) ((shr .i64 ((W (((W (p0.h * 6364136223846793005))) + 1442695040888963407))) 45)))) 255))) rfl rfl (Light.quiet (opInt rfl rfl rfl rfl)) ?_
  refine ARL.q0 (v := (.int .i64 (bAnd .i64 ((bXor .i64 ((shr .i64 ((W (((W (p0.h * 6364136223846793005))) + 1442695040888963407))) 33)) ((shr .i64 ((W (((W (p0.h * 6364136223846793005))) + 1442695040888963407))) 45)))) 255))) rfl rfl (Light.quiet (opAssign rfl rfl)) ?_
  refine ARL.done ?_
  refine AWP.seq ?_
  refine AWP.seqD [(0, false), (1, false), (2, false), (3, false), (4, false), (5, false), (6, false), (7, false), (8, false), (9, false)] mixed (by kernel_rfl) rfl ?_
  refine ARL.q0 (v := (.ptr bp0 0)) rfl rfl (Light.quiet (opMove rfl rfl)) ?_
  refine ARL.q0 (v := (.ptr bp0 0)) rfl rfl (Light.quiet (opNil rfl rfl rfl)) ?_
  refine ARL.q0 (v := (.ptr bp0 1)) rfl rfl (Light.quiet (opFieldAddr rfl fieldA_105_1 rfl rfl)) ?_
  refine ARL.q (v := (.int .i64 p0.i)) rfl rfl (hS.aliveC (k := 0) rfl) (Light.quiet (kAt hS (j := 0) rfl rfl aggA_3 rfl rfl)) ?_
  refine ARL.q0 (v := (.ptr bp0 0)) rfl rfl (Light.quiet (opMove rfl rfl)) ?_
  refine ARL.q0 (v := (.ptr bp0 0)) rfl rfl (Light.quiet (opNil rfl rfl rfl)) ?_
  refine ARL.q0 (v := (.ptr bp0 0)) rfl rfl (Light.quiet (opFieldAddr rfl fieldA_105_0 rfl rfl)) ?_
  refine ARL.q (v := (.list 1 (List.map (AV.int .u8) p0.b))) rfl rfl (hS.aliveC (k := 0) rfl) (Light.quiet (kAt hS (j := 0) rfl rfl aggA_22 rfl rfl)) ?_
  refine ARL.q0 (v := (.int .i64 (p0.b.length : Int))) rfl rfl (Light.quiet (opLenMap (f := (AV.int .u8)) rfl rfl rfl lenT_22 rfl)) ?_
  refine ARL.q0 (v := (.bool (decide (p0.i < ((p0.b.length : Int)))))) rfl rfl (Light.quiet (opInt rfl rfl rfl rfl)) ?_
  refine ARL.done ?_
  refine AWP.ifP hF rfl (fun hc3 hF => ?_) (fun hc3 hF => ?_)
  · skip
    refine AWP.seqD [(0, false), (1, false), (2, false), (3, false), (4, false), (5, false), (6, false), (7, false), (8, false), (9, false), (10, false), (11, false), (12, false), (13, false), (14, false)] mixed (by kernel_rfl) rfl ?_
    refine ARL.q0 (v := (.int .i64 (bAnd .i64 ((bXor .i64 ((shr .i64 ((W (((W (p0.h * 6364136223846793005))) + 1442695040888963407))) 33)) ((shr .i64 ((W (((W (p0.h * 6364136223846793005))) + 1442695040888963407))) 45)))) 255))) rfl rfl (Light.quiet (opMove rfl rfl)) ?_
    refine ARL.q0 (v := (.ptr bp0 0)) rfl rfl (Light.quiet (opMove rfl rfl)) ?_
    refine ARL.q0 (v := (.ptr bp0 0)) rfl rfl (Light.quiet (opNil rfl rfl rfl)) ?_
    refine ARL.q0 (v := (.ptr bp0 0)) rfl rfl (Light.quiet (opFieldAddr rfl fieldA_105_0 rfl rfl)) ?_
    refine ARL.q (v := (.list 1 (List.map (AV.int .u8) p0.b))) rfl rfl (hS.aliveC (k := 0) rfl) (Light.quiet (kAt hS (j := 0) rfl rfl aggA_22 rfl rfl)) ?_
    refine ARL.q0 (v := (.ptr bp0 0)) rfl rfl (Light.quiet (opMove rfl rfl)) ?_
    refine ARL.q0 (v := (.ptr bp0 0)) rfl rfl (Light.quiet (opNil rfl rfl rfl)) ?_
    refine ARL.q0 (v := (.ptr bp0 1)) rfl rfl (Light.quiet (opFieldAddr rfl fieldA_105_1 rfl rfl)) ?_
    refine ARL.q (v := (.int .i64 p0.i)) rfl rfl (hS.aliveC (k := 0) rfl) (Light.quiet (kAt hS (j := 0) rfl rfl aggA_3 rfl rfl)) ?_
    obtain ⟨a44, ha44, hF⟩ := bindE hF
    refine ARL.q0 (v := (.rptr [(.int .u8 a44)])) rfl rfl (Light.quiet (kIx (f := (AV.int .u8)) ha44 rfl rfl rfl elemA_22 sizeA_5 rfl)) ?_
    refine ARL.q0 (v := (.int .u8 a44)) rfl rfl (Light.quiet (opLoadR rfl aggA_5 rfl rfl)) ?_
    refine ARL.q0 (v := (.int .i64 (IntKind.i64.wrap a44))) rfl rfl (Light.quiet (opConv rfl rfl und_5 und_3 rfl)) ?_
    refine ARL.q0 (v := (.int .i64 (W (((bAnd .i64 ((bXor .i64 ((shr .i64 ((W (((W (p0.h * 6364136223846793005))) + 1442695040888963407))) 33)) ((shr .i64 ((W (((W (p0.h * 6364136223846793005))) + 1442695040888963407))) 45)))) 255)) + ((IntKind.i64.wrap a44)))))) rfl rfl (Light.quiet (opInt rfl rfl rfl rfl)) ?_
    refine ARL.q0 (v := (.int .i64 (bAnd .i64 ((W (((bAnd .i64 ((bXor .i64 ((shr .i64 ((W (((W (p0.h * 6364136223846793005))) + 1442695040888963407))) 33)) ((shr .i64 ((W (((W (p0.h * 6364136223846793005))) + 1442695040888963407))) 45)))) 255)) + ((IntKind.i64.wrap a44))))) 255))) rfl rfl (Light.quiet (opInt rfl rfl rfl rfl)) ?_
    refine ARL.q0 (v := (.int .i64 (bAnd .i64 ((W (((bAnd .i64 ((bXor .i64 ((shr .i64 ((W (((W (p0.h * 6364136223846793005))) + 1442695040888963407))) 33)) ((shr .i64 ((W (((W (p0.h * 6364136223846793005))) + 1442695040888963407))) 45)))) 255)) + ((IntKind.i64.wrap a44))))) 255))) rfl rfl (Light.quiet (opAssign rfl rfl)) ?_
    refine ARL.done ?_
    refine AWP.lastR rfl ?_
    refine ASL.q (v := (.ptr bp0 0)) rfl rfl (Light.quiet (opMove rfl rfl)) ?_
    refine ASL.q (v := (.ptr bp0 0)) rfl rfl (Light.quiet (opMove rfl rfl)) ?_
    refine ASL.q (v := (.ptr bp0 0)) rfl rfl (Light.quiet (opNil rfl rfl rfl)) ?_
    refine ASL.q (v := (.ptr bp0 1)) rfl rfl (Light.quiet (opFieldAddr rfl fieldA_105_1 rfl rfl)) ?_
    refine ASL.q (v := (.int .i64 p0.i)) rfl rfl (Light.quiet (kAt hS (j := 0) rfl rfl aggA_3 rfl rfl)) ?_
    refine ASL.q (v := (.int .i64 (W (p0.i + 1)))) rfl rfl (Light.quiet (opInt rfl rfl rfl rfl)) ?_
    refine ASL.q (v := (.ptr bp0 0)) rfl rfl (Light.quiet (opNil rfl rfl rfl)) ?_
    refine ASL.q (v := (.ptr bp0 1)) rfl rfl (Light.quiet (opFieldAddr rfl fieldA_105_1 rfl rfl)) ?_
    refine ASL.n rfl rfl (hPut hS (j := 0) rfl rfl sizeA_3 rfl rfl rfl (nlt rfl) ?_); rintro G4 hS
    refine ASL.done ?_
    refine QThen.nrm ?_
    refine AWP.seqR rfl ?_
    refine ASL.q (v := (.int .i64 (bAnd .i64 ((W (((bAnd .i64 ((bXor .i64 ((shr .i64 ((W (((W (p0.h * 6364136223846793005))) + 1442695040888963407))) 33)) ((shr .i64 ((W (((W (p0.h * 6364136223846793005))) + 1442695040888963407))) 45)))) 255)) + ((IntKind.i64.wrap a44))))) 255))) rfl rfl (Light.quiet (opMove rfl rfl)) ?_
    refine ASL.q (v := (.int .i64 (bAnd .i64 ((W (((bAnd .i64 ((bXor .i64 ((shr .i64 ((W (((W (p0.h * 6364136223846793005))) + 1442695040888963407))) 33)) ((shr .i64 ((W (((W (p0.h * 6364136223846793005))) + 1442695040888963407))) 45)))) 255)) + ((IntKind.i64.wrap a44))))) 255))) rfl rfl (Light.quiet (opAssign rfl rfl)) ?_
    refine ASL.done ?_
    refine AWP.ret ?_
    obtain rfl := someE hF
    exact QRet.sole (v := (.int .i64 (bAnd .i64 ((W (((bAnd .i64 ((bXor .i64 ((shr .i64 ((W (((W (p0.h * 6364136223846793005))) + 1442695040888963407))) 33)) ((shr .i64 ((W (((W (p0.h * 6364136223846793005))) + 1442695040888963407))) 45)))) 255)) + ((IntKind.i64.wrap a44))))) 255))) ⟨rfl, trivial⟩ ⟨_, ⟨rfl, rfl⟩, hS.pick [0, 1] rfl rfl⟩
  · skip
    refine AWP.skip ?_
    refine QThen.nrm ?_
    refine AWP.seqR rfl ?_
    refine ASL.q (v := (.int .i64 (bAnd .i64 ((bXor .i64 ((shr .i64 ((W (((W (p0.h * 6364136223846793005))) + 1442695040888963407))) 33)) ((shr .i64 ((W (((W (p0.h * 6364136223846793005))) + 1442695040888963407))) 45)))) 255))) rfl rfl (Light.quiet (opMove rfl rfl)) ?_
    refine ASL.q (v := (.int .i64 (bAnd .i64 ((bXor .i64 ((shr .i64 ((W (((W (p0.h * 6364136223846793005))) + 1442695040888963407))) 33)) ((shr .i64 ((W (((W (p0.h * 6364136223846793005))) + 1442695040888963407))) 45)))) 255))) rfl rfl (Light.quiet (opAssign rfl rfl)) ?_
    refine ASL.done ?_
    refine AWP.ret ?_
    obtain rfl := someE hF
    exact QRet.sole (v := (.int .i64 (bAnd .i64 ((bXor .i64 ((shr .i64 ((W (((W (p0.h * 6364136223846793005))) + 1442695040888963407))) 33)) ((shr .i64 ((W (((W (p0.h * 6364136223846793005))) + 1442695040888963407))) 45)))) 255))) ⟨rfl, trivial⟩ ⟨_, ⟨rfl, rfl⟩, hS.pick [0, 1] rfl rfl⟩

set_option maxRecDepth 10000 in
theorem spec_l1Below_ok {p0 : Tl1Cur} {p1 : Int} {r : (Int × Tl1Cur)} {bp0 : Nat} (hF : spec_l1Below p0 p1 = some r) : HS Try.prog 97 [(.ptr bp0 0), (.int .i64 p1)] [.cell bp0 [(.list 1 (List.map (AV.int .u8) p0.b)), (.int .i64 p0.i), (.int .i64 p0.h)]] fun v L' => v = (.int .i64 r.1) ∧ L' = [.cell bp0 [(.list 1 (List.map (AV.int .u8) r.2.b)), (.int .i64 r.2.i), (.int .i64 r.2.h)]] := by
  intro H S hS
  refine HC.enter Try.func97 rfl Try.ntmps97 (by simp) ?_
  simp only [List.cons_append, List.nil_append] at hS
  unfold spec_l1Below at hF
  refine AWP.seqR rfl ?_
  refine ASL.q (v := (.int .i64 0)) rfl rfl (Light.quiet (opAssign rfl rfl)) ?_
  refine ASL.done ?_
  refine AWP.seq ?_
  refine AWP.seqR rfl ?_
  refine ASL.q (v := (.int .i64 p1)) rfl rfl (Light.quiet (opMove rfl rfl)) ?_
  refine ASL.q (v := (.bool (decide (p1 ≤ 0)))) rfl rfl (Light.quiet (opInt rfl rfl rfl rfl)) ?_
  refine ASL.done ?_
  refine AWP.ifP hF rfl (fun hc2 hF => ?_) (fun hc2 hF => ?_)
  · skip
    refine AWP.seqR rfl ?_
    refine ASL.q (v := (.int .i64 0)) rfl rfl (Light.quiet (opAssign rfl rfl)) ?_
    refine ASL.done ?_
    refine AWP.ret ?_
    refine QThen.rt ?_
    obtain rfl := someE hF
    exact QRet.sole (v := (.int .i64 0)) ⟨rfl, trivial⟩ ⟨_, ⟨rfl, rfl⟩, hS.pick [0, 1] rfl rfl⟩
  · skip
    refine AWP.skip ?_
    refine QThen.nrm ?_
    refine AWP.seq ?_
    refine AWP.seqR rfl ?_
    refine ASL.q (v := (.int .i64 p1)) rfl rfl (Light.quiet (opMove rfl rfl)) ?_
    refine ASL.q (v := (.bool (decide (p1 ≤ 256)))) rfl rfl (Light.quiet (opInt rfl rfl rfl rfl)) ?_
    refine ASL.done ?_
    refine AWP.ifP hF rfl (fun hc3 hF => ?_) (fun hc3 hF => ?_)
    · skip
      refine AWP.seqR rfl ?_
      refine ASL.q (v := (.ptr bp0 0)) rfl rfl (Light.quiet (opMove rfl rfl)) ?_
      obtain ⟨a14, ha14, hF⟩ := bindE hF
      refine ASL.x rfl rfl (hCallS hS [0, 1] (F := [.snap S]) rfl rfl rfl call_117 (spec_l1Byte_ok ha14) rfl rfl ?_); rintro _ _ G4 ⟨rfl, rfl⟩ hS
      refine ASL.q (v := (.int .i64 p1)) rfl rfl (Light.quiet (opMove rfl rfl)) ?_
      obtain ⟨u5, hu5, hF⟩ := bindE hF
      refine ASL.q (v := (.int .i64 (Int.tmod a14.1 p1))) rfl rfl (Light.quiet (opRem rfl rfl rfl (of_decide_eq_true (chkE hu5)) rfl)) ?_
      refine ASL.q (v := (.int .i64 (Int.tmod a14.1 p1))) rfl rfl (Light.quiet (opAssign rfl rfl)) ?_
      refine ASL.done ?_
      refine AWP.ret ?_
      refine QThen.rt ?_
      obtain rfl := someE hF
      exact QRet.sole (v := (.int .i64 (Int.tmod a14.1 p1))) ⟨rfl, trivial⟩ ⟨_, ⟨rfl, rfl⟩, hS.pick [0, 1] rfl rfl⟩
    · skip
      refine AWP.skip ?_
      refine QThen.nrm ?_
      refine AWP.seqR rfl ?_
      refine ASL.q (v := (.ptr bp0 0)) rfl rfl (Light.quiet (opMove rfl rfl)) ?_
      obtain ⟨a18, ha18, hF⟩ := bindE hF
      refine ASL.x rfl rfl (hCallS hS [0, 1] (F := [.snap S]) rfl rfl rfl call_117 (spec_l1Byte_ok ha18) rfl rfl ?_); rintro _ _ G6 ⟨rfl, rfl⟩ hS
      refine ASL.q (v := (.int .i64 a18.1)) rfl rfl (Light.quiet (opAssign rfl rfl)) ?_
      refine ASL.done ?_
      refine AWP.seqR rfl ?_
      refine ASL.q (v := (.ptr bp0 0)) rfl rfl (Light.quiet (opMove rfl rfl)) ?_
      obtain ⟨a20, ha20, hF⟩ := bindE hF
      refine ASL.x rfl rfl (hCallS hS [0, 1] (F := [.snap S]) rfl rfl rfl call_117 (spec_l1Byte_ok ha20) rfl rfl ?_); rintro _ _ G7 ⟨rfl, rfl⟩ hS
      refine ASL.q (v := (.int .i64 a20.1)) rfl rfl (Light.quiet (opAssign rfl rfl)) ?_
      refine ASL.done ?_
      refine AWP.seqR rfl ?_
      refine ASL.q (v := (.ptr bp0 0)) rfl rfl (Light.quiet (opMove rfl rfl)) ?_
      obtain ⟨a22, ha22, hF⟩ := bindE hF
      refine ASL.x rfl rfl (hCallS hS [0, 1] (F := [.snap S]) rfl rfl rfl call_117 (spec_l1Byte_ok ha22) rfl rfl ?_); rintro _ _ G8 ⟨rfl, rfl⟩ hS
      refine ASL.q (v := (.int .i64 a22.1)) rfl rfl (Light.quiet (opAssign rfl rfl)) ?_
      refine ASL.done ?_
      refine AWP.seqR rfl ?_
      refine ASL.q (v := (.ptr bp0 0)) rfl rfl (Light.quiet (opMove rfl rfl)) ?_
      obtain ⟨a24, ha24, hF⟩ := bindE hF
      refine ASL.x rfl rfl (hCallS hS [0, 1] (F := [.snap S]) rfl rfl rfl call_117 (spec_l1Byte_ok ha24) rfl rfl ?_); rintro _ _ G9 ⟨rfl, rfl⟩ hS
      refine ASL.q (v := (.int .i64 a24.1)) rfl rfl (Light.quiet (opAssign rfl rfl)) ?_
      refine ASL.done ?_
      refine AWP.seqR rfl ?_
      refine ASL.q (v := (.int .i64 a18.1)) rfl rfl (Light.quiet (opMove rfl rfl)) ?_
      refine ASL.q (v := (.int .i64 (W (a18.1 * 16777216)))) rfl rfl (Light.quiet (opInt rfl rfl rfl rfl)) ?_
      refine ASL.q (v := (.int .i64 a20.1)) rfl rfl (Light.quiet (opMove rfl rfl)) ?_
      refine ASL.q (v := (.int .i64 (W (a20.1 * 65536)))) rfl rfl (Light.quiet (opInt rfl rfl rfl rfl)) ?_
      refine ASL.q (v := (.int .i64 (W (((W (a18.1 * 16777216))) + ((W (a20.1 * 65536))))))) rfl rfl (Light.quiet (opInt rfl rfl rfl rfl)) ?_
      refine ASL.q (v := (.int .i64 a22.1)) rfl rfl (Light.quiet (opMove rfl rfl)) ?_
      refine ASL.q (v := (.int .i64 (W (a22.1 * 256)))) rfl rfl (Light.quiet (opInt rfl rfl rfl rfl)) ?_
      refine ASL.q (v := (.int .i64 (W (((W (((W (a18.1 * 16777216))) + ((W (a20.1 * 65536)))))) + ((W (a22.1 * 256))))))) rfl rfl (Light.quiet (opInt rfl rfl rfl rfl)) ?_
      refine ASL.q (v := (.int .i64 a24.1)) rfl rfl (Light.quiet (opMove rfl rfl)) ?_
      refine ASL.q (v := (.int .i64 (W (((W (((W (((W (a18.1 * 16777216))) + ((W (a20.1 * 65536)))))) + ((W (a22.1 * 256)))))) + a24.1)))) rfl rfl (Light.quiet (opInt rfl rfl rfl rfl)) ?_
      refine ASL.q (v := (.int .i64 p1)) rfl rfl (Light.quiet (opMove rfl rfl)) ?_
      obtain ⟨u10, hu10, hF⟩ := bindE hF
      refine ASL.q (v := (.int .i64 (Int.tmod ((W (((W (((W (((W (a18.1 * 16777216))) + ((W (a20.1 * 65536)))))) + ((W (a22.1 * 256)))))) + a24.1))) p1))) rfl rfl (Light.quiet (opRem rfl rfl rfl (of_decide_eq_true (chkE hu10)) rfl)) ?_
      refine ASL.q (v := (.int .i64 (Int.tmod ((W (((W (((W (((W (a18.1 * 16777216))) + ((W (a20.1 * 65536)))))) + ((W (a22.1 * 256)))))) + a24.1))) p1))) rfl rfl (Light.quiet (opAssign rfl rfl)) ?_
      refine ASL.done ?_
      refine AWP.ret ?_
      obtain rfl := someE hF
      exact QRet.sole (v := (.int .i64 (Int.tmod ((W (((W (((W (((W (a18.1 * 16777216))) + ((W (a20.1 * 65536)))))) + ((W (a22.1 * 256)))))) + a24.1))) p1))) ⟨rfl, trivial⟩ ⟨_, ⟨rfl, rfl⟩, hS.pick [0, 1] rfl rfl⟩

set_option maxRecDepth 10000 in
theorem spec_l1PickInt_ok {p0 : Tl1Cur} {p1 : (List Int)} {r : (Int × Tl1Cur)} {bp0 : Nat} (hF : spec_l1PickInt p0 p1 = some r) : HS Try.prog 51 [(.ptr bp0 0), (.list 1 (List.map (AV.int .i64) p1))] [.cell bp0 [(.list 1 (List.map (AV.int .u8) p0.b)), (.int .i64 p0.i), (.int .i64 p0.h)]] fun v L' => v = (.int .i64 r.1) ∧ L' = [.cell bp0 [(.list 1 (List.map (AV.int .u8) r.2.b)), (.int .i64 r.2.i), (.int .i64 r.2.h)]] := by
  intro H S hS
  refine HC.enter Try.func51 rfl Try.ntmps51 (by simp) ?_
  simp only [List.cons_append, List.nil_append] at hS
  unfold spec_l1PickInt at hF
  refine AWP.seqR rfl ?_
  refine ASL.q (v := (.int .i64 0)) rfl rfl (Light.quiet (opAssign rfl rfl)) ?_
  refine ASL.done ?_
  refine AWP.seqR rfl ?_
  refine ASL.q (v := (.list 1 (List.map (AV.int .i64) p1))) rfl rfl (Light.quiet (opMove rfl rfl)) ?_
  refine ASL.q (v := (.ptr bp0 0)) rfl rfl (Light.quiet (opMove rfl rfl)) ?_
  refine ASL.q (v := (.list 1 (List.map (AV.int .i64) p1))) rfl rfl (Light.quiet (opMove rfl rfl)) ?_
  refine ASL.q (v := (.int .i64 (p1.length : Int))) rfl rfl (Light.quiet (opLenMap (f := (AV.int .i64)) rfl rfl rfl lenT_32 rfl)) ?_
  obtain ⟨a9, ha9, hF⟩ := bindE hF
  refine ASL.x rfl rfl (hCallS hS [0, 1] (F := [.snap S]) rfl rfl rfl call_97 (spec_l1Below_ok ha9) rfl rfl ?_); rintro _ _ G2 ⟨rfl, rfl⟩ hS
  obtain ⟨a10, ha10, hF⟩ := bindE hF
  refine ASL.q (v := (.rptr [(.int .i64 a10)])) rfl rfl (Light.quiet (kIx (f := (AV.int .i64)) ha10 rfl rfl rfl elemA_32 sizeA_3 rfl)) ?_
  refine ASL.q (v := (.int .i64 a10)) rfl rfl (Light.quiet (opLoadR rfl aggA_3 rfl rfl)) ?_
  refine ASL.q (v := (.int .i64 a10)) rfl rfl (Light.quiet (opAssign rfl rfl)) ?_
  refine ASL.done ?_
  refine AWP.ret ?_
  obtain rfl := someE hF
  exact QRet.sole (v := (.int .i64 a10)) ⟨rfl, trivial⟩ ⟨_, ⟨rfl, rfl⟩, hS.pick [0, 1] rfl rfl⟩

set_option maxRecDepth 10000 in
theorem spec_l8Temporal_ok {p0 : (List TNode)} {r : (List Int)} (hF : spec_l8Temporal p0 = some r) : PO Try.prog 63 [(.list 3 (List.map TNode.av p0))] 1 (List.map (AV.int .i64) r) := by
  refine HC.enter Try.func63 rfl Try.ntmps63 (by simp) ?_
  have hS := Sep.void; unfold spec_l8Temporal at hF
  refine AWP.seqR rfl ?_
  have hS := hNil (s := 1) (f := (AV.int .i64)) hS
  refine ASL.q (v := .nil) rfl rfl (Light.quiet (opAssign rfl rfl)) ?_
  refine ASL.done ?_
  refine AWP.seqR rfl ?_
  refine ASL.x rfl rfl (hLit (f := (AV.int .i64)) (zs := []) hS rfl rfl elemA_32 sizeA_3 zeroA_3 rfl rfl rfl rfl (by simp [cells]) (nlt rfl) ?_); rintro v5 G2 hK hS
  refine ASL.q (v := v5) rfl rfl (Light.quiet (opAssign rfl rfl)) ?_
  refine ASL.done ?_
  refine AWP.seqM (fun e H => ∃ y4 : (List Int), ∃ w5 : AV, E.Told e [(3, w5)] ∧ E.Sep H [.row 1 w5 (List.map (AV.int .i64) y4)] ∧ spec_l8Temporal.k0 y4 = some r) ?_ ?_
  · rintro e0 G7 ⟨y4, w5, hT, hS, hF⟩; refine AWP.only _ hT ?_; unfold spec_l8Temporal.k0 at hF
    refine AWP.seqR rfl ?_
    refine ASL.q (v := w5) rfl rfl (Light.quiet (opMove rfl rfl)) ?_
    refine ASL.q (v := w5) rfl rfl (Light.quiet (opAssign rfl rfl)) ?_
    refine ASL.done ?_
    refine AWP.ret ?_
    obtain rfl := someE hF
    exact QRet.sole (v := w5) ⟨rfl, trivial⟩ (hS.get (k := 0) rfl)
  · skip
    refine AWP.seqR rfl ?_
    refine ASL.q (v := (.int .i64 0)) rfl rfl (Light.quiet (opAssign rfl rfl)) ?_
    refine ASL.done ?_
    refine AWP.block ?_
    obtain ⟨o14, hL13, hR15⟩ := bindE hF
    refine AWP.loopF (ω := AV) hL13 (fun s w => [(0, (.list 3 (List.map TNode.av p0))), (3, w), (4, (.int .i64 s.2))]) (fun s w => [.row 1 w (List.map (AV.int .i64) s.1)]) v5 ⟨rfl, rfl, rfl, trivial⟩ (hS.pick [0] rfl rfl) ?_
    rintro ⟨y8, x4_l0⟩ w9 G16 hS x11 hF hx12
    try dsimp only at hS ⊢
    have hF : spec_l8Temporal.b0 p0 y8 x4_l0 = some x11 := hF; unfold spec_l8Temporal.b0 at hF
    refine AWP.seq ?_
    refine AWP.seqR rfl ?_
    refine ASL.q (v := (.int .i64 x4_l0)) rfl rfl (Light.quiet (opMove rfl rfl)) ?_
    refine ASL.q (v := (.list 3 (List.map TNode.av p0))) rfl rfl (Light.quiet (opMove rfl rfl)) ?_
    refine ASL.q (v := (.int .i64 (p0.length : Int))) rfl rfl (Light.quiet (opLenMap (f := TNode.av) rfl rfl rfl lenT_24 rfl)) ?_
    refine ASL.q (v := (.bool (decide (x4_l0 < ((p0.length : Int)))))) rfl rfl (Light.quiet (opInt rfl rfl rfl rfl)) ?_
    refine ASL.done ?_
    refine AWP.ifP hF rfl (fun hc17 hF => ?_) (fun hc17 hF => ?_)
    · skip
      refine AWP.skip ?_
      refine QThen.nrm ?_
      refine AWP.seq ?_
      refine AWP.block ?_
      refine AWP.seqR rfl ?_
      refine ASL.q (v := (.list 3 (List.map TNode.av p0))) rfl rfl (Light.quiet (opMove rfl rfl)) ?_
      refine ASL.q (v := (.int .i64 x4_l0)) rfl rfl (Light.quiet (opMove rfl rfl)) ?_
      obtain ⟨a14, ha14, hF⟩ := bindE hF
      refine ASL.q (v := (.rptr [(.int .i64 a14.kind), (.int .i64 a14.a), (.int .i64 a14.b)])) rfl rfl (Light.quiet (kIx (f := TNode.av) ha14 rfl rfl rfl elemA_24 sizeA_59 rfl)) ?_
      refine ASL.q (v := (.rptr [(.int .i64 a14.kind), (.int .i64 a14.a), (.int .i64 a14.b)])) rfl rfl (Light.quiet (opFieldAddrR rfl fieldA_59_0 rfl rfl)) ?_
      refine ASL.q (v := (.int .i64 a14.kind)) rfl rfl (Light.quiet (opLoadR rfl aggA_3 rfl rfl)) ?_
      refine ASL.q (v := (.bool (decide (a14.kind ≥ 7)))) rfl rfl (Light.quiet (opInt rfl rfl rfl rfl)) ?_
      refine ASL.done ?_
      refine AWP.ifP hF rfl (fun hc18 hF => ?_) (fun hc18 hF => ?_)
      · skip
        refine AWP.lastR rfl ?_
        refine ASL.q (v := w9) rfl rfl (Light.quiet (opMove rfl rfl)) ?_
        refine ASL.q (v := (.int .i64 x4_l0)) rfl rfl (Light.quiet (opMove rfl rfl)) ?_
        refine ASL.q (v := (.list 1 (List.map (AV.int .i64) [x4_l0]))) rfl rfl ((qLit (xs := [(.int .i64 x4_l0)]) rfl elemA_32 sizeA_3 zeroA_3 rfl rfl rfl rfl (by simp [cells]) (nlt rfl))) ?_
        obtain ⟨z21, hz21, hF⟩ := bindE hF
        refine ASL.x rfl rfl (hApp (f := (AV.int .i64)) (ws := [x4_l0]) hS (j := 0) rfl hz21 rfl elemA_32 rfl sizeA_3 bytesA_3 zeroA_3 rfl rfl rfl (fun _ => rfl) ?_); rintro v21 G19 hS
        refine ASL.q (v := v21) rfl rfl (Light.quiet (opAssign rfl rfl)) ?_
        refine ASL.done ?_
        refine QBlock.nrm ?_
        refine QThen.nrm ?_
        refine AWP.lastR rfl ?_
        refine ASL.q (v := (.int .i64 x4_l0)) rfl rfl (Light.quiet (opMove rfl rfl)) ?_
        refine ASL.q (v := (.int .i64 (W (x4_l0 + 1)))) rfl rfl (Light.quiet (opInt rfl rfl rfl rfl)) ?_
        refine ASL.q (v := (.int .i64 (W (x4_l0 + 1)))) rfl rfl (Light.quiet (opAssign rfl rfl)) ?_
        refine ASL.done ?_
        refine QThen.nrm ?_
        exact ⟨(z21, (W (x4_l0 + 1))), v21, (someE hF).symm, ⟨rfl, rfl, rfl, trivial⟩, (hS.pick [0] rfl rfl)⟩
      · skip
        refine AWP.skip ?_
        refine QBlock.nrm ?_
        refine QThen.nrm ?_
        refine AWP.lastR rfl ?_
        refine ASL.q (v := (.int .i64 x4_l0)) rfl rfl (Light.quiet (opMove rfl rfl)) ?_
        refine ASL.q (v := (.int .i64 (W (x4_l0 + 1)))) rfl rfl (Light.quiet (opInt rfl rfl rfl rfl)) ?_
        refine ASL.q (v := (.int .i64 (W (x4_l0 + 1)))) rfl rfl (Light.quiet (opAssign rfl rfl)) ?_
        refine ASL.done ?_
        refine QThen.nrm ?_
        exact ⟨(y8, (W (x4_l0 + 1))), w9, (someE hF).symm, ⟨rfl, rfl, rfl, trivial⟩, (hS.pick [0] rfl rfl)⟩
    · skip
      refine AWP.exit ?_
      refine QThen.ext ?_
      refine QThen.ext ?_
      refine QBlock.hit ?_
      obtain rfl := (hx12 _ (someE hF).symm)
      have hF := hR15
      refine QThen.nrm ?_
      exact ⟨y8, w9, ⟨rfl, trivial⟩, (hS.pick [0] rfl rfl), hF⟩

set_option maxRecDepth 10000 in
theorem spec_l8Two_ok {p0 : (List TNode)} {p1 : Int} {p2 : Int} {r : (List TNode)} {vp0 : AV} (hF : spec_l8Two p0 p1 p2 = some r) : HS Try.prog 58 [vp0, (.int .i64 p1), (.int .i64 p2)] [.row 3 vp0 (List.map TNode.av p0)] fun v L' => ∃ o0 : AV, v = o0 ∧ L' = [.row 3 o0 (List.map TNode.av r)] := by
  intro H S hS
  refine HC.enter Try.func58 rfl Try.ntmps58 (by simp) ?_
  simp only [List.cons_append, List.nil_append] at hS
  unfold spec_l8Two at hF
  refine AWP.seqR rfl ?_
  have hS := hNil (s := 3) (f := TNode.av) hS
  refine ASL.q (v := .nil) rfl rfl (Light.quiet (opAssign rfl rfl)) ?_
  refine ASL.done ?_
  refine AWP.seqR rfl ?_
  refine ASL.q (v := vp0) rfl rfl (Light.quiet (opMove rfl rfl)) ?_
  refine ASL.q (v := (.int .i64 p1)) rfl rfl (Light.quiet (opMove rfl rfl)) ?_
  refine ASL.q (v := (.int .i64 p2)) rfl rfl (Light.quiet (opMove rfl rfl)) ?_
  refine ASL.q (v := vp0) rfl rfl (Light.quiet (opMove rfl rfl)) ?_
  refine ASL.q (v := (.int .i64 (p0.length : Int))) rfl rfl (Light.quiet (kLen hS (j := 1) rfl rfl rfl rfl lenT_24 rfl)) ?_
  refine ASL.q (v := (.int .i64 (W (((p0.length : Int)) - 1)))) rfl rfl (Light.quiet (opInt rfl rfl rfl rfl)) ?_
  refine ASL.q (v := (.agg [(.int .i64 p1), (.int .i64 p2), (.int .i64 (W (((p0.length : Int)) - 1)))])) rfl rfl (Light.quiet (opBuildZ (zs := [(.int .i64 0), (.int .i64 0), (.int .i64 0)]) rfl plan_59 zeroA_59 ⟨.inl rfl, .inl rfl, .inl rfl, trivial⟩ rfl)) ?_
  refine ASL.q (v := (.list 3 (List.map TNode.av [(TNode.mk p1 p2 ((W (((p0.length : Int)) - 1))))]))) rfl rfl ((qLit (xs := [(.agg [(.int .i64 p1), (.int .i64 p2), (.int .i64 (W (((p0.length : Int)) - 1)))])]) rfl elemA_24 sizeA_59 zeroA_59 rfl rfl rfl rfl (by simp [cells, TNode.av]) (nlt rfl))) ?_
  obtain ⟨z15, hz15, hF⟩ := bindE hF
  refine ASL.x rfl rfl (hApp (f := TNode.av) (ws := [(TNode.mk p1 p2 ((W (((p0.length : Int)) - 1))))]) hS (j := 1) rfl hz15 rfl elemA_24 rfl sizeA_59 bytesA_59 zeroA_59 rfl rfl rfl (fun _ => rfl) ?_); rintro v15 G3 hS
  refine ASL.q (v := v15) rfl rfl (Light.quiet (opAssign rfl rfl)) ?_
  refine ASL.done ?_
  refine AWP.ret ?_
  obtain rfl := someE hF
  exact QRet.sole (v := v15) ⟨rfl, trivial⟩ ⟨_, ⟨v15, rfl, rfl⟩, hS.pick [1, 2] rfl rfl⟩

set_option maxRecDepth 10000 in
theorem spec_l8DrawTree.body_ok {p0 : Tl1Cur} {p1 : Int} {p2 : (List TNode)} {p3 : Int} {r : ((List TNode) × Tl1Cur)} {bp0 : Nat} {vp2 : AV} {rec_spec_l8DrawTree : Tl1Cur → Int → (List TNode) → Int → Option ((List TNode) × Tl1Cur)} (ih_spec_l8DrawTree : ∀ {p0 : Tl1Cur} {p1 : Int} {p2 : (List TNode)} {p3 : Int} {r : ((List TNode) × Tl1Cur)} {bp0 : Nat} {vp2 : AV} , rec_spec_l8DrawTree p0 p1 p2 p3 = some r → HS Try.prog 118 [(.ptr bp0 0), (.int .i64 p1), vp2, (.int .i64 p3)] [.cell bp0 [(.list 1 (List.map (AV.int .u8) p0.b)), (.int .i64 p0.i), (.int .i64 p0.h)], .row 3 vp2 (List.map TNode.av p2)] fun v L' => ∃ o0 : AV, v = o0 ∧ L' = [.row 3 o0 (List.map TNode.av r.1), .cell bp0 [(.list 1 (List.map (AV.int .u8) r.2.b)), (.int .i64 r.2.i), (.int .i64 r.2.h)]]) (hF : spec_l8DrawTree.body rec_spec_l8DrawTree p0 p1 p2 p3 = some r) : HS Try.prog 118 [(.ptr bp0 0), (.int .i64 p1), vp2, (.int .i64 p3)] [.cell bp0 [(.list 1 (List.map (AV.int .u8) p0.b)), (.int .i64 p0.i), (.int .i64 p0.h)], .row 3 vp2 (List.map TNode.av p2)] fun v L' => ∃ o0 : AV, v = o0 ∧ L' = [.row 3 o0 (List.map TNode.av r.1), .cell bp0 [(.list 1 (List.map (AV.int .u8) r.2.b)), (.int .i64 r.2.i), (.int .i64 r.2.h)]] := by
  intro H S hS
  refine HC.enter Try.func118 rfl Try.ntmps118 (by simp) ?_
  simp only [List.cons_append, List.nil_append] at hS
  unfold spec_l8DrawTree.body at hF
  refine AWP.seqR rfl ?_
  have hS := hNil (s := 3) (f := TNode.av) hS
  refine ASL.q (v := .nil) rfl rfl (Light.quiet (opAssign rfl rfl)) ?_
  refine ASL.done ?_
  refine AWP.seqR rfl ?_
  refine ASL.q (v := (.ptr bp0 0)) rfl rfl (Light.quiet (opMove rfl rfl)) ?_
  obtain ⟨a13, ha13, hF⟩ := bindE hF
  refine ASL.x rfl rfl (hCallS hS [1, 0, 2, 3] (F := [.row 3 .nil (List.map TNode.av ([])), .row 3 vp2 (List.map TNode.av p2), .snap S]) rfl rfl rfl call_97 (spec_l1Below_ok ha13) rfl rfl ?_); rintro _ _ G4 ⟨rfl, rfl⟩ hS
  refine ASL.q (v := (.int .i64 a13.1)) rfl rfl (Light.quiet (opAssign rfl rfl)) ?_
  refine ASL.done ?_
  refine AWP.seqM (fun e H => ∃ y5 : (List Int), ∃ y6 : Int, ∃ y7 : Int, ∃ x9_1 : Int, E.Told e [(0, (.ptr bp0 0)), (1, (.int .i64 p1)), (2, vp2), (3, (.int .i64 p3)), (9, (.int .i64 x9_1))] ∧ E.Sep H [.cell bp0 [(.list 1 (List.map (AV.int .u8) y5)), (.int .i64 y6), (.int .i64 y7)], .row 3 vp2 (List.map TNode.av p2), .snap S] ∧ spec_l8DrawTree.k0 p2 p3 rec_spec_l8DrawTree p1 y5 y6 y7 x9_1 = some r) ?_ ?_
  · rintro e0 G47 ⟨y5, y6, y7, x9_1, hT, hS, hF⟩; refine AWP.only _ hT ?_; unfold spec_l8DrawTree.k0 at hF
    refine AWP.seqM (fun e H => ∃ x9_2 : Int, E.Told e [(0, (.ptr bp0 0)), (1, (.int .i64 p1)), (2, vp2), (3, (.int .i64 p3)), (9, (.int .i64 x9_2))] ∧ E.Sep H [.cell bp0 [(.list 1 (List.map (AV.int .u8) y5)), (.int .i64 y6), (.int .i64 y7)], .row 3 vp2 (List.map TNode.av p2), .snap S] ∧ spec_l8DrawTree.k1 y5 y6 y7 p2 rec_spec_l8DrawTree p1 p3 x9_2 = some r) ?_ ?_
    · rintro e0 G45 ⟨x9_2, hT, hS, hF⟩; refine AWP.only _ hT ?_; unfold spec_l8DrawTree.k1 at hF
      refine AWP.seq ?_
      refine AWP.block ?_
      refine AWP.seqR rfl ?_
      refine ASL.q (v := (.int .i64 x9_2)) rfl rfl (Light.quiet (opMove rfl rfl)) ?_
      refine ASL.q (v := (.bool (decide (x9_2 < 3)))) rfl rfl (Light.quiet (opInt rfl rfl rfl rfl)) ?_
      refine ASL.q (v := (.bool (decide (x9_2 < 3)))) rfl rfl (Light.quiet (opAssign rfl rfl)) ?_
      refine ASL.done ?_
      refine AWP.ifP hF rfl (fun hc8 hF => ?_) (fun hc8 hF => ?_)
      · skip
        refine AWP.seqR rfl ?_
        refine ASL.q (v := vp2) rfl rfl (Light.quiet (opMove rfl rfl)) ?_
        refine ASL.q (v := (.ptr bp0 0)) rfl rfl (Light.quiet (opMove rfl rfl)) ?_
        obtain ⟨a35, ha35, hF⟩ := bindE hF
        refine ASL.x rfl rfl (hCallS hS [0, 1, 2] (F := [.row 3 vp2 (List.map TNode.av p2), .snap S]) rfl rfl rfl call_97 (spec_l1Below_ok ha35) rfl rfl ?_); rintro _ _ G9 ⟨rfl, rfl⟩ hS
        refine ASL.q (v := (.agg [(.int .i64 3), (.int .i64 a35.1), (.int .i64 0)])) rfl rfl (Light.quiet (opBuildZ (zs := [(.int .i64 0), (.int .i64 0), (.int .i64 0)]) rfl plan_59 zeroA_59 ⟨.inl rfl, .inl rfl, .inl rfl, trivial⟩ rfl)) ?_
        refine ASL.q (v := (.list 3 (List.map TNode.av [(TNode.mk 3 a35.1 0)]))) rfl rfl ((qLit (xs := [(.agg [(.int .i64 3), (.int .i64 a35.1), (.int .i64 0)])]) rfl elemA_24 sizeA_59 zeroA_59 rfl rfl rfl rfl (by simp [cells, TNode.av]) (nlt rfl))) ?_
        obtain ⟨z38, hz38, hF⟩ := bindE hF
        refine ASL.x rfl rfl (hApp (f := TNode.av) (ws := [(TNode.mk 3 a35.1 0)]) hS (j := 1) rfl hz38 rfl elemA_24 rfl sizeA_59 bytesA_59 zeroA_59 rfl rfl rfl (fun _ => rfl) ?_); rintro v38 G10 hS
        refine ASL.q (v := v38) rfl rfl (Light.quiet (opAssign rfl rfl)) ?_
        refine ASL.done ?_
        refine AWP.ret ?_
        refine QBlock.ret ?_
        refine QThen.rt ?_
        obtain rfl := someE hF
        exact QRet.sole (v := v38) ⟨rfl, trivial⟩ ⟨_, ⟨v38, rfl, rfl⟩, hS.pick [1, 0, 2] rfl rfl⟩
      · skip
        refine AWP.seqR rfl ?_
        refine ASL.q (v := (.int .i64 x9_2)) rfl rfl (Light.quiet (opMove rfl rfl)) ?_
        refine ASL.q (v := (.bool (decide (x9_2 = 3)))) rfl rfl (Light.quiet (opInt rfl rfl rfl rfl)) ?_
        refine ASL.q (v := (.bool (decide (x9_2 = 3)))) rfl rfl (Light.quiet (opAssign rfl rfl)) ?_
        refine ASL.done ?_
        refine AWP.ifP hF rfl (fun hc12 hF => ?_) (fun hc12 hF => ?_)
        · skip
          refine AWP.seqR rfl ?_
          refine ASL.q (v := vp2) rfl rfl (Light.quiet (opMove rfl rfl)) ?_
          refine ASL.q (v := (.ptr bp0 0)) rfl rfl (Light.quiet (opMove rfl rfl)) ?_
          obtain ⟨a44, ha44, hF⟩ := bindE hF
          refine ASL.x rfl rfl (hCallS hS [0, 1, 2] (F := [.row 3 vp2 (List.map TNode.av p2), .snap S]) rfl rfl rfl call_97 (spec_l1Below_ok ha44) rfl rfl ?_); rintro _ _ G13 ⟨rfl, rfl⟩ hS
          refine ASL.q (v := (.int .i64 (W (1 + a44.1)))) rfl rfl (Light.quiet (opInt rfl rfl rfl rfl)) ?_
          refine ASL.q (v := (.agg [(.int .i64 (W (1 + a44.1))), (.int .i64 0), (.int .i64 0)])) rfl rfl (Light.quiet (opBuildZ (zs := [(.int .i64 0), (.int .i64 0), (.int .i64 0)]) rfl plan_59 zeroA_59 ⟨.inl rfl, .inl rfl, .inl rfl, trivial⟩ rfl)) ?_
          refine ASL.q (v := (.list 3 (List.map TNode.av [(TNode.mk ((W (1 + a44.1))) 0 0)]))) rfl rfl ((qLit (xs := [(.agg [(.int .i64 (W (1 + a44.1))), (.int .i64 0), (.int .i64 0)])]) rfl elemA_24 sizeA_59 zeroA_59 rfl rfl rfl rfl (by simp [cells, TNode.av]) (nlt rfl))) ?_
          obtain ⟨z48, hz48, hF⟩ := bindE hF
          refine ASL.x rfl rfl (hApp (f := TNode.av) (ws := [(TNode.mk ((W (1 + a44.1))) 0 0)]) hS (j := 1) rfl hz48 rfl elemA_24 rfl sizeA_59 bytesA_59 zeroA_59 rfl rfl rfl (fun _ => rfl) ?_); rintro v48 G14 hS
          refine ASL.q (v := v48) rfl rfl (Light.quiet (opAssign rfl rfl)) ?_
          refine ASL.done ?_
          refine AWP.ret ?_
          refine QBlock.ret ?_
          refine QThen.rt ?_
          obtain rfl := someE hF
          exact QRet.sole (v := v48) ⟨rfl, trivial⟩ ⟨_, ⟨v48, rfl, rfl⟩, hS.pick [1, 0, 2] rfl rfl⟩
        · skip
          refine AWP.seqR rfl ?_
          refine ASL.q (v := (.int .i64 x9_2)) rfl rfl (Light.quiet (opMove rfl rfl)) ?_
          refine ASL.q (v := (.bool (decide (x9_2 = 4)))) rfl rfl (Light.quiet (opInt rfl rfl rfl rfl)) ?_
          refine ASL.q (v := (.bool (decide (x9_2 = 4)))) rfl rfl (Light.quiet (opAssign rfl rfl)) ?_
          refine ASL.done ?_
          refine AWP.ifP hF rfl (fun hc16 hF => ?_) (fun hc16 hF => ?_)
          · skip
            refine AWP.seqR rfl ?_
            refine ASL.q (v := (.ptr bp0 0)) rfl rfl (Light.quiet (opMove rfl rfl)) ?_
            refine ASL.q (v := (.int .i64 p1)) rfl rfl (Light.quiet (opMove rfl rfl)) ?_
            refine ASL.q (v := (.int .i64 (W (p1 - 1)))) rfl rfl (Light.quiet (opInt rfl rfl rfl rfl)) ?_
            refine ASL.q (v := vp2) rfl rfl (Light.quiet (opMove rfl rfl)) ?_
            refine ASL.q (v := (.int .i64 p3)) rfl rfl (Light.quiet (opMove rfl rfl)) ?_
            obtain ⟨a57, ha57, hF⟩ := bindE hF
            refine ASL.x rfl rfl (hCallS hS [0, 1, 2] (F := [.snap S]) rfl rfl rfl call_118 (ih_spec_l8DrawTree ha57) rfl rfl ?_); rintro w17 _ G19 ⟨_, rfl, rfl⟩ hS
            refine ASL.q (v := w17) rfl rfl (Light.quiet (opAssign rfl rfl)) ?_
            refine ASL.done ?_
            refine AWP.seqR rfl ?_
            refine ASL.q (v := w17) rfl rfl (Light.quiet (opMove rfl rfl)) ?_
            refine ASL.q (v := w17) rfl rfl (Light.quiet (opMove rfl rfl)) ?_
            refine ASL.q (v := (.int .i64 (a57.1.length : Int))) rfl rfl (Light.quiet (kLen hS (j := 0) rfl rfl rfl rfl lenT_24 rfl)) ?_
            refine ASL.q (v := (.int .i64 (W (((a57.1.length : Int)) - 1)))) rfl rfl (Light.quiet (opInt rfl rfl rfl rfl)) ?_
            refine ASL.q (v := (.agg [(.int .i64 4), (.int .i64 (W (((a57.1.length : Int)) - 1))), (.int .i64 0)])) rfl rfl (Light.quiet (opBuildZ (zs := [(.int .i64 0), (.int .i64 0), (.int .i64 0)]) rfl plan_59 zeroA_59 ⟨.inl rfl, .inl rfl, .inl rfl, trivial⟩ rfl)) ?_
            refine ASL.q (v := (.list 3 (List.map TNode.av [(TNode.mk 4 ((W (((a57.1.length : Int)) - 1))) 0)]))) rfl rfl ((qLit (xs := [(.agg [(.int .i64 4), (.int .i64 (W (((a57.1.length : Int)) - 1))), (.int .i64 0)])]) rfl elemA_24 sizeA_59 zeroA_59 rfl rfl rfl rfl (by simp [cells, TNode.av]) (nlt rfl))) ?_
            obtain ⟨z64, hz64, hF⟩ := bindE hF
            refine ASL.x rfl rfl (hApp (f := TNode.av) (ws := [(TNode.mk 4 ((W (((a57.1.length : Int)) - 1))) 0)]) hS (j := 0) rfl hz64 rfl elemA_24 rfl sizeA_59 bytesA_59 zeroA_59 rfl rfl rfl (fun _ => rfl) ?_); rintro v64 G20 hS
            refine ASL.q (v := v64) rfl rfl (Light.quiet (opAssign rfl rfl)) ?_
            refine ASL.done ?_
            refine AWP.ret ?_
            refine QBlock.ret ?_
            refine QThen.rt ?_
            obtain rfl := someE hF
            exact QRet.sole (v := v64) ⟨rfl, trivial⟩ ⟨_, ⟨v64, rfl, rfl⟩, hS.pick [0, 1, 2] rfl rfl⟩
          · skip
            refine AWP.seqR rfl ?_
            refine ASL.q (v := (.int .i64 x9_2)) rfl rfl (Light.quiet (opMove rfl rfl)) ?_
            refine ASL.q (v := (.bool (decide (x9_2 ≥ 10)))) rfl rfl (Light.quiet (opInt rfl rfl rfl rfl)) ?_
            refine ASL.q (v := (.bool (decide (x9_2 ≥ 10)))) rfl rfl (Light.quiet (opAssign rfl rfl)) ?_
            refine ASL.done ?_
            refine AWP.ifP hF rfl (fun hc22 hF => ?_) (fun hc22 hF => ?_)
            · skip
              refine AWP.seqR rfl ?_
              refine ASL.q (v := (.ptr bp0 0)) rfl rfl (Light.quiet (opMove rfl rfl)) ?_
              refine ASL.q (v := (.int .i64 p1)) rfl rfl (Light.quiet (opMove rfl rfl)) ?_
              refine ASL.q (v := (.int .i64 (W (p1 - 1)))) rfl rfl (Light.quiet (opInt rfl rfl rfl rfl)) ?_
              refine ASL.q (v := vp2) rfl rfl (Light.quiet (opMove rfl rfl)) ?_
              refine ASL.q (v := (.int .i64 p3)) rfl rfl (Light.quiet (opMove rfl rfl)) ?_
              refine ASL.q (v := (.int .i64 (W (p3 - 1)))) rfl rfl (Light.quiet (opInt rfl rfl rfl rfl)) ?_
              obtain ⟨a74, ha74, hF⟩ := bindE hF
              refine ASL.x rfl rfl (hCallS hS [0, 1, 2] (F := [.snap S]) rfl rfl rfl call_118 (ih_spec_l8DrawTree ha74) rfl rfl ?_); rintro w23 _ G25 ⟨_, rfl, rfl⟩ hS
              refine ASL.q (v := w23) rfl rfl (Light.quiet (opAssign rfl rfl)) ?_
              refine ASL.done ?_
              refine AWP.seqR rfl ?_
              refine ASL.q (v := w23) rfl rfl (Light.quiet (opMove rfl rfl)) ?_
              refine ASL.q (v := (.ptr bp0 0)) rfl rfl (Light.quiet (opMove rfl rfl)) ?_
              refine ASL.q (v := (.list 1 (List.map (AV.int .i64) [7, 10, 11]))) rfl rfl ((qLit (xs := [(.int .i64 7), (.int .i64 10), (.int .i64 11)]) rfl elemA_32 sizeA_3 zeroA_3 rfl rfl rfl rfl (by simp [cells]) (nlt rfl))) ?_
              obtain ⟨a78, ha78, hF⟩ := bindE hF
              refine ASL.x rfl rfl (hCallS hS [1, 0, 2] (F := [.row 3 w23 (List.map TNode.av a74.1), .snap S]) rfl rfl rfl call_51 (spec_l1PickInt_ok ha78) rfl rfl ?_); rintro _ _ G26 ⟨rfl, rfl⟩ hS
              refine ASL.q (v := w23) rfl rfl (Light.quiet (opMove rfl rfl)) ?_
              refine ASL.q (v := (.int .i64 (a74.1.length : Int))) rfl rfl (Light.quiet (kLen hS (j := 1) rfl rfl rfl rfl lenT_24 rfl)) ?_
              refine ASL.q (v := (.int .i64 (W (((a74.1.length : Int)) - 1)))) rfl rfl (Light.quiet (opInt rfl rfl rfl rfl)) ?_
              refine ASL.q (v := (.agg [(.int .i64 a78.1), (.int .i64 (W (((a74.1.length : Int)) - 1))), (.int .i64 0)])) rfl rfl (Light.quiet (opBuildZ (zs := [(.int .i64 0), (.int .i64 0), (.int .i64 0)]) rfl plan_59 zeroA_59 ⟨.inl rfl, .inl rfl, .inl rfl, trivial⟩ rfl)) ?_
              refine ASL.q (v := (.list 3 (List.map TNode.av [(TNode.mk a78.1 ((W (((a74.1.length : Int)) - 1))) 0)]))) rfl rfl ((qLit (xs := [(.agg [(.int .i64 a78.1), (.int .i64 (W (((a74.1.length : Int)) - 1))), (.int .i64 0)])]) rfl elemA_24 sizeA_59 zeroA_59 rfl rfl rfl rfl (by simp [cells, TNode.av]) (nlt rfl))) ?_
              obtain ⟨z84, hz84, hF⟩ := bindE hF
              refine ASL.x rfl rfl (hApp (f := TNode.av) (ws := [(TNode.mk a78.1 ((W (((a74.1.length : Int)) - 1))) 0)]) hS (j := 1) rfl hz84 rfl elemA_24 rfl sizeA_59 bytesA_59 zeroA_59 rfl rfl rfl (fun _ => rfl) ?_); rintro v84 G27 hS
              refine ASL.q (v := v84) rfl rfl (Light.quiet (opAssign rfl rfl)) ?_
              refine ASL.done ?_
              refine AWP.ret ?_
              refine QBlock.ret ?_
              refine QThen.rt ?_
              obtain rfl := someE hF
              exact QRet.sole (v := v84) ⟨rfl, trivial⟩ ⟨_, ⟨v84, rfl, rfl⟩, hS.pick [1, 0, 2] rfl rfl⟩
            · skip
              refine AWP.skip ?_
              refine QBlock.nrm ?_
              refine QThen.nrm ?_
              refine AWP.seqR rfl ?_
              refine ASL.q (v := (.ptr bp0 0)) rfl rfl (Light.quiet (opMove rfl rfl)) ?_
              obtain ⟨a86, ha86, hF⟩ := bindE hF
              refine ASL.x rfl rfl (hCallS hS [0, 1, 2] (F := [.row 3 vp2 (List.map TNode.av p2), .snap S]) rfl rfl rfl call_97 (spec_l1Below_ok ha86) rfl rfl ?_); rintro _ _ G29 ⟨rfl, rfl⟩ hS
              refine ASL.q (v := (.int .i64 (W (5 + a86.1)))) rfl rfl (Light.quiet (opInt rfl rfl rfl rfl)) ?_
              refine ASL.q (v := (.int .i64 (W (5 + a86.1)))) rfl rfl (Light.quiet (opAssign rfl rfl)) ?_
              refine ASL.done ?_
              refine AWP.seqM (fun e H => ∃ y30 : (List Int), ∃ y31 : Int, ∃ y32 : Int, ∃ x3_3 : Int, ∃ x10_3 : Int, E.Told e [(0, (.ptr bp0 0)), (1, (.int .i64 p1)), (2, vp2), (3, (.int .i64 x3_3)), (10, (.int .i64 x10_3))] ∧ E.Sep H [.cell bp0 [(.list 1 (List.map (AV.int .u8) y30)), (.int .i64 y31), (.int .i64 y32)], .row 3 vp2 (List.map TNode.av p2), .snap S] ∧ spec_l8DrawTree.k2 rec_spec_l8DrawTree p1 p2 y30 y31 y32 x3_3 x10_3 = some r) ?_ ?_
              · rintro e0 G42 ⟨y30, y31, y32, x3_3, x10_3, hT, hS, hF⟩; refine AWP.only _ hT ?_; unfold spec_l8DrawTree.k2 at hF
                refine AWP.seqR rfl ?_
                refine ASL.q (v := (.ptr bp0 0)) rfl rfl (Light.quiet (opMove rfl rfl)) ?_
                refine ASL.q (v := (.int .i64 p1)) rfl rfl (Light.quiet (opMove rfl rfl)) ?_
                refine ASL.q (v := (.int .i64 (W (p1 - 1)))) rfl rfl (Light.quiet (opInt rfl rfl rfl rfl)) ?_
                refine ASL.q (v := vp2) rfl rfl (Light.quiet (opMove rfl rfl)) ?_
                refine ASL.q (v := (.int .i64 x3_3)) rfl rfl (Light.quiet (opMove rfl rfl)) ?_
                obtain ⟨a100, ha100, hF⟩ := bindE hF
                refine ASL.x rfl rfl (hCallS hS [0, 1, 2] (F := [.snap S]) rfl rfl rfl call_118 (ih_spec_l8DrawTree ha100) rfl rfl ?_); rintro w33 _ G35 ⟨_, rfl, rfl⟩ hS
                refine ASL.q (v := w33) rfl rfl (Light.quiet (opAssign rfl rfl)) ?_
                refine ASL.done ?_
                refine AWP.seqR rfl ?_
                refine ASL.q (v := w33) rfl rfl (Light.quiet (opMove rfl rfl)) ?_
                refine ASL.q (v := (.int .i64 (a100.1.length : Int))) rfl rfl (Light.quiet (kLen hS (j := 0) rfl rfl rfl rfl lenT_24 rfl)) ?_
                refine ASL.q (v := (.int .i64 (W (((a100.1.length : Int)) - 1)))) rfl rfl (Light.quiet (opInt rfl rfl rfl rfl)) ?_
                refine ASL.q (v := (.int .i64 (W (((a100.1.length : Int)) - 1)))) rfl rfl (Light.quiet (opAssign rfl rfl)) ?_
                refine ASL.done ?_
                refine AWP.seqR rfl ?_
                refine ASL.q (v := (.ptr bp0 0)) rfl rfl (Light.quiet (opMove rfl rfl)) ?_
                refine ASL.q (v := (.int .i64 p1)) rfl rfl (Light.quiet (opMove rfl rfl)) ?_
                refine ASL.q (v := (.int .i64 (W (p1 - 1)))) rfl rfl (Light.quiet (opInt rfl rfl rfl rfl)) ?_
                refine ASL.q (v := w33) rfl rfl (Light.quiet (opMove rfl rfl)) ?_
                refine ASL.q (v := (.int .i64 x3_3)) rfl rfl (Light.quiet (opMove rfl rfl)) ?_
                obtain ⟨a109, ha109, hF⟩ := bindE hF
                refine ASL.x rfl rfl (hCallS hS [1, 0, 2] (F := [.snap S]) rfl rfl rfl call_118 (ih_spec_l8DrawTree ha109) rfl rfl ?_); rintro w36 _ G38 ⟨_, rfl, rfl⟩ hS
                refine ASL.q (v := w36) rfl rfl (Light.quiet (opAssign rfl rfl)) ?_
                refine ASL.done ?_
                refine AWP.seqR rfl ?_
                refine ASL.q (v := w36) rfl rfl (Light.quiet (opMove rfl rfl)) ?_
                refine ASL.q (v := (.int .i64 x10_3)) rfl rfl (Light.quiet (opMove rfl rfl)) ?_
                refine ASL.q (v := (.int .i64 (W (((a100.1.length : Int)) - 1)))) rfl rfl (Light.quiet (opMove rfl rfl)) ?_
                obtain ⟨a113, ha113, hF⟩ := bindE hF
                refine ASL.x rfl rfl (hCallS hS [0, 1, 2] (F := [.cell bp0 [(.list 1 (List.map (AV.int .u8) a109.2.b)), (.int .i64 a109.2.i), (.int .i64 a109.2.h)], .snap S]) rfl rfl rfl call_58 (spec_l8Two_ok ha113) rfl rfl ?_); rintro w39 _ G41 ⟨_, rfl, rfl⟩ hS
                refine ASL.q (v := w39) rfl rfl (Light.quiet (opAssign rfl rfl)) ?_
                refine ASL.done ?_
                refine AWP.ret ?_
                obtain rfl := someE hF
                exact QRet.sole (v := w39) ⟨rfl, trivial⟩ ⟨_, ⟨w39, rfl, rfl⟩, hS.pick [0, 1, 2] rfl rfl⟩
              · skip
                refine AWP.seqR rfl ?_
                refine ASL.q (v := (.int .i64 x9_2)) rfl rfl (Light.quiet (opMove rfl rfl)) ?_
                refine ASL.q (v := (.bool (decide (x9_2 ≥ 7)))) rfl rfl (Light.quiet (opInt rfl rfl rfl rfl)) ?_
                refine ASL.done ?_
                refine AWP.ifP hF rfl (fun hc43 hF => ?_) (fun hc43 hF => ?_)
                · skip
                  refine AWP.seqR rfl ?_
                  refine ASL.q (v := (.ptr bp0 0)) rfl rfl (Light.quiet (opMove rfl rfl)) ?_
                  obtain ⟨a91, ha91, hF⟩ := bindE hF
                  refine ASL.x rfl rfl (hCallS hS [0, 1, 2] (F := [.row 3 vp2 (List.map TNode.av p2), .snap S]) rfl rfl rfl call_97 (spec_l1Below_ok ha91) rfl rfl ?_); rintro _ _ G44 ⟨rfl, rfl⟩ hS
                  refine ASL.q (v := (.int .i64 (W (8 + a91.1)))) rfl rfl (Light.quiet (opInt rfl rfl rfl rfl)) ?_
                  refine ASL.q (v := (.int .i64 (W (8 + a91.1)))) rfl rfl (Light.quiet (opAssign rfl rfl)) ?_
                  refine ASL.done ?_
                  refine AWP.lastR rfl ?_
                  refine ASL.q (v := (.int .i64 p3)) rfl rfl (Light.quiet (opMove rfl rfl)) ?_
                  refine ASL.q (v := (.int .i64 (W (p3 - 1)))) rfl rfl (Light.quiet (opInt rfl rfl rfl rfl)) ?_
                  refine ASL.q (v := (.int .i64 (W (p3 - 1)))) rfl rfl (Light.quiet (opAssign rfl rfl)) ?_
                  refine ASL.done ?_
                  refine QThen.nrm ?_
                  exact ⟨a91.2.b, a91.2.i, a91.2.h, (W (p3 - 1)), (W (8 + a91.1)), ⟨rfl, rfl, rfl, rfl, rfl, trivial⟩, (hS.pick [0, 1, 2] rfl rfl), hF⟩
                · skip
                  refine AWP.skip ?_
                  refine QThen.nrm ?_
                  exact ⟨a86.2.b, a86.2.i, a86.2.h, p3, (W (5 + a86.1)), ⟨rfl, rfl, rfl, rfl, rfl, trivial⟩, (hS.pick [0, 1, 2] rfl rfl), hF⟩
    · skip
      refine AWP.seqR rfl ?_
      refine ASL.q (v := (.int .i64 x9_1)) rfl rfl (Light.quiet (opMove rfl rfl)) ?_
      refine ASL.q (v := (.bool (decide (x9_1 ≥ 7)))) rfl rfl (Light.quiet (opInt rfl rfl rfl rfl)) ?_
      obtain ⟨c20, hc20, hF⟩ := bndE hF
      refine ASL.q (v := (.bool c20)) rfl rfl ((Quiet.cast (Light.quiet (opMove rfl rfl)) (congrArg AV.bool hc20.symm))) ?_
      refine ASL.g (v := vp2) (.bool c20) true rfl (wT _) rfl (fun hG => by have q0 := hG; subst q0; exact Light.quiet (opMove rfl rfl)) ?_
      obtain ⟨a22, ha22, hF⟩ := bindE hF
      refine ASL.g (v := (.list 1 (List.map (AV.int .i64) a22))) (.bool c20) true rfl (wT _) rfl (fun hG => by have q0 := hG; subst q0; exact (qCallRL hS rfl rfl call_63 (spec_l8Temporal_ok (whenE ha22)) ⟨.row (k := 1) rfl, trivial⟩ (Scal.ints _ _))) ?_
      refine ASL.g (v := (.int .i64 (a22.length : Int))) (.bool c20) true rfl (wT _) rfl (fun hG => by have q0 := hG; subst q0; exact Light.quiet (opLenMap (f := (AV.int .i64)) rfl rfl rfl lenT_32 rfl)) ?_
      refine ASL.g (v := (.int .i64 p3)) (.bool c20) true rfl (wT _) rfl (fun hG => by have q0 := hG; subst q0; exact Light.quiet (opMove rfl rfl)) ?_
      refine ASL.g (v := (.bool (decide (((a22.length : Int)) ≥ p3)))) (.bool c20) true rfl (wT _) rfl (fun hG => by have q0 := hG; subst q0; exact Light.quiet (opInt rfl rfl rfl rfl)) ?_
      refine ASL.q (v := (.bool (c20 && (decide (((a22.length : Int)) ≥ p3))))) rfl rfl (Light.quiet (opPick (b := c20) rfl rfl (by cases c20 <;> rfl))) ?_
      refine ASL.done ?_
      refine AWP.ifB hF rfl (fun hc46 hF => ?_) (fun hc46 hF => ?_)
      · skip
        refine AWP.lastR rfl ?_
        refine ASL.q (v := (.int .i64 x9_1)) rfl rfl (Light.quiet (opMove rfl rfl)) ?_
        refine ASL.q (v := (.int .i64 (Int.tmod x9_1 3))) rfl rfl (Light.quiet (opRem rfl rfl rfl (by decide) rfl)) ?_
        refine ASL.q (v := (.int .i64 (W (4 + ((Int.tmod x9_1 3)))))) rfl rfl (Light.quiet (opInt rfl rfl rfl rfl)) ?_
        refine ASL.q (v := (.int .i64 (W (4 + ((Int.tmod x9_1 3)))))) rfl rfl (Light.quiet (opAssign rfl rfl)) ?_
        refine ASL.done ?_
        refine QThen.nrm ?_
        exact ⟨(W (4 + ((Int.tmod x9_1 3)))), ⟨rfl, rfl, rfl, rfl, rfl, trivial⟩, (hS.pick [0, 1, 2] rfl rfl), hF⟩
      · skip
        refine AWP.skip ?_
        refine QThen.nrm ?_
        exact ⟨x9_1, ⟨rfl, rfl, rfl, rfl, rfl, trivial⟩, (hS.pick [0, 1, 2] rfl rfl), hF⟩
  · skip
    refine AWP.seqR rfl ?_
    refine ASL.q (v := (.int .i64 p1)) rfl rfl (Light.quiet (opMove rfl rfl)) ?_
    refine ASL.q (v := (.bool (decide (p1 = 0)))) rfl rfl (Light.quiet (opInt rfl rfl rfl rfl)) ?_
    refine ASL.done ?_
    refine AWP.ifP hF rfl (fun hc48 hF => ?_) (fun hc48 hF => ?_)
    · skip
      refine AWP.lastR rfl ?_
      refine ASL.q (v := (.ptr bp0 0)) rfl rfl (Light.quiet (opMove rfl rfl)) ?_
      obtain ⟨a17, ha17, hF⟩ := bindE hF
      refine ASL.x rfl rfl (hCallS hS [0, 1, 2, 3] (F := [.row 3 .nil (List.map TNode.av ([])), .row 3 vp2 (List.map TNode.av p2), .snap S]) rfl rfl rfl call_97 (spec_l1Below_ok ha17) rfl rfl ?_); rintro _ _ G49 ⟨rfl, rfl⟩ hS
      refine ASL.q (v := (.int .i64 a17.1)) rfl rfl (Light.quiet (opAssign rfl rfl)) ?_
      refine ASL.done ?_
      refine QThen.nrm ?_
      exact ⟨a17.2.b, a17.2.i, a17.2.h, a17.1, ⟨rfl, rfl, rfl, rfl, rfl, trivial⟩, (hS.pick [0, 2, 3] rfl rfl), hF⟩
    · skip
      refine AWP.skip ?_
      refine QThen.nrm ?_
      exact ⟨a13.2.b, a13.2.i, a13.2.h, a13.1, ⟨rfl, rfl, rfl, rfl, rfl, trivial⟩, (hS.pick [0, 2, 3] rfl rfl), hF⟩
theorem spec_l8DrawTree_ok {K : Nat} : ∀ {p0 : Tl1Cur} {p1 : Int} {p2 : (List TNode)} {p3 : Int} {r : ((List TNode) × Tl1Cur)} {bp0 : Nat} {vp2 : AV} , spec_l8DrawTree K p0 p1 p2 p3 = some r → HS Try.prog 118 [(.ptr bp0 0), (.int .i64 p1), vp2, (.int .i64 p3)] [.cell bp0 [(.list 1 (List.map (AV.int .u8) p0.b)), (.int .i64 p0.i), (.int .i64 p0.h)], .row 3 vp2 (List.map TNode.av p2)] fun v L' => ∃ o0 : AV, v = o0 ∧ L' = [.row 3 o0 (List.map TNode.av r.1), .cell bp0 [(.list 1 (List.map (AV.int .u8) r.2.b)), (.int .i64 r.2.i), (.int .i64 r.2.h)]] := by
  induction K with
  | zero => intros; rename_i h; cases h
  | succ K ih => intros; rename_i h; exact spec_l8DrawTree.body_ok ih h

set_option maxRecDepth 10000 in
theorem spec_l8DrawRight_ok {K : Nat} {p0 : Tl1Cur} {p1 : Int} {r : ((List TNode) × Tl1Cur)} {bp0 : Nat} (hF : spec_l8DrawRight K p0 p1 = some r) : HS Try.prog 98 [(.ptr bp0 0), (.int .i64 p1)] [.cell bp0 [(.list 1 (List.map (AV.int .u8) p0.b)), (.int .i64 p0.i), (.int .i64 p0.h)]] fun v L' => ∃ o0 : AV, v = o0 ∧ L' = [.row 3 o0 (List.map TNode.av r.1), .cell bp0 [(.list 1 (List.map (AV.int .u8) r.2.b)), (.int .i64 r.2.i), (.int .i64 r.2.h)]] := by
  intro H S hS
  refine HC.enter Try.func98 rfl Try.ntmps98 (by simp) ?_
  simp only [List.cons_append, List.nil_append] at hS
  unfold spec_l8DrawRight at hF
  refine AWP.seqR rfl ?_
  have hS := hNil (s := 3) (f := TNode.av) hS
  refine ASL.q (v := .nil) rfl rfl (Light.quiet (opAssign rfl rfl)) ?_
  refine ASL.done ?_
  refine AWP.seqR rfl ?_
  refine ASL.q (v := (.ptr bp0 0)) rfl rfl (Light.quiet (opMove rfl rfl)) ?_
  refine ASL.q (v := (.ptr bp0 0)) rfl rfl (Light.quiet (opMove rfl rfl)) ?_
  obtain ⟨a7, ha7, hF⟩ := bindE hF
  refine ASL.x rfl rfl (hCallS hS [1, 0, 2] (F := [.row 3 .nil (List.map TNode.av ([])), .snap S]) rfl rfl rfl call_97 (spec_l1Below_ok ha7) rfl rfl ?_); rintro _ _ G3 ⟨rfl, rfl⟩ hS
  refine ASL.q (v := (.int .i64 (W (1 + a7.1)))) rfl rfl (Light.quiet (opInt rfl rfl rfl rfl)) ?_
  refine ASL.x rfl rfl (hLit (f := TNode.av) (zs := []) hS rfl rfl elemA_24 sizeA_59 zeroA_59 rfl rfl rfl rfl (by simp [cells, TNode.av]) (nlt rfl) ?_); rintro v9 G4 hK hS
  refine ASL.q (v := (.int .i64 p1)) rfl rfl (Light.quiet (opMove rfl rfl)) ?_
  obtain ⟨a11, ha11, hF⟩ := bindE hF
  refine ASL.x rfl rfl (hCallS hS [1, 0, 2, 3] (F := [.row 3 .nil (List.map TNode.av ([])), .snap S]) rfl rfl rfl call_118 (spec_l8DrawTree_ok ha11) rfl rfl ?_); rintro w6 _ G8 ⟨_, rfl, rfl⟩ hS
  refine ASL.q (v := w6) rfl rfl (Light.quiet (opAssign rfl rfl)) ?_
  refine ASL.done ?_
  refine AWP.ret ?_
  obtain rfl := someE hF
  exact QRet.sole (v := w6) ⟨rfl, trivial⟩ ⟨_, ⟨w6, rfl, rfl⟩, hS.pick [0, 1, 3] rfl rfl⟩

set_option maxRecDepth 10000 in
theorem spec_l8DrawAny_ok {K : Nat} {p0 : Tl1Cur} {r : ((List TNode) × Tl1Cur)} {bp0 : Nat} (hF : spec_l8DrawAny K p0 = some r) : HS Try.prog 52 [(.ptr bp0 0)] [.cell bp0 [(.list 1 (List.map (AV.int .u8) p0.b)), (.int .i64 p0.i), (.int .i64 p0.h)]] fun v L' => ∃ o0 : AV, v = o0 ∧ L' = [.row 3 o0 (List.map TNode.av r.1), .cell bp0 [(.list 1 (List.map (AV.int .u8) r.2.b)), (.int .i64 r.2.i), (.int .i64 r.2.h)]] := by
  intro H S hS
  refine HC.enter Try.func52 rfl Try.ntmps52 (by simp) ?_
  simp only [List.cons_append, List.nil_append] at hS
  unfold spec_l8DrawAny at hF
  refine AWP.seqR rfl ?_
  have hS := hNil (s := 3) (f := TNode.av) hS
  refine ASL.q (v := .nil) rfl rfl (Light.quiet (opAssign rfl rfl)) ?_
  refine ASL.done ?_
  refine AWP.seqR rfl ?_
  refine ASL.q (v := (.ptr bp0 0)) rfl rfl (Light.quiet (opMove rfl rfl)) ?_
  obtain ⟨a6, ha6, hF⟩ := bindE hF
  refine ASL.x rfl rfl (hCallS hS [1, 0, 2] (F := [.row 3 .nil (List.map TNode.av ([])), .snap S]) rfl rfl rfl call_98 (spec_l8DrawRight_ok ha6) rfl rfl ?_); rintro w3 _ G5 ⟨_, rfl, rfl⟩ hS
  refine ASL.q (v := w3) rfl rfl (Light.quiet (opAssign rfl rfl)) ?_
  refine ASL.done ?_
  refine AWP.seqR rfl ?_
  refine ASL.q (v := (.ptr bp0 0)) rfl rfl (Light.quiet (opMove rfl rfl)) ?_
  refine ASL.q (v := w3) rfl rfl (Light.quiet (opMove rfl rfl)) ?_
  refine ASL.q (v := (.int .i64 (a6.1.length : Int))) rfl rfl (Light.quiet (kLen hS (j := 0) rfl rfl rfl rfl lenT_24 rfl)) ?_
  obtain ⟨a10, ha10, hF⟩ := bindE hF
  refine ASL.x rfl rfl (hCallS hS [1, 0, 2, 3] (F := [.row 3 w3 (List.map TNode.av a6.1), .row 3 .nil (List.map TNode.av ([])), .snap S]) rfl rfl rfl call_97 (spec_l1Below_ok ha10) rfl rfl ?_); rintro _ _ G6 ⟨rfl, rfl⟩ hS
  refine ASL.q (v := (.int .i64 a10.1)) rfl rfl (Light.quiet (opAssign rfl rfl)) ?_
  refine ASL.done ?_
  refine AWP.seqM (fun e H => ∃ y7 : (List TNode), ∃ y10 : (List Int), ∃ y11 : Int, ∃ y12 : Int, ∃ w8 : AV, E.Told e [(3, w8)] ∧ E.Sep H [.row 3 w8 (List.map TNode.av y7), .cell bp0 [(.list 1 (List.map (AV.int .u8) y10)), (.int .i64 y11), (.int .i64 y12)], .snap S] ∧ spec_l8DrawAny.k0 y7 y10 y11 y12 = some r) ?_ ?_
  · rintro e0 G13 ⟨y7, y10, y11, y12, w8, hT, hS, hF⟩; refine AWP.only _ hT ?_; unfold spec_l8DrawAny.k0 at hF
    refine AWP.seqR rfl ?_
    refine ASL.q (v := w8) rfl rfl (Light.quiet (opMove rfl rfl)) ?_
    refine ASL.q (v := w8) rfl rfl (Light.quiet (opAssign rfl rfl)) ?_
    refine ASL.done ?_
    refine AWP.ret ?_
    obtain rfl := someE hF
    exact QRet.sole (v := w8) ⟨rfl, trivial⟩ ⟨_, ⟨w8, rfl, rfl⟩, hS.pick [0, 1, 2] rfl rfl⟩
  · skip
    refine AWP.seqR rfl ?_
    refine ASL.q (v := (.ptr bp0 0)) rfl rfl (Light.quiet (opMove rfl rfl)) ?_
    obtain ⟨a12, ha12, hF⟩ := bindE hF
    refine ASL.x rfl rfl (hCallS hS [0, 1, 2, 3] (F := [.row 3 w3 (List.map TNode.av a6.1), .row 3 .nil (List.map TNode.av ([])), .snap S]) rfl rfl rfl call_97 (spec_l1Below_ok ha12) rfl rfl ?_); rintro _ _ G14 ⟨rfl, rfl⟩ hS
    refine ASL.done ?_
    refine AWP.block ?_
    refine AWP.seqR rfl ?_
    refine ASL.q (v := (.bool (decide (a12.1 = 0)))) rfl rfl (Light.quiet (opInt rfl rfl rfl rfl)) ?_
    refine ASL.q (v := (.bool (decide (a12.1 = 0)))) rfl rfl (Light.quiet (opAssign rfl rfl)) ?_
    refine ASL.done ?_
    refine AWP.ifP hF rfl (fun hc15 hF => ?_) (fun hc15 hF => ?_)
    · skip
      refine AWP.lastR rfl ?_
      refine ASL.q (v := w3) rfl rfl (Light.quiet (opMove rfl rfl)) ?_
      refine ASL.q (v := (.int .i64 a10.1)) rfl rfl (Light.quiet (opMove rfl rfl)) ?_
      refine ASL.q (v := (.ptr bp0 0)) rfl rfl (Light.quiet (opMove rfl rfl)) ?_
      obtain ⟨a18, ha18, hF⟩ := bindE hF
      refine ASL.x rfl rfl (hCallS hS [0, 1, 2, 3] (F := [.row 3 w3 (List.map TNode.av a6.1), .row 3 .nil (List.map TNode.av ([])), .snap S]) rfl rfl rfl call_97 (spec_l1Below_ok ha18) rfl rfl ?_); rintro _ _ G16 ⟨rfl, rfl⟩ hS
      obtain ⟨m19, hm19, hF⟩ := bindE hF
      refine ASL.q (v := (ptrTo w3 m19 3)) rfl rfl (Light.quiet (kIxO hS (j := 1) rfl hm19 rfl rfl rfl elemA_24 sizeA_59)) ?_
      refine ASL.q (v := (ptrOff w3 m19 3 0)) rfl rfl (Light.quiet (kFldC (p := 0) hS (j := 1) rfl hm19 rfl fieldA_59_0 rfl)) ?_
      refine ASL.n rfl rfl (hStF (f := TNode.av) (g := (fun q : TNode => { q with kind := a18.1 })) (p := 0) hS (j := 1) rfl hm19 rfl sizeA_3 rfl rfl (fun _ => ⟨_, rfl, nlt rfl, rfl⟩) rfl ?_); rintro G17 hS
      refine ASL.done ?_
      refine QBlock.nrm ?_
      refine QThen.nrm ?_
      exact ⟨(a6.1.set m19 ((fun q : TNode => { q with kind := a18.1 }) (a6.1.getD m19 default))), a18.2.b, a18.2.i, a18.2.h, w3, ⟨rfl, trivial⟩, (hS.pick [1, 0, 3] rfl rfl), hF⟩
    · skip
      refine AWP.seqR rfl ?_
      refine ASL.q (v := (.bool (decide (a12.1 = 1)))) rfl rfl (Light.quiet (opInt rfl rfl rfl rfl)) ?_
      refine ASL.q (v := (.bool (decide (a12.1 = 1)))) rfl rfl (Light.quiet (opAssign rfl rfl)) ?_
      refine ASL.done ?_
      refine AWP.ifP hF rfl (fun hc18 hF => ?_) (fun hc18 hF => ?_)
      · skip
        refine AWP.lastR rfl ?_
        refine ASL.q (v := w3) rfl rfl (Light.quiet (opMove rfl rfl)) ?_
        refine ASL.q (v := (.int .i64 a10.1)) rfl rfl (Light.quiet (opMove rfl rfl)) ?_
        refine ASL.q (v := w3) rfl rfl (Light.quiet (opMove rfl rfl)) ?_
        refine ASL.q (v := (.int .i64 a10.1)) rfl rfl (Light.quiet (opMove rfl rfl)) ?_
        obtain ⟨a27, ha27, hF⟩ := bindE hF
        refine ASL.q (v := (ptrTo w3 a10.1.toNat 3)) rfl rfl (Light.quiet (kIxOx hS (j := 1) rfl ha27 rfl rfl rfl elemA_24 sizeA_59)) ?_
        refine ASL.q (v := (ptrOff w3 a10.1.toNat 3 1)) rfl rfl (Light.quiet (kFldO (p := 1) hS (j := 1) rfl ha27 rfl fieldA_59_1 rfl)) ?_
        refine ASL.q (v := (.int .i64 a27.a)) rfl rfl (Light.quiet (kLdP (f := TNode.av) hS (j := 1) rfl ha27 rfl aggA_3 rfl rfl)) ?_
        refine ASL.q (v := (.int .i64 (W (a27.a + 1)))) rfl rfl (Light.quiet (opInt rfl rfl rfl rfl)) ?_
        obtain ⟨m31, hm31, hF⟩ := bindE hF
        refine ASL.q (v := (ptrTo w3 m31 3)) rfl rfl (Light.quiet (kIxO hS (j := 1) rfl hm31 rfl rfl rfl elemA_24 sizeA_59)) ?_
        refine ASL.q (v := (ptrOff w3 m31 3 1)) rfl rfl (Light.quiet (kFldC (p := 1) hS (j := 1) rfl hm31 rfl fieldA_59_1 rfl)) ?_
        refine ASL.n rfl rfl (hStF (f := TNode.av) (g := (fun q : TNode => { q with a := (W (a27.a + 1)) })) (p := 1) hS (j := 1) rfl hm31 rfl sizeA_3 rfl rfl (fun _ => ⟨_, rfl, nlt rfl, rfl⟩) rfl ?_); rintro G19 hS
        refine ASL.done ?_
        refine QBlock.nrm ?_
        refine QThen.nrm ?_
        exact ⟨(a6.1.set m31 ((fun q : TNode => { q with a := (W (a27.a + 1)) }) (a6.1.getD m31 default))), a12.2.b, a12.2.i, a12.2.h, w3, ⟨rfl, trivial⟩, (hS.pick [1, 0, 3] rfl rfl), hF⟩
      · skip
        refine AWP.seqR rfl ?_
        refine ASL.q (v := (.bool (decide (a12.1 = 2)))) rfl rfl (Light.quiet (opInt rfl rfl rfl rfl)) ?_
        refine ASL.q (v := (.bool (decide (a12.1 = 2)))) rfl rfl (Light.quiet (opAssign rfl rfl)) ?_
        refine ASL.done ?_
        refine AWP.ifP hF rfl (fun hc20 hF => ?_) (fun hc20 hF => ?_)
        · skip
          refine AWP.lastR rfl ?_
          refine ASL.q (v := w3) rfl rfl (Light.quiet (opMove rfl rfl)) ?_
          refine ASL.q (v := (.int .i64 a10.1)) rfl rfl (Light.quiet (opMove rfl rfl)) ?_
          refine ASL.q (v := (.ptr bp0 0)) rfl rfl (Light.quiet (opMove rfl rfl)) ?_
          refine ASL.q (v := w3) rfl rfl (Light.quiet (opMove rfl rfl)) ?_
          refine ASL.q (v := (.int .i64 (a6.1.length : Int))) rfl rfl (Light.quiet (kLen hS (j := 1) rfl rfl rfl rfl lenT_24 rfl)) ?_
          obtain ⟨a40, ha40, hF⟩ := bindE hF
          refine ASL.x rfl rfl (hCallS hS [0, 1, 2, 3] (F := [.row 3 w3 (List.map TNode.av a6.1), .row 3 .nil (List.map TNode.av ([])), .snap S]) rfl rfl rfl call_97 (spec_l1Below_ok ha40) rfl rfl ?_); rintro _ _ G21 ⟨rfl, rfl⟩ hS
          obtain ⟨m41, hm41, hF⟩ := bindE hF
          refine ASL.q (v := (ptrTo w3 m41 3)) rfl rfl (Light.quiet (kIxO hS (j := 1) rfl hm41 rfl rfl rfl elemA_24 sizeA_59)) ?_
          refine ASL.q (v := (ptrOff w3 m41 3 2)) rfl rfl (Light.quiet (kFldC (p := 2) hS (j := 1) rfl hm41 rfl fieldA_59_2 rfl)) ?_
          refine ASL.n rfl rfl (hStF (f := TNode.av) (g := (fun q : TNode => { q with b := a40.1 })) (p := 2) hS (j := 1) rfl hm41 rfl sizeA_3 rfl rfl (fun _ => ⟨_, rfl, nlt rfl, rfl⟩) rfl ?_); rintro G22 hS
          refine ASL.done ?_
          refine QBlock.nrm ?_
          refine QThen.nrm ?_
          exact ⟨(a6.1.set m41 ((fun q : TNode => { q with b := a40.1 }) (a6.1.getD m41 default))), a40.2.b, a40.2.i, a40.2.h, w3, ⟨rfl, trivial⟩, (hS.pick [1, 0, 3] rfl rfl), hF⟩
        · skip
          refine AWP.seqR rfl ?_
          refine ASL.q (v := (.bool (decide (a12.1 = 3)))) rfl rfl (Light.quiet (opInt rfl rfl rfl rfl)) ?_
          refine ASL.q (v := (.bool (decide (a12.1 = 3)))) rfl rfl (Light.quiet (opAssign rfl rfl)) ?_
          refine ASL.done ?_
          refine AWP.ifP hF rfl (fun hc23 hF => ?_) (fun hc23 hF => ?_)
          · skip
            refine AWP.lastR rfl ?_
            refine ASL.q (v := w3) rfl rfl (Light.quiet (opMove rfl rfl)) ?_
            refine ASL.q (v := (.agg [(.int .i64 1), (.int .i64 0), (.int .i64 0)])) rfl rfl (Light.quiet (opBuildZ (zs := [(.int .i64 0), (.int .i64 0), (.int .i64 0)]) rfl plan_59 zeroA_59 ⟨.inl rfl, .inl rfl, .inl rfl, trivial⟩ rfl)) ?_
            refine ASL.q (v := (.list 3 (List.map TNode.av [(TNode.mk 1 0 0)]))) rfl rfl ((qLit (xs := [(.agg [(.int .i64 1), (.int .i64 0), (.int .i64 0)])]) rfl elemA_24 sizeA_59 zeroA_59 rfl rfl rfl rfl (by simp [cells, TNode.av]) (nlt rfl))) ?_
            obtain ⟨z48, hz48, hF⟩ := bindE hF
            refine ASL.x rfl rfl (hApp (f := TNode.av) (ws := [(TNode.mk 1 0 0)]) hS (j := 1) rfl hz48 rfl elemA_24 rfl sizeA_59 bytesA_59 zeroA_59 rfl rfl rfl (fun _ => rfl) ?_); rintro v48 G24 hS
            refine ASL.q (v := v48) rfl rfl (Light.quiet (opAssign rfl rfl)) ?_
            refine ASL.done ?_
            refine QBlock.nrm ?_
            refine QThen.nrm ?_
            exact ⟨z48, a12.2.b, a12.2.i, a12.2.h, v48, ⟨rfl, trivial⟩, (hS.pick [1, 0, 3] rfl rfl), hF⟩
          · skip
            refine AWP.seqR rfl ?_
            refine ASL.q (v := (.bool (decide (a12.1 = 4)))) rfl rfl (Light.quiet (opInt rfl rfl rfl rfl)) ?_
            refine ASL.q (v := (.bool (decide (a12.1 = 4)))) rfl rfl (Light.quiet (opAssign rfl rfl)) ?_
            refine ASL.done ?_
            refine AWP.ifP hF rfl (fun hc26 hF => ?_) (fun hc26 hF => ?_)
            · skip
              refine AWP.lastR rfl ?_
              have hS := hNil (s := 3) (f := TNode.av) hS
              refine ASL.q (v := .nil) rfl rfl (Light.quiet (opAssign rfl rfl)) ?_
              refine ASL.done ?_
              refine QBlock.nrm ?_
              refine QThen.nrm ?_
              exact ⟨[], a12.2.b, a12.2.i, a12.2.h, .nil, ⟨rfl, trivial⟩, (hS.pick [0, 1, 4] rfl rfl), hF⟩
            · skip
              refine AWP.skip ?_
              refine QBlock.nrm ?_
              refine QThen.nrm ?_
              exact ⟨a6.1, a12.2.b, a12.2.i, a12.2.h, w3, ⟨rfl, trivial⟩, (hS.pick [1, 0, 3] rfl rfl), hF⟩

set_option maxRecDepth 10000 in
theorem spec_DrawLtlPair_ok {K : Nat} {p0 : (List Int)} {r : (Int × (List TNode) × (List TNode))} (hF : spec_DrawLtlPair K p0 = some r) : PC Try.prog 11 [(.list 1 (List.map (AV.int .u8) p0))] fun v => v = .tup [(.int .i64 r.1), (.list 3 (List.map TNode.av r.2.1)), (.list 3 (List.map TNode.av r.2.2))] := by
  refine PC.enter Try.func11 rfl Try.ntmps11 (by simp) ?_
  have hS := Sep.void; unfold spec_DrawLtlPair at hF
  refine AWP.seqR rfl ?_
  refine ASL.q (v := (.int .i64 0)) rfl rfl (Light.quiet (opAssign rfl rfl)) ?_
  refine ASL.q (v := (.list 3 (List.map TNode.av []))) rfl rfl (Light.quiet (opNilL rfl rfl)) ?_
  have hS := hNil (s := 3) (f := TNode.av) hS
  refine ASL.q (v := .nil) rfl rfl (Light.quiet (opAssign rfl rfl)) ?_
  refine ASL.done ?_
  refine AWP.seqR rfl ?_
  refine ASL.q (v := (.list 1 (List.map (AV.int .u8) p0))) rfl rfl (Light.quiet (opMove rfl rfl)) ?_
  obtain ⟨a9, ha9, hF⟩ := bindE hF
  refine ASL.x rfl rfl (hCallS hS [0] (F := [.row 3 .nil (List.map TNode.av ([]))]) rfl rfl rfl call_50 (spec_l1New_ok ha9) rfl rfl ?_); rintro _ _ G4 ⟨bq2, rfl, rfl⟩ hS
  refine ASL.q (v := (.ptr bq2 0)) rfl rfl (Light.quiet (opAssign rfl rfl)) ?_
  refine ASL.done ?_
  refine AWP.seqR rfl ?_
  refine ASL.q (v := (.ptr bq2 0)) rfl rfl (Light.quiet (opMove rfl rfl)) ?_
  refine ASL.q (v := (.list 1 (List.map (AV.int .i64) [5, 6, 8, 9, 8, 4, 0, 7]))) rfl rfl ((qLit (xs := [(.int .i64 5), (.int .i64 6), (.int .i64 8), (.int .i64 9), (.int .i64 8), (.int .i64 4), (.int .i64 0), (.int .i64 7)]) rfl elemA_32 sizeA_3 zeroA_3 rfl rfl rfl rfl (by simp [cells]) (nlt rfl))) ?_
  obtain ⟨a12, ha12, hF⟩ := bindE hF
  refine ASL.x rfl rfl (hCallS hS [0, 1] (F := [.row 3 .nil (List.map TNode.av ([]))]) rfl rfl rfl call_51 (spec_l1PickInt_ok ha12) rfl rfl ?_); rintro _ _ G5 ⟨rfl, rfl⟩ hS
  refine ASL.q (v := (.int .i64 a12.1)) rfl rfl (Light.quiet (opAssign rfl rfl)) ?_
  refine ASL.done ?_
  refine AWP.seqR rfl ?_
  refine ASL.q (v := (.ptr bq2 0)) rfl rfl (Light.quiet (opMove rfl rfl)) ?_
  obtain ⟨a14, ha14, hF⟩ := bindE hF
  refine ASL.x rfl rfl (hCallS hS [0, 1] (F := [.row 3 .nil (List.map TNode.av ([]))]) rfl rfl rfl call_52 (spec_l8DrawAny_ok ha14) rfl rfl ?_); rintro w6 _ G8 ⟨_, rfl, rfl⟩ hS
  refine ASL.q (v := w6) rfl rfl (Light.quiet (opAssign rfl rfl)) ?_
  refine ASL.done ?_
  refine AWP.frz (L' := [.cell bq2 [(.list 1 (List.map (AV.int .u8) a14.2.b)), (.int .i64 a14.2.i), (.int .i64 a14.2.h)], .row 3 .nil (List.map TNode.av ([]))]) hS (k := 0) rfl [(5, (.ptr bq2 0)), (6, (.int .i64 a12.1)), (7, (.list 3 (List.map TNode.av a14.1)))] ⟨.inl rfl, .inl rfl, .inr (.inl ⟨rfl, rfl⟩), trivial⟩ ⟨⟨_, rfl, ⟨.inl rfl, .inl rfl, .inl rfl, trivial⟩⟩, rfl, trivial⟩ (fun G9 hS => ?_)
  refine AWP.seqR rfl ?_
  refine ASL.q (v := (.int .i64 a12.1)) rfl rfl (Light.quiet (opMove rfl rfl)) ?_
  refine ASL.q (v := (.list 3 (List.map TNode.av a14.1))) rfl rfl (Light.quiet (opMove rfl rfl)) ?_
  refine ASL.q (v := (.ptr bq2 0)) rfl rfl (Light.quiet (opMove rfl rfl)) ?_
  obtain ⟨a18, ha18, hF⟩ := bindE hF
  refine ASL.x rfl rfl (hCallS hS [0, 1] (F := [.row 3 .nil (List.map TNode.av ([]))]) rfl rfl rfl call_52 (spec_l8DrawAny_ok ha18) rfl rfl ?_); rintro w10 _ G12 ⟨_, rfl, rfl⟩ hS
  refine ASL.q (v := (.int .i64 a12.1)) rfl rfl (Light.quiet (opAssign rfl rfl)) ?_
  refine ASL.q (v := (.list 3 (List.map TNode.av a14.1))) rfl rfl (Light.quiet (opAssign rfl rfl)) ?_
  refine ASL.q (v := w10) rfl rfl (Light.quiet (opAssign rfl rfl)) ?_
  refine ASL.done ?_
  refine AWP.frz (L' := [.cell bq2 [(.list 1 (List.map (AV.int .u8) a18.2.b)), (.int .i64 a18.2.i), (.int .i64 a18.2.h)], .row 3 .nil (List.map TNode.av ([]))]) hS (k := 0) rfl [(2, (.int .i64 a12.1)), (3, (.list 3 (List.map TNode.av a14.1))), (4, (.list 3 (List.map TNode.av a18.1))), (5, (.ptr bq2 0)), (6, (.int .i64 a12.1)), (7, (.list 3 (List.map TNode.av a14.1)))] ⟨.inl rfl, .inl rfl, .inr (.inl ⟨rfl, rfl⟩), .inl rfl, .inl rfl, .inl rfl, trivial⟩ ⟨⟨_, rfl, ⟨.inl rfl, .inl rfl, .inl rfl, trivial⟩⟩, rfl, trivial⟩ (fun G13 hS => ?_)
  refine AWP.ret ?_
  obtain rfl := someE hF
  exact QRet.many (vs := [(.int .i64 a12.1), (.list 3 (List.map TNode.av a14.1)), (.list 3 (List.map TNode.av a18.1))]) ⟨rfl, rfl, rfl, trivial⟩ (by simp) rfl

set_option maxRecDepth 10000 in
theorem impl_inRange_ok (p0 : Int) (p1 : Int) (p2 : Int) : PC Try.prog 90 [(.int .i64 p0), (.int .i64 p1), (.int .i64 p2)] fun v => v = (.bool (impl_inRange p0 p1 p2)) := by
  generalize hF : impl_inRange p0 p1 p2 = r
  refine PC.enter Try.func90 rfl Try.ntmps90 (by simp) ?_
  have hS := Sep.void; unfold impl_inRange at hF
  refine AWP.seqR rfl ?_
  refine ASL.q (v := (.bool false)) rfl rfl (Light.quiet (opAssign rfl rfl)) ?_
  refine ASL.done ?_
  refine AWP.seqR rfl ?_
  refine ASL.q (v := (.int .i64 p0)) rfl rfl (Light.quiet (opMove rfl rfl)) ?_
  refine ASL.q (v := (.int .i64 p1)) rfl rfl (Light.quiet (opMove rfl rfl)) ?_
  refine ASL.q (v := (.bool (decide (p0 ≥ p1)))) rfl rfl (Light.quiet (opInt rfl rfl rfl rfl)) ?_
  obtain ⟨c10, hc10, hF⟩ := bndE hF
  refine ASL.q (v := (.bool c10)) rfl rfl ((Quiet.cast (Light.quiet (opMove rfl rfl)) (congrArg AV.bool hc10.symm))) ?_
  refine ASL.g (v := (.int .i64 p0)) (.bool c10) true rfl (wT _) rfl (fun hG => by have q0 := hG; subst q0; exact Light.quiet (opMove rfl rfl)) ?_
  refine ASL.g (v := (.int .i64 p2)) (.bool c10) true rfl (wT _) rfl (fun hG => by have q0 := hG; subst q0; exact Light.quiet (opMove rfl rfl)) ?_
  refine ASL.g (v := (.bool (decide (p0 ≤ p2)))) (.bool c10) true rfl (wT _) rfl (fun hG => by have q0 := hG; subst q0; exact Light.quiet (opInt rfl rfl rfl rfl)) ?_
  refine ASL.q (v := (.bool (c10 && (decide (p0 ≤ p2))))) rfl rfl (Light.quiet (opPick (b := c10) rfl rfl (by cases c10 <;> rfl))) ?_
  refine ASL.q (v := (.bool (c10 && (decide (p0 ≤ p2))))) rfl rfl (Light.quiet (opAssign rfl rfl)) ?_
  refine ASL.done ?_
  refine AWP.ret ?_
  obtain rfl := hF
  exact QRet.sole (v := (.bool (c10 && (decide (p0 ≤ p2))))) ⟨rfl, trivial⟩ rfl

set_option maxRecDepth 10000 in
theorem impl_begins_ok {p0 : (List TNode)} {g1 : (TNode → Option Int)} {r : ((List Int) × Bool)} {k1 : Nat} (hcal1 : callable Try.prog k1 = true) (hg1 : ∀ q0 y, g1 q0 = some y → PC Try.prog k1 [(TNode.av q0)] fun v => v = (.int .i64 y)) (hF : impl_begins p0 g1 = some r) : PC Try.prog 100 [(.list 3 (List.map TNode.av p0)), (.fn (.func k1) [] [])] fun v => v = .tup [(.list 1 (List.map (AV.int .i64) r.1)), (.bool r.2)] := by
  refine PC.enter Try.func100 rfl Try.ntmps100 (by simp) ?_
  have hS := Sep.void; unfold impl_begins at hF
  refine AWP.seqR rfl ?_
  refine ASL.q (v := (.list 1 (List.map (AV.int .i64) []))) rfl rfl (Light.quiet (opNilL rfl rfl)) ?_
  refine ASL.q (v := (.bool false)) rfl rfl (Light.quiet (opAssign rfl rfl)) ?_
  refine ASL.done ?_
  refine AWP.seq ?_
  refine AWP.seqR rfl ?_
  refine ASL.q (v := (.list 3 (List.map TNode.av p0))) rfl rfl (Light.quiet (opMove rfl rfl)) ?_
  refine ASL.q (v := (.int .i64 (p0.length : Int))) rfl rfl (Light.quiet (opLenMap (f := TNode.av) rfl rfl rfl lenT_24 rfl)) ?_
  refine ASL.q (v := (.bool (impl_inRange ((p0.length : Int)) 1 31))) rfl rfl ((qCall rfl rfl call_90 (impl_inRange_ok ((p0.length : Int)) 1 31) rfl)) ?_
  refine ASL.q (v := (.bool (!(impl_inRange ((p0.length : Int)) 1 31)))) rfl rfl (Light.quiet (opNot rfl rfl)) ?_
  refine ASL.done ?_
  refine AWP.ifB hF rfl (fun hc1 hF => ?_) (fun hc1 hF => ?_)
  · skip
    refine AWP.seqR rfl ?_
    refine ASL.q (v := (.list 1 (List.map (AV.int .i64) []))) rfl rfl (Light.quiet (opNilL rfl rfl)) ?_
    refine ASL.q (v := (.bool false)) rfl rfl (Light.quiet (opAssign rfl rfl)) ?_
    refine ASL.done ?_
    refine AWP.ret ?_
    refine QThen.rt ?_
    obtain rfl := someE hF
    exact QRet.many (vs := [(.list 1 (List.map (AV.int .i64) [])), (.bool false)]) ⟨rfl, rfl, trivial⟩ (by simp) rfl
  · skip
    refine AWP.skip ?_
    refine QThen.nrm ?_
    refine AWP.seqR rfl ?_
    refine ASL.q (v := (.list 3 (List.map TNode.av p0))) rfl rfl (Light.quiet (opMove rfl rfl)) ?_
    refine ASL.q (v := (.int .i64 (p0.length : Int))) rfl rfl (Light.quiet (opLenMap (f := TNode.av) rfl rfl rfl lenT_24 rfl)) ?_
    obtain ⟨z15, hz15, hF⟩ := bindE hF
    refine ASL.x rfl rfl (hMk (f := (AV.int .i64)) hS hz15 (by decide) rfl elemA_32 sizeA_3 bytesA_3 zeroA_3 rfl rfl (by decide) rfl rfl ?_); rintro v15 G2 hK hS
    refine ASL.q (v := v15) rfl rfl (Light.quiet (opAssign rfl rfl)) ?_
    refine ASL.done ?_
    refine AWP.seqM (fun e H => ∃ y4 : (List Int), E.Told e [(0, (.list 3 (List.map TNode.av p0))), (6, v15)] ∧ E.Sep H [.row 1 v15 (List.map (AV.int .i64) y4)] ∧ impl_begins.k0 p0 y4 = some r) ?_ ?_
    · rintro e0 G6 ⟨y4, hT, hS, hF⟩; refine AWP.only _ hT ?_; unfold impl_begins.k0 at hF
      refine AWP.frz (L' := []) hS (k := 0) rfl [(0, (.list 3 (List.map TNode.av p0))), (6, (.list 1 (List.map (AV.int .i64) y4)))] ⟨.inl rfl, .inr (.inl ⟨rfl, rfl⟩), trivial⟩ trivial (fun G5 hS => ?_)
      refine AWP.seqD [(0, false), (1, false), (2, false), (3, false), (4, false), (5, false), (6, false), (7, false), (8, false), (9, false)] mixed (by kernel_rfl) rfl ?_
      refine ARL.q0 (v := (.list 1 (List.map (AV.int .i64) y4))) rfl rfl (Light.quiet (opMove rfl rfl)) ?_
      refine ARL.q0 (v := (.list 1 (List.map (AV.int .i64) y4))) rfl rfl (Light.quiet (opMove rfl rfl)) ?_
      refine ARL.q0 (v := (.list 3 (List.map TNode.av p0))) rfl rfl (Light.quiet (opMove rfl rfl)) ?_
      refine ARL.q0 (v := (.int .i64 (p0.length : Int))) rfl rfl (Light.quiet (opLenMap (f := TNode.av) rfl rfl rfl lenT_24 rfl)) ?_
      refine ARL.q0 (v := (.int .i64 (W (((p0.length : Int)) - 1)))) rfl rfl (Light.quiet (opInt rfl rfl rfl rfl)) ?_
      obtain ⟨a97, ha97, hF⟩ := bindE hF
      refine ARL.q0 (v := (.rptr [(.int .i64 a97)])) rfl rfl (Light.quiet (kIx (f := (AV.int .i64)) ha97 rfl rfl rfl elemA_32 sizeA_3 rfl)) ?_
      refine ARL.q0 (v := (.int .i64 a97)) rfl rfl (Light.quiet (opLoadR rfl aggA_3 rfl rfl)) ?_
      refine ARL.q0 (v := (.bool (decide (a97 = 0)))) rfl rfl (Light.quiet (opInt rfl rfl rfl rfl)) ?_
      refine ARL.q0 (v := (.list 1 (List.map (AV.int .i64) y4))) rfl rfl (Light.quiet (opAssign rfl rfl)) ?_
      refine ARL.q0 (v := (.bool (decide (a97 = 0)))) rfl rfl (Light.quiet (opAssign rfl rfl)) ?_
      refine ARL.done ?_
      refine AWP.ret ?_
      obtain rfl := someE hF
      exact QRet.many (vs := [(.list 1 (List.map (AV.int .i64) y4)), (.bool (decide (a97 = 0)))]) ⟨rfl, rfl, trivial⟩ (by simp) rfl
    · skip
      refine AWP.seqR rfl ?_
      refine ASL.q (v := (.list 3 (List.map TNode.av p0))) rfl rfl (Light.quiet (opMove rfl rfl)) ?_
      refine ASL.q (v := (.int .i64 (p0.length : Int))) rfl rfl (Light.quiet (opLenMap (f := TNode.av) rfl rfl rfl lenT_24 rfl)) ?_
      refine ASL.q (v := (.int .i64 0)) rfl rfl (Light.quiet (opMove rfl rfl)) ?_
      refine ASL.done ?_
      refine AWP.block ?_
      obtain ⟨o11, hL10, hR12⟩ := bindE hF
      refine AWP.loopF (ω := Unit) hL10 (fun s w => [(0, (.list 3 (List.map TNode.av p0))), (1, (.fn (.func k1) [] [])), (6, v15), (16, (.list 3 (List.map TNode.av p0))), (17, (.int .i64 (p0.length : Int))), (18, (.int .i64 s.2))]) (fun s w => [.row 1 v15 (List.map (AV.int .i64) s.1)]) () ⟨rfl, rfl, rfl, rfl, rfl, rfl, trivial⟩ (hS.pick [0] rfl rfl) ?_
      rintro ⟨y7, x18_l0⟩ _ G13 hS x8 hF hx9
      try dsimp only at hS ⊢
      have hF : impl_begins.b0 p0 g1 y7 x18_l0 = some x8 := hF; unfold impl_begins.b0 at hF
      refine AWP.seqR rfl ?_
      refine ASL.q (v := (.bool (decide (x18_l0 < ((p0.length : Int)))))) rfl rfl (Light.quiet (opInt rfl rfl rfl rfl)) ?_
      refine ASL.done ?_
      refine AWP.seq ?_
      refine AWP.ifP hF rfl (fun hc14 hF => ?_) (fun hc14 hF => ?_)
      · skip
        refine AWP.skip ?_
        refine QThen.nrm ?_
        refine AWP.seq ?_
        refine AWP.block ?_
        refine AWP.seqR rfl ?_
        refine ASL.q (v := (.int .i64 x18_l0)) rfl rfl (Light.quiet (opMove rfl rfl)) ?_
        obtain ⟨a21, ha21, hF⟩ := bindE hF
        refine ASL.q (v := (.rptr [(.int .i64 a21.kind), (.int .i64 a21.a), (.int .i64 a21.b)])) rfl rfl (Light.quiet (kIx (f := TNode.av) ha21 rfl rfl rfl elemA_24 sizeA_59 rfl)) ?_
        refine ASL.q (v := (TNode.av a21)) rfl rfl (Light.quiet (opLoadRA rfl aggA_59 sizeA_59 rfl (nlt rfl) rfl)) ?_
        refine ASL.x rfl rfl (hNewZ hS [(.int .i64 0), (.int .i64 0), (.int .i64 0)] rfl zeroA_59 ⟨.inl rfl, .inl rfl, .inl rfl, trivial⟩ ?_); rintro b8 G15 hK hS
        refine ASL.q (v := (.int .i64 x18_l0)) rfl rfl (Light.quiet (opAssign rfl rfl)) ?_
        refine ASL.n rfl rfl (hPutA hS (j := 0) rfl rfl sizeA_59 rfl rfl rfl rfl rfl (nlt rfl) ?_); rintro G17 hS
        refine ASL.done ?_
        refine AWP.seqR rfl ?_
        refine ASL.q (v := v15) rfl rfl (Light.quiet (opMove rfl rfl)) ?_
        refine ASL.q (v := (.int .i64 x18_l0)) rfl rfl (Light.quiet (opMove rfl rfl)) ?_
        refine ASL.q (v := (.int .i64 x18_l0)) rfl rfl (Light.quiet (opMove rfl rfl)) ?_
        obtain ⟨m26, hm26, hF⟩ := bindE hF
        refine ASL.q (v := (ptrTo v15 m26 1)) rfl rfl (Light.quiet (kIxO hS (j := 1) rfl hm26 rfl rfl rfl elemA_32 sizeA_3)) ?_
        refine ASL.n rfl rfl (hSt (f := (AV.int .i64)) (a := x18_l0) hS (j := 1) rfl hm26 rfl sizeA_3 rfl rfl ⟨rfl, rfl, rfl⟩ ?_); rintro G18 hS
        refine ASL.done ?_
        refine AWP.seqR rfl ?_
        refine ASL.q (v := (.fn (.func k1) [] [])) rfl rfl (Light.quiet (opMove rfl rfl)) ?_
        refine ASL.q (v := (TNode.av a21)) rfl rfl (Light.quiet (kAtA hS (j := 0) rfl rfl aggA_59 sizeA_59 rfl (nlt rfl) rfl)) ?_
        obtain ⟨a29, ha29, hF⟩ := bindE hF
        refine ASL.q (v := (.int .i64 a29)) rfl rfl ((qCall rfl rfl hcal1 ((hg1 _ _) ha29) rfl)) ?_
        refine ASL.done ?_
        refine AWP.block ?_
        refine AWP.seqR rfl ?_
        refine ASL.q (v := (.bool (decide (a29 = 0)))) rfl rfl (Light.quiet (opInt rfl rfl rfl rfl)) ?_
        refine ASL.q (v := (.bool (decide (a29 = 0)))) rfl rfl (Light.quiet (opAssign rfl rfl)) ?_
        refine ASL.done ?_
        refine AWP.ifP hF rfl (fun hc19 hF => ?_) (fun hc19 hF => ?_)
        · skip
          refine AWP.exit ?_
          refine QBlock.miss rfl ?_
          refine QBlock.hit ?_
          refine QThen.nrm ?_
          refine AWP.lastR rfl ?_
          refine ASL.q (v := (.int .i64 (W (x18_l0 + 1)))) rfl rfl (Light.quiet (opInt rfl rfl rfl rfl)) ?_
          refine ASL.q (v := (.int .i64 (W (x18_l0 + 1)))) rfl rfl (Light.quiet (opMove rfl rfl)) ?_
          refine ASL.done ?_
          refine QThen.nrm ?_
          exact ⟨((y7.set m26 x18_l0), (W (x18_l0 + 1))), (), (someE hF).symm, ⟨rfl, rfl, rfl, rfl, rfl, rfl, trivial⟩, (hS.pick [1] rfl rfl)⟩
        · skip
          refine AWP.seqR rfl ?_
          refine ASL.q (v := (.bool (decide (a29 = 1)))) rfl rfl (Light.quiet (opInt rfl rfl rfl rfl)) ?_
          refine ASL.q (v := (.bool (decide (a29 = 1)))) rfl rfl (Light.quiet (opAssign rfl rfl)) ?_
          refine ASL.done ?_
          refine AWP.ifP hF rfl (fun hc20 hF => ?_) (fun hc20 hF => ?_)
          · skip
            refine AWP.seq ?_
            refine AWP.seqR rfl ?_
            refine ASL.q (v := (.int .i64 x18_l0)) rfl rfl (Light.quiet (opMove rfl rfl)) ?_
            refine ASL.q (v := (.bool (decide (x18_l0 = 0)))) rfl rfl (Light.quiet (opInt rfl rfl rfl rfl)) ?_
            obtain ⟨c36, hc36, hF⟩ := bndE hF
            refine ASL.q (v := (.bool c36)) rfl rfl ((Quiet.cast (Light.quiet (opMove rfl rfl)) (congrArg AV.bool hc36.symm))) ?_
            refine ASL.g (v := (.ptr b8 1)) (.bool c36) false rfl (wF _) rfl (fun hG => by have q0 := gN hG; subst q0; exact Light.quiet (opFieldAddr rfl fieldA_59_1 rfl rfl)) ?_
            refine ASL.g (v := (.int .i64 a21.a)) (.bool c36) false rfl (wF _) rfl (fun hG => by have q0 := gN hG; subst q0; exact Light.quiet (kAt hS (j := 0) rfl rfl aggA_3 rfl rfl)) ?_
            refine ASL.g (v := (.int .i64 x18_l0)) (.bool c36) false rfl (wF _) rfl (fun hG => by have q0 := gN hG; subst q0; exact Light.quiet (opMove rfl rfl)) ?_
            refine ASL.g (v := (.int .i64 (W (x18_l0 - 1)))) (.bool c36) false rfl (wF _) rfl (fun hG => by have q0 := gN hG; subst q0; exact Light.quiet (opInt rfl rfl rfl rfl)) ?_
            refine ASL.g (v := (.bool (decide (a21.a ≠ ((W (x18_l0 - 1))))))) (.bool c36) false rfl (wF _) rfl (fun hG => by have q0 := gN hG; subst q0; exact Light.quiet (opInt rfl rfl rfl rfl)) ?_
            refine ASL.q (v := (.bool (c36 || (decide (a21.a ≠ ((W (x18_l0 - 1)))))))) rfl rfl (Light.quiet (opPick (b := c36) rfl rfl (by cases c36 <;> rfl))) ?_
            obtain ⟨c43, hc43, hF⟩ := bndE hF
            refine ASL.q (v := (.bool c43)) rfl rfl ((Quiet.cast (Light.quiet (opMove rfl rfl)) (congrArg AV.bool hc43.symm))) ?_
            refine ASL.g (v := (.ptr b8 2)) (.bool c43) false rfl (wF _) rfl (fun hG => by have q0 := gN hG; subst q0; exact Light.quiet (opFieldAddr rfl fieldA_59_2 rfl rfl)) ?_
            refine ASL.g (v := (.int .i64 a21.b)) (.bool c43) false rfl (wF _) rfl (fun hG => by have q0 := gN hG; subst q0; exact Light.quiet (kAt hS (j := 0) rfl rfl aggA_3 rfl rfl)) ?_
            refine ASL.g (v := (.bool (decide (a21.b ≠ 0)))) (.bool c43) false rfl (wF _) rfl (fun hG => by have q0 := gN hG; subst q0; exact Light.quiet (opInt rfl rfl rfl rfl)) ?_
            refine ASL.q (v := (.bool (c43 || (decide (a21.b ≠ 0))))) rfl rfl (Light.quiet (opPick (b := c43) rfl rfl (by cases c43 <;> rfl))) ?_
            refine ASL.done ?_
            refine AWP.ifB hF rfl (fun hc21 hF => ?_) (fun hc21 hF => ?_)
            · skip
              refine AWP.seqR rfl ?_
              refine ASL.q (v := (.list 1 (List.map (AV.int .i64) []))) rfl rfl (Light.quiet (opNilL rfl rfl)) ?_
              refine ASL.q (v := (.bool false)) rfl rfl (Light.quiet (opAssign rfl rfl)) ?_
              refine ASL.done ?_
              refine AWP.ret ?_
              refine QThen.rt ?_
              refine QBlock.ret ?_
              refine QBlock.ret ?_
              refine QThen.rt ?_
              refine QThen.rt ?_
              refine QBlock.ret ?_
              refine QThen.rt ?_
              obtain rfl := (hx9 _ (someE hF).symm)
              have hF := hR12
              have hF := sumR hF
              obtain rfl := someE hF
              exact QRet.many (vs := [(.list 1 (List.map (AV.int .i64) [])), (.bool false)]) ⟨rfl, rfl, trivial⟩ (by simp) rfl
            · skip
              refine AWP.skip ?_
              refine QThen.nrm ?_
              refine AWP.lastR rfl ?_
              refine ASL.q (v := v15) rfl rfl (Light.quiet (opMove rfl rfl)) ?_
              refine ASL.q (v := (.int .i64 x18_l0)) rfl rfl (Light.quiet (opMove rfl rfl)) ?_
              refine ASL.q (v := v15) rfl rfl (Light.quiet (opMove rfl rfl)) ?_
              refine ASL.q (v := (.ptr b8 1)) rfl rfl (Light.quiet (opFieldAddr rfl fieldA_59_1 rfl rfl)) ?_
              refine ASL.q (v := (.int .i64 a21.a)) rfl rfl (Light.quiet (kAt hS (j := 0) rfl rfl aggA_3 rfl rfl)) ?_
              obtain ⟨a53, ha53, hF⟩ := bindE hF
              refine ASL.q (v := (ptrTo v15 a21.a.toNat 1)) rfl rfl (Light.quiet (kIxOx hS (j := 1) rfl ha53 rfl rfl rfl elemA_32 sizeA_3)) ?_
              refine ASL.q (v := (.int .i64 a53)) rfl rfl (Light.quiet (kLd (f := (AV.int .i64)) hS (j := 1) rfl ha53 rfl aggA_3 rfl (fun _ => rfl))) ?_
              obtain ⟨m55, hm55, hF⟩ := bindE hF
              refine ASL.q (v := (ptrTo v15 m55 1)) rfl rfl (Light.quiet (kIxO hS (j := 1) rfl hm55 rfl rfl rfl elemA_32 sizeA_3)) ?_
              refine ASL.n rfl rfl (hSt (f := (AV.int .i64)) (a := a53) hS (j := 1) rfl hm55 rfl sizeA_3 rfl rfl ⟨rfl, rfl, rfl⟩ ?_); rintro G22 hS
              refine ASL.done ?_
              refine QBlock.nrm ?_
              refine QBlock.nrm ?_
              refine QThen.nrm ?_
              refine AWP.lastR rfl ?_
              refine ASL.q (v := (.int .i64 (W (x18_l0 + 1)))) rfl rfl (Light.quiet (opInt rfl rfl rfl rfl)) ?_
              refine ASL.q (v := (.int .i64 (W (x18_l0 + 1)))) rfl rfl (Light.quiet (opMove rfl rfl)) ?_
              refine ASL.done ?_
              refine QThen.nrm ?_
              exact ⟨((((y7.set m26 x18_l0)).set m55 a53), (W (x18_l0 + 1))), (), (someE hF).symm, ⟨rfl, rfl, rfl, rfl, rfl, rfl, trivial⟩, (hS.pick [1] rfl rfl)⟩
          · skip
            refine AWP.seqR rfl ?_
            refine ASL.q (v := (.bool (decide (a29 = 2)))) rfl rfl (Light.quiet (opInt rfl rfl rfl rfl)) ?_
            refine ASL.q (v := (.bool (decide (a29 = 2)))) rfl rfl (Light.quiet (opAssign rfl rfl)) ?_
            refine ASL.done ?_
            refine AWP.ifP hF rfl (fun hc23 hF => ?_) (fun hc23 hF => ?_)
            · skip
              refine AWP.seq ?_
              refine AWP.seqD [(0, false), (1, false), (2, false), (3, false), (4, false), (5, false), (6, false), (7, false), (8, false), (9, false), (10, false), (11, false), (12, false), (13, false), (14, false), (15, false), (16, false), (17, false), (18, false), (19, false), (20, false), (21, false), (22, false), (23, false), (24, false)] mixed (by kernel_rfl) rfl ?_
              refine ARL.q0 (v := (.int .i64 x18_l0)) rfl rfl (Light.quiet (opMove rfl rfl)) ?_
              refine ARL.q0 (v := (.bool (decide (x18_l0 = 0)))) rfl rfl (Light.quiet (opInt rfl rfl rfl rfl)) ?_
              obtain ⟨c60, hc60, hF⟩ := bndE hF
              refine ARL.q0 (v := (.bool c60)) rfl rfl ((Quiet.cast (Light.quiet (opMove rfl rfl)) (congrArg AV.bool hc60.symm))) ?_
              refine ARL.g (v := (.ptr b8 2)) (.bool c60) false rfl (wF _) rfl noneAlive (fun hG => by have q0 := gN hG; subst q0; exact Light.quiet (opFieldAddr rfl fieldA_59_2 rfl rfl)) ?_
              refine ARL.g (v := (.int .i64 a21.b)) (.bool c60) false rfl (wF _) rfl (hS.aliveC (k := 0) rfl) (fun hG => by have q0 := gN hG; subst q0; exact Light.quiet (kAt hS (j := 0) rfl rfl aggA_3 rfl rfl)) ?_
              refine ARL.g (v := (.int .i64 x18_l0)) (.bool c60) false rfl (wF _) rfl noneAlive (fun hG => by have q0 := gN hG; subst q0; exact Light.quiet (opMove rfl rfl)) ?_
              refine ARL.g (v := (.int .i64 (W (x18_l0 - 1)))) (.bool c60) false rfl (wF _) rfl noneAlive (fun hG => by have q0 := gN hG; subst q0; exact Light.quiet (opInt rfl rfl rfl rfl)) ?_
              refine ARL.g (v := (.bool (decide (a21.b ≠ ((W (x18_l0 - 1))))))) (.bool c60) false rfl (wF _) rfl noneAlive (fun hG => by have q0 := gN hG; subst q0; exact Light.quiet (opInt rfl rfl rfl rfl)) ?_
              refine ARL.q0 (v := (.bool (c60 || (decide (a21.b ≠ ((W (x18_l0 - 1)))))))) rfl rfl (Light.quiet (opPick (b := c60) rfl rfl (by cases c60 <;> rfl))) ?_
              obtain ⟨c67, hc67, hF⟩ := bndE hF
              refine ARL.q0 (v := (.bool c67)) rfl rfl ((Quiet.cast (Light.quiet (opMove rfl rfl)) (congrArg AV.bool hc67.symm))) ?_
              refine ARL.g (v := (.ptr b8 1)) (.bool c67) false rfl (wF _) rfl noneAlive (fun hG => by have q0 := gN hG; subst q0; exact Light.quiet (opFieldAddr rfl fieldA_59_1 rfl rfl)) ?_
              refine ARL.g (v := (.int .i64 a21.a)) (.bool c67) false rfl (wF _) rfl (hS.aliveC (k := 0) rfl) (fun hG => by have q0 := gN hG; subst q0; exact Light.quiet (kAt hS (j := 0) rfl rfl aggA_3 rfl rfl)) ?_
              refine ARL.g (v := v15) (.bool c67) false rfl (wF _) rfl noneAlive (fun hG => by have q0 := gN hG; subst q0; exact Light.quiet (opMove rfl rfl)) ?_
              refine ARL.g (v := (.int .i64 x18_l0)) (.bool c67) false rfl (wF _) rfl noneAlive (fun hG => by have q0 := gN hG; subst q0; exact Light.quiet (opMove rfl rfl)) ?_
              refine ARL.g (v := (.int .i64 (W (x18_l0 - 1)))) (.bool c67) false rfl (wF _) rfl noneAlive (fun hG => by have q0 := gN hG; subst q0; exact Light.quiet (opInt rfl rfl rfl rfl)) ?_
              obtain ⟨a73, ha73, hF⟩ := bindE hF
              refine ARL.g (v := (ptrTo v15 ((W (x18_l0 - 1))).toNat 1)) (.bool c67) false rfl (wF _) rfl noneAlive (fun hG => by have q0 := gN hG; subst q0; exact Light.quiet (kIxOx hS (j := 1) rfl (whenE ha73) rfl rfl rfl elemA_32 sizeA_3)) ?_
              refine ARL.g (v := (.int .i64 a73)) (.bool c67) false rfl (wF _) rfl (hS.aliveR (k := 1) rfl) (fun hG => by have q0 := gN hG; subst q0; exact Light.quiet (kLd (f := (AV.int .i64)) hS (j := 1) rfl (whenE ha73) rfl aggA_3 rfl (fun _ => rfl))) ?_
              refine ARL.g (v := (.int .i64 (W (a73 - 1)))) (.bool c67) false rfl (wF _) rfl noneAlive (fun hG => by have q0 := gN hG; subst q0; exact Light.quiet (opInt rfl rfl rfl rfl)) ?_
              refine ARL.g (v := (.bool (decide (a21.a ≠ ((W (a73 - 1))))))) (.bool c67) false rfl (wF _) rfl noneAlive (fun hG => by have q0 := gN hG; subst q0; exact Light.quiet (opInt rfl rfl rfl rfl)) ?_
              refine ARL.q0 (v := (.bool (c67 || (decide (a21.a ≠ ((W (a73 - 1)))))))) rfl rfl (Light.quiet (opPick (b := c67) rfl rfl (by cases c67 <;> rfl))) ?_
              obtain ⟨c78, hc78, hF⟩ := bndE hF
              refine ARL.q0 (v := (.bool c78)) rfl rfl ((Quiet.cast (Light.quiet (opMove rfl rfl)) (congrArg AV.bool hc78.symm))) ?_
              refine ARL.g (v := (.ptr b8 1)) (.bool c78) false rfl (wF _) rfl noneAlive (fun hG => by have q0 := gN hG; subst q0; exact Light.quiet (opFieldAddr rfl fieldA_59_1 rfl rfl)) ?_
              refine ARL.g (v := (.int .i64 a21.a)) (.bool c78) false rfl (wF _) rfl (hS.aliveC (k := 0) rfl) (fun hG => by have q0 := gN hG; subst q0; exact Light.quiet (kAt hS (j := 0) rfl rfl aggA_3 rfl rfl)) ?_
              refine ARL.g (v := (.bool (decide (a21.a < 0)))) (.bool c78) false rfl (wF _) rfl noneAlive (fun hG => by have q0 := gN hG; subst q0; exact Light.quiet (opInt rfl rfl rfl rfl)) ?_
              refine ARL.q0 (v := (.bool (c78 || (decide (a21.a < 0))))) rfl rfl (Light.quiet (opPick (b := c78) rfl rfl (by cases c78 <;> rfl))) ?_
              refine ARL.done ?_
              refine AWP.ifB hF rfl (fun hc24 hF => ?_) (fun hc24 hF => ?_)
              · skip
                refine AWP.seqR rfl ?_
                refine ASL.q (v := (.list 1 (List.map (AV.int .i64) []))) rfl rfl (Light.quiet (opNilL rfl rfl)) ?_
                refine ASL.q (v := (.bool false)) rfl rfl (Light.quiet (opAssign rfl rfl)) ?_
                refine ASL.done ?_
                refine AWP.ret ?_
                refine QThen.rt ?_
                refine QBlock.ret ?_
                refine QBlock.ret ?_
                refine QThen.rt ?_
                refine QThen.rt ?_
                refine QBlock.ret ?_
                refine QThen.rt ?_
                obtain rfl := (hx9 _ (someE hF).symm)
                have hF := hR12
                have hF := sumR hF
                obtain rfl := someE hF
                exact QRet.many (vs := [(.list 1 (List.map (AV.int .i64) [])), (.bool false)]) ⟨rfl, rfl, trivial⟩ (by simp) rfl
              · skip
                refine AWP.skip ?_
                refine QThen.nrm ?_
                refine AWP.lastR rfl ?_
                refine ASL.q (v := v15) rfl rfl (Light.quiet (opMove rfl rfl)) ?_
                refine ASL.q (v := (.int .i64 x18_l0)) rfl rfl (Light.quiet (opMove rfl rfl)) ?_
                refine ASL.q (v := v15) rfl rfl (Light.quiet (opMove rfl rfl)) ?_
                refine ASL.q (v := (.ptr b8 1)) rfl rfl (Light.quiet (opFieldAddr rfl fieldA_59_1 rfl rfl)) ?_
                refine ASL.q (v := (.int .i64 a21.a)) rfl rfl (Light.quiet (kAt hS (j := 0) rfl rfl aggA_3 rfl rfl)) ?_
                obtain ⟨a88, ha88, hF⟩ := bindE hF
                refine ASL.q (v := (ptrTo v15 a21.a.toNat 1)) rfl rfl (Light.quiet (kIxOx hS (j := 1) rfl ha88 rfl rfl rfl elemA_32 sizeA_3)) ?_
                refine ASL.q (v := (.int .i64 a88)) rfl rfl (Light.quiet (kLd (f := (AV.int .i64)) hS (j := 1) rfl ha88 rfl aggA_3 rfl (fun _ => rfl))) ?_
                obtain ⟨m90, hm90, hF⟩ := bindE hF
                refine ASL.q (v := (ptrTo v15 m90 1)) rfl rfl (Light.quiet (kIxO hS (j := 1) rfl hm90 rfl rfl rfl elemA_32 sizeA_3)) ?_
                refine ASL.n rfl rfl (hSt (f := (AV.int .i64)) (a := a88) hS (j := 1) rfl hm90 rfl sizeA_3 rfl rfl ⟨rfl, rfl, rfl⟩ ?_); rintro G25 hS
                refine ASL.done ?_
                refine QBlock.nrm ?_
                refine QBlock.nrm ?_
                refine QThen.nrm ?_
                refine AWP.lastR rfl ?_
                refine ASL.q (v := (.int .i64 (W (x18_l0 + 1)))) rfl rfl (Light.quiet (opInt rfl rfl rfl rfl)) ?_
                refine ASL.q (v := (.int .i64 (W (x18_l0 + 1)))) rfl rfl (Light.quiet (opMove rfl rfl)) ?_
                refine ASL.done ?_
                refine QThen.nrm ?_
                exact ⟨((((y7.set m26 x18_l0)).set m90 a88), (W (x18_l0 + 1))), (), (someE hF).symm, ⟨rfl, rfl, rfl, rfl, rfl, rfl, trivial⟩, (hS.pick [1] rfl rfl)⟩
            · skip
              refine AWP.seqR rfl ?_
              refine ASL.q (v := (.list 1 (List.map (AV.int .i64) []))) rfl rfl (Light.quiet (opNilL rfl rfl)) ?_
              refine ASL.q (v := (.bool false)) rfl rfl (Light.quiet (opAssign rfl rfl)) ?_
              refine ASL.done ?_
              refine AWP.ret ?_
              refine QBlock.ret ?_
              refine QBlock.ret ?_
              refine QThen.rt ?_
              refine QThen.rt ?_
              refine QBlock.ret ?_
              refine QThen.rt ?_
              obtain rfl := (hx9 _ (someE hF).symm)
              have hF := hR12
              have hF := sumR hF
              obtain rfl := someE hF
              exact QRet.many (vs := [(.list 1 (List.map (AV.int .i64) [])), (.bool false)]) ⟨rfl, rfl, trivial⟩ (by simp) rfl
      · skip
        refine AWP.exit ?_
        refine QThen.ext ?_
        refine QThen.ext ?_
        refine QBlock.hit ?_
        obtain rfl := (hx9 _ (someE hF).symm)
        have hF := hR12
        have hF := sumL hF
        refine QThen.nrm ?_
        exact ⟨y7, ⟨rfl, rfl, trivial⟩, (hS.pick [0] rfl rfl), hF⟩

set_option maxRecDepth 10000 in
theorem impl_isTree_ok {p0 : (List TNode)} {g1 : (TNode → Option Int)} {r : Bool} {k1 : Nat} (hcal1 : callable Try.prog k1 = true) (hg1 : ∀ q0 y, g1 q0 = some y → PC Try.prog k1 [(TNode.av q0)] fun v => v = (.int .i64 y)) (hF : impl_isTree p0 g1 = some r) : PC Try.prog 60 [(.list 3 (List.map TNode.av p0)), (.fn (.func k1) [] [])] fun v => v = (.bool r) := by
  refine PC.enter Try.func60 rfl Try.ntmps60 (by simp) ?_
  have hS := Sep.void; unfold impl_isTree at hF
  refine AWP.seqR rfl ?_
  refine ASL.q (v := (.bool false)) rfl rfl (Light.quiet (opAssign rfl rfl)) ?_
  refine ASL.done ?_
  refine AWP.seqR rfl ?_
  refine ASL.q (v := (.list 3 (List.map TNode.av p0))) rfl rfl (Light.quiet (opMove rfl rfl)) ?_
  refine ASL.q (v := (.fn (.func k1) [] [])) rfl rfl (Light.quiet (opMove rfl rfl)) ?_
  obtain ⟨a10, ha10, hF⟩ := bindE hF
  refine ASL.q (v := (.tup [(.list 1 (List.map (AV.int .i64) a10.1)), (.bool a10.2)])) rfl rfl ((qCall rfl rfl call_100 (impl_begins_ok hcal1 hg1 ha10) rfl)) ?_
  refine ASL.q (v := (.tup [(.list 1 (List.map (AV.int .i64) a10.1)), (.bool a10.2)])) rfl rfl (Light.quiet (opMove rfl rfl)) ?_
  refine ASL.q (v := (.list 1 (List.map (AV.int .i64) a10.1))) rfl rfl (Light.quiet (opExtract rfl rfl rfl)) ?_
  refine ASL.q (v := (.bool a10.2)) rfl rfl (Light.quiet (opExtract rfl rfl rfl)) ?_
  refine ASL.q (v := (.list 1 (List.map (AV.int .i64) a10.1))) rfl rfl (Light.quiet (opAssign rfl rfl)) ?_
  refine ASL.q (v := (.bool a10.2)) rfl rfl (Light.quiet (opAssign rfl rfl)) ?_
  refine ASL.done ?_
  refine AWP.seqR rfl ?_
  refine ASL.q (v := (.bool a10.2)) rfl rfl (Light.quiet (opMove rfl rfl)) ?_
  refine ASL.q (v := (.bool a10.2)) rfl rfl (Light.quiet (opAssign rfl rfl)) ?_
  refine ASL.done ?_
  refine AWP.ret ?_
  obtain rfl := someE hF
  exact QRet.sole (v := (.bool a10.2)) ⟨rfl, trivial⟩ rfl

set_option maxRecDepth 10000 in
theorem impl_leaf_ok (p0 : TNode) (p1 : Int) : PC Try.prog 119 [(TNode.av p0), (.int .i64 p1)] fun v => v = (.int .i64 (impl_leaf p0 p1)) := by
  generalize hF : impl_leaf p0 p1 = r
  refine PC.enter Try.func119 rfl Try.ntmps119 (by simp) ?_
  have hS := Sep.void; unfold impl_leaf at hF
  refine AWP.seqR rfl ?_
  refine ASL.q (v := (.rptr [(.int .i64 p0.kind), (.int .i64 p0.a), (.int .i64 p0.b)])) rfl rfl ((qBoxI (v := (TNode.av p0)) rfl rfl rfl rfl)) ?_
  refine ASL.q (v := (.int .i64 0)) rfl rfl (Light.quiet (opAssign rfl rfl)) ?_
  refine ASL.done ?_
  refine AWP.seq ?_
  refine AWP.seqR rfl ?_
  refine ASL.q (v := (.rptr [(.int .i64 p0.b)])) rfl rfl (Light.quiet (opFieldAddrR rfl fieldA_59_2 rfl rfl)) ?_
  refine ASL.q (v := (.int .i64 p0.b)) rfl rfl (Light.quiet (opLoadR rfl aggA_3 rfl rfl)) ?_
  refine ASL.q (v := (.bool (decide (p0.b = 0)))) rfl rfl (Light.quiet (opInt rfl rfl rfl rfl)) ?_
  obtain ⟨c8, hc8, hF⟩ := bndE hF
  refine ASL.q (v := (.bool c8)) rfl rfl ((Quiet.cast (Light.quiet (opMove rfl rfl)) (congrArg AV.bool hc8.symm))) ?_
  refine ASL.g (v := (.rptr [(.int .i64 p0.a), (.int .i64 p0.b)])) (.bool c8) true rfl (wT _) rfl (fun hG => by have q0 := hG; subst q0; exact Light.quiet (opFieldAddrR rfl fieldA_59_1 rfl rfl)) ?_
  refine ASL.g (v := (.int .i64 p0.a)) (.bool c8) true rfl (wT _) rfl (fun hG => by have q0 := hG; subst q0; exact Light.quiet (opLoadR rfl aggA_3 rfl rfl)) ?_
  refine ASL.g (v := (.int .i64 p1)) (.bool c8) true rfl (wT _) rfl (fun hG => by have q0 := hG; subst q0; exact Light.quiet (opMove rfl rfl)) ?_
  refine ASL.g (v := (.bool (impl_inRange p0.a 0 p1))) (.bool c8) true rfl (wT _) rfl (fun hG => by have q0 := hG; subst q0; exact (qCall rfl rfl call_90 (impl_inRange_ok p0.a 0 p1) rfl)) ?_
  refine ASL.q (v := (.bool (c8 && (impl_inRange p0.a 0 p1)))) rfl rfl (Light.quiet (opPick (b := c8) rfl rfl (by cases c8 <;> rfl))) ?_
  refine ASL.done ?_
  refine AWP.ifB hF rfl (fun hc1 hF => ?_) (fun hc1 hF => ?_)
  · skip
    refine AWP.seqR rfl ?_
    refine ASL.q (v := (.int .i64 0)) rfl rfl (Light.quiet (opAssign rfl rfl)) ?_
    refine ASL.done ?_
    refine AWP.ret ?_
    refine QThen.rt ?_
    obtain rfl := hF
    exact QRet.sole (v := (.int .i64 0)) ⟨rfl, trivial⟩ rfl
  · skip
    refine AWP.skip ?_
    refine QThen.nrm ?_
    refine AWP.seqR rfl ?_
    refine ASL.q (v := (.int .i64 (-1))) rfl rfl (Light.quiet (opAssign rfl rfl)) ?_
    refine ASL.done ?_
    refine AWP.ret ?_
    obtain rfl := hF
    exact QRet.sole (v := (.int .i64 (-1))) ⟨rfl, trivial⟩ rfl

set_option maxRecDepth 10000 in
theorem impl_exprParts_ok (p0 : TNode) : PC Try.prog 99 [(TNode.av p0)] fun v => v = (.int .i64 (impl_exprParts p0)) := by
  generalize hF : impl_exprParts p0 = r
  refine PC.enter Try.func99 rfl Try.ntmps99 (by simp) ?_
  have hS := Sep.void; unfold impl_exprParts at hF
  refine AWP.seqR rfl ?_
  refine ASL.q (v := (.rptr [(.int .i64 p0.kind), (.int .i64 p0.a), (.int .i64 p0.b)])) rfl rfl ((qBoxI (v := (TNode.av p0)) rfl rfl rfl rfl)) ?_
  refine ASL.q (v := (.int .i64 0)) rfl rfl (Light.quiet (opAssign rfl rfl)) ?_
  refine ASL.done ?_
  refine AWP.seq ?_
  refine AWP.seqR rfl ?_
  refine ASL.q (v := (.rptr [(.int .i64 p0.kind), (.int .i64 p0.a), (.int .i64 p0.b)])) rfl rfl (Light.quiet (opFieldAddrR rfl fieldA_59_0 rfl rfl)) ?_
  refine ASL.q (v := (.int .i64 p0.kind)) rfl rfl (Light.quiet (opLoadR rfl aggA_3 rfl rfl)) ?_
  refine ASL.done ?_
  refine AWP.block ?_
  refine AWP.seqM (fun e H => ∃ x5_1 : Bool, E.Told e [(1, (.rptr [(.int .i64 p0.kind), (.int .i64 p0.a), (.int .i64 p0.b)])), (4, (.int .i64 p0.kind)), (5, (.bool x5_1))] ∧ E.Sep H [] ∧ impl_exprParts.k0 p0 x5_1 = r) ?_ ?_
  · rintro e0 G7 ⟨x5_1, hT, hS, hF⟩; refine AWP.only _ hT ?_; unfold impl_exprParts.k0 at hF
    refine AWP.ifB hF rfl (fun hc1 hF => ?_) (fun hc1 hF => ?_)
    · skip
      refine AWP.seqR rfl ?_
      refine ASL.q (v := (TNode.av p0)) rfl rfl (Light.quiet (opLoadRA rfl aggA_59 sizeA_59 rfl (nlt rfl) rfl)) ?_
      refine ASL.q (v := (.int .i64 (impl_leaf p0 0))) rfl rfl ((qCall rfl rfl call_119 (impl_leaf_ok p0 0) rfl)) ?_
      refine ASL.q (v := (.int .i64 (impl_leaf p0 0))) rfl rfl (Light.quiet (opAssign rfl rfl)) ?_
      refine ASL.done ?_
      refine AWP.ret ?_
      refine QBlock.ret ?_
      refine QThen.rt ?_
      obtain rfl := hF
      exact QRet.sole (v := (.int .i64 (impl_leaf p0 0))) ⟨rfl, trivial⟩ rfl
    · skip
      refine AWP.seqR rfl ?_
      refine ASL.q (v := (.bool (decide (p0.kind = 3)))) rfl rfl (Light.quiet (opInt rfl rfl rfl rfl)) ?_
      refine ASL.q (v := (.bool (decide (p0.kind = 3)))) rfl rfl (Light.quiet (opAssign rfl rfl)) ?_
      refine ASL.done ?_
      refine AWP.ifP hF rfl (fun hc2 hF => ?_) (fun hc2 hF => ?_)
      · skip
        refine AWP.seqR rfl ?_
        refine ASL.q (v := (TNode.av p0)) rfl rfl (Light.quiet (opLoadRA rfl aggA_59 sizeA_59 rfl (nlt rfl) rfl)) ?_
        refine ASL.q (v := (.int .i64 (impl_leaf p0 2))) rfl rfl ((qCall rfl rfl call_119 (impl_leaf_ok p0 2) rfl)) ?_
        refine ASL.q (v := (.int .i64 (impl_leaf p0 2))) rfl rfl (Light.quiet (opAssign rfl rfl)) ?_
        refine ASL.done ?_
        refine AWP.ret ?_
        refine QBlock.ret ?_
        refine QThen.rt ?_
        obtain rfl := hF
        exact QRet.sole (v := (.int .i64 (impl_leaf p0 2))) ⟨rfl, trivial⟩ rfl
      · skip
        refine AWP.seqR rfl ?_
        refine ASL.q (v := (.bool (decide (p0.kind = 4)))) rfl rfl (Light.quiet (opInt rfl rfl rfl rfl)) ?_
        refine ASL.q (v := (.bool (decide (p0.kind = 4)))) rfl rfl (Light.quiet (opAssign rfl rfl)) ?_
        refine ASL.done ?_
        refine AWP.ifP hF rfl (fun hc3 hF => ?_) (fun hc3 hF => ?_)
        · skip
          refine AWP.seqR rfl ?_
          refine ASL.q (v := (.int .i64 1)) rfl rfl (Light.quiet (opAssign rfl rfl)) ?_
          refine ASL.done ?_
          refine AWP.ret ?_
          refine QBlock.ret ?_
          refine QThen.rt ?_
          obtain rfl := hF
          exact QRet.sole (v := (.int .i64 1)) ⟨rfl, trivial⟩ rfl
        · skip
          refine AWP.seq ?_
          refine AWP.seqR rfl ?_
          refine ASL.q (v := (.bool (decide (p0.kind = 5)))) rfl rfl (Light.quiet (opInt rfl rfl rfl rfl)) ?_
          refine ASL.q (v := (.bool (decide (p0.kind = 5)))) rfl rfl (Light.quiet (opAssign rfl rfl)) ?_
          refine ASL.done ?_
          refine AWP.ifP hF rfl (fun hc4 hF => ?_) (fun hc4 hF => ?_)
          · skip
            refine AWP.skip ?_
            refine QThen.nrm ?_
            refine AWP.ifP hF rfl (fun hc5 hF => ?_) (fun hc5 hF => ?_)
            · skip
              refine AWP.seqR rfl ?_
              refine ASL.q (v := (.int .i64 2)) rfl rfl (Light.quiet (opAssign rfl rfl)) ?_
              refine ASL.done ?_
              refine AWP.ret ?_
              refine QBlock.ret ?_
              refine QThen.rt ?_
              obtain rfl := hF
              exact QRet.sole (v := (.int .i64 2)) ⟨rfl, trivial⟩ rfl
            · skip
              refine AWP.skip ?_
              refine QBlock.nrm ?_
              refine QThen.nrm ?_
              refine AWP.seqR rfl ?_
              refine ASL.q (v := (.int .i64 (-1))) rfl rfl (Light.quiet (opAssign rfl rfl)) ?_
              refine ASL.done ?_
              refine AWP.ret ?_
              obtain rfl := hF
              exact QRet.sole (v := (.int .i64 (-1))) ⟨rfl, trivial⟩ rfl
          · skip
            refine AWP.lastR rfl ?_
            refine ASL.q (v := (.bool (decide (p0.kind = 6)))) rfl rfl (Light.quiet (opInt rfl rfl rfl rfl)) ?_
            refine ASL.q (v := (.bool (decide (p0.kind = 6)))) rfl rfl (Light.quiet (opAssign rfl rfl)) ?_
            refine ASL.done ?_
            refine QThen.nrm ?_
            refine AWP.ifP hF rfl (fun hc6 hF => ?_) (fun hc6 hF => ?_)
            · skip
              refine AWP.seqR rfl ?_
              refine ASL.q (v := (.int .i64 2)) rfl rfl (Light.quiet (opAssign rfl rfl)) ?_
              refine ASL.done ?_
              refine AWP.ret ?_
              refine QBlock.ret ?_
              refine QThen.rt ?_
              obtain rfl := hF
              exact QRet.sole (v := (.int .i64 2)) ⟨rfl, trivial⟩ rfl
            · skip
              refine AWP.skip ?_
              refine QBlock.nrm ?_
              refine QThen.nrm ?_
              refine AWP.seqR rfl ?_
              refine ASL.q (v := (.int .i64 (-1))) rfl rfl (Light.quiet (opAssign rfl rfl)) ?_
              refine ASL.done ?_
              refine AWP.ret ?_
              obtain rfl := hF
              exact QRet.sole (v := (.int .i64 (-1))) ⟨rfl, trivial⟩ rfl
  · skip
    refine AWP.seqR rfl ?_
    refine ASL.q (v := (.bool (decide (p0.kind = 1)))) rfl rfl (Light.quiet (opInt rfl rfl rfl rfl)) ?_
    refine ASL.q (v := (.bool (decide (p0.kind = 1)))) rfl rfl (Light.quiet (opAssign rfl rfl)) ?_
    refine ASL.done ?_
    refine AWP.ifP hF rfl (fun hc8 hF => ?_) (fun hc8 hF => ?_)
    · skip
      refine AWP.skip ?_
      refine QThen.nrm ?_
      exact ⟨(decide (p0.kind = 1)), ⟨rfl, rfl, rfl, trivial⟩, (hS.pick [] rfl rfl), hF⟩
    · skip
      refine AWP.lastR rfl ?_
      refine ASL.q (v := (.bool (decide (p0.kind = 2)))) rfl rfl (Light.quiet (opInt rfl rfl rfl rfl)) ?_
      refine ASL.q (v := (.bool (decide (p0.kind = 2)))) rfl rfl (Light.quiet (opAssign rfl rfl)) ?_
      refine ASL.done ?_
      refine QThen.nrm ?_
      exact ⟨(decide (p0.kind = 2)), ⟨rfl, rfl, rfl, trivial⟩, (hS.pick [] rfl rfl), hF⟩

set_option maxRecDepth 10000 in
theorem impl_ltlParts_ok (p0 : TNode) : PC Try.prog 53 [(TNode.av p0)] fun v => v = (.int .i64 (impl_ltlParts p0)) := by
  generalize hF : impl_ltlParts p0 = r
  refine PC.enter Try.func53 rfl Try.ntmps53 (by simp) ?_
  have hS := Sep.void; unfold impl_ltlParts at hF
  refine AWP.seqR rfl ?_
  refine ASL.q (v := (.rptr [(.int .i64 p0.kind), (.int .i64 p0.a), (.int .i64 p0.b)])) rfl rfl ((qBoxI (v := (TNode.av p0)) rfl rfl rfl rfl)) ?_
  refine ASL.q (v := (.int .i64 0)) rfl rfl (Light.quiet (opAssign rfl rfl)) ?_
  refine ASL.done ?_
  refine AWP.seq ?_
  refine AWP.seqR rfl ?_
  refine ASL.q (v := (.rptr [(.int .i64 p0.kind), (.int .i64 p0.a), (.int .i64 p0.b)])) rfl rfl (Light.quiet (opFieldAddrR rfl fieldA_59_0 rfl rfl)) ?_
  refine ASL.q (v := (.int .i64 p0.kind)) rfl rfl (Light.quiet (opLoadR rfl aggA_3 rfl rfl)) ?_
  refine ASL.done ?_
  refine AWP.block ?_
  refine AWP.seq ?_
  refine AWP.seqR rfl ?_
  refine ASL.q (v := (.bool (decide (p0.kind = 7)))) rfl rfl (Light.quiet (opInt rfl rfl rfl rfl)) ?_
  refine ASL.q (v := (.bool (decide (p0.kind = 7)))) rfl rfl (Light.quiet (opAssign rfl rfl)) ?_
  refine ASL.done ?_
  refine AWP.ifP hF rfl (fun hc1 hF => ?_) (fun hc1 hF => ?_)
  · skip
    refine AWP.skip ?_
    refine QThen.nrm ?_
    refine AWP.ifP hF rfl (fun hc2 hF => ?_) (fun hc2 hF => ?_)
    · skip
      refine AWP.seqR rfl ?_
      refine ASL.q (v := (.int .i64 1)) rfl rfl (Light.quiet (opAssign rfl rfl)) ?_
      refine ASL.done ?_
      refine AWP.ret ?_
      refine QBlock.ret ?_
      refine QThen.rt ?_
      obtain rfl := hF
      exact QRet.sole (v := (.int .i64 1)) ⟨rfl, trivial⟩ rfl
    · skip
      refine AWP.seq ?_
      refine AWP.seqR rfl ?_
      refine ASL.q (v := (.bool (decide (p0.kind = 8)))) rfl rfl (Light.quiet (opInt rfl rfl rfl rfl)) ?_
      refine ASL.q (v := (.bool (decide (p0.kind = 8)))) rfl rfl (Light.quiet (opAssign rfl rfl)) ?_
      refine ASL.done ?_
      refine AWP.ifP hF rfl (fun hc3 hF => ?_) (fun hc3 hF => ?_)
      · skip
        refine AWP.skip ?_
        refine QThen.nrm ?_
        refine AWP.ifP hF rfl (fun hc4 hF => ?_) (fun hc4 hF => ?_)
        · skip
          refine AWP.seqR rfl ?_
          refine ASL.q (v := (.int .i64 2)) rfl rfl (Light.quiet (opAssign rfl rfl)) ?_
          refine ASL.done ?_
          refine AWP.ret ?_
          refine QBlock.ret ?_
          refine QThen.rt ?_
          obtain rfl := hF
          exact QRet.sole (v := (.int .i64 2)) ⟨rfl, trivial⟩ rfl
        · skip
          refine AWP.skip ?_
          refine QBlock.nrm ?_
          refine QThen.nrm ?_
          refine AWP.seqR rfl ?_
          refine ASL.q (v := (TNode.av p0)) rfl rfl (Light.quiet (opLoadRA rfl aggA_59 sizeA_59 rfl (nlt rfl) rfl)) ?_
          refine ASL.q (v := (.int .i64 (impl_exprParts p0))) rfl rfl ((qCall rfl rfl call_99 (impl_exprParts_ok p0) rfl)) ?_
          refine ASL.q (v := (.int .i64 (impl_exprParts p0))) rfl rfl (Light.quiet (opAssign rfl rfl)) ?_
          refine ASL.done ?_
          refine AWP.ret ?_
          obtain rfl := hF
          exact QRet.sole (v := (.int .i64 (impl_exprParts p0))) ⟨rfl, trivial⟩ rfl
      · skip
        refine AWP.lastR rfl ?_
        refine ASL.q (v := (.bool (decide (p0.kind = 9)))) rfl rfl (Light.quiet (opInt rfl rfl rfl rfl)) ?_
        refine ASL.q (v := (.bool (decide (p0.kind = 9)))) rfl rfl (Light.quiet (opAssign rfl rfl)) ?_
        refine ASL.done ?_
        refine QThen.nrm ?_
        refine AWP.ifP hF rfl (fun hc5 hF => ?_) (fun hc5 hF => ?_)
        · skip
          refine AWP.seqR rfl ?_
          refine ASL.q (v := (.int .i64 2)) rfl rfl (Light.quiet (opAssign rfl rfl)) ?_
          refine ASL.done ?_
          refine AWP.ret ?_
          refine QBlock.ret ?_
          refine QThen.rt ?_
          obtain rfl := hF
          exact QRet.sole (v := (.int .i64 2)) ⟨rfl, trivial⟩ rfl
        · skip
          refine AWP.skip ?_
          refine QBlock.nrm ?_
          refine QThen.nrm ?_
          refine AWP.seqR rfl ?_
          refine ASL.q (v := (TNode.av p0)) rfl rfl (Light.quiet (opLoadRA rfl aggA_59 sizeA_59 rfl (nlt rfl) rfl)) ?_
          refine ASL.q (v := (.int .i64 (impl_exprParts p0))) rfl rfl ((qCall rfl rfl call_99 (impl_exprParts_ok p0) rfl)) ?_
          refine ASL.q (v := (.int .i64 (impl_exprParts p0))) rfl rfl (Light.quiet (opAssign rfl rfl)) ?_
          refine ASL.done ?_
          refine AWP.ret ?_
          obtain rfl := hF
          exact QRet.sole (v := (.int .i64 (impl_exprParts p0))) ⟨rfl, trivial⟩ rfl
  · skip
    refine AWP.seqR rfl ?_
    refine ASL.q (v := (.bool (decide (p0.kind = 10)))) rfl rfl (Light.quiet (opInt rfl rfl rfl rfl)) ?_
    refine ASL.q (v := (.bool (decide (p0.kind = 10)))) rfl rfl (Light.quiet (opAssign rfl rfl)) ?_
    refine ASL.done ?_
    refine AWP.ifP hF rfl (fun hc6 hF => ?_) (fun hc6 hF => ?_)
    · skip
      refine AWP.skip ?_
      refine QThen.nrm ?_
      refine AWP.ifP hF rfl (fun hc7 hF => ?_) (fun hc7 hF => ?_)
      · skip
        refine AWP.seqR rfl ?_
        refine ASL.q (v := (.int .i64 1)) rfl rfl (Light.quiet (opAssign rfl rfl)) ?_
        refine ASL.done ?_
        refine AWP.ret ?_
        refine QBlock.ret ?_
        refine QThen.rt ?_
        obtain rfl := hF
        exact QRet.sole (v := (.int .i64 1)) ⟨rfl, trivial⟩ rfl
      · skip
        refine AWP.seq ?_
        refine AWP.seqR rfl ?_
        refine ASL.q (v := (.bool (decide (p0.kind = 8)))) rfl rfl (Light.quiet (opInt rfl rfl rfl rfl)) ?_
        refine ASL.q (v := (.bool (decide (p0.kind = 8)))) rfl rfl (Light.quiet (opAssign rfl rfl)) ?_
        refine ASL.done ?_
        refine AWP.ifP hF rfl (fun hc8 hF => ?_) (fun hc8 hF => ?_)
        · skip
          refine AWP.skip ?_
          refine QThen.nrm ?_
          refine AWP.ifP hF rfl (fun hc9 hF => ?_) (fun hc9 hF => ?_)
          · skip
            refine AWP.seqR rfl ?_
            refine ASL.q (v := (.int .i64 2)) rfl rfl (Light.quiet (opAssign rfl rfl)) ?_
            refine ASL.done ?_
            refine AWP.ret ?_
            refine QBlock.ret ?_
            refine QThen.rt ?_
            obtain rfl := hF
            exact QRet.sole (v := (.int .i64 2)) ⟨rfl, trivial⟩ rfl
          · skip
            refine AWP.skip ?_
            refine QBlock.nrm ?_
            refine QThen.nrm ?_
            refine AWP.seqR rfl ?_
            refine ASL.q (v := (TNode.av p0)) rfl rfl (Light.quiet (opLoadRA rfl aggA_59 sizeA_59 rfl (nlt rfl) rfl)) ?_
            refine ASL.q (v := (.int .i64 (impl_exprParts p0))) rfl rfl ((qCall rfl rfl call_99 (impl_exprParts_ok p0) rfl)) ?_
            refine ASL.q (v := (.int .i64 (impl_exprParts p0))) rfl rfl (Light.quiet (opAssign rfl rfl)) ?_
            refine ASL.done ?_
            refine AWP.ret ?_
            obtain rfl := hF
            exact QRet.sole (v := (.int .i64 (impl_exprParts p0))) ⟨rfl, trivial⟩ rfl
        · skip
          refine AWP.lastR rfl ?_
          refine ASL.q (v := (.bool (decide (p0.kind = 9)))) rfl rfl (Light.quiet (opInt rfl rfl rfl rfl)) ?_
          refine ASL.q (v := (.bool (decide (p0.kind = 9)))) rfl rfl (Light.quiet (opAssign rfl rfl)) ?_
          refine ASL.done ?_
          refine QThen.nrm ?_
          refine AWP.ifP hF rfl (fun hc10 hF => ?_) (fun hc10 hF => ?_)
          · skip
            refine AWP.seqR rfl ?_
            refine ASL.q (v := (.int .i64 2)) rfl rfl (Light.quiet (opAssign rfl rfl)) ?_
            refine ASL.done ?_
            refine AWP.ret ?_
            refine QBlock.ret ?_
            refine QThen.rt ?_
            obtain rfl := hF
            exact QRet.sole (v := (.int .i64 2)) ⟨rfl, trivial⟩ rfl
          · skip
            refine AWP.skip ?_
            refine QBlock.nrm ?_
            refine QThen.nrm ?_
            refine AWP.seqR rfl ?_
            refine ASL.q (v := (TNode.av p0)) rfl rfl (Light.quiet (opLoadRA rfl aggA_59 sizeA_59 rfl (nlt rfl) rfl)) ?_
            refine ASL.q (v := (.int .i64 (impl_exprParts p0))) rfl rfl ((qCall rfl rfl call_99 (impl_exprParts_ok p0) rfl)) ?_
            refine ASL.q (v := (.int .i64 (impl_exprParts p0))) rfl rfl (Light.quiet (opAssign rfl rfl)) ?_
            refine ASL.done ?_
            refine AWP.ret ?_
            obtain rfl := hF
            exact QRet.sole (v := (.int .i64 (impl_exprParts p0))) ⟨rfl, trivial⟩ rfl
    · skip
      refine AWP.lastR rfl ?_
      refine ASL.q (v := (.bool (decide (p0.kind = 11)))) rfl rfl (Light.quiet (opInt rfl rfl rfl rfl)) ?_
      refine ASL.q (v := (.bool (decide (p0.kind = 11)))) rfl rfl (Light.quiet (opAssign rfl rfl)) ?_
      refine ASL.done ?_
      refine QThen.nrm ?_
      refine AWP.ifP hF rfl (fun hc11 hF => ?_) (fun hc11 hF => ?_)
      · skip
        refine AWP.seqR rfl ?_
        refine ASL.q (v := (.int .i64 1)) rfl rfl (Light.quiet (opAssign rfl rfl)) ?_
        refine ASL.done ?_
        refine AWP.ret ?_
        refine QBlock.ret ?_
        refine QThen.rt ?_
        obtain rfl := hF
        exact QRet.sole (v := (.int .i64 1)) ⟨rfl, trivial⟩ rfl
      · skip
        refine AWP.seq ?_
        refine AWP.seqR rfl ?_
        refine ASL.q (v := (.bool (decide (p0.kind = 8)))) rfl rfl (Light.quiet (opInt rfl rfl rfl rfl)) ?_
        refine ASL.q (v := (.bool (decide (p0.kind = 8)))) rfl rfl (Light.quiet (opAssign rfl rfl)) ?_
        refine ASL.done ?_
        refine AWP.ifP hF rfl (fun hc12 hF => ?_) (fun hc12 hF => ?_)
        · skip
          refine AWP.skip ?_
          refine QThen.nrm ?_
          refine AWP.ifP hF rfl (fun hc13 hF => ?_) (fun hc13 hF => ?_)
          · skip
            refine AWP.seqR rfl ?_
            refine ASL.q (v := (.int .i64 2)) rfl rfl (Light.quiet (opAssign rfl rfl)) ?_
            refine ASL.done ?_
            refine AWP.ret ?_
            refine QBlock.ret ?_
            refine QThen.rt ?_
            obtain rfl := hF
            exact QRet.sole (v := (.int .i64 2)) ⟨rfl, trivial⟩ rfl
          · skip
            refine AWP.skip ?_
            refine QBlock.nrm ?_
            refine QThen.nrm ?_
            refine AWP.seqR rfl ?_
            refine ASL.q (v := (TNode.av p0)) rfl rfl (Light.quiet (opLoadRA rfl aggA_59 sizeA_59 rfl (nlt rfl) rfl)) ?_
            refine ASL.q (v := (.int .i64 (impl_exprParts p0))) rfl rfl ((qCall rfl rfl call_99 (impl_exprParts_ok p0) rfl)) ?_
            refine ASL.q (v := (.int .i64 (impl_exprParts p0))) rfl rfl (Light.quiet (opAssign rfl rfl)) ?_
            refine ASL.done ?_
            refine AWP.ret ?_
            obtain rfl := hF
            exact QRet.sole (v := (.int .i64 (impl_exprParts p0))) ⟨rfl, trivial⟩ rfl
        · skip
          refine AWP.lastR rfl ?_
          refine ASL.q (v := (.bool (decide (p0.kind = 9)))) rfl rfl (Light.quiet (opInt rfl rfl rfl rfl)) ?_
          refine ASL.q (v := (.bool (decide (p0.kind = 9)))) rfl rfl (Light.quiet (opAssign rfl rfl)) ?_
          refine ASL.done ?_
          refine QThen.nrm ?_
          refine AWP.ifP hF rfl (fun hc14 hF => ?_) (fun hc14 hF => ?_)
          · skip
            refine AWP.seqR rfl ?_
            refine ASL.q (v := (.int .i64 2)) rfl rfl (Light.quiet (opAssign rfl rfl)) ?_
            refine ASL.done ?_
            refine AWP.ret ?_
            refine QBlock.ret ?_
            refine QThen.rt ?_
            obtain rfl := hF
            exact QRet.sole (v := (.int .i64 2)) ⟨rfl, trivial⟩ rfl
          · skip
            refine AWP.skip ?_
            refine QBlock.nrm ?_
            refine QThen.nrm ?_
            refine AWP.seqR rfl ?_
            refine ASL.q (v := (TNode.av p0)) rfl rfl (Light.quiet (opLoadRA rfl aggA_59 sizeA_59 rfl (nlt rfl) rfl)) ?_
            refine ASL.q (v := (.int .i64 (impl_exprParts p0))) rfl rfl ((qCall rfl rfl call_99 (impl_exprParts_ok p0) rfl)) ?_
            refine ASL.q (v := (.int .i64 (impl_exprParts p0))) rfl rfl (Light.quiet (opAssign rfl rfl)) ?_
            refine ASL.done ?_
            refine AWP.ret ?_
            obtain rfl := hF
            exact QRet.sole (v := (.int .i64 (impl_exprParts p0))) ⟨rfl, trivial⟩ rfl

set_option maxRecDepth 10000 in
theorem impl_LtlOk_ok {p0 : (List TNode)} {r : Bool} (hF : impl_LtlOk p0 = some r) : PC Try.prog 16 [(.list 3 (List.map TNode.av p0))] fun v => v = (.bool r) := by
  refine PC.enter Try.func16 rfl Try.ntmps16 (by simp) ?_
  have hS := Sep.void; unfold impl_LtlOk at hF
  refine AWP.seqR rfl ?_
  refine ASL.q (v := (.bool false)) rfl rfl (Light.quiet (opAssign rfl rfl)) ?_
  refine ASL.done ?_
  refine AWP.seqR rfl ?_
  refine ASL.q (v := (.list 3 (List.map TNode.av p0))) rfl rfl (Light.quiet (opMove rfl rfl)) ?_
  obtain ⟨a4, ha4, hF⟩ := bindE hF
  refine ASL.q (v := (.bool a4)) rfl rfl ((qCall rfl rfl call_60 (impl_isTree_ok call_53 (fun q0 y h => by obtain rfl := someE h; exact impl_ltlParts_ok q0) ha4) rfl)) ?_
  refine ASL.q (v := (.bool a4)) rfl rfl (Light.quiet (opAssign rfl rfl)) ?_
  refine ASL.done ?_
  refine AWP.ret ?_
  obtain rfl := someE hF
  exact QRet.sole (v := (.bool a4)) ⟨rfl, trivial⟩ rfl

set_option maxRecDepth 10000 in
theorem impl_reader_two_ok {p0 : Treader} {p1 : Int} {p2 : Int} {r : Treader} {bp0 : Nat} {wp0_list : AV} (hF : impl_reader_two p0 p1 p2 = some r) : HS Try.prog 54 [(.ptr bp0 0), (.int .i64 p1), (.int .i64 p2)] [.cell bp0 [(.str p0.s), (.int .i64 p0.at_), (.int .i64 p0.code), wp0_list, .undef], .row 3 wp0_list (List.map TNode.av p0.list)] fun v L' => ∃ up0_list : AV, v = .tup [] ∧ L' = [.cell bp0 [(.str r.s), (.int .i64 r.at_), (.int .i64 r.code), up0_list, .undef], .row 3 up0_list (List.map TNode.av r.list)] := by
  intro H S hS
  refine HC.enter Try.func54 rfl Try.ntmps54 (by simp) ?_
  simp only [List.cons_append, List.nil_append] at hS
  unfold impl_reader_two at hF
  refine AWP.lastD [(0, false), (1, false), (2, false), (3, false), (4, false), (5, false), (6, false), (7, false), (8, false), (9, false), (10, false), (11, false), (12, false), (13, false), (14, false), (15, true), (16, false), (17, false), (18, true)] mixed (by kernel_rfl) rfl ?_
  refine ARL.q0 (v := (.ptr bp0 0)) rfl rfl (Light.quiet (opMove rfl rfl)) ?_
  refine ARL.q0 (v := (.ptr bp0 0)) rfl rfl (Light.quiet (opMove rfl rfl)) ?_
  refine ARL.q0 (v := (.ptr bp0 0)) rfl rfl (Light.quiet (opNil rfl rfl rfl)) ?_
  refine ARL.q0 (v := (.ptr bp0 3)) rfl rfl (Light.quiet (opFieldAddr rfl fieldA_75_3 rfl rfl)) ?_
  refine ARL.q (v := wp0_list) rfl rfl (hS.aliveC (k := 0) rfl) (Light.quiet (kAt hS (j := 0) rfl rfl aggA_24 rfl rfl)) ?_
  refine ARL.q0 (v := (.int .i64 p1)) rfl rfl (Light.quiet (opMove rfl rfl)) ?_
  refine ARL.q0 (v := (.int .i64 p2)) rfl rfl (Light.quiet (opMove rfl rfl)) ?_
  refine ARL.q0 (v := (.ptr bp0 0)) rfl rfl (Light.quiet (opMove rfl rfl)) ?_
  refine ARL.q0 (v := (.ptr bp0 0)) rfl rfl (Light.quiet (opNil rfl rfl rfl)) ?_
  refine ARL.q0 (v := (.ptr bp0 3)) rfl rfl (Light.quiet (opFieldAddr rfl fieldA_75_3 rfl rfl)) ?_
  refine ARL.q (v := wp0_list) rfl rfl (hS.aliveC (k := 0) rfl) (Light.quiet (kAt hS (j := 0) rfl rfl aggA_24 rfl rfl)) ?_
  refine ARL.q0 (v := (.int .i64 (p0.list.length : Int))) rfl rfl (Light.quiet (kLen hS (j := 1) rfl rfl rfl rfl lenT_24 rfl)) ?_
  refine ARL.q0 (v := (.int .i64 (W (((p0.list.length : Int)) - 1)))) rfl rfl (Light.quiet (opInt rfl rfl rfl rfl)) ?_
  refine ARL.q0 (v := (.agg [(.int .i64 p1), (.int .i64 p2), (.int .i64 (W (((p0.list.length : Int)) - 1)))])) rfl rfl (Light.quiet (opBuildZ (zs := [(.int .i64 0), (.int .i64 0), (.int .i64 0)]) rfl plan_59 zeroA_59 ⟨.inl rfl, .inl rfl, .inl rfl, trivial⟩ rfl)) ?_
  refine ARL.q0 (v := (.list 3 (List.map TNode.av [(TNode.mk p1 p2 ((W (((p0.list.length : Int)) - 1))))]))) rfl rfl ((qLit (xs := [(.agg [(.int .i64 p1), (.int .i64 p2), (.int .i64 (W (((p0.list.length : Int)) - 1)))])]) rfl elemA_24 sizeA_59 zeroA_59 rfl rfl rfl rfl (by simp [cells, TNode.av]) (nlt rfl))) ?_
  obtain ⟨z21, hz21, hF⟩ := bindE hF
  refine ARL.y rfl rfl rfl rfl (hApp (f := TNode.av) (ws := [(TNode.mk p1 p2 ((W (((p0.list.length : Int)) - 1))))]) hS (j := 1) rfl hz21 rfl elemA_24 rfl sizeA_59 bytesA_59 zeroA_59 rfl rfl rfl (fun _ => rfl) ?_); rintro v21 G3 hS
  refine ARL.q0 (v := (.ptr bp0 0)) rfl rfl (Light.quiet (opNil rfl rfl rfl)) ?_
  refine ARL.q0 (v := (.ptr bp0 3)) rfl rfl (Light.quiet (opFieldAddr rfl fieldA_75_3 rfl rfl)) ?_
  refine ARL.n rfl rfl rfl rfl (hPut hS (j := 0) rfl rfl sizeA_24 rfl rfl (hS.one (k := 1) rfl) (nlt rfl) ?_); rintro G5 hS
  refine ARL.done ?_
  refine QRet.end ?_
  obtain rfl := someE hF
  exact QRet.many (vs := []) trivial (by simp) ⟨_, ⟨v21, rfl, rfl⟩, hS.pick [0, 1, 2] rfl rfl⟩

set_option maxRecDepth 10000 in
theorem impl_fitting_ok {p0 : (List TNode)} {r : ((List TNode) × Bool)} {vp0 : AV} (hF : impl_fitting p0 = some r) : HS Try.prog 55 [vp0] [.row 3 vp0 (List.map TNode.av p0)] fun v L' => ∃ o0 : AV, v = .tup [o0, (.bool r.2)] ∧ L' = [.row 3 o0 (List.map TNode.av r.1)] := by
  intro H S hS
  refine HC.enter Try.func55 rfl Try.ntmps55 (by simp) ?_
  simp only [List.cons_append, List.nil_append] at hS
  unfold impl_fitting at hF
  refine AWP.seqR rfl ?_
  have hS := hNil (s := 3) (f := TNode.av) hS
  refine ASL.q (v := .nil) rfl rfl (Light.quiet (opAssign rfl rfl)) ?_
  refine ASL.q (v := (.bool false)) rfl rfl (Light.quiet (opAssign rfl rfl)) ?_
  refine ASL.done ?_
  refine AWP.seq ?_
  refine AWP.seqR rfl ?_
  refine ASL.q (v := vp0) rfl rfl (Light.quiet (opMove rfl rfl)) ?_
  refine ASL.q (v := (.int .i64 (p0.length : Int))) rfl rfl (Light.quiet (kLen hS (j := 1) rfl rfl rfl rfl lenT_24 rfl)) ?_
  refine ASL.q (v := (.bool (decide (((p0.length : Int)) > 31)))) rfl rfl (Light.quiet (opInt rfl rfl rfl rfl)) ?_
  refine ASL.done ?_
  refine AWP.ifP hF rfl (fun hc3 hF => ?_) (fun hc3 hF => ?_)
  · skip
    refine AWP.seqR rfl ?_
    have hS := hNil (s := 3) (f := TNode.av) hS
    refine ASL.q (v := .nil) rfl rfl (Light.quiet (opAssign rfl rfl)) ?_
    refine ASL.q (v := (.bool false)) rfl rfl (Light.quiet (opAssign rfl rfl)) ?_
    refine ASL.done ?_
    refine AWP.ret ?_
    refine QThen.rt ?_
    obtain rfl := someE hF
    exact QRet.many (vs := [.nil, (.bool false)]) ⟨rfl, rfl, trivial⟩ (by simp) ⟨_, ⟨.nil, rfl, rfl⟩, hS.pick [0, 3] rfl rfl⟩
  · skip
    refine AWP.skip ?_
    refine QThen.nrm ?_
    refine AWP.seqR rfl ?_
    refine ASL.q (v := vp0) rfl rfl (Light.quiet (opMove rfl rfl)) ?_
    refine ASL.q (v := vp0) rfl rfl (Light.quiet (opAssign rfl rfl)) ?_
    refine ASL.q (v := (.bool true)) rfl rfl (Light.quiet (opAssign rfl rfl)) ?_
    refine ASL.done ?_
    refine AWP.ret ?_
    obtain rfl := someE hF
    exact QRet.many (vs := [vp0, (.bool true)]) ⟨rfl, rfl, trivial⟩ (by simp) ⟨_, ⟨vp0, rfl, rfl⟩, hS.pick [1, 2] rfl rfl⟩

set_option maxRecDepth 10000 in
theorem impl_LtlPair_ok {p0 : Int} {p1 : (List TNode)} {p2 : (List TNode)} {r : ((List TNode) × Bool)} (hF : impl_LtlPair p0 p1 p2 = some r) : HS Try.prog 12 [(.int .i64 p0), (.list 3 (List.map TNode.av p1)), (.list 3 (List.map TNode.av p2))] [] fun v L' => ∃ o0 : AV, v = .tup [o0, (.bool r.2)] ∧ L' = [.row 3 o0 (List.map TNode.av r.1)] := by
  intro H S hS
  refine HC.enter Try.func12 rfl Try.ntmps12 (by simp) ?_
  simp only [List.cons_append, List.nil_append] at hS
  unfold impl_LtlPair at hF
  refine AWP.seqR rfl ?_
  have hS := hNil (s := 3) (f := TNode.av) hS
  refine ASL.q (v := .nil) rfl rfl (Light.quiet (opAssign rfl rfl)) ?_
  refine ASL.q (v := (.bool false)) rfl rfl (Light.quiet (opAssign rfl rfl)) ?_
  refine ASL.done ?_
  refine AWP.seq ?_
  refine AWP.seqR rfl ?_
  refine ASL.q (v := (.int .i64 p0)) rfl rfl (Light.quiet (opMove rfl rfl)) ?_
  refine ASL.q (v := (.bool (decide (p0 ≠ 5)))) rfl rfl (Light.quiet (opInt rfl rfl rfl rfl)) ?_
  obtain ⟨c13, hc13, hF⟩ := bndE hF
  refine ASL.q (v := (.bool c13)) rfl rfl ((Quiet.cast (Light.quiet (opMove rfl rfl)) (congrArg AV.bool hc13.symm))) ?_
  refine ASL.g (v := (.int .i64 p0)) (.bool c13) true rfl (wT _) rfl (fun hG => by have q0 := hG; subst q0; exact Light.quiet (opMove rfl rfl)) ?_
  refine ASL.g (v := (.bool (decide (p0 ≠ 6)))) (.bool c13) true rfl (wT _) rfl (fun hG => by have q0 := hG; subst q0; exact Light.quiet (opInt rfl rfl rfl rfl)) ?_
  refine ASL.q (v := (.bool (c13 && (decide (p0 ≠ 6))))) rfl rfl (Light.quiet (opPick (b := c13) rfl rfl (by cases c13 <;> rfl))) ?_
  obtain ⟨c17, hc17, hF⟩ := bndE hF
  refine ASL.q (v := (.bool c17)) rfl rfl ((Quiet.cast (Light.quiet (opMove rfl rfl)) (congrArg AV.bool hc17.symm))) ?_
  refine ASL.g (v := (.int .i64 p0)) (.bool c17) true rfl (wT _) rfl (fun hG => by have q0 := hG; subst q0; exact Light.quiet (opMove rfl rfl)) ?_
  refine ASL.g (v := (.bool (decide (p0 ≠ 8)))) (.bool c17) true rfl (wT _) rfl (fun hG => by have q0 := hG; subst q0; exact Light.quiet (opInt rfl rfl rfl rfl)) ?_
  refine ASL.q (v := (.bool (c17 && (decide (p0 ≠ 8))))) rfl rfl (Light.quiet (opPick (b := c17) rfl rfl (by cases c17 <;> rfl))) ?_
  obtain ⟨c21, hc21, hF⟩ := bndE hF
  refine ASL.q (v := (.bool c21)) rfl rfl ((Quiet.cast (Light.quiet (opMove rfl rfl)) (congrArg AV.bool hc21.symm))) ?_
  refine ASL.g (v := (.int .i64 p0)) (.bool c21) true rfl (wT _) rfl (fun hG => by have q0 := hG; subst q0; exact Light.quiet (opMove rfl rfl)) ?_
  refine ASL.g (v := (.bool (decide (p0 ≠ 9)))) (.bool c21) true rfl (wT _) rfl (fun hG => by have q0 := hG; subst q0; exact Light.quiet (opInt rfl rfl rfl rfl)) ?_
  refine ASL.q (v := (.bool (c21 && (decide (p0 ≠ 9))))) rfl rfl (Light.quiet (opPick (b := c21) rfl rfl (by cases c21 <;> rfl))) ?_
  obtain ⟨c25, hc25, hF⟩ := bndE hF
  refine ASL.q (v := (.bool c25)) rfl rfl ((Quiet.cast (Light.quiet (opMove rfl rfl)) (congrArg AV.bool hc25.symm))) ?_
  refine ASL.g (v := (.list 3 (List.map TNode.av p1))) (.bool c25) false rfl (wF _) rfl (fun hG => by have q0 := gN hG; subst q0; exact Light.quiet (opMove rfl rfl)) ?_
  obtain ⟨a27, ha27, hF⟩ := bindE hF
  refine ASL.g (v := (.bool a27)) (.bool c25) false rfl (wF _) rfl (fun hG => by have q0 := gN hG; subst q0; exact (qCall rfl rfl call_16 (impl_LtlOk_ok (whenE ha27)) rfl)) ?_
  refine ASL.g (v := (.bool (!a27))) (.bool c25) false rfl (wF _) rfl (fun hG => by have q0 := gN hG; subst q0; exact Light.quiet (opNot rfl rfl)) ?_
  refine ASL.q (v := (.bool (c25 || (!a27)))) rfl rfl (Light.quiet (opPick (b := c25) rfl rfl (by cases c25 <;> rfl))) ?_
  obtain ⟨c30, hc30, hF⟩ := bndE hF
  refine ASL.q (v := (.bool c30)) rfl rfl ((Quiet.cast (Light.quiet (opMove rfl rfl)) (congrArg AV.bool hc30.symm))) ?_
  refine ASL.g (v := (.list 3 (List.map TNode.av p2))) (.bool c30) false rfl (wF _) rfl (fun hG => by have q0 := gN hG; subst q0; exact Light.quiet (opMove rfl rfl)) ?_
  obtain ⟨a32, ha32, hF⟩ := bindE hF
  refine ASL.g (v := (.bool a32)) (.bool c30) false rfl (wF _) rfl (fun hG => by have q0 := gN hG; subst q0; exact (qCall rfl rfl call_16 (impl_LtlOk_ok (whenE ha32)) rfl)) ?_
  refine ASL.g (v := (.bool (!a32))) (.bool c30) false rfl (wF _) rfl (fun hG => by have q0 := gN hG; subst q0; exact Light.quiet (opNot rfl rfl)) ?_
  refine ASL.q (v := (.bool (c30 || (!a32)))) rfl rfl (Light.quiet (opPick (b := c30) rfl rfl (by cases c30 <;> rfl))) ?_
  refine ASL.done ?_
  refine AWP.ifB hF rfl (fun hc2 hF => ?_) (fun hc2 hF => ?_)
  · skip
    refine AWP.seqR rfl ?_
    have hS := hNil (s := 3) (f := TNode.av) hS
    refine ASL.q (v := .nil) rfl rfl (Light.quiet (opAssign rfl rfl)) ?_
    refine ASL.q (v := (.bool false)) rfl rfl (Light.quiet (opAssign rfl rfl)) ?_
    refine ASL.done ?_
    refine AWP.ret ?_
    refine QThen.rt ?_
    obtain rfl := someE hF
    exact QRet.many (vs := [.nil, (.bool false)]) ⟨rfl, rfl, trivial⟩ (by simp) ⟨_, ⟨.nil, rfl, rfl⟩, hS.pick [0, 2] rfl rfl⟩
  · skip
    refine AWP.skip ?_
    refine QThen.nrm ?_
    refine AWP.seqR rfl ?_
    refine ASL.q (v := (.agg [(.str ⟨#[]⟩), (.int .i64 0), (.int .i64 0), .nil, .undef])) rfl rfl (Light.quiet (opBuildZ (zs := [(.str ⟨#[]⟩), (.int .i64 0), (.int .i64 0), .nil, .undef]) rfl plan_75 zeroA_75 ⟨.inl rfl, .inl rfl, .inl rfl, .inl rfl, .inl rfl, trivial⟩ rfl)) ?_
    have hS := hNil (s := 3) (f := TNode.av) hS
    refine ASL.x rfl rfl (hBox hS rfl rfl rfl ?_); rintro b36 G4 hK hS
    refine ASL.q (v := (.ptr b36 0)) rfl rfl (Light.quiet (opAssign rfl rfl)) ?_
    refine ASL.done ?_
    refine AWP.seqR rfl ?_
    refine ASL.q (v := (.ptr b36 0)) rfl rfl (Light.quiet (opMove rfl rfl)) ?_
    refine ASL.q (v := (.ptr b36 0)) rfl rfl (Light.quiet (opMove rfl rfl)) ?_
    refine ASL.q (v := (.ptr b36 0)) rfl rfl (Light.quiet (opNil rfl rfl rfl)) ?_
    refine ASL.q (v := (.ptr b36 3)) rfl rfl (Light.quiet (opFieldAddr rfl fieldA_75_3 rfl rfl)) ?_
    refine ASL.q (v := .nil) rfl rfl (Light.quiet (kAt hS (j := 0) rfl rfl aggA_24 rfl rfl)) ?_
    refine ASL.q (v := (.list 3 (List.map TNode.av p1))) rfl rfl (Light.quiet (opMove rfl rfl)) ?_
    obtain ⟨z43, hz43, hF⟩ := bindE hF
    refine ASL.x rfl rfl (hApp (f := TNode.av) (ws := p1) hS (j := 1) rfl hz43 rfl elemA_24 rfl sizeA_59 bytesA_59 zeroA_59 rfl rfl rfl (fun _ => rfl) ?_); rintro v43 G7 hS
    refine ASL.q (v := (.ptr b36 0)) rfl rfl (Light.quiet (opNil rfl rfl rfl)) ?_
    refine ASL.q (v := (.ptr b36 3)) rfl rfl (Light.quiet (opFieldAddr rfl fieldA_75_3 rfl rfl)) ?_
    refine ASL.n rfl rfl (hPut hS (j := 0) rfl rfl sizeA_24 rfl rfl (hS.one (k := 1) rfl) (nlt rfl) ?_); rintro G9 hS
    refine ASL.done ?_
    refine AWP.seqM (fun e H => ∃ y10 : ByteArray, ∃ y11 : Int, ∃ y12 : Int, ∃ y13 : (List TNode), ∃ w14 : AV, E.Told e [(0, (.int .i64 p0)), (1, (.list 3 (List.map TNode.av p1))), (8, (.ptr b36 0))] ∧ E.Sep H [.row 3 w14 (List.map TNode.av y13), .cell b36 [(.str y10), (.int .i64 y11), (.int .i64 y12), w14, .undef], .snap S] ∧ impl_LtlPair.k0 p0 p1 y10 y11 y12 y13 = some r) ?_ ?_
    · rintro e0 G22 ⟨y10, y11, y12, y13, w14, hT, hS, hF⟩; refine AWP.only _ hT ?_; unfold impl_LtlPair.k0 at hF
      refine AWP.seqR rfl ?_
      refine ASL.q (v := (.ptr b36 0)) rfl rfl (Light.quiet (opMove rfl rfl)) ?_
      refine ASL.q (v := (.int .i64 p0)) rfl rfl (Light.quiet (opMove rfl rfl)) ?_
      refine ASL.q (v := (.list 3 (List.map TNode.av p1))) rfl rfl (Light.quiet (opMove rfl rfl)) ?_
      refine ASL.q (v := (.int .i64 (p1.length : Int))) rfl rfl (Light.quiet (opLenMap (f := TNode.av) rfl rfl rfl lenT_24 rfl)) ?_
      refine ASL.q (v := (.int .i64 (W (((p1.length : Int)) - 1)))) rfl rfl (Light.quiet (opInt rfl rfl rfl rfl)) ?_
      obtain ⟨a92, ha92, hF⟩ := bindE hF
      refine ASL.x rfl rfl (hCallS hS [1, 0, 2] (F := [.snap S]) rfl rfl rfl call_54 (impl_reader_two_ok ha92) rfl rfl ?_); rintro _ _ G18 ⟨w16, rfl, rfl⟩ hS
      refine ASL.done ?_
      refine AWP.seqR rfl ?_
      refine ASL.q (v := (.ptr b36 0)) rfl rfl (Light.quiet (opMove rfl rfl)) ?_
      refine ASL.q (v := (.ptr b36 0)) rfl rfl (Light.quiet (opNil rfl rfl rfl)) ?_
      refine ASL.q (v := (.ptr b36 3)) rfl rfl (Light.quiet (opFieldAddr rfl fieldA_75_3 rfl rfl)) ?_
      refine ASL.q (v := w16) rfl rfl (Light.quiet (kAt hS (j := 0) rfl rfl aggA_24 rfl rfl)) ?_
      obtain ⟨a97, ha97, hF⟩ := bindE hF
      refine ASL.x rfl rfl (hCallS hS [1, 0, 2] (F := [.cell b36 [(.str a92.s), (.int .i64 a92.at_), (.int .i64 a92.code), w16, .undef], .snap S]) rfl rfl rfl call_55 (impl_fitting_ok ha97) rfl rfl ?_); rintro _ _ G21 ⟨w19, rfl, rfl⟩ hS
      refine ASL.q (v := w19) rfl rfl (Light.quiet (opExtract rfl rfl rfl)) ?_
      refine ASL.q (v := (.bool a97.2)) rfl rfl (Light.quiet (opExtract rfl rfl rfl)) ?_
      refine ASL.q (v := w19) rfl rfl (Light.quiet (opAssign rfl rfl)) ?_
      refine ASL.q (v := (.bool a97.2)) rfl rfl (Light.quiet (opAssign rfl rfl)) ?_
      refine ASL.done ?_
      refine AWP.ret ?_
      obtain rfl := someE hF
      exact QRet.many (vs := [w19, (.bool a97.2)]) ⟨rfl, rfl, trivial⟩ (by simp) ⟨_, ⟨w19, rfl, rfl⟩, hS.pick [0, 2] rfl rfl⟩
    · skip
      refine AWP.seqR rfl ?_
      refine ASL.q (v := (.list 3 (List.map TNode.av p2))) rfl rfl (Light.quiet (opMove rfl rfl)) ?_
      refine ASL.q (v := (.int .i64 (p2.length : Int))) rfl rfl (Light.quiet (opLenMap (f := TNode.av) rfl rfl rfl lenT_24 rfl)) ?_
      refine ASL.q (v := (.int .i64 0)) rfl rfl (Light.quiet (opMove rfl rfl)) ?_
      refine ASL.done ?_
      refine AWP.block ?_
      obtain ⟨o32, hL31, hR33⟩ := bindE hF
      refine AWP.loopF (ω := AV) hL31 (fun s w => [(0, (.int .i64 p0)), (1, (.list 3 (List.map TNode.av p1))), (8, (.ptr b36 0)), (46, (.list 3 (List.map TNode.av p2))), (47, (.int .i64 (p2.length : Int))), (48, (.int .i64 s.2.2.2.2))]) (fun s w => [.row 3 w (List.map TNode.av s.2.2.2.1), .cell b36 [(.str s.1), (.int .i64 s.2.1), (.int .i64 s.2.2.1), w, .undef], .snap S]) v43 ⟨rfl, rfl, rfl, rfl, rfl, rfl, trivial⟩ (hS.pick [1, 0, 3] rfl rfl) ?_
      rintro ⟨y23, y24, y25, y26, x48_l0⟩ w27 G34 hS x29 hF hx30
      try dsimp only at hS ⊢
      have hF : impl_LtlPair.b0 p2 p1 y23 y24 y25 y26 x48_l0 = some x29 := hF; unfold impl_LtlPair.b0 at hF
      refine AWP.seqR rfl ?_
      refine ASL.q (v := (.bool (decide (x48_l0 < ((p2.length : Int)))))) rfl rfl (Light.quiet (opInt rfl rfl rfl rfl)) ?_
      refine ASL.done ?_
      refine AWP.seq ?_
      refine AWP.ifP hF rfl (fun hc35 hF => ?_) (fun hc35 hF => ?_)
      · skip
        refine AWP.skip ?_
        refine QThen.nrm ?_
        refine AWP.seq ?_
        refine AWP.block ?_
        refine AWP.seqR rfl ?_
        obtain ⟨a50, ha50, hF⟩ := bindE hF
        refine ASL.q (v := (.rptr [(.int .i64 a50.kind), (.int .i64 a50.a), (.int .i64 a50.b)])) rfl rfl (Light.quiet (kIx (f := TNode.av) ha50 rfl rfl rfl elemA_24 sizeA_59 rfl)) ?_
        refine ASL.q (v := (TNode.av a50)) rfl rfl (Light.quiet (opLoadRA rfl aggA_59 sizeA_59 rfl (nlt rfl) rfl)) ?_
        refine ASL.x rfl rfl (hNewZ hS [(.int .i64 0), (.int .i64 0), (.int .i64 0)] rfl zeroA_59 ⟨.inl rfl, .inl rfl, .inl rfl, trivial⟩ ?_); rintro b10 G36 hK hS
        refine ASL.n rfl rfl (hPutA hS (j := 0) rfl rfl sizeA_59 rfl rfl rfl rfl rfl (nlt rfl) ?_); rintro G38 hS
        refine ASL.done ?_
        refine AWP.seqM (fun e H => ∃ y39 : Int, ∃ y40 : Int, ∃ y41 : Int, E.Told e [(0, (.int .i64 p0)), (1, (.list 3 (List.map TNode.av p1))), (8, (.ptr b36 0)), (10, (.ptr b10 0)), (46, (.list 3 (List.map TNode.av p2))), (47, (.int .i64 (p2.length : Int))), (48, (.int .i64 x48_l0))] ∧ E.Sep H [.row 3 w27 (List.map TNode.av y26), .cell b36 [(.str y23), (.int .i64 y24), (.int .i64 y25), w27, .undef], .cell b10 [(.int .i64 y39), (.int .i64 y40), (.int .i64 y41)], .snap S] ∧ impl_LtlPair.k1 y26 y23 y24 y25 x48_l0 y39 y40 y41 = some x29) ?_ ?_
        · rintro e0 G45 ⟨y39, y40, y41, hT, hS, hF⟩; refine AWP.only _ hT ?_; unfold impl_LtlPair.k1 at hF
          refine AWP.lastD [(0, false), (1, false), (2, false), (3, false), (4, false), (5, false), (6, false), (7, true), (8, false), (9, false), (10, true)] mixed (by kernel_rfl) rfl ?_
          refine ARL.q0 (v := (.ptr b36 0)) rfl rfl (Light.quiet (opMove rfl rfl)) ?_
          refine ARL.q0 (v := (.ptr b36 0)) rfl rfl (Light.quiet (opMove rfl rfl)) ?_
          refine ARL.q0 (v := (.ptr b36 0)) rfl rfl (Light.quiet (opNil rfl rfl rfl)) ?_
          refine ARL.q0 (v := (.ptr b36 3)) rfl rfl (Light.quiet (opFieldAddr rfl fieldA_75_3 rfl rfl)) ?_
          refine ARL.q (v := w27) rfl rfl (hS.aliveC (k := 1) rfl) (Light.quiet (kAt hS (j := 1) rfl rfl aggA_24 rfl rfl)) ?_
          refine ARL.q (v := (.agg [(.int .i64 y39), (.int .i64 y40), (.int .i64 y41)])) rfl rfl (hS.aliveC (k := 2) rfl) (Light.quiet (kAtA hS (j := 2) rfl rfl aggA_59 sizeA_59 rfl (nlt rfl) rfl)) ?_
          refine ARL.q0 (v := (.list 3 (List.map TNode.av [(TNode.mk y39 y40 y41)]))) rfl rfl ((qLit (xs := [(.agg [(.int .i64 y39), (.int .i64 y40), (.int .i64 y41)])]) rfl elemA_24 sizeA_59 zeroA_59 rfl rfl rfl rfl (by simp [cells, TNode.av]) (nlt rfl))) ?_
          obtain ⟨z83, hz83, hF⟩ := bindE hF
          refine ARL.y rfl rfl rfl rfl (hApp (f := TNode.av) (ws := [(TNode.mk y39 y40 y41)]) hS (j := 0) rfl hz83 rfl elemA_24 rfl sizeA_59 bytesA_59 zeroA_59 rfl rfl rfl (fun _ => rfl) ?_); rintro v83 G42 hS
          refine ARL.q0 (v := (.ptr b36 0)) rfl rfl (Light.quiet (opNil rfl rfl rfl)) ?_
          refine ARL.q0 (v := (.ptr b36 3)) rfl rfl (Light.quiet (opFieldAddr rfl fieldA_75_3 rfl rfl)) ?_
          refine ARL.n rfl rfl rfl rfl (hPut hS (j := 1) rfl rfl sizeA_24 rfl rfl (hS.one (k := 0) rfl) (nlt rfl) ?_); rintro G44 hS
          refine ARL.done ?_
          refine QBlock.nrm ?_
          refine QThen.nrm ?_
          refine AWP.lastR rfl ?_
          refine ASL.q (v := (.int .i64 (W (x48_l0 + 1)))) rfl rfl (Light.quiet (opInt rfl rfl rfl rfl)) ?_
          refine ASL.q (v := (.int .i64 (W (x48_l0 + 1)))) rfl rfl (Light.quiet (opMove rfl rfl)) ?_
          refine ASL.done ?_
          refine QThen.nrm ?_
          exact ⟨(y23, y24, y25, z83, (W (x48_l0 + 1))), v83, (someE hF).symm, ⟨rfl, rfl, rfl, rfl, rfl, rfl, trivial⟩, (hS.pick [0, 1, 3] rfl rfl)⟩
        · skip
          refine AWP.seqR rfl ?_
          refine ASL.q (v := (TNode.av a50)) rfl rfl (Light.quiet (kAtA hS (j := 0) rfl rfl aggA_59 sizeA_59 rfl (nlt rfl) rfl)) ?_
          refine ASL.q (v := (.int .i64 (impl_ltlParts a50))) rfl rfl ((qCall rfl rfl call_53 (impl_ltlParts_ok a50) rfl)) ?_
          refine ASL.done ?_
          refine AWP.block ?_
          refine AWP.seqR rfl ?_
          refine ASL.q (v := (.bool (decide (((impl_ltlParts a50)) = 1)))) rfl rfl (Light.quiet (opInt rfl rfl rfl rfl)) ?_
          refine ASL.q (v := (.bool (decide (((impl_ltlParts a50)) = 1)))) rfl rfl (Light.quiet (opAssign rfl rfl)) ?_
          refine ASL.done ?_
          refine AWP.ifP hF rfl (fun hc46 hF => ?_) (fun hc46 hF => ?_)
          · skip
            refine AWP.lastR rfl ?_
            refine ASL.q (v := (.ptr b10 1)) rfl rfl (Light.quiet (opFieldAddr rfl fieldA_59_1 rfl rfl)) ?_
            refine ASL.q (v := (.int .i64 a50.a)) rfl rfl (Light.quiet (kAt hS (j := 0) rfl rfl aggA_3 rfl rfl)) ?_
            refine ASL.q (v := (.list 3 (List.map TNode.av p1))) rfl rfl (Light.quiet (opMove rfl rfl)) ?_
            refine ASL.q (v := (.int .i64 (p1.length : Int))) rfl rfl (Light.quiet (opLenMap (f := TNode.av) rfl rfl rfl lenT_24 rfl)) ?_
            refine ASL.q (v := (.int .i64 (W (a50.a + ((p1.length : Int)))))) rfl rfl (Light.quiet (opInt rfl rfl rfl rfl)) ?_
            refine ASL.q (v := (.ptr b10 1)) rfl rfl (Light.quiet (opFieldAddr rfl fieldA_59_1 rfl rfl)) ?_
            refine ASL.n rfl rfl (hPut hS (j := 0) rfl rfl sizeA_3 rfl rfl rfl (nlt rfl) ?_); rintro G47 hS
            refine ASL.done ?_
            refine QBlock.nrm ?_
            refine QThen.nrm ?_
            exact ⟨a50.kind, (W (a50.a + ((p1.length : Int)))), a50.b, ⟨rfl, rfl, rfl, rfl, rfl, rfl, rfl, trivial⟩, (hS.pick [1, 2, 0, 3] rfl rfl), hF⟩
          · skip
            refine AWP.seqR rfl ?_
            refine ASL.q (v := (.bool (decide (((impl_ltlParts a50)) = 2)))) rfl rfl (Light.quiet (opInt rfl rfl rfl rfl)) ?_
            refine ASL.q (v := (.bool (decide (((impl_ltlParts a50)) = 2)))) rfl rfl (Light.quiet (opAssign rfl rfl)) ?_
            refine ASL.done ?_
            refine AWP.ifP hF rfl (fun hc48 hF => ?_) (fun hc48 hF => ?_)
            · skip
              refine AWP.seqR rfl ?_
              refine ASL.q (v := (.ptr b10 1)) rfl rfl (Light.quiet (opFieldAddr rfl fieldA_59_1 rfl rfl)) ?_
              refine ASL.q (v := (.int .i64 a50.a)) rfl rfl (Light.quiet (kAt hS (j := 0) rfl rfl aggA_3 rfl rfl)) ?_
              refine ASL.q (v := (.list 3 (List.map TNode.av p1))) rfl rfl (Light.quiet (opMove rfl rfl)) ?_
              refine ASL.q (v := (.int .i64 (p1.length : Int))) rfl rfl (Light.quiet (opLenMap (f := TNode.av) rfl rfl rfl lenT_24 rfl)) ?_
              refine ASL.q (v := (.int .i64 (W (a50.a + ((p1.length : Int)))))) rfl rfl (Light.quiet (opInt rfl rfl rfl rfl)) ?_
              refine ASL.q (v := (.ptr b10 1)) rfl rfl (Light.quiet (opFieldAddr rfl fieldA_59_1 rfl rfl)) ?_
              refine ASL.n rfl rfl (hPut hS (j := 0) rfl rfl sizeA_3 rfl rfl rfl (nlt rfl) ?_); rintro G49 hS
              refine ASL.done ?_
              refine AWP.lastR rfl ?_
              refine ASL.q (v := (.ptr b10 2)) rfl rfl (Light.quiet (opFieldAddr rfl fieldA_59_2 rfl rfl)) ?_
              refine ASL.q (v := (.int .i64 a50.b)) rfl rfl (Light.quiet (kAt hS (j := 0) rfl rfl aggA_3 rfl rfl)) ?_
              refine ASL.q (v := (.list 3 (List.map TNode.av p1))) rfl rfl (Light.quiet (opMove rfl rfl)) ?_
              refine ASL.q (v := (.int .i64 (p1.length : Int))) rfl rfl (Light.quiet (opLenMap (f := TNode.av) rfl rfl rfl lenT_24 rfl)) ?_
              refine ASL.q (v := (.int .i64 (W (a50.b + ((p1.length : Int)))))) rfl rfl (Light.quiet (opInt rfl rfl rfl rfl)) ?_
              refine ASL.q (v := (.ptr b10 2)) rfl rfl (Light.quiet (opFieldAddr rfl fieldA_59_2 rfl rfl)) ?_
              refine ASL.n rfl rfl (hPut hS (j := 0) rfl rfl sizeA_3 rfl rfl rfl (nlt rfl) ?_); rintro G50 hS
              refine ASL.done ?_
              refine QBlock.nrm ?_
              refine QThen.nrm ?_
              exact ⟨a50.kind, (W (a50.a + ((p1.length : Int)))), (W (a50.b + ((p1.length : Int)))), ⟨rfl, rfl, rfl, rfl, rfl, rfl, rfl, trivial⟩, (hS.pick [1, 2, 0, 3] rfl rfl), hF⟩
            · skip
              refine AWP.skip ?_
              refine QBlock.nrm ?_
              refine QThen.nrm ?_
              exact ⟨a50.kind, a50.a, a50.b, ⟨rfl, rfl, rfl, rfl, rfl, rfl, rfl, trivial⟩, (hS.pick [1, 2, 0, 3] rfl rfl), hF⟩
      · skip
        refine AWP.exit ?_
        refine QThen.ext ?_
        refine QThen.ext ?_
        refine QBlock.hit ?_
        obtain rfl := (hx30 _ (someE hF).symm)
        have hF := hR33
        refine QThen.nrm ?_
        exact ⟨y23, y24, y25, y26, w27, ⟨rfl, rfl, rfl, trivial⟩, (hS.pick [0, 1, 2] rfl rfl), hF⟩

set_option maxRecDepth 10000 in
theorem spec_l8Parts_ok (p0 : Int) : PC Try.prog 56 [(.int .i64 p0)] fun v => v = (.int .i64 (spec_l8Parts p0)) := by
  generalize hF : spec_l8Parts p0 = r
  refine PC.enter Try.func56 rfl Try.ntmps56 (by simp) ?_
  have hS := Sep.void; unfold spec_l8Parts at hF
  refine AWP.seqR rfl ?_
  refine ASL.q (v := (.int .i64 0)) rfl rfl (Light.quiet (opAssign rfl rfl)) ?_
  refine ASL.done ?_
  refine AWP.seq ?_
  refine AWP.seqR rfl ?_
  refine ASL.q (v := (.int .i64 p0)) rfl rfl (Light.quiet (opMove rfl rfl)) ?_
  refine ASL.done ?_
  refine AWP.block ?_
  refine AWP.seqM (fun e H => ∃ x4_1 : Bool, E.Told e [(3, (.int .i64 p0)), (4, (.bool x4_1))] ∧ E.Sep H [] ∧ spec_l8Parts.k0 p0 x4_1 = r) ?_ ?_
  · rintro e0 G14 ⟨x4_1, hT, hS, hF⟩; refine AWP.only _ hT ?_; unfold spec_l8Parts.k0 at hF
    refine AWP.ifB hF rfl (fun hc1 hF => ?_) (fun hc1 hF => ?_)
    · skip
      refine AWP.seqR rfl ?_
      refine ASL.q (v := (.int .i64 0)) rfl rfl (Light.quiet (opAssign rfl rfl)) ?_
      refine ASL.done ?_
      refine AWP.ret ?_
      refine QBlock.ret ?_
      refine QThen.rt ?_
      obtain rfl := hF
      exact QRet.sole (v := (.int .i64 0)) ⟨rfl, trivial⟩ rfl
    · skip
      refine AWP.seqM (fun e H => ∃ x8_2 : Bool, E.Told e [(3, (.int .i64 p0)), (8, (.bool x8_2))] ∧ E.Sep H [] ∧ spec_l8Parts.k1 p0 x8_2 = r) ?_ ?_
      · rintro e0 G10 ⟨x8_2, hT, hS, hF⟩; refine AWP.only _ hT ?_; unfold spec_l8Parts.k1 at hF
        refine AWP.ifB hF rfl (fun hc2 hF => ?_) (fun hc2 hF => ?_)
        · skip
          refine AWP.seqR rfl ?_
          refine ASL.q (v := (.int .i64 1)) rfl rfl (Light.quiet (opAssign rfl rfl)) ?_
          refine ASL.done ?_
          refine AWP.ret ?_
          refine QBlock.ret ?_
          refine QThen.rt ?_
          obtain rfl := hF
          exact QRet.sole (v := (.int .i64 1)) ⟨rfl, trivial⟩ rfl
        · skip
          refine AWP.seq ?_
          refine AWP.seqR rfl ?_
          refine ASL.q (v := (.bool (decide (p0 = 5)))) rfl rfl (Light.quiet (opInt rfl rfl rfl rfl)) ?_
          refine ASL.q (v := (.bool (decide (p0 = 5)))) rfl rfl (Light.quiet (opAssign rfl rfl)) ?_
          refine ASL.done ?_
          refine AWP.ifP hF rfl (fun hc3 hF => ?_) (fun hc3 hF => ?_)
          · skip
            refine AWP.skip ?_
            refine QThen.nrm ?_
            refine AWP.ifP hF rfl (fun hc4 hF => ?_) (fun hc4 hF => ?_)
            · skip
              refine AWP.seqR rfl ?_
              refine ASL.q (v := (.int .i64 2)) rfl rfl (Light.quiet (opAssign rfl rfl)) ?_
              refine ASL.done ?_
              refine AWP.ret ?_
              refine QBlock.ret ?_
              refine QThen.rt ?_
              obtain rfl := hF
              exact QRet.sole (v := (.int .i64 2)) ⟨rfl, trivial⟩ rfl
            · skip
              refine AWP.skip ?_
              refine QBlock.nrm ?_
              refine QThen.nrm ?_
              refine AWP.seqR rfl ?_
              refine ASL.q (v := (.int .i64 (-1))) rfl rfl (Light.quiet (opAssign rfl rfl)) ?_
              refine ASL.done ?_
              refine AWP.ret ?_
              obtain rfl := hF
              exact QRet.sole (v := (.int .i64 (-1))) ⟨rfl, trivial⟩ rfl
          · skip
            refine AWP.seqR rfl ?_
            refine ASL.q (v := (.bool (decide (p0 = 6)))) rfl rfl (Light.quiet (opInt rfl rfl rfl rfl)) ?_
            refine ASL.q (v := (.bool (decide (p0 = 6)))) rfl rfl (Light.quiet (opAssign rfl rfl)) ?_
            refine ASL.done ?_
            refine AWP.ifP hF rfl (fun hc5 hF => ?_) (fun hc5 hF => ?_)
            · skip
              refine AWP.skip ?_
              refine QThen.nrm ?_
              refine AWP.ifP hF rfl (fun hc6 hF => ?_) (fun hc6 hF => ?_)
              · skip
                refine AWP.seqR rfl ?_
                refine ASL.q (v := (.int .i64 2)) rfl rfl (Light.quiet (opAssign rfl rfl)) ?_
                refine ASL.done ?_
                refine AWP.ret ?_
                refine QBlock.ret ?_
                refine QThen.rt ?_
                obtain rfl := hF
                exact QRet.sole (v := (.int .i64 2)) ⟨rfl, trivial⟩ rfl
              · skip
                refine AWP.skip ?_
                refine QBlock.nrm ?_
                refine QThen.nrm ?_
                refine AWP.seqR rfl ?_
                refine ASL.q (v := (.int .i64 (-1))) rfl rfl (Light.quiet (opAssign rfl rfl)) ?_
                refine ASL.done ?_
                refine AWP.ret ?_
                obtain rfl := hF
                exact QRet.sole (v := (.int .i64 (-1))) ⟨rfl, trivial⟩ rfl
            · skip
              refine AWP.seqR rfl ?_
              refine ASL.q (v := (.bool (decide (p0 = 8)))) rfl rfl (Light.quiet (opInt rfl rfl rfl rfl)) ?_
              refine ASL.q (v := (.bool (decide (p0 = 8)))) rfl rfl (Light.quiet (opAssign rfl rfl)) ?_
              refine ASL.done ?_
              refine AWP.ifP hF rfl (fun hc7 hF => ?_) (fun hc7 hF => ?_)
              · skip
                refine AWP.skip ?_
                refine QThen.nrm ?_
                refine AWP.ifP hF rfl (fun hc8 hF => ?_) (fun hc8 hF => ?_)
                · skip
                  refine AWP.seqR rfl ?_
                  refine ASL.q (v := (.int .i64 2)) rfl rfl (Light.quiet (opAssign rfl rfl)) ?_
                  refine ASL.done ?_
                  refine AWP.ret ?_
                  refine QBlock.ret ?_
                  refine QThen.rt ?_
                  obtain rfl := hF
                  exact QRet.sole (v := (.int .i64 2)) ⟨rfl, trivial⟩ rfl
                · skip
                  refine AWP.skip ?_
                  refine QBlock.nrm ?_
                  refine QThen.nrm ?_
                  refine AWP.seqR rfl ?_
                  refine ASL.q (v := (.int .i64 (-1))) rfl rfl (Light.quiet (opAssign rfl rfl)) ?_
                  refine ASL.done ?_
                  refine AWP.ret ?_
                  obtain rfl := hF
                  exact QRet.sole (v := (.int .i64 (-1))) ⟨rfl, trivial⟩ rfl
              · skip
                refine AWP.lastR rfl ?_
                refine ASL.q (v := (.bool (decide (p0 = 9)))) rfl rfl (Light.quiet (opInt rfl rfl rfl rfl)) ?_
                refine ASL.q (v := (.bool (decide (p0 = 9)))) rfl rfl (Light.quiet (opAssign rfl rfl)) ?_
                refine ASL.done ?_
                refine QThen.nrm ?_
                refine AWP.ifP hF rfl (fun hc9 hF => ?_) (fun hc9 hF => ?_)
                · skip
                  refine AWP.seqR rfl ?_
                  refine ASL.q (v := (.int .i64 2)) rfl rfl (Light.quiet (opAssign rfl rfl)) ?_
                  refine ASL.done ?_
                  refine AWP.ret ?_
                  refine QBlock.ret ?_
                  refine QThen.rt ?_
                  obtain rfl := hF
                  exact QRet.sole (v := (.int .i64 2)) ⟨rfl, trivial⟩ rfl
                · skip
                  refine AWP.skip ?_
                  refine QBlock.nrm ?_
                  refine QThen.nrm ?_
                  refine AWP.seqR rfl ?_
                  refine ASL.q (v := (.int .i64 (-1))) rfl rfl (Light.quiet (opAssign rfl rfl)) ?_
                  refine ASL.done ?_
                  refine AWP.ret ?_
                  obtain rfl := hF
                  exact QRet.sole (v := (.int .i64 (-1))) ⟨rfl, trivial⟩ rfl
      · skip
        refine AWP.seqR rfl ?_
        refine ASL.q (v := (.bool (decide (p0 = 4)))) rfl rfl (Light.quiet (opInt rfl rfl rfl rfl)) ?_
        refine ASL.q (v := (.bool (decide (p0 = 4)))) rfl rfl (Light.quiet (opAssign rfl rfl)) ?_
        refine ASL.done ?_
        refine AWP.ifP hF rfl (fun hc11 hF => ?_) (fun hc11 hF => ?_)
        · skip
          refine AWP.skip ?_
          refine QThen.nrm ?_
          exact ⟨(decide (p0 = 4)), ⟨rfl, rfl, trivial⟩, (hS.pick [] rfl rfl), hF⟩
        · skip
          refine AWP.seqR rfl ?_
          refine ASL.q (v := (.bool (decide (p0 = 7)))) rfl rfl (Light.quiet (opInt rfl rfl rfl rfl)) ?_
          refine ASL.q (v := (.bool (decide (p0 = 7)))) rfl rfl (Light.quiet (opAssign rfl rfl)) ?_
          refine ASL.done ?_
          refine AWP.ifP hF rfl (fun hc12 hF => ?_) (fun hc12 hF => ?_)
          · skip
            refine AWP.skip ?_
            refine QThen.nrm ?_
            exact ⟨(decide (p0 = 7)), ⟨rfl, rfl, trivial⟩, (hS.pick [] rfl rfl), hF⟩
          · skip
            refine AWP.seqR rfl ?_
            refine ASL.q (v := (.bool (decide (p0 = 10)))) rfl rfl (Light.quiet (opInt rfl rfl rfl rfl)) ?_
            refine ASL.q (v := (.bool (decide (p0 = 10)))) rfl rfl (Light.quiet (opAssign rfl rfl)) ?_
            refine ASL.done ?_
            refine AWP.ifP hF rfl (fun hc13 hF => ?_) (fun hc13 hF => ?_)
            · skip
              refine AWP.skip ?_
              refine QThen.nrm ?_
              exact ⟨(decide (p0 = 10)), ⟨rfl, rfl, trivial⟩, (hS.pick [] rfl rfl), hF⟩
            · skip
              refine AWP.lastR rfl ?_
              refine ASL.q (v := (.bool (decide (p0 = 11)))) rfl rfl (Light.quiet (opInt rfl rfl rfl rfl)) ?_
              refine ASL.q (v := (.bool (decide (p0 = 11)))) rfl rfl (Light.quiet (opAssign rfl rfl)) ?_
              refine ASL.done ?_
              refine QThen.nrm ?_
              exact ⟨(decide (p0 = 11)), ⟨rfl, rfl, trivial⟩, (hS.pick [] rfl rfl), hF⟩
  · skip
    refine AWP.seqR rfl ?_
    refine ASL.q (v := (.bool (decide (p0 = 1)))) rfl rfl (Light.quiet (opInt rfl rfl rfl rfl)) ?_
    refine ASL.q (v := (.bool (decide (p0 = 1)))) rfl rfl (Light.quiet (opAssign rfl rfl)) ?_
    refine ASL.done ?_
    refine AWP.ifP hF rfl (fun hc15 hF => ?_) (fun hc15 hF => ?_)
    · skip
      refine AWP.skip ?_
      refine QThen.nrm ?_
      exact ⟨(decide (p0 = 1)), ⟨rfl, rfl, trivial⟩, (hS.pick [] rfl rfl), hF⟩
    · skip
      refine AWP.seqR rfl ?_
      refine ASL.q (v := (.bool (decide (p0 = 2)))) rfl rfl (Light.quiet (opInt rfl rfl rfl rfl)) ?_
      refine ASL.q (v := (.bool (decide (p0 = 2)))) rfl rfl (Light.quiet (opAssign rfl rfl)) ?_
      refine ASL.done ?_
      refine AWP.ifP hF rfl (fun hc16 hF => ?_) (fun hc16 hF => ?_)
      · skip
        refine AWP.skip ?_
        refine QThen.nrm ?_
        exact ⟨(decide (p0 = 2)), ⟨rfl, rfl, trivial⟩, (hS.pick [] rfl rfl), hF⟩
      · skip
        refine AWP.lastR rfl ?_
        refine ASL.q (v := (.bool (decide (p0 = 3)))) rfl rfl (Light.quiet (opInt rfl rfl rfl rfl)) ?_
        refine ASL.q (v := (.bool (decide (p0 = 3)))) rfl rfl (Light.quiet (opAssign rfl rfl)) ?_
        refine ASL.done ?_
        refine QThen.nrm ?_
        exact ⟨(decide (p0 = 3)), ⟨rfl, rfl, trivial⟩, (hS.pick [] rfl rfl), hF⟩

set_option maxRecDepth 10000 in
theorem spec_l1In_ok (p0 : Int) (p1 : Int) (p2 : Int) : PC Try.prog 86 [(.int .i64 p0), (.int .i64 p1), (.int .i64 p2)] fun v => v = (.bool (spec_l1In p0 p1 p2)) := by
  generalize hF : spec_l1In p0 p1 p2 = r
  refine PC.enter Try.func86 rfl Try.ntmps86 (by simp) ?_
  have hS := Sep.void; unfold spec_l1In at hF
  refine AWP.seqR rfl ?_
  refine ASL.q (v := (.bool false)) rfl rfl (Light.quiet (opAssign rfl rfl)) ?_
  refine ASL.done ?_
  refine AWP.seqR rfl ?_
  refine ASL.q (v := (.int .i64 p0)) rfl rfl (Light.quiet (opMove rfl rfl)) ?_
  refine ASL.q (v := (.int .i64 p1)) rfl rfl (Light.quiet (opMove rfl rfl)) ?_
  refine ASL.q (v := (.bool (decide (p0 ≥ p1)))) rfl rfl (Light.quiet (opInt rfl rfl rfl rfl)) ?_
  obtain ⟨c10, hc10, hF⟩ := bndE hF
  refine ASL.q (v := (.bool c10)) rfl rfl ((Quiet.cast (Light.quiet (opMove rfl rfl)) (congrArg AV.bool hc10.symm))) ?_
  refine ASL.g (v := (.int .i64 p0)) (.bool c10) true rfl (wT _) rfl (fun hG => by have q0 := hG; subst q0; exact Light.quiet (opMove rfl rfl)) ?_
  refine ASL.g (v := (.int .i64 p2)) (.bool c10) true rfl (wT _) rfl (fun hG => by have q0 := hG; subst q0; exact Light.quiet (opMove rfl rfl)) ?_
  refine ASL.g (v := (.bool (decide (p0 ≤ p2)))) (.bool c10) true rfl (wT _) rfl (fun hG => by have q0 := hG; subst q0; exact Light.quiet (opInt rfl rfl rfl rfl)) ?_
  refine ASL.q (v := (.bool (c10 && (decide (p0 ≤ p2))))) rfl rfl (Light.quiet (opPick (b := c10) rfl rfl (by cases c10 <;> rfl))) ?_
  refine ASL.q (v := (.bool (c10 && (decide (p0 ≤ p2))))) rfl rfl (Light.quiet (opAssign rfl rfl)) ?_
  refine ASL.done ?_
  refine AWP.ret ?_
  obtain rfl := hF
  exact QRet.sole (v := (.bool (c10 && (decide (p0 ≤ p2))))) ⟨rfl, trivial⟩ rfl

set_option maxRecDepth 10000 in
theorem spec_l2Leaf_ok (p0 : TNode) : PC Try.prog 87 [(TNode.av p0)] fun v => v = (.bool (spec_l2Leaf p0)) := by
  generalize hF : spec_l2Leaf p0 = r
  refine PC.enter Try.func87 rfl Try.ntmps87 (by simp) ?_
  have hS := Sep.void; unfold spec_l2Leaf at hF
  refine AWP.seqR rfl ?_
  refine ASL.q (v := (.rptr [(.int .i64 p0.kind), (.int .i64 p0.a), (.int .i64 p0.b)])) rfl rfl ((qBoxI (v := (TNode.av p0)) rfl rfl rfl rfl)) ?_
  refine ASL.q (v := (.bool false)) rfl rfl (Light.quiet (opAssign rfl rfl)) ?_
  refine ASL.done ?_
  refine AWP.seq ?_
  refine AWP.seqR rfl ?_
  refine ASL.q (v := (.rptr [(.int .i64 p0.kind), (.int .i64 p0.a), (.int .i64 p0.b)])) rfl rfl (Light.quiet (opFieldAddrR rfl fieldA_59_0 rfl rfl)) ?_
  refine ASL.q (v := (.int .i64 p0.kind)) rfl rfl (Light.quiet (opLoadR rfl aggA_3 rfl rfl)) ?_
  refine ASL.q (v := (.bool (decide (p0.kind = 3)))) rfl rfl (Light.quiet (opInt rfl rfl rfl rfl)) ?_
  refine ASL.done ?_
  refine AWP.ifP hF rfl (fun hc1 hF => ?_) (fun hc1 hF => ?_)
  · skip
    refine AWP.seqR rfl ?_
    refine ASL.q (v := (.rptr [(.int .i64 p0.a), (.int .i64 p0.b)])) rfl rfl (Light.quiet (opFieldAddrR rfl fieldA_59_1 rfl rfl)) ?_
    refine ASL.q (v := (.int .i64 p0.a)) rfl rfl (Light.quiet (opLoadR rfl aggA_3 rfl rfl)) ?_
    refine ASL.q (v := (.bool (spec_l1In p0.a 0 2))) rfl rfl ((qCall rfl rfl call_86 (spec_l1In_ok p0.a 0 2) rfl)) ?_
    refine ASL.q (v := (.bool (spec_l1In p0.a 0 2))) rfl rfl (Light.quiet (opAssign rfl rfl)) ?_
    refine ASL.done ?_
    refine AWP.ret ?_
    refine QThen.rt ?_
    obtain rfl := hF
    exact QRet.sole (v := (.bool (spec_l1In p0.a 0 2))) ⟨rfl, trivial⟩ rfl
  · skip
    refine AWP.skip ?_
    refine QThen.nrm ?_
    refine AWP.seqR rfl ?_
    refine ASL.q (v := (.rptr [(.int .i64 p0.a), (.int .i64 p0.b)])) rfl rfl (Light.quiet (opFieldAddrR rfl fieldA_59_1 rfl rfl)) ?_
    refine ASL.q (v := (.int .i64 p0.a)) rfl rfl (Light.quiet (opLoadR rfl aggA_3 rfl rfl)) ?_
    refine ASL.q (v := (.bool (decide (p0.a = 0)))) rfl rfl (Light.quiet (opInt rfl rfl rfl rfl)) ?_
    refine ASL.q (v := (.bool (decide (p0.a = 0)))) rfl rfl (Light.quiet (opAssign rfl rfl)) ?_
    refine ASL.done ?_
    refine AWP.ret ?_
    obtain rfl := hF
    exact QRet.sole (v := (.bool (decide (p0.a = 0)))) ⟨rfl, trivial⟩ rfl

set_option maxRecDepth 10000 in
theorem spec_l2Sizes_ok {p0 : (List TNode)} {p1 : (List Int)} {r : (List Int)} (hF : spec_l2Sizes p0 p1 = some r) : PO Try.prog 88 [(.list 3 (List.map TNode.av p0)), (.list 1 (List.map (AV.int .i64) p1))] 1 (List.map (AV.int .i64) r) := by
  refine HC.enter Try.func88 rfl Try.ntmps88 (by simp) ?_
  have hS := Sep.void; unfold spec_l2Sizes at hF
  refine AWP.seqR rfl ?_
  have hS := hNil (s := 1) (f := (AV.int .i64)) hS
  refine ASL.q (v := .nil) rfl rfl (Light.quiet (opAssign rfl rfl)) ?_
  refine ASL.done ?_
  refine AWP.seqR rfl ?_
  refine ASL.x rfl rfl (hLit (f := (AV.int .i64)) (zs := []) hS rfl rfl elemA_32 sizeA_3 zeroA_3 rfl rfl rfl rfl (by simp [cells]) (nlt rfl) ?_); rintro v10 G2 hK hS
  refine ASL.q (v := v10) rfl rfl (Light.quiet (opAssign rfl rfl)) ?_
  refine ASL.done ?_
  refine AWP.seqM (fun e H => ∃ y4 : (List Int), ∃ w5 : AV, E.Told e [(5, w5)] ∧ E.Sep H [.row 1 w5 (List.map (AV.int .i64) y4)] ∧ spec_l2Sizes.k0 y4 = some r) ?_ ?_
  · rintro e0 G7 ⟨y4, w5, hT, hS, hF⟩; refine AWP.only _ hT ?_; unfold spec_l2Sizes.k0 at hF
    refine AWP.seqR rfl ?_
    refine ASL.q (v := w5) rfl rfl (Light.quiet (opMove rfl rfl)) ?_
    refine ASL.q (v := w5) rfl rfl (Light.quiet (opAssign rfl rfl)) ?_
    refine ASL.done ?_
    refine AWP.ret ?_
    obtain rfl := someE hF
    exact QRet.sole (v := w5) ⟨rfl, trivial⟩ (hS.get (k := 0) rfl)
  · skip
    refine AWP.seqR rfl ?_
    refine ASL.q (v := (.int .i64 0)) rfl rfl (Light.quiet (opAssign rfl rfl)) ?_
    refine ASL.done ?_
    refine AWP.block ?_
    obtain ⟨o14, hL13, hR15⟩ := bindE hF
    refine AWP.loopF (ω := AV) hL13 (fun s w => [(0, (.list 3 (List.map TNode.av p0))), (1, (.list 1 (List.map (AV.int .i64) p1))), (5, w), (6, (.int .i64 s.2))]) (fun s w => [.row 1 w (List.map (AV.int .i64) s.1)]) v10 ⟨rfl, rfl, rfl, rfl, trivial⟩ (hS.pick [0] rfl rfl) ?_
    rintro ⟨y8, x6_l0⟩ w9 G16 hS x11 hF hx12
    try dsimp only at hS ⊢
    have hF : spec_l2Sizes.b0 p0 p1 y8 x6_l0 = some x11 := hF; unfold spec_l2Sizes.b0 at hF
    refine AWP.seq ?_
    refine AWP.seqR rfl ?_
    refine ASL.q (v := (.int .i64 x6_l0)) rfl rfl (Light.quiet (opMove rfl rfl)) ?_
    refine ASL.q (v := (.list 3 (List.map TNode.av p0))) rfl rfl (Light.quiet (opMove rfl rfl)) ?_
    refine ASL.q (v := (.int .i64 (p0.length : Int))) rfl rfl (Light.quiet (opLenMap (f := TNode.av) rfl rfl rfl lenT_24 rfl)) ?_
    refine ASL.q (v := (.bool (decide (x6_l0 < ((p0.length : Int)))))) rfl rfl (Light.quiet (opInt rfl rfl rfl rfl)) ?_
    refine ASL.done ?_
    refine AWP.ifP hF rfl (fun hc17 hF => ?_) (fun hc17 hF => ?_)
    · skip
      refine AWP.skip ?_
      refine QThen.nrm ?_
      refine AWP.seq ?_
      refine AWP.block ?_
      refine AWP.seqR rfl ?_
      refine ASL.q (v := (.list 3 (List.map TNode.av p0))) rfl rfl (Light.quiet (opMove rfl rfl)) ?_
      refine ASL.q (v := (.int .i64 x6_l0)) rfl rfl (Light.quiet (opMove rfl rfl)) ?_
      obtain ⟨a19, ha19, hF⟩ := bindE hF
      refine ASL.q (v := (.rptr [(.int .i64 a19.kind), (.int .i64 a19.a), (.int .i64 a19.b)])) rfl rfl (Light.quiet (kIx (f := TNode.av) ha19 rfl rfl rfl elemA_24 sizeA_59 rfl)) ?_
      refine ASL.q (v := (TNode.av a19)) rfl rfl (Light.quiet (opLoadRA rfl aggA_59 sizeA_59 rfl (nlt rfl) rfl)) ?_
      refine ASL.x rfl rfl (hNewZ hS [(.int .i64 0), (.int .i64 0), (.int .i64 0)] rfl zeroA_59 ⟨.inl rfl, .inl rfl, .inl rfl, trivial⟩ ?_); rintro b7 G18 hK hS
      refine ASL.n rfl rfl (hPutA hS (j := 0) rfl rfl sizeA_59 rfl rfl rfl rfl rfl (nlt rfl) ?_); rintro G20 hS
      refine ASL.done ?_
      refine AWP.seqR rfl ?_
      refine ASL.q (v := (.int .i64 1)) rfl rfl (Light.quiet (opAssign rfl rfl)) ?_
      refine ASL.done ?_
      refine AWP.seq ?_
      refine AWP.seqR rfl ?_
      refine ASL.q (v := (.list 1 (List.map (AV.int .i64) p1))) rfl rfl (Light.quiet (opMove rfl rfl)) ?_
      refine ASL.q (v := (.int .i64 x6_l0)) rfl rfl (Light.quiet (opMove rfl rfl)) ?_
      obtain ⟨a23, ha23, hF⟩ := bindE hF
      refine ASL.q (v := (.rptr [(.int .i64 a23)])) rfl rfl (Light.quiet (kIx (f := (AV.int .i64)) ha23 rfl rfl rfl elemA_32 sizeA_3 rfl)) ?_
      refine ASL.q (v := (.int .i64 a23)) rfl rfl (Light.quiet (opLoadR rfl aggA_3 rfl rfl)) ?_
      refine ASL.done ?_
      refine AWP.block ?_
      refine AWP.seqR rfl ?_
      refine ASL.q (v := (.bool (decide (a23 = 1)))) rfl rfl (Light.quiet (opInt rfl rfl rfl rfl)) ?_
      refine ASL.q (v := (.bool (decide (a23 = 1)))) rfl rfl (Light.quiet (opAssign rfl rfl)) ?_
      refine ASL.done ?_
      refine AWP.ifP hF rfl (fun hc21 hF => ?_) (fun hc21 hF => ?_)
      · skip
        refine AWP.seq ?_
        refine AWP.seqR rfl ?_
        refine ASL.q (v := (.int .i64 x6_l0)) rfl rfl (Light.quiet (opMove rfl rfl)) ?_
        refine ASL.q (v := (.bool (decide (x6_l0 < 1)))) rfl rfl (Light.quiet (opInt rfl rfl rfl rfl)) ?_
        obtain ⟨c33, hc33, hF⟩ := bndE hF
        refine ASL.q (v := (.bool c33)) rfl rfl ((Quiet.cast (Light.quiet (opMove rfl rfl)) (congrArg AV.bool hc33.symm))) ?_
        refine ASL.g (v := (.ptr b7 1)) (.bool c33) false rfl (wF _) rfl (fun hG => by have q0 := gN hG; subst q0; exact Light.quiet (opFieldAddr rfl fieldA_59_1 rfl rfl)) ?_
        refine ASL.g (v := (.int .i64 a19.a)) (.bool c33) false rfl (wF _) rfl (fun hG => by have q0 := gN hG; subst q0; exact Light.quiet (kAt hS (j := 0) rfl rfl aggA_3 rfl rfl)) ?_
        refine ASL.g (v := (.int .i64 x6_l0)) (.bool c33) false rfl (wF _) rfl (fun hG => by have q0 := gN hG; subst q0; exact Light.quiet (opMove rfl rfl)) ?_
        refine ASL.g (v := (.int .i64 (W (x6_l0 - 1)))) (.bool c33) false rfl (wF _) rfl (fun hG => by have q0 := gN hG; subst q0; exact Light.quiet (opInt rfl rfl rfl rfl)) ?_
        refine ASL.g (v := (.bool (decide (a19.a ≠ ((W (x6_l0 - 1))))))) (.bool c33) false rfl (wF _) rfl (fun hG => by have q0 := gN hG; subst q0; exact Light.quiet (opInt rfl rfl rfl rfl)) ?_
        refine ASL.q (v := (.bool (c33 || (decide (a19.a ≠ ((W (x6_l0 - 1)))))))) rfl rfl (Light.quiet (opPick (b := c33) rfl rfl (by cases c33 <;> rfl))) ?_
        obtain ⟨c40, hc40, hF⟩ := bndE hF
        refine ASL.q (v := (.bool c40)) rfl rfl ((Quiet.cast (Light.quiet (opMove rfl rfl)) (congrArg AV.bool hc40.symm))) ?_
        refine ASL.g (v := (.ptr b7 2)) (.bool c40) false rfl (wF _) rfl (fun hG => by have q0 := gN hG; subst q0; exact Light.quiet (opFieldAddr rfl fieldA_59_2 rfl rfl)) ?_
        refine ASL.g (v := (.int .i64 a19.b)) (.bool c40) false rfl (wF _) rfl (fun hG => by have q0 := gN hG; subst q0; exact Light.quiet (kAt hS (j := 0) rfl rfl aggA_3 rfl rfl)) ?_
        refine ASL.g (v := (.bool (decide (a19.b ≠ 0)))) (.bool c40) false rfl (wF _) rfl (fun hG => by have q0 := gN hG; subst q0; exact Light.quiet (opInt rfl rfl rfl rfl)) ?_
        refine ASL.q (v := (.bool (c40 || (decide (a19.b ≠ 0))))) rfl rfl (Light.quiet (opPick (b := c40) rfl rfl (by cases c40 <;> rfl))) ?_
        refine ASL.done ?_
        refine AWP.ifB hF rfl (fun hc22 hF => ?_) (fun hc22 hF => ?_)
        · skip
          refine AWP.seqR rfl ?_
          refine ASL.x rfl rfl (hLit (f := (AV.int .i64)) (zs := []) hS rfl rfl elemA_32 sizeA_3 zeroA_3 rfl rfl rfl rfl (by simp [cells]) (nlt rfl) ?_); rintro v45 G23 hK hS
          refine ASL.q (v := v45) rfl rfl (Light.quiet (opAssign rfl rfl)) ?_
          refine ASL.done ?_
          refine AWP.ret ?_
          refine QThen.rt ?_
          refine QBlock.ret ?_
          refine QThen.rt ?_
          refine QBlock.ret ?_
          refine QThen.rt ?_
          refine QThen.rt ?_
          refine QBlock.ret ?_
          refine QThen.rt ?_
          obtain rfl := (hx12 _ (someE hF).symm)
          have hF := hR15
          have hF := sumR hF
          obtain rfl := someE hF
          exact QRet.sole (v := v45) ⟨rfl, trivial⟩ (hS.get (k := 0) rfl)
        · skip
          refine AWP.skip ?_
          refine QThen.nrm ?_
          refine AWP.lastR rfl ?_
          refine ASL.q (v := w9) rfl rfl (Light.quiet (opMove rfl rfl)) ?_
          refine ASL.q (v := (.int .i64 x6_l0)) rfl rfl (Light.quiet (opMove rfl rfl)) ?_
          refine ASL.q (v := (.int .i64 (W (x6_l0 - 1)))) rfl rfl (Light.quiet (opInt rfl rfl rfl rfl)) ?_
          obtain ⟨a49, ha49, hF⟩ := bindE hF
          refine ASL.q (v := (ptrTo w9 ((W (x6_l0 - 1))).toNat 1)) rfl rfl (Light.quiet (kIxOx hS (j := 1) rfl ha49 rfl rfl rfl elemA_32 sizeA_3)) ?_
          refine ASL.q (v := (.int .i64 a49)) rfl rfl (Light.quiet (kLd (f := (AV.int .i64)) hS (j := 1) rfl ha49 rfl aggA_3 rfl (fun _ => rfl))) ?_
          refine ASL.q (v := (.int .i64 (W (1 + a49)))) rfl rfl (Light.quiet (opInt rfl rfl rfl rfl)) ?_
          refine ASL.q (v := (.int .i64 (W (1 + a49)))) rfl rfl (Light.quiet (opAssign rfl rfl)) ?_
          refine ASL.done ?_
          refine QBlock.nrm ?_
          refine QThen.nrm ?_
          refine AWP.lastR rfl ?_
          refine ASL.q (v := w9) rfl rfl (Light.quiet (opMove rfl rfl)) ?_
          refine ASL.q (v := (.int .i64 (W (1 + a49)))) rfl rfl (Light.quiet (opMove rfl rfl)) ?_
          refine ASL.q (v := (.list 1 (List.map (AV.int .i64) [(W (1 + a49))]))) rfl rfl ((qLit (xs := [(.int .i64 (W (1 + a49)))]) rfl elemA_32 sizeA_3 zeroA_3 rfl rfl rfl rfl (by simp [cells]) (nlt rfl))) ?_
          obtain ⟨z95, hz95, hF⟩ := bindE hF
          refine ASL.x rfl rfl (hApp (f := (AV.int .i64)) (ws := [(W (1 + a49))]) hS (j := 1) rfl hz95 rfl elemA_32 rfl sizeA_3 bytesA_3 zeroA_3 rfl rfl rfl (fun _ => rfl) ?_); rintro v95 G25 hS
          refine ASL.q (v := v95) rfl rfl (Light.quiet (opAssign rfl rfl)) ?_
          refine ASL.done ?_
          refine QBlock.nrm ?_
          refine QThen.nrm ?_
          refine AWP.lastR rfl ?_
          refine ASL.q (v := (.int .i64 x6_l0)) rfl rfl (Light.quiet (opMove rfl rfl)) ?_
          refine ASL.q (v := (.int .i64 (W (x6_l0 + 1)))) rfl rfl (Light.quiet (opInt rfl rfl rfl rfl)) ?_
          refine ASL.q (v := (.int .i64 (W (x6_l0 + 1)))) rfl rfl (Light.quiet (opAssign rfl rfl)) ?_
          refine ASL.done ?_
          refine QThen.nrm ?_
          exact ⟨(z95, (W (x6_l0 + 1))), v95, (someE hF).symm, ⟨rfl, rfl, rfl, rfl, trivial⟩, (hS.pick [1] rfl rfl)⟩
      · skip
        refine AWP.seqR rfl ?_
        refine ASL.q (v := (.bool (decide (a23 = 2)))) rfl rfl (Light.quiet (opInt rfl rfl rfl rfl)) ?_
        refine ASL.q (v := (.bool (decide (a23 = 2)))) rfl rfl (Light.quiet (opAssign rfl rfl)) ?_
        refine ASL.done ?_
        refine AWP.ifP hF rfl (fun hc27 hF => ?_) (fun hc27 hF => ?_)
        · skip
          refine AWP.seq ?_
          refine AWP.seqR rfl ?_
          refine ASL.q (v := (.int .i64 x6_l0)) rfl rfl (Light.quiet (opMove rfl rfl)) ?_
          refine ASL.q (v := (.bool (decide (x6_l0 < 2)))) rfl rfl (Light.quiet (opInt rfl rfl rfl rfl)) ?_
          obtain ⟨c56, hc56, hF⟩ := bndE hF
          refine ASL.q (v := (.bool c56)) rfl rfl ((Quiet.cast (Light.quiet (opMove rfl rfl)) (congrArg AV.bool hc56.symm))) ?_
          refine ASL.g (v := (.ptr b7 2)) (.bool c56) false rfl (wF _) rfl (fun hG => by have q0 := gN hG; subst q0; exact Light.quiet (opFieldAddr rfl fieldA_59_2 rfl rfl)) ?_
          refine ASL.g (v := (.int .i64 a19.b)) (.bool c56) false rfl (wF _) rfl (fun hG => by have q0 := gN hG; subst q0; exact Light.quiet (kAt hS (j := 0) rfl rfl aggA_3 rfl rfl)) ?_
          refine ASL.g (v := (.int .i64 x6_l0)) (.bool c56) false rfl (wF _) rfl (fun hG => by have q0 := gN hG; subst q0; exact Light.quiet (opMove rfl rfl)) ?_
          refine ASL.g (v := (.int .i64 (W (x6_l0 - 1)))) (.bool c56) false rfl (wF _) rfl (fun hG => by have q0 := gN hG; subst q0; exact Light.quiet (opInt rfl rfl rfl rfl)) ?_
          refine ASL.g (v := (.bool (decide (a19.b ≠ ((W (x6_l0 - 1))))))) (.bool c56) false rfl (wF _) rfl (fun hG => by have q0 := gN hG; subst q0; exact Light.quiet (opInt rfl rfl rfl rfl)) ?_
          refine ASL.q (v := (.bool (c56 || (decide (a19.b ≠ ((W (x6_l0 - 1)))))))) rfl rfl (Light.quiet (opPick (b := c56) rfl rfl (by cases c56 <;> rfl))) ?_
          refine ASL.done ?_
          refine AWP.ifB hF rfl (fun hc28 hF => ?_) (fun hc28 hF => ?_)
          · skip
            refine AWP.seqR rfl ?_
            refine ASL.x rfl rfl (hLit (f := (AV.int .i64)) (zs := []) hS rfl rfl elemA_32 sizeA_3 zeroA_3 rfl rfl rfl rfl (by simp [cells]) (nlt rfl) ?_); rintro v63 G29 hK hS
            refine ASL.q (v := v63) rfl rfl (Light.quiet (opAssign rfl rfl)) ?_
            refine ASL.done ?_
            refine AWP.ret ?_
            refine QThen.rt ?_
            refine QBlock.ret ?_
            refine QThen.rt ?_
            refine QBlock.ret ?_
            refine QThen.rt ?_
            refine QThen.rt ?_
            refine QBlock.ret ?_
            refine QThen.rt ?_
            obtain rfl := (hx12 _ (someE hF).symm)
            have hF := hR15
            have hF := sumR hF
            obtain rfl := someE hF
            exact QRet.sole (v := v63) ⟨rfl, trivial⟩ (hS.get (k := 0) rfl)
          · skip
            refine AWP.skip ?_
            refine QThen.nrm ?_
            refine AWP.seqR rfl ?_
            refine ASL.q (v := (.int .i64 x6_l0)) rfl rfl (Light.quiet (opMove rfl rfl)) ?_
            refine ASL.q (v := (.int .i64 (W (x6_l0 - 1)))) rfl rfl (Light.quiet (opInt rfl rfl rfl rfl)) ?_
            refine ASL.q (v := w9) rfl rfl (Light.quiet (opMove rfl rfl)) ?_
            refine ASL.q (v := (.int .i64 x6_l0)) rfl rfl (Light.quiet (opMove rfl rfl)) ?_
            refine ASL.q (v := (.int .i64 (W (x6_l0 - 1)))) rfl rfl (Light.quiet (opInt rfl rfl rfl rfl)) ?_
            obtain ⟨a69, ha69, hF⟩ := bindE hF
            refine ASL.q (v := (ptrTo w9 ((W (x6_l0 - 1))).toNat 1)) rfl rfl (Light.quiet (kIxOx hS (j := 1) rfl ha69 rfl rfl rfl elemA_32 sizeA_3)) ?_
            refine ASL.q (v := (.int .i64 a69)) rfl rfl (Light.quiet (kLd (f := (AV.int .i64)) hS (j := 1) rfl ha69 rfl aggA_3 rfl (fun _ => rfl))) ?_
            refine ASL.q (v := (.int .i64 (W (((W (x6_l0 - 1))) - a69)))) rfl rfl (Light.quiet (opInt rfl rfl rfl rfl)) ?_
            refine ASL.q (v := (.int .i64 (W (((W (x6_l0 - 1))) - a69)))) rfl rfl (Light.quiet (opAssign rfl rfl)) ?_
            refine ASL.done ?_
            refine AWP.seq ?_
            refine AWP.seqR rfl ?_
            refine ASL.q (v := (.int .i64 (W (((W (x6_l0 - 1))) - a69)))) rfl rfl (Light.quiet (opMove rfl rfl)) ?_
            refine ASL.q (v := (.bool (decide (((W (((W (x6_l0 - 1))) - a69))) < 0)))) rfl rfl (Light.quiet (opInt rfl rfl rfl rfl)) ?_
            obtain ⟨c74, hc74, hF⟩ := bndE hF
            refine ASL.q (v := (.bool c74)) rfl rfl ((Quiet.cast (Light.quiet (opMove rfl rfl)) (congrArg AV.bool hc74.symm))) ?_
            refine ASL.g (v := (.ptr b7 1)) (.bool c74) false rfl (wF _) rfl (fun hG => by have q0 := gN hG; subst q0; exact Light.quiet (opFieldAddr rfl fieldA_59_1 rfl rfl)) ?_
            refine ASL.g (v := (.int .i64 a19.a)) (.bool c74) false rfl (wF _) rfl (fun hG => by have q0 := gN hG; subst q0; exact Light.quiet (kAt hS (j := 0) rfl rfl aggA_3 rfl rfl)) ?_
            refine ASL.g (v := (.int .i64 (W (((W (x6_l0 - 1))) - a69)))) (.bool c74) false rfl (wF _) rfl (fun hG => by have q0 := gN hG; subst q0; exact Light.quiet (opMove rfl rfl)) ?_
            refine ASL.g (v := (.bool (decide (a19.a ≠ ((W (((W (x6_l0 - 1))) - a69))))))) (.bool c74) false rfl (wF _) rfl (fun hG => by have q0 := gN hG; subst q0; exact Light.quiet (opInt rfl rfl rfl rfl)) ?_
            refine ASL.q (v := (.bool (c74 || (decide (a19.a ≠ ((W (((W (x6_l0 - 1))) - a69)))))))) rfl rfl (Light.quiet (opPick (b := c74) rfl rfl (by cases c74 <;> rfl))) ?_
            refine ASL.done ?_
            refine AWP.ifB hF rfl (fun hc31 hF => ?_) (fun hc31 hF => ?_)
            · skip
              refine AWP.seqR rfl ?_
              refine ASL.x rfl rfl (hLit (f := (AV.int .i64)) (zs := []) hS rfl rfl elemA_32 sizeA_3 zeroA_3 rfl rfl rfl rfl (by simp [cells]) (nlt rfl) ?_); rintro v80 G32 hK hS
              refine ASL.q (v := v80) rfl rfl (Light.quiet (opAssign rfl rfl)) ?_
              refine ASL.done ?_
              refine AWP.ret ?_
              refine QThen.rt ?_
              refine QBlock.ret ?_
              refine QThen.rt ?_
              refine QBlock.ret ?_
              refine QThen.rt ?_
              refine QThen.rt ?_
              refine QBlock.ret ?_
              refine QThen.rt ?_
              obtain rfl := (hx12 _ (someE hF).symm)
              have hF := hR15
              have hF := sumR hF
              obtain rfl := someE hF
              exact QRet.sole (v := v80) ⟨rfl, trivial⟩ (hS.get (k := 0) rfl)
            · skip
              refine AWP.skip ?_
              refine QThen.nrm ?_
              refine AWP.lastD [(0, false), (1, false), (2, false), (3, false), (4, false), (5, false), (6, false), (7, false), (8, false), (9, false), (10, false), (11, false)] mixed (by kernel_rfl) rfl ?_
              refine ARL.q0 (v := w9) rfl rfl (Light.quiet (opMove rfl rfl)) ?_
              refine ARL.q0 (v := (.int .i64 x6_l0)) rfl rfl (Light.quiet (opMove rfl rfl)) ?_
              refine ARL.q0 (v := (.int .i64 (W (x6_l0 - 1)))) rfl rfl (Light.quiet (opInt rfl rfl rfl rfl)) ?_
              obtain ⟨a84, ha84, hF⟩ := bindE hF
              refine ARL.q0 (v := (ptrTo w9 ((W (x6_l0 - 1))).toNat 1)) rfl rfl (Light.quiet (kIxOx hS (j := 1) rfl ha84 rfl rfl rfl elemA_32 sizeA_3)) ?_
              refine ARL.q (v := (.int .i64 a84)) rfl rfl (hS.aliveR (k := 1) rfl) (Light.quiet (kLd (f := (AV.int .i64)) hS (j := 1) rfl ha84 rfl aggA_3 rfl (fun _ => rfl))) ?_
              refine ARL.q0 (v := (.int .i64 (W (1 + a84)))) rfl rfl (Light.quiet (opInt rfl rfl rfl rfl)) ?_
              refine ARL.q0 (v := w9) rfl rfl (Light.quiet (opMove rfl rfl)) ?_
              refine ARL.q0 (v := (.int .i64 (W (((W (x6_l0 - 1))) - a69)))) rfl rfl (Light.quiet (opMove rfl rfl)) ?_
              obtain ⟨a89, ha89, hF⟩ := bindE hF
              refine ARL.q0 (v := (ptrTo w9 ((W (((W (x6_l0 - 1))) - a69))).toNat 1)) rfl rfl (Light.quiet (kIxOx hS (j := 1) rfl ha89 rfl rfl rfl elemA_32 sizeA_3)) ?_
              refine ARL.q (v := (.int .i64 a89)) rfl rfl (hS.aliveR (k := 1) rfl) (Light.quiet (kLd (f := (AV.int .i64)) hS (j := 1) rfl ha89 rfl aggA_3 rfl (fun _ => rfl))) ?_
              refine ARL.q0 (v := (.int .i64 (W (((W (1 + a84))) + a89)))) rfl rfl (Light.quiet (opInt rfl rfl rfl rfl)) ?_
              refine ARL.q0 (v := (.int .i64 (W (((W (1 + a84))) + a89)))) rfl rfl (Light.quiet (opAssign rfl rfl)) ?_
              refine ARL.done ?_
              refine QBlock.nrm ?_
              refine QThen.nrm ?_
              refine AWP.lastR rfl ?_
              refine ASL.q (v := w9) rfl rfl (Light.quiet (opMove rfl rfl)) ?_
              refine ASL.q (v := (.int .i64 (W (((W (1 + a84))) + a89)))) rfl rfl (Light.quiet (opMove rfl rfl)) ?_
              refine ASL.q (v := (.list 1 (List.map (AV.int .i64) [(W (((W (1 + a84))) + a89))]))) rfl rfl ((qLit (xs := [(.int .i64 (W (((W (1 + a84))) + a89)))]) rfl elemA_32 sizeA_3 zeroA_3 rfl rfl rfl rfl (by simp [cells]) (nlt rfl))) ?_
              obtain ⟨z95, hz95, hF⟩ := bindE hF
              refine ASL.x rfl rfl (hApp (f := (AV.int .i64)) (ws := [(W (((W (1 + a84))) + a89))]) hS (j := 1) rfl hz95 rfl elemA_32 rfl sizeA_3 bytesA_3 zeroA_3 rfl rfl rfl (fun _ => rfl) ?_); rintro v95 G34 hS
              refine ASL.q (v := v95) rfl rfl (Light.quiet (opAssign rfl rfl)) ?_
              refine ASL.done ?_
              refine QBlock.nrm ?_
              refine QThen.nrm ?_
              refine AWP.lastR rfl ?_
              refine ASL.q (v := (.int .i64 x6_l0)) rfl rfl (Light.quiet (opMove rfl rfl)) ?_
              refine ASL.q (v := (.int .i64 (W (x6_l0 + 1)))) rfl rfl (Light.quiet (opInt rfl rfl rfl rfl)) ?_
              refine ASL.q (v := (.int .i64 (W (x6_l0 + 1)))) rfl rfl (Light.quiet (opAssign rfl rfl)) ?_
              refine ASL.done ?_
              refine QThen.nrm ?_
              exact ⟨(z95, (W (x6_l0 + 1))), v95, (someE hF).symm, ⟨rfl, rfl, rfl, rfl, trivial⟩, (hS.pick [1] rfl rfl)⟩
        · skip
          refine AWP.seqR rfl ?_
          refine ASL.q (v := (.ptr b7 2)) rfl rfl (Light.quiet (opFieldAddr rfl fieldA_59_2 rfl rfl)) ?_
          refine ASL.q (v := (.int .i64 a19.b)) rfl rfl (Light.quiet (kAt hS (j := 0) rfl rfl aggA_3 rfl rfl)) ?_
          refine ASL.q (v := (.bool (decide (a19.b ≠ 0)))) rfl rfl (Light.quiet (opInt rfl rfl rfl rfl)) ?_
          refine ASL.done ?_
          refine AWP.ifP hF rfl (fun hc36 hF => ?_) (fun hc36 hF => ?_)
          · skip
            refine AWP.seqR rfl ?_
            refine ASL.x rfl rfl (hLit (f := (AV.int .i64)) (zs := []) hS rfl rfl elemA_32 sizeA_3 zeroA_3 rfl rfl rfl rfl (by simp [cells]) (nlt rfl) ?_); rintro v28 G37 hK hS
            refine ASL.q (v := v28) rfl rfl (Light.quiet (opAssign rfl rfl)) ?_
            refine ASL.done ?_
            refine AWP.ret ?_
            refine QBlock.ret ?_
            refine QThen.rt ?_
            refine QBlock.ret ?_
            refine QThen.rt ?_
            refine QThen.rt ?_
            refine QBlock.ret ?_
            refine QThen.rt ?_
            obtain rfl := (hx12 _ (someE hF).symm)
            have hF := hR15
            have hF := sumR hF
            obtain rfl := someE hF
            exact QRet.sole (v := v28) ⟨rfl, trivial⟩ (hS.get (k := 0) rfl)
          · skip
            refine AWP.skip ?_
            refine QBlock.nrm ?_
            refine QThen.nrm ?_
            refine AWP.lastR rfl ?_
            refine ASL.q (v := w9) rfl rfl (Light.quiet (opMove rfl rfl)) ?_
            refine ASL.q (v := (.int .i64 1)) rfl rfl (Light.quiet (opMove rfl rfl)) ?_
            refine ASL.q (v := (.list 1 (List.map (AV.int .i64) [1]))) rfl rfl ((qLit (xs := [(.int .i64 1)]) rfl elemA_32 sizeA_3 zeroA_3 rfl rfl rfl rfl (by simp [cells]) (nlt rfl))) ?_
            obtain ⟨z95, hz95, hF⟩ := bindE hF
            refine ASL.x rfl rfl (hApp (f := (AV.int .i64)) (ws := [1]) hS (j := 1) rfl hz95 rfl elemA_32 rfl sizeA_3 bytesA_3 zeroA_3 rfl rfl rfl (fun _ => rfl) ?_); rintro v95 G39 hS
            refine ASL.q (v := v95) rfl rfl (Light.quiet (opAssign rfl rfl)) ?_
            refine ASL.done ?_
            refine QBlock.nrm ?_
            refine QThen.nrm ?_
            refine AWP.lastR rfl ?_
            refine ASL.q (v := (.int .i64 x6_l0)) rfl rfl (Light.quiet (opMove rfl rfl)) ?_
            refine ASL.q (v := (.int .i64 (W (x6_l0 + 1)))) rfl rfl (Light.quiet (opInt rfl rfl rfl rfl)) ?_
            refine ASL.q (v := (.int .i64 (W (x6_l0 + 1)))) rfl rfl (Light.quiet (opAssign rfl rfl)) ?_
            refine ASL.done ?_
            refine QThen.nrm ?_
            exact ⟨(z95, (W (x6_l0 + 1))), v95, (someE hF).symm, ⟨rfl, rfl, rfl, rfl, trivial⟩, (hS.pick [1] rfl rfl)⟩
    · skip
      refine AWP.exit ?_
      refine QThen.ext ?_
      refine QThen.ext ?_
      refine QBlock.hit ?_
      obtain rfl := (hx12 _ (someE hF).symm)
      have hF := hR15
      have hF := sumL hF
      refine QThen.nrm ?_
      exact ⟨y8, w9, ⟨rfl, trivial⟩, (hS.pick [0] rfl rfl), hF⟩

set_option maxRecDepth 10000 in
theorem spec_LtlOk_ok {p0 : (List TNode)} {r : Bool} (hF : spec_LtlOk p0 = some r) : PC Try.prog 43 [(.list 3 (List.map TNode.av p0))] fun v => v = (.bool r) := by
  refine PC.enter Try.func43 rfl Try.ntmps43 (by simp) ?_
  have hS := Sep.void; unfold spec_LtlOk at hF
  refine AWP.seqR rfl ?_
  refine ASL.q (v := (.bool false)) rfl rfl (Light.quiet (opAssign rfl rfl)) ?_
  refine ASL.done ?_
  refine AWP.seq ?_
  refine AWP.seqR rfl ?_
  refine ASL.q (v := (.list 3 (List.map TNode.av p0))) rfl rfl (Light.quiet (opMove rfl rfl)) ?_
  refine ASL.q (v := (.int .i64 (p0.length : Int))) rfl rfl (Light.quiet (opLenMap (f := TNode.av) rfl rfl rfl lenT_24 rfl)) ?_
  refine ASL.q (v := (.bool (spec_l1In ((p0.length : Int)) 1 31))) rfl rfl ((qCall rfl rfl call_86 (spec_l1In_ok ((p0.length : Int)) 1 31) rfl)) ?_
  refine ASL.q (v := (.bool (!(spec_l1In ((p0.length : Int)) 1 31)))) rfl rfl (Light.quiet (opNot rfl rfl)) ?_
  refine ASL.done ?_
  refine AWP.ifB hF rfl (fun hc1 hF => ?_) (fun hc1 hF => ?_)
  · skip
    refine AWP.seqR rfl ?_
    refine ASL.q (v := (.bool false)) rfl rfl (Light.quiet (opAssign rfl rfl)) ?_
    refine ASL.done ?_
    refine AWP.ret ?_
    refine QThen.rt ?_
    obtain rfl := someE hF
    exact QRet.sole (v := (.bool false)) ⟨rfl, trivial⟩ rfl
  · skip
    refine AWP.skip ?_
    refine QThen.nrm ?_
    refine AWP.seqR rfl ?_
    refine ASL.x rfl rfl (hLit (f := (AV.int .i64)) (zs := []) hS rfl rfl elemA_32 sizeA_3 zeroA_3 rfl rfl rfl rfl (by simp [cells]) (nlt rfl) ?_); rintro v11 G2 hK hS
    refine ASL.q (v := v11) rfl rfl (Light.quiet (opAssign rfl rfl)) ?_
    refine ASL.done ?_
    refine AWP.seqM (fun e H => ∃ y4 : (List Int), ∃ w5 : AV, E.Told e [(0, (.list 3 (List.map TNode.av p0))), (3, w5)] ∧ E.Sep H [.row 1 w5 (List.map (AV.int .i64) y4)] ∧ spec_LtlOk.k0 p0 y4 = some r) ?_ ?_
    · rintro e0 G7 ⟨y4, w5, hT, hS, hF⟩; refine AWP.only _ hT ?_; unfold spec_LtlOk.k0 at hF
      refine AWP.seqR rfl ?_
      refine ASL.q (v := (.list 3 (List.map TNode.av p0))) rfl rfl (Light.quiet (opMove rfl rfl)) ?_
      refine ASL.q (v := w5) rfl rfl (Light.quiet (opMove rfl rfl)) ?_
      obtain ⟨a44, ha44, hF⟩ := bindE hF
      refine ASL.q (v := (.list 1 (List.map (AV.int .i64) a44))) rfl rfl ((qCallRL hS rfl rfl call_88 (spec_l2Sizes_ok ha44) ⟨.same _, .row (k := 0) rfl, trivial⟩ (Scal.ints _ _))) ?_
      refine ASL.q (v := (.list 1 (List.map (AV.int .i64) a44))) rfl rfl (Light.quiet (opAssign rfl rfl)) ?_
      refine ASL.done ?_
      refine AWP.seqR rfl ?_
      refine ASL.q (v := (.list 1 (List.map (AV.int .i64) a44))) rfl rfl (Light.quiet (opMove rfl rfl)) ?_
      refine ASL.q (v := (.int .i64 (a44.length : Int))) rfl rfl (Light.quiet (opLenMap (f := (AV.int .i64)) rfl rfl rfl lenT_32 rfl)) ?_
      refine ASL.q (v := (.list 3 (List.map TNode.av p0))) rfl rfl (Light.quiet (opMove rfl rfl)) ?_
      refine ASL.q (v := (.int .i64 (p0.length : Int))) rfl rfl (Light.quiet (opLenMap (f := TNode.av) rfl rfl rfl lenT_24 rfl)) ?_
      refine ASL.q (v := (.bool (decide (((a44.length : Int)) = ((p0.length : Int)))))) rfl rfl (Light.quiet (opInt rfl rfl rfl rfl)) ?_
      obtain ⟨c50, hc50, hF⟩ := bndE hF
      refine ASL.q (v := (.bool c50)) rfl rfl ((Quiet.cast (Light.quiet (opMove rfl rfl)) (congrArg AV.bool hc50.symm))) ?_
      refine ASL.g (v := (.list 1 (List.map (AV.int .i64) a44))) (.bool c50) true rfl (wT _) rfl (fun hG => by have q0 := hG; subst q0; exact Light.quiet (opMove rfl rfl)) ?_
      refine ASL.g (v := (.list 3 (List.map TNode.av p0))) (.bool c50) true rfl (wT _) rfl (fun hG => by have q0 := hG; subst q0; exact Light.quiet (opMove rfl rfl)) ?_
      refine ASL.g (v := (.int .i64 (p0.length : Int))) (.bool c50) true rfl (wT _) rfl (fun hG => by have q0 := hG; subst q0; exact Light.quiet (opLenMap (f := TNode.av) rfl rfl rfl lenT_24 rfl)) ?_
      refine ASL.g (v := (.int .i64 (W (((p0.length : Int)) - 1)))) (.bool c50) true rfl (wT _) rfl (fun hG => by have q0 := hG; subst q0; exact Light.quiet (opInt rfl rfl rfl rfl)) ?_
      obtain ⟨a55, ha55, hF⟩ := bindE hF
      refine ASL.g (v := (.rptr [(.int .i64 a55)])) (.bool c50) true rfl (wT _) rfl (fun hG => by have q0 := hG; subst q0; exact Light.quiet (kIx (f := (AV.int .i64)) (whenE ha55) rfl rfl rfl elemA_32 sizeA_3 rfl)) ?_
      refine ASL.g (v := (.int .i64 a55)) (.bool c50) true rfl (wT _) rfl (fun hG => by have q0 := hG; subst q0; exact Light.quiet (opLoadR rfl aggA_3 rfl rfl)) ?_
      refine ASL.g (v := (.list 3 (List.map TNode.av p0))) (.bool c50) true rfl (wT _) rfl (fun hG => by have q0 := hG; subst q0; exact Light.quiet (opMove rfl rfl)) ?_
      refine ASL.g (v := (.int .i64 (p0.length : Int))) (.bool c50) true rfl (wT _) rfl (fun hG => by have q0 := hG; subst q0; exact Light.quiet (opLenMap (f := TNode.av) rfl rfl rfl lenT_24 rfl)) ?_
      refine ASL.g (v := (.bool (decide (a55 = ((p0.length : Int)))))) (.bool c50) true rfl (wT _) rfl (fun hG => by have q0 := hG; subst q0; exact Light.quiet (opInt rfl rfl rfl rfl)) ?_
      refine ASL.q (v := (.bool (c50 && (decide (a55 = ((p0.length : Int))))))) rfl rfl (Light.quiet (opPick (b := c50) rfl rfl (by cases c50 <;> rfl))) ?_
      refine ASL.q (v := (.bool (c50 && (decide (a55 = ((p0.length : Int))))))) rfl rfl (Light.quiet (opAssign rfl rfl)) ?_
      refine ASL.done ?_
      refine AWP.ret ?_
      obtain rfl := someE hF
      exact QRet.sole (v := (.bool (c50 && (decide (a55 = ((p0.length : Int))))))) ⟨rfl, trivial⟩ rfl
    · skip
      refine AWP.seqR rfl ?_
      refine ASL.q (v := (.int .i64 0)) rfl rfl (Light.quiet (opAssign rfl rfl)) ?_
      refine ASL.done ?_
      refine AWP.block ?_
      obtain ⟨o14, hL13, hR15⟩ := bindE hF
      refine AWP.loopF (ω := AV) hL13 (fun s w => [(0, (.list 3 (List.map TNode.av p0))), (3, w), (4, (.int .i64 s.2))]) (fun s w => [.row 1 w (List.map (AV.int .i64) s.1)]) v11 ⟨rfl, rfl, rfl, trivial⟩ (hS.pick [0] rfl rfl) ?_
      rintro ⟨y8, x4_l0⟩ w9 G16 hS x11 hF hx12
      try dsimp only at hS ⊢
      have hF : spec_LtlOk.b0 p0 y8 x4_l0 = some x11 := hF; unfold spec_LtlOk.b0 at hF
      refine AWP.seq ?_
      refine AWP.seqR rfl ?_
      refine ASL.q (v := (.int .i64 x4_l0)) rfl rfl (Light.quiet (opMove rfl rfl)) ?_
      refine ASL.q (v := (.list 3 (List.map TNode.av p0))) rfl rfl (Light.quiet (opMove rfl rfl)) ?_
      refine ASL.q (v := (.int .i64 (p0.length : Int))) rfl rfl (Light.quiet (opLenMap (f := TNode.av) rfl rfl rfl lenT_24 rfl)) ?_
      refine ASL.q (v := (.bool (decide (x4_l0 < ((p0.length : Int)))))) rfl rfl (Light.quiet (opInt rfl rfl rfl rfl)) ?_
      refine ASL.done ?_
      refine AWP.ifP hF rfl (fun hc17 hF => ?_) (fun hc17 hF => ?_)
      · skip
        refine AWP.skip ?_
        refine QThen.nrm ?_
        refine AWP.seq ?_
        refine AWP.block ?_
        refine AWP.seqR rfl ?_
        refine ASL.q (v := (.list 3 (List.map TNode.av p0))) rfl rfl (Light.quiet (opMove rfl rfl)) ?_
        refine ASL.q (v := (.int .i64 x4_l0)) rfl rfl (Light.quiet (opMove rfl rfl)) ?_
        obtain ⟨a20, ha20, hF⟩ := bindE hF
        refine ASL.q (v := (.rptr [(.int .i64 a20.kind), (.int .i64 a20.a), (.int .i64 a20.b)])) rfl rfl (Light.quiet (kIx (f := TNode.av) ha20 rfl rfl rfl elemA_24 sizeA_59 rfl)) ?_
        refine ASL.q (v := (.rptr [(.int .i64 a20.kind), (.int .i64 a20.a), (.int .i64 a20.b)])) rfl rfl (Light.quiet (opFieldAddrR rfl fieldA_59_0 rfl rfl)) ?_
        refine ASL.q (v := (.int .i64 a20.kind)) rfl rfl (Light.quiet (opLoadR rfl aggA_3 rfl rfl)) ?_
        refine ASL.q (v := (.int .i64 (spec_l8Parts a20.kind))) rfl rfl ((qCall rfl rfl call_56 (spec_l8Parts_ok a20.kind) rfl)) ?_
        refine ASL.q (v := (.int .i64 (spec_l8Parts a20.kind))) rfl rfl (Light.quiet (opAssign rfl rfl)) ?_
        refine ASL.done ?_
        refine AWP.seq ?_
        refine AWP.seqR rfl ?_
        refine ASL.q (v := (.int .i64 (spec_l8Parts a20.kind))) rfl rfl (Light.quiet (opMove rfl rfl)) ?_
        refine ASL.q (v := (.bool (decide (((spec_l8Parts a20.kind)) < 0)))) rfl rfl (Light.quiet (opInt rfl rfl rfl rfl)) ?_
        obtain ⟨c26, hc26, hF⟩ := bndE hF
        refine ASL.q (v := (.bool c26)) rfl rfl ((Quiet.cast (Light.quiet (opMove rfl rfl)) (congrArg AV.bool hc26.symm))) ?_
        refine ASL.g (v := (.int .i64 (spec_l8Parts a20.kind))) (.bool c26) false rfl (wF _) rfl (fun hG => by have q0 := gN hG; subst q0; exact Light.quiet (opMove rfl rfl)) ?_
        refine ASL.g (v := (.bool (decide (((spec_l8Parts a20.kind)) = 0)))) (.bool c26) false rfl (wF _) rfl (fun hG => by have q0 := gN hG; subst q0; exact Light.quiet (opInt rfl rfl rfl rfl)) ?_
        obtain ⟨c29, hc29, hF⟩ := bndE hF
        refine ASL.g (v := (.bool c29)) (.bool c26) false rfl (wF _) rfl (fun hG => by have q0 := gN hG; subst q0; exact (Quiet.cast (Light.quiet (opMove rfl rfl)) (congrArg AV.bool hc29.symm))) ?_
        refine ASL.g (v := (.list 3 (List.map TNode.av p0))) (bif (!c26) then (.bool c29) else .tup []) true rfl (wGT _ _) rfl (fun hG => by have q0 := gN (gA1 hG); have q1 := gA2 hG; subst q0; subst q1; exact Light.quiet (opMove rfl rfl)) ?_
        refine ASL.g (v := (.int .i64 x4_l0)) (bif (!c26) then (.bool c29) else .tup []) true rfl (wGT _ _) rfl (fun hG => by have q0 := gN (gA1 hG); have q1 := gA2 hG; subst q0; subst q1; exact Light.quiet (opMove rfl rfl)) ?_
        obtain ⟨a32, ha32, hF⟩ := bindE hF
        refine ASL.g (v := (.rptr [(.int .i64 a32.kind), (.int .i64 a32.a), (.int .i64 a32.b)])) (bif (!c26) then (.bool c29) else .tup []) true rfl (wGT _ _) rfl (fun hG => by have q0 := gN (gA1 hG); have q1 := gA2 hG; subst q0; subst q1; exact Light.quiet (kIx (f := TNode.av) (whenE ha32) rfl rfl rfl elemA_24 sizeA_59 rfl)) ?_
        refine ASL.g (v := (TNode.av a32)) (bif (!c26) then (.bool c29) else .tup []) true rfl (wGT _ _) rfl (fun hG => by have q0 := gN (gA1 hG); have q1 := gA2 hG; subst q0; subst q1; exact Light.quiet (opLoadRA rfl aggA_59 sizeA_59 rfl (nlt rfl) rfl)) ?_
        refine ASL.g (v := (.bool (spec_l2Leaf a32))) (bif (!c26) then (.bool c29) else .tup []) true rfl (wGT _ _) rfl (fun hG => by have q0 := gN (gA1 hG); have q1 := gA2 hG; subst q0; subst q1; exact (qCall rfl rfl call_87 (spec_l2Leaf_ok a32) rfl)) ?_
        refine ASL.g (v := (.bool (!(spec_l2Leaf a32)))) (bif (!c26) then (.bool c29) else .tup []) true rfl (wGT _ _) rfl (fun hG => by have q0 := gN (gA1 hG); have q1 := gA2 hG; subst q0; subst q1; exact Light.quiet (opNot rfl rfl)) ?_
        refine ASL.g (v := (.bool (c29 && (!(spec_l2Leaf a32))))) (.bool c26) false rfl (wF _) rfl (fun hG => by have q0 := gN hG; subst q0; exact Light.quiet (opPick (b := c29) rfl rfl (by cases c29 <;> rfl))) ?_
        refine ASL.q (v := (.bool (c26 || (c29 && (!(spec_l2Leaf a32)))))) rfl rfl (Light.quiet (opPick (b := c26) rfl rfl (by cases c26 <;> rfl))) ?_
        refine ASL.done ?_
        refine AWP.ifB hF rfl (fun hc18 hF => ?_) (fun hc18 hF => ?_)
        · skip
          refine AWP.seqR rfl ?_
          refine ASL.q (v := (.bool false)) rfl rfl (Light.quiet (opAssign rfl rfl)) ?_
          refine ASL.done ?_
          refine AWP.ret ?_
          refine QThen.rt ?_
          refine QBlock.ret ?_
          refine QThen.rt ?_
          refine QThen.rt ?_
          refine QBlock.ret ?_
          refine QThen.rt ?_
          obtain rfl := (hx12 _ (someE hF).symm)
          have hF := hR15
          have hF := sumR hF
          obtain rfl := someE hF
          exact QRet.sole (v := (.bool false)) ⟨rfl, trivial⟩ rfl
        · skip
          refine AWP.skip ?_
          refine QThen.nrm ?_
          refine AWP.lastR rfl ?_
          refine ASL.q (v := w9) rfl rfl (Light.quiet (opMove rfl rfl)) ?_
          refine ASL.q (v := (.int .i64 (spec_l8Parts a20.kind))) rfl rfl (Light.quiet (opMove rfl rfl)) ?_
          refine ASL.q (v := (.list 1 (List.map (AV.int .i64) [(spec_l8Parts a20.kind)]))) rfl rfl ((qLit (xs := [(.int .i64 (spec_l8Parts a20.kind))]) rfl elemA_32 sizeA_3 zeroA_3 rfl rfl rfl rfl (by simp [cells]) (nlt rfl))) ?_
          obtain ⟨z41, hz41, hF⟩ := bindE hF
          refine ASL.x rfl rfl (hApp (f := (AV.int .i64)) (ws := [(spec_l8Parts a20.kind)]) hS (j := 0) rfl hz41 rfl elemA_32 rfl sizeA_3 bytesA_3 zeroA_3 rfl rfl rfl (fun _ => rfl) ?_); rintro v41 G19 hS
          refine ASL.q (v := v41) rfl rfl (Light.quiet (opAssign rfl rfl)) ?_
          refine ASL.done ?_
          refine QBlock.nrm ?_
          refine QThen.nrm ?_
          refine AWP.lastR rfl ?_
          refine ASL.q (v := (.int .i64 x4_l0)) rfl rfl (Light.quiet (opMove rfl rfl)) ?_
          refine ASL.q (v := (.int .i64 (W (x4_l0 + 1)))) rfl rfl (Light.quiet (opInt rfl rfl rfl rfl)) ?_
          refine ASL.q (v := (.int .i64 (W (x4_l0 + 1)))) rfl rfl (Light.quiet (opAssign rfl rfl)) ?_
          refine ASL.done ?_
          refine QThen.nrm ?_
          exact ⟨(z41, (W (x4_l0 + 1))), v41, (someE hF).symm, ⟨rfl, rfl, rfl, trivial⟩, (hS.pick [0] rfl rfl)⟩
      · skip
        refine AWP.exit ?_
        refine QThen.ext ?_
        refine QThen.ext ?_
        refine QBlock.hit ?_
        obtain rfl := (hx12 _ (someE hF).symm)
        have hF := hR15
        have hF := sumL hF
        refine QThen.nrm ?_
        exact ⟨y8, w9, ⟨rfl, rfl, trivial⟩, (hS.pick [0] rfl rfl), hF⟩

set_option maxRecDepth 10000 in
theorem spec_l8Moved_ok {p0 : (List TNode)} {p1 : Int} {r : (List TNode)} (hF : spec_l8Moved p0 p1 = some r) : PO Try.prog 57 [(.list 3 (List.map TNode.av p0)), (.int .i64 p1)] 3 (List.map TNode.av r) := by
  refine HC.enter Try.func57 rfl Try.ntmps57 (by simp) ?_
  have hS := Sep.void; unfold spec_l8Moved at hF
  refine AWP.seqR rfl ?_
  have hS := hNil (s := 3) (f := TNode.av) hS
  refine ASL.q (v := .nil) rfl rfl (Light.quiet (opAssign rfl rfl)) ?_
  refine ASL.done ?_
  refine AWP.seqR rfl ?_
  refine ASL.x rfl rfl (hLit (f := TNode.av) (zs := []) hS rfl rfl elemA_24 sizeA_59 zeroA_59 rfl rfl rfl rfl (by simp [cells, TNode.av]) (nlt rfl) ?_); rintro v8 G2 hK hS
  refine ASL.q (v := v8) rfl rfl (Light.quiet (opAssign rfl rfl)) ?_
  refine ASL.done ?_
  refine AWP.seqM (fun e H => ∃ y4 : (List TNode), ∃ w5 : AV, E.Told e [(5, w5)] ∧ E.Sep H [.row 3 w5 (List.map TNode.av y4)] ∧ spec_l8Moved.k0 y4 = some r) ?_ ?_
  · rintro e0 G7 ⟨y4, w5, hT, hS, hF⟩; refine AWP.only _ hT ?_; unfold spec_l8Moved.k0 at hF
    refine AWP.seqR rfl ?_
    refine ASL.q (v := w5) rfl rfl (Light.quiet (opMove rfl rfl)) ?_
    refine ASL.q (v := w5) rfl rfl (Light.quiet (opAssign rfl rfl)) ?_
    refine ASL.done ?_
    refine AWP.ret ?_
    obtain rfl := someE hF
    exact QRet.sole (v := w5) ⟨rfl, trivial⟩ (hS.get (k := 0) rfl)
  · skip
    refine AWP.seqR rfl ?_
    refine ASL.q (v := (.int .i64 0)) rfl rfl (Light.quiet (opAssign rfl rfl)) ?_
    refine ASL.done ?_
    refine AWP.block ?_
    obtain ⟨o14, hL13, hR15⟩ := bindE hF
    refine AWP.loopF (ω := AV) hL13 (fun s w => [(0, (.list 3 (List.map TNode.av p0))), (1, (.int .i64 p1)), (5, w), (6, (.int .i64 s.2))]) (fun s w => [.row 3 w (List.map TNode.av s.1)]) v8 ⟨rfl, rfl, rfl, rfl, trivial⟩ (hS.pick [0] rfl rfl) ?_
    rintro ⟨y8, x6_l0⟩ w9 G16 hS x11 hF hx12
    try dsimp only at hS ⊢
    have hF : spec_l8Moved.b0 p0 p1 y8 x6_l0 = some x11 := hF; unfold spec_l8Moved.b0 at hF
    refine AWP.seq ?_
    refine AWP.seqR rfl ?_
    refine ASL.q (v := (.int .i64 x6_l0)) rfl rfl (Light.quiet (opMove rfl rfl)) ?_
    refine ASL.q (v := (.list 3 (List.map TNode.av p0))) rfl rfl (Light.quiet (opMove rfl rfl)) ?_
    refine ASL.q (v := (.int .i64 (p0.length : Int))) rfl rfl (Light.quiet (opLenMap (f := TNode.av) rfl rfl rfl lenT_24 rfl)) ?_
    refine ASL.q (v := (.bool (decide (x6_l0 < ((p0.length : Int)))))) rfl rfl (Light.quiet (opInt rfl rfl rfl rfl)) ?_
    refine ASL.done ?_
    refine AWP.ifP hF rfl (fun hc17 hF => ?_) (fun hc17 hF => ?_)
    · skip
      refine AWP.skip ?_
      refine QThen.nrm ?_
      refine AWP.seq ?_
      refine AWP.block ?_
      refine AWP.seqR rfl ?_
      refine ASL.q (v := (.list 3 (List.map TNode.av p0))) rfl rfl (Light.quiet (opMove rfl rfl)) ?_
      refine ASL.q (v := (.int .i64 x6_l0)) rfl rfl (Light.quiet (opMove rfl rfl)) ?_
      obtain ⟨a17, ha17, hF⟩ := bindE hF
      refine ASL.q (v := (.rptr [(.int .i64 a17.kind), (.int .i64 a17.a), (.int .i64 a17.b)])) rfl rfl (Light.quiet (kIx (f := TNode.av) ha17 rfl rfl rfl elemA_24 sizeA_59 rfl)) ?_
      refine ASL.q (v := (TNode.av a17)) rfl rfl (Light.quiet (opLoadRA rfl aggA_59 sizeA_59 rfl (nlt rfl) rfl)) ?_
      refine ASL.x rfl rfl (hNewZ hS [(.int .i64 0), (.int .i64 0), (.int .i64 0)] rfl zeroA_59 ⟨.inl rfl, .inl rfl, .inl rfl, trivial⟩ ?_); rintro b7 G18 hK hS
      refine ASL.n rfl rfl (hPutA hS (j := 0) rfl rfl sizeA_59 rfl rfl rfl rfl rfl (nlt rfl) ?_); rintro G20 hS
      refine ASL.done ?_
      refine AWP.seqM (fun e H => ∃ y21 : Int, ∃ y22 : Int, ∃ y23 : Int, E.Told e [(0, (.list 3 (List.map TNode.av p0))), (1, (.int .i64 p1)), (5, w9), (6, (.int .i64 x6_l0)), (7, (.ptr b7 0))] ∧ E.Sep H [.row 3 w9 (List.map TNode.av y8), .cell b7 [(.int .i64 y21), (.int .i64 y22), (.int .i64 y23)]] ∧ spec_l8Moved.k1 y8 p1 x6_l0 y21 y22 y23 = some x11) ?_ ?_
      · rintro e0 G30 ⟨y21, y22, y23, hT, hS, hF⟩; refine AWP.only _ hT ?_; unfold spec_l8Moved.k1 at hF
        refine AWP.seq ?_
        refine AWP.seqR rfl ?_
        refine ASL.q (v := (.ptr b7 0)) rfl rfl (Light.quiet (opFieldAddr rfl fieldA_59_0 rfl rfl)) ?_
        refine ASL.q (v := (.int .i64 y21)) rfl rfl (Light.quiet (kAt hS (j := 1) rfl rfl aggA_3 rfl rfl)) ?_
        refine ASL.q (v := (.int .i64 (spec_l8Parts y21))) rfl rfl ((qCall rfl rfl call_56 (spec_l8Parts_ok y21) rfl)) ?_
        refine ASL.q (v := (.bool (decide (((spec_l8Parts y21)) = 2)))) rfl rfl (Light.quiet (opInt rfl rfl rfl rfl)) ?_
        refine ASL.done ?_
        refine AWP.ifP hF rfl (fun hc24 hF => ?_) (fun hc24 hF => ?_)
        · skip
          refine AWP.lastR rfl ?_
          refine ASL.q (v := (.ptr b7 2)) rfl rfl (Light.quiet (opFieldAddr rfl fieldA_59_2 rfl rfl)) ?_
          refine ASL.q (v := (.int .i64 y23)) rfl rfl (Light.quiet (kAt hS (j := 1) rfl rfl aggA_3 rfl rfl)) ?_
          refine ASL.q (v := (.int .i64 p1)) rfl rfl (Light.quiet (opMove rfl rfl)) ?_
          refine ASL.q (v := (.int .i64 (W (y23 + p1)))) rfl rfl (Light.quiet (opInt rfl rfl rfl rfl)) ?_
          refine ASL.q (v := (.ptr b7 2)) rfl rfl (Light.quiet (opFieldAddr rfl fieldA_59_2 rfl rfl)) ?_
          refine ASL.n rfl rfl (hPut hS (j := 1) rfl rfl sizeA_3 rfl rfl rfl (nlt rfl) ?_); rintro G25 hS
          refine ASL.done ?_
          refine QThen.nrm ?_
          refine AWP.lastR rfl ?_
          refine ASL.q (v := w9) rfl rfl (Light.quiet (opMove rfl rfl)) ?_
          refine ASL.q (v := (.agg [(.int .i64 y21), (.int .i64 y22), (.int .i64 (W (y23 + p1)))])) rfl rfl (Light.quiet (kAtA hS (j := 1) rfl rfl aggA_59 sizeA_59 rfl (nlt rfl) rfl)) ?_
          refine ASL.q (v := (.list 3 (List.map TNode.av [(TNode.mk y21 y22 ((W (y23 + p1))))]))) rfl rfl ((qLit (xs := [(.agg [(.int .i64 y21), (.int .i64 y22), (.int .i64 (W (y23 + p1)))])]) rfl elemA_24 sizeA_59 zeroA_59 rfl rfl rfl rfl (by simp [cells, TNode.av]) (nlt rfl))) ?_
          obtain ⟨z40, hz40, hF⟩ := bindE hF
          refine ASL.x rfl rfl (hApp (f := TNode.av) (ws := [(TNode.mk y21 y22 ((W (y23 + p1))))]) hS (j := 0) rfl hz40 rfl elemA_24 rfl sizeA_59 bytesA_59 zeroA_59 rfl rfl rfl (fun _ => rfl) ?_); rintro v40 G26 hS
          refine ASL.q (v := v40) rfl rfl (Light.quiet (opAssign rfl rfl)) ?_
          refine ASL.done ?_
          refine QBlock.nrm ?_
          refine QThen.nrm ?_
          refine AWP.lastR rfl ?_
          refine ASL.q (v := (.int .i64 x6_l0)) rfl rfl (Light.quiet (opMove rfl rfl)) ?_
          refine ASL.q (v := (.int .i64 (W (x6_l0 + 1)))) rfl rfl (Light.quiet (opInt rfl rfl rfl rfl)) ?_
          refine ASL.q (v := (.int .i64 (W (x6_l0 + 1)))) rfl rfl (Light.quiet (opAssign rfl rfl)) ?_
          refine ASL.done ?_
          refine QThen.nrm ?_
          exact ⟨(z40, (W (x6_l0 + 1))), v40, (someE hF).symm, ⟨rfl, rfl, rfl, rfl, trivial⟩, (hS.pick [0] rfl rfl)⟩
        · skip
          refine AWP.skip ?_
          refine QThen.nrm ?_
          refine AWP.lastR rfl ?_
          refine ASL.q (v := w9) rfl rfl (Light.quiet (opMove rfl rfl)) ?_
          refine ASL.q (v := (.agg [(.int .i64 y21), (.int .i64 y22), (.int .i64 y23)])) rfl rfl (Light.quiet (kAtA hS (j := 1) rfl rfl aggA_59 sizeA_59 rfl (nlt rfl) rfl)) ?_
          refine ASL.q (v := (.list 3 (List.map TNode.av [(TNode.mk y21 y22 y23)]))) rfl rfl ((qLit (xs := [(.agg [(.int .i64 y21), (.int .i64 y22), (.int .i64 y23)])]) rfl elemA_24 sizeA_59 zeroA_59 rfl rfl rfl rfl (by simp [cells, TNode.av]) (nlt rfl))) ?_
          obtain ⟨z40, hz40, hF⟩ := bindE hF
          refine ASL.x rfl rfl (hApp (f := TNode.av) (ws := [(TNode.mk y21 y22 y23)]) hS (j := 0) rfl hz40 rfl elemA_24 rfl sizeA_59 bytesA_59 zeroA_59 rfl rfl rfl (fun _ => rfl) ?_); rintro v40 G28 hS
          refine ASL.q (v := v40) rfl rfl (Light.quiet (opAssign rfl rfl)) ?_
          refine ASL.done ?_
          refine QBlock.nrm ?_
          refine QThen.nrm ?_
          refine AWP.lastR rfl ?_
          refine ASL.q (v := (.int .i64 x6_l0)) rfl rfl (Light.quiet (opMove rfl rfl)) ?_
          refine ASL.q (v := (.int .i64 (W (x6_l0 + 1)))) rfl rfl (Light.quiet (opInt rfl rfl rfl rfl)) ?_
          refine ASL.q (v := (.int .i64 (W (x6_l0 + 1)))) rfl rfl (Light.quiet (opAssign rfl rfl)) ?_
          refine ASL.done ?_
          refine QThen.nrm ?_
          exact ⟨(z40, (W (x6_l0 + 1))), v40, (someE hF).symm, ⟨rfl, rfl, rfl, rfl, trivial⟩, (hS.pick [0] rfl rfl)⟩
      · skip
        refine AWP.seqR rfl ?_
        refine ASL.q (v := (.ptr b7 0)) rfl rfl (Light.quiet (opFieldAddr rfl fieldA_59_0 rfl rfl)) ?_
        refine ASL.q (v := (.int .i64 a17.kind)) rfl rfl (Light.quiet (kAt hS (j := 0) rfl rfl aggA_3 rfl rfl)) ?_
        refine ASL.q (v := (.int .i64 (spec_l8Parts a17.kind))) rfl rfl ((qCall rfl rfl call_56 (spec_l8Parts_ok a17.kind) rfl)) ?_
        refine ASL.q (v := (.bool (decide (((spec_l8Parts a17.kind)) > 0)))) rfl rfl (Light.quiet (opInt rfl rfl rfl rfl)) ?_
        refine ASL.done ?_
        refine AWP.ifP hF rfl (fun hc31 hF => ?_) (fun hc31 hF => ?_)
        · skip
          refine AWP.lastR rfl ?_
          refine ASL.q (v := (.ptr b7 1)) rfl rfl (Light.quiet (opFieldAddr rfl fieldA_59_1 rfl rfl)) ?_
          refine ASL.q (v := (.int .i64 a17.a)) rfl rfl (Light.quiet (kAt hS (j := 0) rfl rfl aggA_3 rfl rfl)) ?_
          refine ASL.q (v := (.int .i64 p1)) rfl rfl (Light.quiet (opMove rfl rfl)) ?_
          refine ASL.q (v := (.int .i64 (W (a17.a + p1)))) rfl rfl (Light.quiet (opInt rfl rfl rfl rfl)) ?_
          refine ASL.q (v := (.ptr b7 1)) rfl rfl (Light.quiet (opFieldAddr rfl fieldA_59_1 rfl rfl)) ?_
          refine ASL.n rfl rfl (hPut hS (j := 0) rfl rfl sizeA_3 rfl rfl rfl (nlt rfl) ?_); rintro G32 hS
          refine ASL.done ?_
          refine QThen.nrm ?_
          exact ⟨a17.kind, (W (a17.a + p1)), a17.b, ⟨rfl, rfl, rfl, rfl, rfl, trivial⟩, (hS.pick [1, 0] rfl rfl), hF⟩
        · skip
          refine AWP.skip ?_
          refine QThen.nrm ?_
          exact ⟨a17.kind, a17.a, a17.b, ⟨rfl, rfl, rfl, rfl, rfl, trivial⟩, (hS.pick [1, 0] rfl rfl), hF⟩
    · skip
      refine AWP.exit ?_
      refine QThen.ext ?_
      refine QThen.ext ?_
      refine QBlock.hit ?_
      obtain rfl := (hx12 _ (someE hF).symm)
      have hF := hR15
      refine QThen.nrm ?_
      exact ⟨y8, w9, ⟨rfl, trivial⟩, (hS.pick [0] rfl rfl), hF⟩

set_option maxRecDepth 10000 in
theorem spec_LtlPair_ok {p0 : Int} {p1 : (List TNode)} {p2 : (List TNode)} {r : ((List TNode) × Bool)} (hF : spec_LtlPair p0 p1 p2 = some r) : HS Try.prog 13 [(.int .i64 p0), (.list 3 (List.map TNode.av p1)), (.list 3 (List.map TNode.av p2))] [] fun v L' => ∃ o0 : AV, v = .tup [o0, (.bool r.2)] ∧ L' = [.row 3 o0 (List.map TNode.av r.1)] := by
  intro H S hS
  refine HC.enter Try.func13 rfl Try.ntmps13 (by simp) ?_
  simp only [List.cons_append, List.nil_append] at hS
  unfold spec_LtlPair at hF
  refine AWP.seqR rfl ?_
  have hS := hNil (s := 3) (f := TNode.av) hS
  refine ASL.q (v := .nil) rfl rfl (Light.quiet (opAssign rfl rfl)) ?_
  refine ASL.q (v := (.bool false)) rfl rfl (Light.quiet (opAssign rfl rfl)) ?_
  refine ASL.done ?_
  refine AWP.seq ?_
  refine AWP.seqR rfl ?_
  refine ASL.q (v := (.int .i64 p0)) rfl rfl (Light.quiet (opMove rfl rfl)) ?_
  refine ASL.q (v := (.int .i64 (spec_l8Parts p0))) rfl rfl ((qCall rfl rfl call_56 (spec_l8Parts_ok p0) rfl)) ?_
  refine ASL.q (v := (.bool (decide (((spec_l8Parts p0)) ≠ 2)))) rfl rfl (Light.quiet (opInt rfl rfl rfl rfl)) ?_
  obtain ⟨c12, hc12, hF⟩ := bndE hF
  refine ASL.q (v := (.bool c12)) rfl rfl ((Quiet.cast (Light.quiet (opMove rfl rfl)) (congrArg AV.bool hc12.symm))) ?_
  refine ASL.g (v := (.list 3 (List.map TNode.av p1))) (.bool c12) false rfl (wF _) rfl (fun hG => by have q0 := gN hG; subst q0; exact Light.quiet (opMove rfl rfl)) ?_
  obtain ⟨a14, ha14, hF⟩ := bindE hF
  refine ASL.g (v := (.bool a14)) (.bool c12) false rfl (wF _) rfl (fun hG => by have q0 := gN hG; subst q0; exact (qCall rfl rfl call_43 (spec_LtlOk_ok (whenE ha14)) rfl)) ?_
  refine ASL.g (v := (.bool (!a14))) (.bool c12) false rfl (wF _) rfl (fun hG => by have q0 := gN hG; subst q0; exact Light.quiet (opNot rfl rfl)) ?_
  refine ASL.q (v := (.bool (c12 || (!a14)))) rfl rfl (Light.quiet (opPick (b := c12) rfl rfl (by cases c12 <;> rfl))) ?_
  obtain ⟨c17, hc17, hF⟩ := bndE hF
  refine ASL.q (v := (.bool c17)) rfl rfl ((Quiet.cast (Light.quiet (opMove rfl rfl)) (congrArg AV.bool hc17.symm))) ?_
  refine ASL.g (v := (.list 3 (List.map TNode.av p2))) (.bool c17) false rfl (wF _) rfl (fun hG => by have q0 := gN hG; subst q0; exact Light.quiet (opMove rfl rfl)) ?_
  obtain ⟨a19, ha19, hF⟩ := bindE hF
  refine ASL.g (v := (.bool a19)) (.bool c17) false rfl (wF _) rfl (fun hG => by have q0 := gN hG; subst q0; exact (qCall rfl rfl call_43 (spec_LtlOk_ok (whenE ha19)) rfl)) ?_
  refine ASL.g (v := (.bool (!a19))) (.bool c17) false rfl (wF _) rfl (fun hG => by have q0 := gN hG; subst q0; exact Light.quiet (opNot rfl rfl)) ?_
  refine ASL.q (v := (.bool (c17 || (!a19)))) rfl rfl (Light.quiet (opPick (b := c17) rfl rfl (by cases c17 <;> rfl))) ?_
  obtain ⟨c22, hc22, hF⟩ := bndE hF
  refine ASL.q (v := (.bool c22)) rfl rfl ((Quiet.cast (Light.quiet (opMove rfl rfl)) (congrArg AV.bool hc22.symm))) ?_
  refine ASL.g (v := (.list 3 (List.map TNode.av p1))) (.bool c22) false rfl (wF _) rfl (fun hG => by have q0 := gN hG; subst q0; exact Light.quiet (opMove rfl rfl)) ?_
  refine ASL.g (v := (.int .i64 (p1.length : Int))) (.bool c22) false rfl (wF _) rfl (fun hG => by have q0 := gN hG; subst q0; exact Light.quiet (opLenMap (f := TNode.av) rfl rfl rfl lenT_24 rfl)) ?_
  refine ASL.g (v := (.list 3 (List.map TNode.av p2))) (.bool c22) false rfl (wF _) rfl (fun hG => by have q0 := gN hG; subst q0; exact Light.quiet (opMove rfl rfl)) ?_
  refine ASL.g (v := (.int .i64 (p2.length : Int))) (.bool c22) false rfl (wF _) rfl (fun hG => by have q0 := gN hG; subst q0; exact Light.quiet (opLenMap (f := TNode.av) rfl rfl rfl lenT_24 rfl)) ?_
  refine ASL.g (v := (.int .i64 (W (((p1.length : Int)) + ((p2.length : Int)))))) (.bool c22) false rfl (wF _) rfl (fun hG => by have q0 := gN hG; subst q0; exact Light.quiet (opInt rfl rfl rfl rfl)) ?_
  refine ASL.g (v := (.bool (decide (((W (((p1.length : Int)) + ((p2.length : Int))))) ≥ 31)))) (.bool c22) false rfl (wF _) rfl (fun hG => by have q0 := gN hG; subst q0; exact Light.quiet (opInt rfl rfl rfl rfl)) ?_
  refine ASL.q (v := (.bool (c22 || (decide (((W (((p1.length : Int)) + ((p2.length : Int))))) ≥ 31))))) rfl rfl (Light.quiet (opPick (b := c22) rfl rfl (by cases c22 <;> rfl))) ?_
  refine ASL.done ?_
  refine AWP.ifB hF rfl (fun hc2 hF => ?_) (fun hc2 hF => ?_)
  · skip
    refine AWP.seqR rfl ?_
    refine ASL.x rfl rfl (hLit (f := TNode.av) (zs := []) hS rfl rfl elemA_24 sizeA_59 zeroA_59 rfl rfl rfl rfl (by simp [cells, TNode.av]) (nlt rfl) ?_); rintro v30 G3 hK hS
    refine ASL.q (v := v30) rfl rfl (Light.quiet (opAssign rfl rfl)) ?_
    refine ASL.q (v := (.bool false)) rfl rfl (Light.quiet (opAssign rfl rfl)) ?_
    refine ASL.done ?_
    refine AWP.ret ?_
    refine QThen.rt ?_
    obtain rfl := someE hF
    exact QRet.many (vs := [v30, (.bool false)]) ⟨rfl, rfl, trivial⟩ (by simp) ⟨_, ⟨v30, rfl, rfl⟩, hS.pick [0, 2] rfl rfl⟩
  · skip
    refine AWP.skip ?_
    refine QThen.nrm ?_
    refine AWP.seqR rfl ?_
    refine ASL.x rfl rfl (hLit (f := TNode.av) (zs := []) hS rfl rfl elemA_24 sizeA_59 zeroA_59 rfl rfl rfl rfl (by simp [cells, TNode.av]) (nlt rfl) ?_); rintro v31 G5 hK hS
    refine ASL.q (v := (.list 3 (List.map TNode.av p1))) rfl rfl (Light.quiet (opMove rfl rfl)) ?_
    obtain ⟨z33, hz33, hF⟩ := bindE hF
    refine ASL.x rfl rfl (hApp (f := TNode.av) (ws := p1) hS (j := 0) rfl hz33 rfl elemA_24 rfl sizeA_59 bytesA_59 zeroA_59 rfl rfl rfl (fun _ => rfl) ?_); rintro v33 G7 hS
    refine ASL.q (v := (.list 3 (List.map TNode.av p2))) rfl rfl (Light.quiet (opMove rfl rfl)) ?_
    refine ASL.q (v := (.list 3 (List.map TNode.av p1))) rfl rfl (Light.quiet (opMove rfl rfl)) ?_
    refine ASL.q (v := (.int .i64 (p1.length : Int))) rfl rfl (Light.quiet (opLenMap (f := TNode.av) rfl rfl rfl lenT_24 rfl)) ?_
    obtain ⟨a37, ha37, hF⟩ := bindE hF
    refine ASL.q (v := (.list 3 (List.map TNode.av a37))) rfl rfl ((qCall rfl rfl call_57 (PO.list (spec_l8Moved_ok ha37)) rfl)) ?_
    obtain ⟨z38, hz38, hF⟩ := bindE hF
    refine ASL.x rfl rfl (hApp (f := TNode.av) (ws := a37) hS (j := 0) rfl hz38 rfl elemA_24 rfl sizeA_59 bytesA_59 zeroA_59 rfl rfl rfl (fun _ => rfl) ?_); rintro v38 G9 hS
    refine ASL.q (v := v38) rfl rfl (Light.quiet (opAssign rfl rfl)) ?_
    refine ASL.done ?_
    refine AWP.seqR rfl ?_
    refine ASL.q (v := v38) rfl rfl (Light.quiet (opMove rfl rfl)) ?_
    refine ASL.q (v := (.int .i64 p0)) rfl rfl (Light.quiet (opMove rfl rfl)) ?_
    refine ASL.q (v := (.list 3 (List.map TNode.av p1))) rfl rfl (Light.quiet (opMove rfl rfl)) ?_
    refine ASL.q (v := (.int .i64 (p1.length : Int))) rfl rfl (Light.quiet (opLenMap (f := TNode.av) rfl rfl rfl lenT_24 rfl)) ?_
    refine ASL.q (v := (.int .i64 (W (((p1.length : Int)) - 1)))) rfl rfl (Light.quiet (opInt rfl rfl rfl rfl)) ?_
    obtain ⟨a44, ha44, hF⟩ := bindE hF
    refine ASL.x rfl rfl (hCallS hS [0, 1, 2] (F := [.row 3 .nil (List.map TNode.av ([])), .snap S]) rfl rfl rfl call_58 (spec_l8Two_ok ha44) rfl rfl ?_); rintro w11 _ G13 ⟨_, rfl, rfl⟩ hS
    refine ASL.q (v := w11) rfl rfl (Light.quiet (opAssign rfl rfl)) ?_
    refine ASL.q (v := (.bool true)) rfl rfl (Light.quiet (opAssign rfl rfl)) ?_
    refine ASL.done ?_
    refine AWP.ret ?_
    obtain rfl := someE hF
    exact QRet.many (vs := [w11, (.bool true)]) ⟨rfl, rfl, trivial⟩ (by simp) ⟨_, ⟨w11, rfl, rfl⟩, hS.pick [0, 2] rfl rfl⟩

set_option maxRecDepth 10000 in
theorem impl_reader_one_ok {p0 : Treader} {p1 : Int} {r : Treader} {bp0 : Nat} {wp0_list : AV} (hF : impl_reader_one p0 p1 = some r) : HS Try.prog 59 [(.ptr bp0 0), (.int .i64 p1)] [.cell bp0 [(.str p0.s), (.int .i64 p0.at_), (.int .i64 p0.code), wp0_list, .undef], .row 3 wp0_list (List.map TNode.av p0.list)] fun v L' => ∃ up0_list : AV, v = .tup [] ∧ L' = [.cell bp0 [(.str r.s), (.int .i64 r.at_), (.int .i64 r.code), up0_list, .undef], .row 3 up0_list (List.map TNode.av r.list)] := by
  intro H S hS
  refine HC.enter Try.func59 rfl Try.ntmps59 (by simp) ?_
  simp only [List.cons_append, List.nil_append] at hS
  unfold impl_reader_one at hF
  refine AWP.lastD [(0, false), (1, false), (2, false), (3, false), (4, false), (5, false), (6, false), (7, false), (8, false), (9, false), (10, false), (11, false), (12, false), (13, false), (14, true), (15, false), (16, false), (17, true)] mixed (by kernel_rfl) rfl ?_
  refine ARL.q0 (v := (.ptr bp0 0)) rfl rfl (Light.quiet (opMove rfl rfl)) ?_
  refine ARL.q0 (v := (.ptr bp0 0)) rfl rfl (Light.quiet (opMove rfl rfl)) ?_
  refine ARL.q0 (v := (.ptr bp0 0)) rfl rfl (Light.quiet (opNil rfl rfl rfl)) ?_
  refine ARL.q0 (v := (.ptr bp0 3)) rfl rfl (Light.quiet (opFieldAddr rfl fieldA_75_3 rfl rfl)) ?_
  refine ARL.q (v := wp0_list) rfl rfl (hS.aliveC (k := 0) rfl) (Light.quiet (kAt hS (j := 0) rfl rfl aggA_24 rfl rfl)) ?_
  refine ARL.q0 (v := (.int .i64 p1)) rfl rfl (Light.quiet (opMove rfl rfl)) ?_
  refine ARL.q0 (v := (.ptr bp0 0)) rfl rfl (Light.quiet (opMove rfl rfl)) ?_
  refine ARL.q0 (v := (.ptr bp0 0)) rfl rfl (Light.quiet (opNil rfl rfl rfl)) ?_
  refine ARL.q0 (v := (.ptr bp0 3)) rfl rfl (Light.quiet (opFieldAddr rfl fieldA_75_3 rfl rfl)) ?_
  refine ARL.q (v := wp0_list) rfl rfl (hS.aliveC (k := 0) rfl) (Light.quiet (kAt hS (j := 0) rfl rfl aggA_24 rfl rfl)) ?_
  refine ARL.q0 (v := (.int .i64 (p0.list.length : Int))) rfl rfl (Light.quiet (kLen hS (j := 1) rfl rfl rfl rfl lenT_24 rfl)) ?_
  refine ARL.q0 (v := (.int .i64 (W (((p0.list.length : Int)) - 1)))) rfl rfl (Light.quiet (opInt rfl rfl rfl rfl)) ?_
  refine ARL.q0 (v := (.agg [(.int .i64 p1), (.int .i64 (W (((p0.list.length : Int)) - 1))), (.int .i64 0)])) rfl rfl (Light.quiet (opBuildZ (zs := [(.int .i64 0), (.int .i64 0), (.int .i64 0)]) rfl plan_59 zeroA_59 ⟨.inl rfl, .inl rfl, .inl rfl, trivial⟩ rfl)) ?_
  refine ARL.q0 (v := (.list 3 (List.map TNode.av [(TNode.mk p1 ((W (((p0.list.length : Int)) - 1))) 0)]))) rfl rfl ((qLit (xs := [(.agg [(.int .i64 p1), (.int .i64 (W (((p0.list.length : Int)) - 1))), (.int .i64 0)])]) rfl elemA_24 sizeA_59 zeroA_59 rfl rfl rfl rfl (by simp [cells, TNode.av]) (nlt rfl))) ?_
  obtain ⟨z18, hz18, hF⟩ := bindE hF
  refine ARL.y rfl rfl rfl rfl (hApp (f := TNode.av) (ws := [(TNode.mk p1 ((W (((p0.list.length : Int)) - 1))) 0)]) hS (j := 1) rfl hz18 rfl elemA_24 rfl sizeA_59 bytesA_59 zeroA_59 rfl rfl rfl (fun _ => rfl) ?_); rintro v18 G3 hS
  refine ARL.q0 (v := (.ptr bp0 0)) rfl rfl (Light.quiet (opNil rfl rfl rfl)) ?_
  refine ARL.q0 (v := (.ptr bp0 3)) rfl rfl (Light.quiet (opFieldAddr rfl fieldA_75_3 rfl rfl)) ?_
  refine ARL.n rfl rfl rfl rfl (hPut hS (j := 0) rfl rfl sizeA_24 rfl rfl (hS.one (k := 1) rfl) (nlt rfl) ?_); rintro G5 hS
  refine ARL.done ?_
  refine QRet.end ?_
  obtain rfl := someE hF
  exact QRet.many (vs := []) trivial (by simp) ⟨_, ⟨v18, rfl, rfl⟩, hS.pick [0, 1, 2] rfl rfl⟩

end Go.Proofs.Ytjjlkncefgfljaa
