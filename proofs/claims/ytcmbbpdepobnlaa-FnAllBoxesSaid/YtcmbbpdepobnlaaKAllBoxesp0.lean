/- Each of these functions of the program comes to just what its plain function says: FnAllBoxes. -/
import Derived.Test.YtcmbbpdepobnlaaDAllBoxes
import Derived.Test.YtcmbbpdepobnlaaFa
namespace Go.Proofs.Ytcmbbpdepobnlaa
open Go Go.RowKit E
set_option linter.unusedVariables false
set_option maxRecDepth 10000 in
theorem laws_big_ok (p0 : (List Int)) : PC Try.prog 8 [(.list 1 (List.map (AV.int .u8) p0))] fun v => v = (.bool (laws_big p0)) := by
  generalize hF : laws_big p0 = r
  refine PC.enter Try.func8 rfl Try.ntmps8 (by simp) ?_
  have hS := Sep.void; unfold laws_big at hF
  refine AWP.seqR rfl ?_
  refine ASL.q (v := (.bool false)) rfl rfl (Light.quiet (opAssign rfl rfl)) ?_
  refine ASL.done ?_
  refine AWP.seqR rfl ?_
  refine ASL.q (v := (.list 1 (List.map (AV.int .u8) p0))) rfl rfl (Light.quiet (opMove rfl rfl)) ?_
  refine ASL.q (v := (.int .i64 (p0.length : Int))) rfl rfl (Light.quiet (opLenMap (f := (AV.int .u8)) rfl rfl rfl lenT_22 rfl)) ?_
  refine ASL.q (v := (.bool (decide (((p0.length : Int)) > 1048576)))) rfl rfl (Light.quiet (opInt rfl rfl rfl rfl)) ?_
  refine ASL.q (v := (.bool (decide (((p0.length : Int)) > 1048576)))) rfl rfl (Light.quiet (opAssign rfl rfl)) ?_
  refine ASL.done ?_
  refine AWP.ret ?_
  obtain rfl := hF
  exact QRet.sole (v := (.bool (decide (((p0.length : Int)) > 1048576)))) ⟨rfl, trivial⟩ rfl

set_option maxRecDepth 10000 in
theorem spec_l1New_ok {p0 : (List Int)} {r : Tl1Cur} (hF : spec_l1New p0 = some r) : HS Try.prog 40 [(.list 1 (List.map (AV.int .u8) p0))] [] fun v L' => ∃ o0 : Nat, v = (.ptr o0 0) ∧ L' = [.cell o0 [(.list 1 (List.map (AV.int .u8) r.b)), (.int .i64 r.i), (.int .i64 r.h)]] := by
  intro H S hS
  refine HC.enter Try.func40 rfl Try.ntmps40 (by simp) ?_
  simp only [List.cons_append, List.nil_append] at hS
  unfold spec_l1New at hF
  refine AWP.seqR rfl ?_
  refine ASL.q (v := .nilptr) rfl rfl (Light.quiet (opAssign rfl rfl)) ?_
  refine ASL.done ?_
  refine AWP.seqR rfl ?_
  refine ASL.q (v := (.list 1 (List.map (AV.int .u8) p0))) rfl rfl (Light.quiet (opMove rfl rfl)) ?_
  refine ASL.q (v := (.int .i64 (p0.length : Int))) rfl rfl (Light.quiet (opLenMap (f := (AV.int .u8)) rfl rfl rfl lenT_22 rfl)) ?_
  refine ASL.q (v := (.int .i64 (W (10277 + ((p0.length : Int)))))) rfl rfl (Light.quiet (opInt rfl rfl rfl rfl)) ?_
  refine ASL.q (v := (.int .i64 (W (10277 + ((p0.length : Int)))))) rfl rfl (Light.quiet (opAssign rfl rfl)) ?_
  refine ASL.done ?_
  refine AWP.seqM (fun e H => ∃ x3_1 : Int, E.Told e [(0, (.list 1 (List.map (AV.int .u8) p0))), (3, (.int .i64 x3_1))] ∧ E.Sep H [.snap S] ∧ spec_l1New.k0 p0 x3_1 = some r) ?_ ?_
  · rintro e0 G3 ⟨x3_1, hT, hS, hF⟩; refine AWP.only _ hT ?_; unfold spec_l1New.k0 at hF
    refine AWP.seqR rfl ?_
    refine ASL.q (v := (.list 1 (List.map (AV.int .u8) p0))) rfl rfl (Light.quiet (opMove rfl rfl)) ?_
    refine ASL.q (v := (.int .i64 x3_1)) rfl rfl (Light.quiet (opMove rfl rfl)) ?_
    refine ASL.q (v := (.agg [(.list 1 (List.map (AV.int .u8) p0)), (.int .i64 0), (.int .i64 x3_1)])) rfl rfl (Light.quiet (opBuildZ (zs := [(.list 1 (List.map (AV.int .u8) [])), (.int .i64 0), (.int .i64 0)]) rfl plan_108 zeroA_108 ⟨.inr ⟨_, rfl, rfl⟩, .inl rfl, .inl rfl, trivial⟩ rfl)) ?_
    refine ASL.x rfl rfl (hBox hS rfl rfl rfl ?_); rintro b31 G1 hK hS
    refine ASL.q (v := (.ptr b31 0)) rfl rfl (Light.quiet (opAssign rfl rfl)) ?_
    refine ASL.done ?_
    refine AWP.ret ?_
    obtain rfl := someE hF
    exact QRet.sole (v := (.ptr b31 0)) ⟨rfl, trivial⟩ ⟨_, ⟨b31, rfl, rfl⟩, hS.pick [0, 1] rfl rfl⟩
  · skip
    refine AWP.seqR rfl ?_
    refine ASL.q (v := (.int .i64 0)) rfl rfl (Light.quiet (opAssign rfl rfl)) ?_
    refine ASL.done ?_
    refine AWP.block ?_
    obtain ⟨o7, hL6, hR8⟩ := bindE hF
    refine AWP.loopF (ω := Unit) hL6 (fun s w => [(0, (.list 1 (List.map (AV.int .u8) p0))), (3, (.int .i64 s.1)), (4, (.int .i64 s.2))]) (fun s w => [.snap S]) () ⟨rfl, rfl, rfl, trivial⟩ (hS.pick [0] rfl rfl) ?_
    rintro ⟨x3_l0, x4_l0⟩ _ G9 hS x4 hF hx5
    try dsimp only at hS ⊢
    have hF : spec_l1New.b0 p0 x3_l0 x4_l0 = some x4 := hF; unfold spec_l1New.b0 at hF
    refine AWP.seq ?_
    refine AWP.seqR rfl ?_
    refine ASL.q (v := (.int .i64 x4_l0)) rfl rfl (Light.quiet (opMove rfl rfl)) ?_
    refine ASL.q (v := (.list 1 (List.map (AV.int .u8) p0))) rfl rfl (Light.quiet (opMove rfl rfl)) ?_
    refine ASL.q (v := (.int .i64 (p0.length : Int))) rfl rfl (Light.quiet (opLenMap (f := (AV.int .u8)) rfl rfl rfl lenT_22 rfl)) ?_
    refine ASL.q (v := (.bool (decide (x4_l0 < ((p0.length : Int)))))) rfl rfl (Light.quiet (opInt rfl rfl rfl rfl)) ?_
    obtain ⟨c12, hc12, hF⟩ := bndE hF
    refine ASL.q (v := (.bool c12)) rfl rfl ((Quiet.cast (Light.quiet (opMove rfl rfl)) (congrArg AV.bool hc12.symm))) ?_
    refine ASL.g (v := (.int .i64 x4_l0)) (.bool c12) true rfl (wT _) rfl (fun hG => by have q0 := hG; subst q0; exact Light.quiet (opMove rfl rfl)) ?_
    refine ASL.g (v := (.bool (decide (x4_l0 < 4000)))) (.bool c12) true rfl (wT _) rfl (fun hG => by have q0 := hG; subst q0; exact Light.quiet (opInt rfl rfl rfl rfl)) ?_
    refine ASL.q (v := (.bool (c12 && (decide (x4_l0 < 4000))))) rfl rfl (Light.quiet (opPick (b := c12) rfl rfl (by cases c12 <;> rfl))) ?_
    refine ASL.done ?_
    refine AWP.ifB hF rfl (fun hc10 hF => ?_) (fun hc10 hF => ?_)
    · skip
      refine AWP.skip ?_
      refine QThen.nrm ?_
      refine AWP.seq ?_
      refine AWP.block ?_
      refine AWP.lastR rfl ?_
      refine ASL.q (v := (.int .i64 x3_l0)) rfl rfl (Light.quiet (opMove rfl rfl)) ?_
      refine ASL.q (v := (.int .i64 (W (x3_l0 * 131)))) rfl rfl (Light.quiet (opInt rfl rfl rfl rfl)) ?_
      refine ASL.q (v := (.list 1 (List.map (AV.int .u8) p0))) rfl rfl (Light.quiet (opMove rfl rfl)) ?_
      refine ASL.q (v := (.int .i64 x4_l0)) rfl rfl (Light.quiet (opMove rfl rfl)) ?_
      obtain ⟨a22, ha22, hF⟩ := bindE hF
      refine ASL.q (v := (.rptr [(.int .u8 a22)])) rfl rfl (Light.quiet (kIx (f := (AV.int .u8)) ha22 rfl rfl rfl elemA_22 sizeA_5 rfl)) ?_
      refine ASL.q (v := (.int .u8 a22)) rfl rfl (Light.quiet (opLoadR rfl aggA_5 rfl rfl)) ?_
      refine ASL.q (v := (.int .i64 (IntKind.i64.wrap a22))) rfl rfl (Light.quiet (opConv rfl rfl und_5 und_3 rfl)) ?_
      refine ASL.q (v := (.int .i64 (W (((W (x3_l0 * 131))) + ((IntKind.i64.wrap a22)))))) rfl rfl (Light.quiet (opInt rfl rfl rfl rfl)) ?_
      refine ASL.q (v := (.int .i64 (W (((W (((W (x3_l0 * 131))) + ((IntKind.i64.wrap a22))))) + 7)))) rfl rfl (Light.quiet (opInt rfl rfl rfl rfl)) ?_
      refine ASL.q (v := (.int .i64 (bAnd .i64 ((W (((W (((W (x3_l0 * 131))) + ((IntKind.i64.wrap a22))))) + 7))) 1073741823))) rfl rfl (Light.quiet (opInt rfl rfl rfl rfl)) ?_
      refine ASL.q (v := (.int .i64 (bAnd .i64 ((W (((W (((W (x3_l0 * 131))) + ((IntKind.i64.wrap a22))))) + 7))) 1073741823))) rfl rfl (Light.quiet (opAssign rfl rfl)) ?_
      refine ASL.done ?_
      refine QBlock.nrm ?_
      refine QThen.nrm ?_
      refine AWP.lastR rfl ?_
      refine ASL.q (v := (.int .i64 x4_l0)) rfl rfl (Light.quiet (opMove rfl rfl)) ?_
      refine ASL.q (v := (.int .i64 (W (x4_l0 + 1)))) rfl rfl (Light.quiet (opInt rfl rfl rfl rfl)) ?_
      refine ASL.q (v := (.int .i64 (W (x4_l0 + 1)))) rfl rfl (Light.quiet (opAssign rfl rfl)) ?_
      refine ASL.done ?_
      refine QThen.nrm ?_
      exact ⟨((bAnd .i64 ((W (((W (((W (x3_l0 * 131))) + ((IntKind.i64.wrap a22))))) + 7))) 1073741823), (W (x4_l0 + 1))), (), (someE hF).symm, ⟨rfl, rfl, rfl, trivial⟩, (hS.pick [0] rfl rfl)⟩
    · skip
      refine AWP.exit ?_
      refine QThen.ext ?_
      refine QThen.ext ?_
      refine QBlock.hit ?_
      obtain rfl := (hx5 _ (someE hF).symm)
      have hF := hR8
      refine QThen.nrm ?_
      exact ⟨x3_l0, ⟨rfl, rfl, trivial⟩, (hS.pick [0] rfl rfl), hF⟩

set_option maxRecDepth 10000 in
theorem spec_l1Byte_ok {p0 : Tl1Cur} {r : (Int × Tl1Cur)} {bp0 : Nat} (hF : spec_l1Byte p0 = some r) : HS Try.prog 93 [(.ptr bp0 0)] [.cell bp0 [(.list 1 (List.map (AV.int .u8) p0.b)), (.int .i64 p0.i), (.int .i64 p0.h)]] fun v L' => v = (.int .i64 r.1) ∧ L' = [.cell bp0 [(.list 1 (List.map (AV.int .u8) r.2.b)), (.int .i64 r.2.i), (.int .i64 r.2.h)]] := by
  intro H S hS
  refine HC.enter Try.func93 rfl Try.ntmps93 (by simp) ?_
  simp only [List.cons_append, List.nil_append] at hS
  unfold spec_l1Byte at hF
  refine AWP.seqR rfl ?_
  refine ASL.q (v := (.int .i64 0)) rfl rfl (Light.quiet (opAssign rfl rfl)) ?_
  refine ASL.done ?_
  refine AWP.seqR rfl ?_
  refine ASL.q (v := (.ptr bp0 0)) rfl rfl (Light.quiet (opMove rfl rfl)) ?_
  refine ASL.q (v := (.ptr bp0 0)) rfl rfl (Light.quiet (opMove rfl rfl)) ?_
  refine ASL.q (v := (.ptr bp0 0)) rfl rfl (Light.quiet (opNil rfl rfl rfl)) ?_
  refine ASL.q (v := (.ptr bp0 2)) rfl rfl (Light.quiet (opFieldAddr rfl fieldA_108_2 rfl rfl)) ?_
  refine ASL.q (v := (.int .i64 p0.h)) rfl rfl (Light.quiet (kAt hS (j := 0) rfl rfl aggA_3 rfl rfl)) ?_
  refine ASL.q (v := (.int .i64 (W (p0.h * 6364136223846793005)))) rfl rfl (Light.quiet (opInt rfl rfl rfl rfl)) ?_
  refine ASL.q (v := (.int .i64 (W (((W (p0.h * 6364136223846793005))) + 1442695040888963407)))) rfl rfl (Light.quiet (opInt rfl rfl rfl rfl)) ?_
  refine ASL.q (v := (.ptr bp0 0)) rfl rfl (Light.quiet (opNil rfl rfl rfl)) ?_
  refine ASL.q (v := (.ptr bp0 2)) rfl rfl (Light.quiet (opFieldAddr rfl fieldA_108_2 rfl rfl)) ?_
  refine ASL.n rfl rfl (hPut hS (j := 0) rfl rfl sizeA_3 rfl rfl rfl (nlt rfl) ?_); rintro G2 hS
  refine ASL.done ?_
  refine AWP.seqD [(0, false), (1, false), (2, false), (3, false), (4, false), (5, false), (6, false), (7, false), (8, false), (9, false), (10, false), (11, false), (12, false)] mixed (by kernel_rfl) rfl ?_
  refine ARL.q0 (v := (.ptr bp0 0)) rfl rfl (Light.quiet (opMove rfl rfl)) ?_
  refine ARL.q0 (v := (.ptr bp0 0)) rfl rfl (Light.quiet (opNil rfl rfl rfl)) ?_
  refine ARL.q0 (v := (.ptr bp0 2)) rfl rfl (Light.quiet (opFieldAddr rfl fieldA_108_2 rfl rfl)) ?_
  refine ARL.q (v := (.int .i64 (W (((W (p0.h * 6364136223846793005))) + 1442695040888963407)))) rfl rfl (hS.aliveC (k := 0) rfl) (Light.quiet (kAt hS (j := 0) rfl rfl aggA_3 rfl rfl)) ?_
  refine ARL.q0 (v := (.int .i64 (shr .i64 ((W (((W (p0.h * 6364136223846793005))) + 1442695040888963407))) 33))) rfl rfl (Light.quiet (opShr rfl rfl rfl (by decide) rfl)) ?_
  refine ARL.q0 (v := (.ptr bp0 0)) rfl rfl (Light.quiet (opMove rfl rfl)) ?_
  refine ARL.q0 (v := (.ptr bp0 0)) rfl rfl (Light.quiet (opNil rfl rfl rfl)) ?_
  refine ARL.q0 (v := (.ptr bp0 2)) rfl rfl (Light.quiet (opFieldAddr rfl fieldA_108_2 rfl rfl)) ?_
  refine ARL.q (v := (.int .i64 (W (((W (p0.h * 6364136223846793005))) + 1442695040888963407)))) rfl rfl (hS.aliveC (k := 0) rfl) (Light.quiet (kAt hS (j := 0) rfl rfl aggA_3 rfl rfl)) ?_
  refine ARL.q0 (v := (.int .i64 (shr .i64 ((W (((W (p0.h * 6364136223846793005))) + 1442695040888963407))) 45))) rfl rfl (Light.quiet (opShr rfl rfl rfl (by decide) rfl)) ?_
  refine ARL.q0 (v := (.int .i64 (bXor .i64 ((shr .i64 ((W (((W (p0.h * 6364136223846793005))) + 1442695040888963407))) 33)) ((shr .i64 ((W (((W (p0.h * 6364136223846793005))) + 1442695040888963407))) 45))))) rfl rfl (Light.quiet (opInt rfl rfl rfl rfl)) ?_
  refine ARL.q0 (v := (.int .i64 (bAnd .i64 ((bXor .i64 ((shr .i64 ((W (((W (p0.h * 6364136223846793005))) + 1442695040888963407))) 33)) ((shr .i64 ((W (((W (p0.h * 6364136223846793005))) + 1442695040888963407))) 45)))) 255))) rfl rfl (Light.quiet (opInt rfl rfl rfl rfl)) ?_
  refine ARL.q0 (v := (.int .i64 (bAnd .i64 ((bXor .i64 ((shr .i64 ((W (((W (p0.h * 6364136223846793005))) + 1442695040888963407))) 33)) ((shr .i64 ((W (((W (p0.h * 6364136223846793005))) + 1442695040888963407))) 45)))) 255))) rfl rfl (Light.quiet (opAssign rfl rfl)) ?_
  refine ARL.done ?_
  refine AWP.seq ?_
  refine AWP.seqD [(0, false), (1, false), (2, false), (3, false), (4, false), (5, false), (6, false), (7, false), (8, false), (9, false)] mixed (by kernel_rfl) rfl ?_
  refine ARL.q0 (v := (.ptr bp0 0)) rfl rfl (Light.quiet (opMove rfl rfl)) ?_
  refine ARL.q0 (v := (.ptr bp0 0)) rfl rfl (Light.quiet (opNil rfl rfl rfl)) ?_
  refine ARL.q0 (v := (.ptr bp0 1)) rfl rfl (Light.quiet (opFieldAddr rfl fieldA_108_1 rfl rfl)) ?_
  refine ARL.q (v := (.int .i64 p0.i)) rfl rfl (hS.aliveC (k := 0) rfl) (Light.quiet (kAt hS (j := 0) rfl rfl aggA_3 rfl rfl)) ?_
  refine ARL.q0 (v := (.ptr bp0 0)) rfl rfl (Light.quiet (opMove rfl rfl)) ?_
  refine ARL.q0 (v := (.ptr bp0 0)) rfl rfl (Light.quiet (opNil rfl rfl rfl)) ?_
  refine ARL.q0 (v := (.ptr bp0 0)) rfl rfl (Light.quiet (opFieldAddr rfl fieldA_108_0 rfl rfl)) ?_
  refine ARL.q (v := (.list 1 (List.map (AV.int .u8) p0.b))) rfl rfl (hS.aliveC (k := 0) rfl) (Light.quiet (kAt hS (j := 0) rfl rfl aggA_22 rfl rfl)) ?_
  refine ARL.q0 (v := (.int .i64 (p0.b.length : Int))) rfl rfl (Light.quiet (opLenMap (f := (AV.int .u8)) rfl rfl rfl lenT_22 rfl)) ?_
  refine ARL.q0 (v := (.bool (decide (p0.i < ((p0.b.length : Int)))))) rfl rfl (Light.quiet (opInt rfl rfl rfl rfl)) ?_
  refine ARL.done ?_
  refine AWP.ifP hF rfl (fun hc3 hF => ?_) (fun hc3 hF => ?_)
  · skip
    refine AWP.seqD [(0, false), (1, false), (2, false), (3, false), (4, false), (5, false), (6, false), (7, false), (8, false), (9, false), (10, false), (11, false), (12, false), (13, false), (14, false)] mixed (by kernel_rfl) rfl ?_
    refine ARL.q0 (v := (.int .i64 (bAnd .i64 ((bXor .i64 ((shr .i64 ((W (((W (p0.h * 6364136223846793005))) + 1442695040888963407))) 33)) ((shr .i64 ((W (((W (p0.h * 6364136223846793005))) + 1442695040888963407))) 45)))) 255))) rfl rfl (Light.quiet (opMove rfl rfl)) ?_
    refine ARL.q0 (v := (.ptr bp0 0)) rfl rfl (Light.quiet (opMove rfl rfl)) ?_
    refine ARL.q0 (v := (.ptr bp0 0)) rfl rfl (Light.quiet (opNil rfl rfl rfl)) ?_
    refine ARL.q0 (v := (.ptr bp0 0)) rfl rfl (Light.quiet (opFieldAddr rfl fieldA_108_0 rfl rfl)) ?_
    refine ARL.q (v := (.list 1 (List.map (AV.int .u8) p0.b))) rfl rfl (hS.aliveC (k := 0) rfl) (Light.quiet (kAt hS (j := 0) rfl rfl aggA_22 rfl rfl)) ?_
    refine ARL.q0 (v := (.ptr bp0 0)) rfl rfl (Light.quiet (opMove rfl rfl)) ?_
    refine ARL.q0 (v := (.ptr bp0 0)) rfl rfl (Light.quiet (opNil rfl rfl rfl)) ?_
    refine ARL.q0 (v := (.ptr bp0 1)) rfl rfl (Light.quiet (opFieldAddr rfl fieldA_108_1 rfl rfl)) ?_
    refine ARL.q (v := (.int .i64 p0.i)) rfl rfl (hS.aliveC (k := 0) rfl) (Light.quiet (kAt hS (j := 0) rfl rfl aggA_3 rfl rfl)) ?_
    obtain ⟨a44, ha44, hF⟩ := bindE hF
    refine ARL.q0 (v := (.rptr [(.int .u8 a44)])) rfl rfl (Light.quiet (kIx (f := (AV.int .u8)) ha44 rfl rfl rfl elemA_22 sizeA_5 rfl)) ?_
    refine ARL.q0 (v := (.int .u8 a44)) rfl rfl (Light.quiet (opLoadR rfl aggA_5 rfl rfl)) ?_
    refine ARL.q0 (v := (.int .i64 (IntKind.i64.wrap a44))) rfl rfl (Light.quiet (opConv rfl rfl und_5 und_3 rfl)) ?_
    refine ARL.q0 (v := (.int .i64 (W (((bAnd .i64 ((bXor .i64 ((shr .i64 ((W (((W (p0.h * 6364136223846793005))) + 1442695040888963407))) 33)) ((shr .i64 ((W (((W (p0.h * 6364136223846793005))) + 1442695040888963407))) 45)))) 255)) + ((IntKind.i64.wrap a44)))))) rfl rfl (Light.quiet (opInt rfl rfl rfl rfl)) ?_
    refine ARL.q0 (v := (.int .i64 (bAnd .i64 ((W (((bAnd .i64 ((bXor .i64 ((shr .i64 ((W (((W (p0.h * 6364136223846793005))) + 1442695040888963407))) 33)) ((shr .i64 ((W (((W (p0.h * 6364136223846793005))) + 1442695040888963407))) 45)))) 255)) + ((IntKind.i64.wrap a44))))) 255))) rfl rfl (Light.quiet (opInt rfl rfl rfl rfl)) ?_
    refine ARL.q0 (v := (.int .i64 (bAnd .i64 ((W (((bAnd .i64 ((bXor .i64 ((shr .i64 ((W (((W (p0.h * 6364136223846793005))) + 1442695040888963407))) 33)) ((shr .i64 ((W (((W (p0.h * 6364136223846793005))) + 1442695040888963407))) 45)))) 255)) + ((IntKind.i64.wrap a44))))) 255))) rfl rfl (Light.quiet (opAssign rfl rfl)) ?_
    refine ARL.done ?_
    refine AWP.lastR rfl ?_
    refine ASL.q (v := (.ptr bp0 0)) rfl rfl (Light.quiet (opMove rfl rfl)) ?_
    refine ASL.q (v := (.ptr bp0 0)) rfl rfl (Light.quiet (opMove rfl rfl)) ?_
    refine ASL.q (v := (.ptr bp0 0)) rfl rfl (Light.quiet (opNil rfl rfl rfl)) ?_
    refine ASL.q (v := (.ptr bp0 1)) rfl rfl (Light.quiet (opFieldAddr rfl fieldA_108_1 rfl rfl)) ?_
    refine ASL.q (v := (.int .i64 p0.i)) rfl rfl (Light.quiet (kAt hS (j := 0) rfl rfl aggA_3 rfl rfl)) ?_
    refine ASL.q (v := (.int .i64 (W (p0.i + 1)))) rfl rfl (Light.quiet (opInt rfl rfl rfl rfl)) ?_
    refine ASL.q (v := (.ptr bp0 0)) rfl rfl (Light.quiet (opNil rfl rfl rfl)) ?_
    refine ASL.q (v := (.ptr bp0 1)) rfl rfl (Light.quiet (opFieldAddr rfl fieldA_108_1 rfl rfl)) ?_
    refine ASL.n rfl rfl (hPut hS (j := 0) rfl rfl sizeA_3 rfl rfl rfl (nlt rfl) ?_); rintro G4 hS
    refine ASL.done ?_
    refine QThen.nrm ?_
    refine AWP.seqR rfl ?_
    refine ASL.q (v := (.int .i64 (bAnd .i64 ((W (((bAnd .i64 ((bXor .i64 ((shr .i64 ((W (((W (p0.h * 6364136223846793005))) + 1442695040888963407))) 33)) ((shr .i64 ((W (((W (p0.h * 6364136223846793005))) + 1442695040888963407))) 45)))) 255)) + ((IntKind.i64.wrap a44))))) 255))) rfl rfl (Light.quiet (opMove rfl rfl)) ?_
    refine ASL.q (v := (.int .i64 (bAnd .i64 ((W (((bAnd .i64 ((bXor .i64 ((shr .i64 ((W (((W (p0.h * 6364136223846793005))) + 1442695040888963407))) 33)) ((shr .i64 ((W (((W (p0.h * 6364136223846793005))) + 1442695040888963407))) 45)))) 255)) + ((IntKind.i64.wrap a44))))) 255))) rfl rfl (Light.quiet (opAssign rfl rfl)) ?_
    refine ASL.done ?_
    refine AWP.ret ?_
    obtain rfl := someE hF
    exact QRet.sole (v := (.int .i64 (bAnd .i64 ((W (((bAnd .i64 ((bXor .i64 ((shr .i64 ((W (((W (p0.h * 6364136223846793005))) + 1442695040888963407))) 33)) ((shr .i64 ((W (((W (p0.h * 6364136223846793005))) + 1442695040888963407))) 45)))) 255)) + ((IntKind.i64.wrap a44))))) 255))) ⟨rfl, trivial⟩ ⟨_, ⟨rfl, rfl⟩, hS.pick [0, 1] rfl rfl⟩
  · skip
    refine AWP.skip ?_
    refine QThen.nrm ?_
    refine AWP.seqR rfl ?_
    refine ASL.q (v := (.int .i64 (bAnd .i64 ((bXor .i64 ((shr .i64 ((W (((W (p0.h * 6364136223846793005))) + 1442695040888963407))) 33)) ((shr .i64 ((W (((W (p0.h * 6364136223846793005))) + 1442695040888963407))) 45)))) 255))) rfl rfl (Light.quiet (opMove rfl rfl)) ?_
    refine ASL.q (v := (.int .i64 (bAnd .i64 ((bXor .i64 ((shr .i64 ((W (((W (p0.h * 6364136223846793005))) + 1442695040888963407))) 33)) ((shr .i64 ((W (((W (p0.h * 6364136223846793005))) + 1442695040888963407))) 45)))) 255))) rfl rfl (Light.quiet (opAssign rfl rfl)) ?_
    refine ASL.done ?_
    refine AWP.ret ?_
    obtain rfl := someE hF
    exact QRet.sole (v := (.int .i64 (bAnd .i64 ((bXor .i64 ((shr .i64 ((W (((W (p0.h * 6364136223846793005))) + 1442695040888963407))) 33)) ((shr .i64 ((W (((W (p0.h * 6364136223846793005))) + 1442695040888963407))) 45)))) 255))) ⟨rfl, trivial⟩ ⟨_, ⟨rfl, rfl⟩, hS.pick [0, 1] rfl rfl⟩

set_option maxRecDepth 10000 in
theorem spec_l1Below_ok {p0 : Tl1Cur} {p1 : Int} {r : (Int × Tl1Cur)} {bp0 : Nat} (hF : spec_l1Below p0 p1 = some r) : HS Try.prog 55 [(.ptr bp0 0), (.int .i64 p1)] [.cell bp0 [(.list 1 (List.map (AV.int .u8) p0.b)), (.int .i64 p0.i), (.int .i64 p0.h)]] fun v L' => v = (.int .i64 r.1) ∧ L' = [.cell bp0 [(.list 1 (List.map (AV.int .u8) r.2.b)), (.int .i64 r.2.i), (.int .i64 r.2.h)]] := by
  intro H S hS
  refine HC.enter Try.func55 rfl Try.ntmps55 (by simp) ?_
  simp only [List.cons_append, List.nil_append] at hS
  unfold spec_l1Below at hF
  refine AWP.seqR rfl ?_
  refine ASL.q (v := (.int .i64 0)) rfl rfl (Light.quiet (opAssign rfl rfl)) ?_
  refine ASL.done ?_
  refine AWP.seq ?_
  refine AWP.seqR rfl ?_
  refine ASL.q (v := (.int .i64 p1)) rfl rfl (Light.quiet (opMove rfl rfl)) ?_
  refine ASL.q (v := (.bool (decide (p1 ≤ 0)))) rfl rfl (Light.quiet (opInt rfl rfl rfl rfl)) ?_
  refine ASL.done ?_
  refine AWP.ifP hF rfl (fun hc2 hF => ?_) (fun hc2 hF => ?_)
  · skip
    refine AWP.seqR rfl ?_
    refine ASL.q (v := (.int .i64 0)) rfl rfl (Light.quiet (opAssign rfl rfl)) ?_
    refine ASL.done ?_
    refine AWP.ret ?_
    refine QThen.rt ?_
    obtain rfl := someE hF
    exact QRet.sole (v := (.int .i64 0)) ⟨rfl, trivial⟩ ⟨_, ⟨rfl, rfl⟩, hS.pick [0, 1] rfl rfl⟩
  · skip
    refine AWP.skip ?_
    refine QThen.nrm ?_
    refine AWP.seq ?_
    refine AWP.seqR rfl ?_
    refine ASL.q (v := (.int .i64 p1)) rfl rfl (Light.quiet (opMove rfl rfl)) ?_
    refine ASL.q (v := (.bool (decide (p1 ≤ 256)))) rfl rfl (Light.quiet (opInt rfl rfl rfl rfl)) ?_
    refine ASL.done ?_
    refine AWP.ifP hF rfl (fun hc3 hF => ?_) (fun hc3 hF => ?_)
    · skip
      refine AWP.seqR rfl ?_
      refine ASL.q (v := (.ptr bp0 0)) rfl rfl (Light.quiet (opMove rfl rfl)) ?_
      obtain ⟨a14, ha14, hF⟩ := bindE hF
      refine ASL.x rfl rfl (hCallS hS [0, 1] (F := [.snap S]) rfl rfl rfl call_93 (spec_l1Byte_ok ha14) rfl rfl ?_); rintro _ _ G4 ⟨rfl, rfl⟩ hS
      refine ASL.q (v := (.int .i64 p1)) rfl rfl (Light.quiet (opMove rfl rfl)) ?_
      obtain ⟨u5, hu5, hF⟩ := bindE hF
      refine ASL.q (v := (.int .i64 (Int.tmod a14.1 p1))) rfl rfl (Light.quiet (opRem rfl rfl rfl (of_decide_eq_true (chkE hu5)) rfl)) ?_
      refine ASL.q (v := (.int .i64 (Int.tmod a14.1 p1))) rfl rfl (Light.quiet (opAssign rfl rfl)) ?_
      refine ASL.done ?_
      refine AWP.ret ?_
      refine QThen.rt ?_
      obtain rfl := someE hF
      exact QRet.sole (v := (.int .i64 (Int.tmod a14.1 p1))) ⟨rfl, trivial⟩ ⟨_, ⟨rfl, rfl⟩, hS.pick [0, 1] rfl rfl⟩
    · skip
      refine AWP.skip ?_
      refine QThen.nrm ?_
      refine AWP.seqR rfl ?_
      refine ASL.q (v := (.ptr bp0 0)) rfl rfl (Light.quiet (opMove rfl rfl)) ?_
      obtain ⟨a18, ha18, hF⟩ := bindE hF
      refine ASL.x rfl rfl (hCallS hS [0, 1] (F := [.snap S]) rfl rfl rfl call_93 (spec_l1Byte_ok ha18) rfl rfl ?_); rintro _ _ G6 ⟨rfl, rfl⟩ hS
      refine ASL.q (v := (.int .i64 a18.1)) rfl rfl (Light.quiet (opAssign rfl rfl)) ?_
      refine ASL.done ?_
      refine AWP.seqR rfl ?_
      refine ASL.q (v := (.ptr bp0 0)) rfl rfl (Light.quiet (opMove rfl rfl)) ?_
      obtain ⟨a20, ha20, hF⟩ := bindE hF
      refine ASL.x rfl rfl (hCallS hS [0, 1] (F := [.snap S]) rfl rfl rfl call_93 (spec_l1Byte_ok ha20) rfl rfl ?_); rintro _ _ G7 ⟨rfl, rfl⟩ hS
      refine ASL.q (v := (.int .i64 a20.1)) rfl rfl (Light.quiet (opAssign rfl rfl)) ?_
      refine ASL.done ?_
      refine AWP.seqR rfl ?_
      refine ASL.q (v := (.ptr bp0 0)) rfl rfl (Light.quiet (opMove rfl rfl)) ?_
      obtain ⟨a22, ha22, hF⟩ := bindE hF
      refine ASL.x rfl rfl (hCallS hS [0, 1] (F := [.snap S]) rfl rfl rfl call_93 (spec_l1Byte_ok ha22) rfl rfl ?_); rintro _ _ G8 ⟨rfl, rfl⟩ hS
      refine ASL.q (v := (.int .i64 a22.1)) rfl rfl (Light.quiet (opAssign rfl rfl)) ?_
      refine ASL.done ?_
      refine AWP.seqR rfl ?_
      refine ASL.q (v := (.ptr bp0 0)) rfl rfl (Light.quiet (opMove rfl rfl)) ?_
      obtain ⟨a24, ha24, hF⟩ := bindE hF
      refine ASL.x rfl rfl (hCallS hS [0, 1] (F := [.snap S]) rfl rfl rfl call_93 (spec_l1Byte_ok ha24) rfl rfl ?_); rintro _ _ G9 ⟨rfl, rfl⟩ hS
      refine ASL.q (v := (.int .i64 a24.1)) rfl rfl (Light.quiet (opAssign rfl rfl)) ?_
      refine ASL.done ?_
      refine AWP.seqR rfl ?_
      refine ASL.q (v := (.int .i64 a18.1)) rfl rfl (Light.quiet (opMove rfl rfl)) ?_
      refine ASL.q (v := (.int .i64 (W (a18.1 * 16777216)))) rfl rfl (Light.quiet (opInt rfl rfl rfl rfl)) ?_
      refine ASL.q (v := (.int .i64 a20.1)) rfl rfl (Light.quiet (opMove rfl rfl)) ?_
      refine ASL.q (v := (.int .i64 (W (a20.1 * 65536)))) rfl rfl (Light.quiet (opInt rfl rfl rfl rfl)) ?_
      refine ASL.q (v := (.int .i64 (W (((W (a18.1 * 16777216))) + ((W (a20.1 * 65536))))))) rfl rfl (Light.quiet (opInt rfl rfl rfl rfl)) ?_
      refine ASL.q (v := (.int .i64 a22.1)) rfl rfl (Light.quiet (opMove rfl rfl)) ?_
      refine ASL.q (v := (.int .i64 (W (a22.1 * 256)))) rfl rfl (Light.quiet (opInt rfl rfl rfl rfl)) ?_
      refine ASL.q (v := (.int .i64 (W (((W (((W (a18.1 * 16777216))) + ((W (a20.1 * 65536)))))) + ((W (a22.1 * 256))))))) rfl rfl (Light.quiet (opInt rfl rfl rfl rfl)) ?_
      refine ASL.q (v := (.int .i64 a24.1)) rfl rfl (Light.quiet (opMove rfl rfl)) ?_
      refine ASL.q (v := (.int .i64 (W (((W (((W (((W (a18.1 * 16777216))) + ((W (a20.1 * 65536)))))) + ((W (a22.1 * 256)))))) + a24.1)))) rfl rfl (Light.quiet (opInt rfl rfl rfl rfl)) ?_
      refine ASL.q (v := (.int .i64 p1)) rfl rfl (Light.quiet (opMove rfl rfl)) ?_
      obtain ⟨u10, hu10, hF⟩ := bindE hF
      refine ASL.q (v := (.int .i64 (Int.tmod ((W (((W (((W (((W (a18.1 * 16777216))) + ((W (a20.1 * 65536)))))) + ((W (a22.1 * 256)))))) + a24.1))) p1))) rfl rfl (Light.quiet (opRem rfl rfl rfl (of_decide_eq_true (chkE hu10)) rfl)) ?_
      refine ASL.q (v := (.int .i64 (Int.tmod ((W (((W (((W (((W (a18.1 * 16777216))) + ((W (a20.1 * 65536)))))) + ((W (a22.1 * 256)))))) + a24.1))) p1))) rfl rfl (Light.quiet (opAssign rfl rfl)) ?_
      refine ASL.done ?_
      refine AWP.ret ?_
      obtain rfl := someE hF
      exact QRet.sole (v := (.int .i64 (Int.tmod ((W (((W (((W (((W (a18.1 * 16777216))) + ((W (a20.1 * 65536)))))) + ((W (a22.1 * 256)))))) + a24.1))) p1))) ⟨rfl, trivial⟩ ⟨_, ⟨rfl, rfl⟩, hS.pick [0, 1] rfl rfl⟩

set_option maxRecDepth 10000 in
theorem spec_l1Once_ok {p0 : Tl1Cur} {p1 : Int} {r : (Bool × Tl1Cur)} {bp0 : Nat} (hF : spec_l1Once p0 p1 = some r) : HS Try.prog 61 [(.ptr bp0 0), (.int .i64 p1)] [.cell bp0 [(.list 1 (List.map (AV.int .u8) p0.b)), (.int .i64 p0.i), (.int .i64 p0.h)]] fun v L' => v = (.bool r.1) ∧ L' = [.cell bp0 [(.list 1 (List.map (AV.int .u8) r.2.b)), (.int .i64 r.2.i), (.int .i64 r.2.h)]] := by
  intro H S hS
  refine HC.enter Try.func61 rfl Try.ntmps61 (by simp) ?_
  simp only [List.cons_append, List.nil_append] at hS
  unfold spec_l1Once at hF
  refine AWP.seqR rfl ?_
  refine ASL.q (v := (.bool false)) rfl rfl (Light.quiet (opAssign rfl rfl)) ?_
  refine ASL.done ?_
  refine AWP.seqR rfl ?_
  refine ASL.q (v := (.ptr bp0 0)) rfl rfl (Light.quiet (opMove rfl rfl)) ?_
  refine ASL.q (v := (.int .i64 p1)) rfl rfl (Light.quiet (opMove rfl rfl)) ?_
  obtain ⟨a7, ha7, hF⟩ := bindE hF
  refine ASL.x rfl rfl (hCallS hS [0, 1] (F := [.snap S]) rfl rfl rfl call_55 (spec_l1Below_ok ha7) rfl rfl ?_); rintro _ _ G2 ⟨rfl, rfl⟩ hS
  refine ASL.q (v := (.bool (decide (a7.1 = 0)))) rfl rfl (Light.quiet (opInt rfl rfl rfl rfl)) ?_
  refine ASL.q (v := (.bool (decide (a7.1 = 0)))) rfl rfl (Light.quiet (opAssign rfl rfl)) ?_
  refine ASL.done ?_
  refine AWP.ret ?_
  obtain rfl := someE hF
  exact QRet.sole (v := (.bool (decide (a7.1 = 0)))) ⟨rfl, trivial⟩ ⟨_, ⟨rfl, rfl⟩, hS.pick [0, 1] rfl rfl⟩

set_option maxRecDepth 10000 in
theorem spec_l4DrawEdges_ok {p0 : Tl1Cur} {p1 : Int} {p2 : Int} {p3 : Int} {r : ((List TEdge) × Tl1Cur)} {bp0 : Nat} (hF : spec_l4DrawEdges p0 p1 p2 p3 = some r) : HS Try.prog 96 [(.ptr bp0 0), (.int .i64 p1), (.int .i64 p2), (.int .i64 p3)] [.cell bp0 [(.list 1 (List.map (AV.int .u8) p0.b)), (.int .i64 p0.i), (.int .i64 p0.h)]] fun v L' => ∃ o0 : AV, v = o0 ∧ L' = [.row 4 o0 (List.map TEdge.av r.1), .cell bp0 [(.list 1 (List.map (AV.int .u8) r.2.b)), (.int .i64 r.2.i), (.int .i64 r.2.h)]] := by
  intro H S hS
  refine HC.enter Try.func96 rfl Try.ntmps96 (by simp) ?_
  simp only [List.cons_append, List.nil_append] at hS
  unfold spec_l4DrawEdges at hF
  refine AWP.seqR rfl ?_
  have hS := hNil (s := 4) (f := TEdge.av) hS
  refine ASL.q (v := .nil) rfl rfl (Light.quiet (opAssign rfl rfl)) ?_
  refine ASL.done ?_
  refine AWP.seqR rfl ?_
  refine ASL.x rfl rfl (hLit (f := TEdge.av) (zs := []) hS rfl rfl elemA_24 sizeA_73 zeroA_73 rfl rfl rfl rfl (by simp [cells, TEdge.av]) (nlt rfl) ?_); rintro v11 G3 hK hS
  refine ASL.q (v := v11) rfl rfl (Light.quiet (opAssign rfl rfl)) ?_
  refine ASL.done ?_
  refine AWP.seqM (fun e H => ∃ y5 : (List TEdge), ∃ y8 : (List Int), ∃ y9 : Int, ∃ y10 : Int, ∃ w6 : AV, E.Told e [(9, w6)] ∧ E.Sep H [.row 4 w6 (List.map TEdge.av y5), .cell bp0 [(.list 1 (List.map (AV.int .u8) y8)), (.int .i64 y9), (.int .i64 y10)], .snap S] ∧ spec_l4DrawEdges.k0 y5 y8 y9 y10 = some r) ?_ ?_
  · rintro e0 G11 ⟨y5, y8, y9, y10, w6, hT, hS, hF⟩; refine AWP.only _ hT ?_; unfold spec_l4DrawEdges.k0 at hF
    refine AWP.seqR rfl ?_
    refine ASL.q (v := w6) rfl rfl (Light.quiet (opMove rfl rfl)) ?_
    refine ASL.q (v := w6) rfl rfl (Light.quiet (opAssign rfl rfl)) ?_
    refine ASL.done ?_
    refine AWP.ret ?_
    obtain rfl := someE hF
    exact QRet.sole (v := w6) ⟨rfl, trivial⟩ ⟨_, ⟨w6, rfl, rfl⟩, hS.pick [0, 1, 2] rfl rfl⟩
  · skip
    refine AWP.seqR rfl ?_
    refine ASL.q (v := (.int .i64 0)) rfl rfl (Light.quiet (opAssign rfl rfl)) ?_
    refine ASL.done ?_
    refine AWP.block ?_
    obtain ⟨o21, hL20, hR22⟩ := bindE hF
    refine AWP.loopF (ω := AV) hL20 (fun s w => [(0, (.ptr bp0 0)), (1, (.int .i64 p1)), (2, (.int .i64 p2)), (3, (.int .i64 p3)), (9, w), (10, (.int .i64 s.2.2.2.2))]) (fun s w => [.cell bp0 [(.list 1 (List.map (AV.int .u8) s.1)), (.int .i64 s.2.1), (.int .i64 s.2.2.1)], .row 4 w (List.map TEdge.av s.2.2.2.1), .snap S]) v11 ⟨rfl, rfl, rfl, rfl, rfl, rfl, trivial⟩ (hS.pick [2, 0, 3] rfl rfl) ?_
    rintro ⟨y12, y13, y14, y15, x10_l0⟩ w16 G23 hS x18 hF hx19
    try dsimp only at hS ⊢
    have hF : spec_l4DrawEdges.b0 p3 p2 p1 y12 y13 y14 y15 x10_l0 = some x18 := hF; unfold spec_l4DrawEdges.b0 at hF
    refine AWP.seq ?_
    refine AWP.seqR rfl ?_
    refine ASL.q (v := (.int .i64 x10_l0)) rfl rfl (Light.quiet (opMove rfl rfl)) ?_
    refine ASL.q (v := (.int .i64 p3)) rfl rfl (Light.quiet (opMove rfl rfl)) ?_
    refine ASL.q (v := (.bool (decide (x10_l0 < p3)))) rfl rfl (Light.quiet (opInt rfl rfl rfl rfl)) ?_
    refine ASL.done ?_
    refine AWP.ifP hF rfl (fun hc24 hF => ?_) (fun hc24 hF => ?_)
    · skip
      refine AWP.skip ?_
      refine QThen.nrm ?_
      refine AWP.seq ?_
      refine AWP.block ?_
      refine AWP.lastR rfl ?_
      refine ASL.q (v := w16) rfl rfl (Light.quiet (opMove rfl rfl)) ?_
      refine ASL.q (v := (.ptr bp0 0)) rfl rfl (Light.quiet (opMove rfl rfl)) ?_
      refine ASL.q (v := (.int .i64 p2)) rfl rfl (Light.quiet (opMove rfl rfl)) ?_
      obtain ⟨a20, ha20, hF⟩ := bindE hF
      refine ASL.x rfl rfl (hCallS hS [0, 1, 2] (F := [.row 4 w16 (List.map TEdge.av y15), .snap S]) rfl rfl rfl call_55 (spec_l1Below_ok ha20) rfl rfl ?_); rintro _ _ G25 ⟨rfl, rfl⟩ hS
      refine ASL.q (v := (.ptr bp0 0)) rfl rfl (Light.quiet (opMove rfl rfl)) ?_
      refine ASL.q (v := (.int .i64 p1)) rfl rfl (Light.quiet (opMove rfl rfl)) ?_
      obtain ⟨a23, ha23, hF⟩ := bindE hF
      refine ASL.x rfl rfl (hCallS hS [0, 1, 2] (F := [.row 4 w16 (List.map TEdge.av y15), .snap S]) rfl rfl rfl call_55 (spec_l1Below_ok ha23) rfl rfl ?_); rintro _ _ G26 ⟨rfl, rfl⟩ hS
      refine ASL.q (v := (.ptr bp0 0)) rfl rfl (Light.quiet (opMove rfl rfl)) ?_
      refine ASL.q (v := (.int .i64 p2)) rfl rfl (Light.quiet (opMove rfl rfl)) ?_
      obtain ⟨a26, ha26, hF⟩ := bindE hF
      refine ASL.x rfl rfl (hCallS hS [0, 1, 2] (F := [.row 4 w16 (List.map TEdge.av y15), .snap S]) rfl rfl rfl call_55 (spec_l1Below_ok ha26) rfl rfl ?_); rintro _ _ G27 ⟨rfl, rfl⟩ hS
      refine ASL.q (v := (.ptr bp0 0)) rfl rfl (Light.quiet (opMove rfl rfl)) ?_
      obtain ⟨a28, ha28, hF⟩ := bindE hF
      refine ASL.x rfl rfl (hCallS hS [0, 1, 2] (F := [.row 4 w16 (List.map TEdge.av y15), .snap S]) rfl rfl rfl call_61 (spec_l1Once_ok ha28) rfl rfl ?_); rintro _ _ G28 ⟨rfl, rfl⟩ hS
      refine ASL.q (v := (.agg [(.int .i64 a20.1), (.int .i64 a23.1), (.int .i64 a26.1), (.bool a28.1)])) rfl rfl (Light.quiet (opBuildZ (zs := [(.int .i64 0), (.int .i64 0), (.int .i64 0), (.bool false)]) rfl plan_73 zeroA_73 ⟨.inl rfl, .inl rfl, .inl rfl, .inl rfl, trivial⟩ rfl)) ?_
      refine ASL.q (v := (.list 4 (List.map TEdge.av [(TEdge.mk a20.1 a23.1 a26.1 a28.1)]))) rfl rfl ((qLit (xs := [(.agg [(.int .i64 a20.1), (.int .i64 a23.1), (.int .i64 a26.1), (.bool a28.1)])]) rfl elemA_24 sizeA_73 zeroA_73 rfl rfl rfl rfl (by simp [cells, TEdge.av]) (nlt rfl))) ?_
      obtain ⟨z31, hz31, hF⟩ := bindE hF
      refine ASL.x rfl rfl (hApp (f := TEdge.av) (ws := [(TEdge.mk a20.1 a23.1 a26.1 a28.1)]) hS (j := 1) rfl hz31 rfl elemA_24 rfl sizeA_73 bytesA_73 zeroA_73 rfl rfl rfl (fun _ => rfl) ?_); rintro v31 G29 hS
      refine ASL.q (v := v31) rfl rfl (Light.quiet (opAssign rfl rfl)) ?_
      refine ASL.done ?_
      refine QBlock.nrm ?_
      refine QThen.nrm ?_
      refine AWP.lastR rfl ?_
      refine ASL.q (v := (.int .i64 x10_l0)) rfl rfl (Light.quiet (opMove rfl rfl)) ?_
      refine ASL.q (v := (.int .i64 (W (x10_l0 + 1)))) rfl rfl (Light.quiet (opInt rfl rfl rfl rfl)) ?_
      refine ASL.q (v := (.int .i64 (W (x10_l0 + 1)))) rfl rfl (Light.quiet (opAssign rfl rfl)) ?_
      refine ASL.done ?_
      refine QThen.nrm ?_
      exact ⟨(a28.2.b, a28.2.i, a28.2.h, z31, (W (x10_l0 + 1))), v31, (someE hF).symm, ⟨rfl, rfl, rfl, rfl, rfl, rfl, trivial⟩, (hS.pick [0, 1, 2] rfl rfl)⟩
    · skip
      refine AWP.exit ?_
      refine QThen.ext ?_
      refine QThen.ext ?_
      refine QBlock.hit ?_
      obtain rfl := (hx19 _ (someE hF).symm)
      have hF := hR22
      refine QThen.nrm ?_
      exact ⟨y15, y12, y13, y14, w16, ⟨rfl, trivial⟩, (hS.pick [1, 0, 2] rfl rfl), hF⟩

set_option maxRecDepth 10000 in
theorem spec_l1In_ok (p0 : Int) (p1 : Int) (p2 : Int) : PC Try.prog 41 [(.int .i64 p0), (.int .i64 p1), (.int .i64 p2)] fun v => v = (.bool (spec_l1In p0 p1 p2)) := by
  generalize hF : spec_l1In p0 p1 p2 = r
  refine PC.enter Try.func41 rfl Try.ntmps41 (by simp) ?_
  have hS := Sep.void; unfold spec_l1In at hF
  refine AWP.seqR rfl ?_
  refine ASL.q (v := (.bool false)) rfl rfl (Light.quiet (opAssign rfl rfl)) ?_
  refine ASL.done ?_
  refine AWP.seqR rfl ?_
  refine ASL.q (v := (.int .i64 p0)) rfl rfl (Light.quiet (opMove rfl rfl)) ?_
  refine ASL.q (v := (.int .i64 p1)) rfl rfl (Light.quiet (opMove rfl rfl)) ?_
  refine ASL.q (v := (.bool (decide (p0 ≥ p1)))) rfl rfl (Light.quiet (opInt rfl rfl rfl rfl)) ?_
  obtain ⟨c10, hc10, hF⟩ := bndE hF
  refine ASL.q (v := (.bool c10)) rfl rfl ((Quiet.cast (Light.quiet (opMove rfl rfl)) (congrArg AV.bool hc10.symm))) ?_
  refine ASL.g (v := (.int .i64 p0)) (.bool c10) true rfl (wT _) rfl (fun hG => by have q0 := hG; subst q0; exact Light.quiet (opMove rfl rfl)) ?_
  refine ASL.g (v := (.int .i64 p2)) (.bool c10) true rfl (wT _) rfl (fun hG => by have q0 := hG; subst q0; exact Light.quiet (opMove rfl rfl)) ?_
  refine ASL.g (v := (.bool (decide (p0 ≤ p2)))) (.bool c10) true rfl (wT _) rfl (fun hG => by have q0 := hG; subst q0; exact Light.quiet (opInt rfl rfl rfl rfl)) ?_
  refine ASL.q (v := (.bool (c10 && (decide (p0 ≤ p2))))) rfl rfl (Light.quiet (opPick (b := c10) rfl rfl (by cases c10 <;> rfl))) ?_
  refine ASL.q (v := (.bool (c10 && (decide (p0 ≤ p2))))) rfl rfl (Light.quiet (opAssign rfl rfl)) ?_
  refine ASL.done ?_
  refine AWP.ret ?_
  obtain rfl := hF
  exact QRet.sole (v := (.bool (c10 && (decide (p0 ≤ p2))))) ⟨rfl, trivial⟩ rfl

set_option maxRecDepth 10000 in
theorem spec_SetOk_ok (p0 : Int) : PC Try.prog 83 [(.int .i64 p0)] fun v => v = (.bool (spec_SetOk p0)) := by
  generalize hF : spec_SetOk p0 = r
  refine PC.enter Try.func83 rfl Try.ntmps83 (by simp) ?_
  have hS := Sep.void; unfold spec_SetOk at hF
  refine AWP.seqR rfl ?_
  refine ASL.q (v := (.bool false)) rfl rfl (Light.quiet (opAssign rfl rfl)) ?_
  refine ASL.done ?_
  refine AWP.seqR rfl ?_
  refine ASL.q (v := (.int .i64 p0)) rfl rfl (Light.quiet (opMove rfl rfl)) ?_
  refine ASL.q (v := (.bool (spec_l1In p0 0 2147483647))) rfl rfl ((qCall rfl rfl call_41 (spec_l1In_ok p0 0 2147483647) rfl)) ?_
  refine ASL.q (v := (.bool (spec_l1In p0 0 2147483647))) rfl rfl (Light.quiet (opAssign rfl rfl)) ?_
  refine ASL.done ?_
  refine AWP.ret ?_
  obtain rfl := hF
  exact QRet.sole (v := (.bool (spec_l1In p0 0 2147483647))) ⟨rfl, trivial⟩ rfl

set_option maxRecDepth 10000 in
theorem spec_SetIn_ok (p0 : Int) (p1 : Int) : PC Try.prog 42 [(.int .i64 p0), (.int .i64 p1)] fun v => v = (.bool (spec_SetIn p0 p1)) := by
  generalize hF : spec_SetIn p0 p1 = r
  refine PC.enter Try.func42 rfl Try.ntmps42 (by simp) ?_
  have hS := Sep.void; unfold spec_SetIn at hF
  refine AWP.seqR rfl ?_
  refine ASL.q (v := (.bool false)) rfl rfl (Light.quiet (opAssign rfl rfl)) ?_
  refine ASL.done ?_
  refine AWP.seqR rfl ?_
  refine ASL.q (v := (.int .i64 p0)) rfl rfl (Light.quiet (opMove rfl rfl)) ?_
  refine ASL.q (v := (.bool (spec_SetOk p0))) rfl rfl ((qCall rfl rfl call_83 (spec_SetOk_ok p0) rfl)) ?_
  obtain ⟨c7, hc7, hF⟩ := bndE hF
  refine ASL.q (v := (.bool c7)) rfl rfl ((Quiet.cast (Light.quiet (opMove rfl rfl)) (congrArg AV.bool hc7.symm))) ?_
  refine ASL.g (v := (.int .i64 p1)) (.bool c7) true rfl (wT _) rfl (fun hG => by have q0 := hG; subst q0; exact Light.quiet (opMove rfl rfl)) ?_
  refine ASL.g (v := (.bool (spec_SetOk p1))) (.bool c7) true rfl (wT _) rfl (fun hG => by have q0 := hG; subst q0; exact (qCall rfl rfl call_83 (spec_SetOk_ok p1) rfl)) ?_
  refine ASL.q (v := (.bool (c7 && (spec_SetOk p1)))) rfl rfl (Light.quiet (opPick (b := c7) rfl rfl (by cases c7 <;> rfl))) ?_
  obtain ⟨c11, hc11, hF⟩ := bndE hF
  refine ASL.q (v := (.bool c11)) rfl rfl ((Quiet.cast (Light.quiet (opMove rfl rfl)) (congrArg AV.bool hc11.symm))) ?_
  refine ASL.g (v := (.int .i64 p0)) (.bool c11) true rfl (wT _) rfl (fun hG => by have q0 := hG; subst q0; exact Light.quiet (opMove rfl rfl)) ?_
  refine ASL.g (v := (.int .i64 p1)) (.bool c11) true rfl (wT _) rfl (fun hG => by have q0 := hG; subst q0; exact Light.quiet (opMove rfl rfl)) ?_
  refine ASL.g (v := (.int .i64 (bAnd .i64 p0 p1))) (.bool c11) true rfl (wT _) rfl (fun hG => by have q0 := hG; subst q0; exact Light.quiet (opInt rfl rfl rfl rfl)) ?_
  refine ASL.g (v := (.int .i64 p0)) (.bool c11) true rfl (wT _) rfl (fun hG => by have q0 := hG; subst q0; exact Light.quiet (opMove rfl rfl)) ?_
  refine ASL.g (v := (.bool (decide (((bAnd .i64 p0 p1)) = p0)))) (.bool c11) true rfl (wT _) rfl (fun hG => by have q0 := hG; subst q0; exact Light.quiet (opInt rfl rfl rfl rfl)) ?_
  refine ASL.q (v := (.bool (c11 && (decide (((bAnd .i64 p0 p1)) = p0))))) rfl rfl (Light.quiet (opPick (b := c11) rfl rfl (by cases c11 <;> rfl))) ?_
  refine ASL.q (v := (.bool (c11 && (decide (((bAnd .i64 p0 p1)) = p0))))) rfl rfl (Light.quiet (opAssign rfl rfl)) ?_
  refine ASL.done ?_
  refine AWP.ret ?_
  obtain rfl := hF
  exact QRet.sole (v := (.bool (c11 && (decide (((bAnd .i64 p0 p1)) = p0))))) ⟨rfl, trivial⟩ rfl

set_option maxRecDepth 10000 in
theorem spec_l4State_ok (p0 : Int) (p1 : Int) : PC Try.prog 43 [(.int .i64 p0), (.int .i64 p1)] fun v => v = (.bool (spec_l4State p0 p1)) := by
  generalize hF : spec_l4State p0 p1 = r
  refine PC.enter Try.func43 rfl Try.ntmps43 (by simp) ?_
  have hS := Sep.void; unfold spec_l4State at hF
  refine AWP.seqR rfl ?_
  refine ASL.q (v := (.bool false)) rfl rfl (Light.quiet (opAssign rfl rfl)) ?_
  refine ASL.done ?_
  refine AWP.seqR rfl ?_
  refine ASL.q (v := (.int .i64 p0)) rfl rfl (Light.quiet (opMove rfl rfl)) ?_
  refine ASL.q (v := (.int .i64 p1)) rfl rfl (Light.quiet (opMove rfl rfl)) ?_
  refine ASL.q (v := (.int .i64 (W (p1 - 1)))) rfl rfl (Light.quiet (opInt rfl rfl rfl rfl)) ?_
  refine ASL.q (v := (.bool (spec_l1In p0 0 ((W (p1 - 1)))))) rfl rfl ((qCall rfl rfl call_41 (spec_l1In_ok p0 0 ((W (p1 - 1)))) rfl)) ?_
  refine ASL.q (v := (.bool (spec_l1In p0 0 ((W (p1 - 1)))))) rfl rfl (Light.quiet (opAssign rfl rfl)) ?_
  refine ASL.done ?_
  refine AWP.ret ?_
  obtain rfl := hF
  exact QRet.sole (v := (.bool (spec_l1In p0 0 ((W (p1 - 1)))))) ⟨rfl, trivial⟩ rfl

set_option maxRecDepth 10000 in
theorem spec_l4Less_ok (p0 : TEdge) (p1 : TEdge) : PC Try.prog 44 [(TEdge.av p0), (TEdge.av p1)] fun v => v = (.bool (spec_l4Less p0 p1)) := by
  generalize hF : spec_l4Less p0 p1 = r
  refine PC.enter Try.func44 rfl Try.ntmps44 (by simp) ?_
  have hS := Sep.void; unfold spec_l4Less at hF
  refine AWP.seqR rfl ?_
  refine ASL.q (v := (.rptr [(.int .i64 p0.from_), (.int .i64 p0.letter), (.int .i64 p0.to_), (.bool p0.good)])) rfl rfl ((qBoxI (v := (TEdge.av p0)) rfl rfl rfl rfl)) ?_
  refine ASL.q (v := (.rptr [(.int .i64 p1.from_), (.int .i64 p1.letter), (.int .i64 p1.to_), (.bool p1.good)])) rfl rfl ((qBoxI (v := (TEdge.av p1)) rfl rfl rfl rfl)) ?_
  refine ASL.q (v := (.bool false)) rfl rfl (Light.quiet (opAssign rfl rfl)) ?_
  refine ASL.done ?_
  refine AWP.seq ?_
  refine AWP.seqR rfl ?_
  refine ASL.q (v := (.rptr [(.int .i64 p0.from_), (.int .i64 p0.letter), (.int .i64 p0.to_), (.bool p0.good)])) rfl rfl (Light.quiet (opFieldAddrR rfl fieldA_73_0 rfl rfl)) ?_
  refine ASL.q (v := (.int .i64 p0.from_)) rfl rfl (Light.quiet (opLoadR rfl aggA_3 rfl rfl)) ?_
  refine ASL.q (v := (.rptr [(.int .i64 p1.from_), (.int .i64 p1.letter), (.int .i64 p1.to_), (.bool p1.good)])) rfl rfl (Light.quiet (opFieldAddrR rfl fieldA_73_0 rfl rfl)) ?_
  refine ASL.q (v := (.int .i64 p1.from_)) rfl rfl (Light.quiet (opLoadR rfl aggA_3 rfl rfl)) ?_
  refine ASL.q (v := (.bool (decide (p0.from_ ≠ p1.from_)))) rfl rfl (Light.quiet (opInt rfl rfl rfl rfl)) ?_
  refine ASL.done ?_
  refine AWP.ifP hF rfl (fun hc1 hF => ?_) (fun hc1 hF => ?_)
  · skip
    refine AWP.seqR rfl ?_
    refine ASL.q (v := (.rptr [(.int .i64 p0.from_), (.int .i64 p0.letter), (.int .i64 p0.to_), (.bool p0.good)])) rfl rfl (Light.quiet (opFieldAddrR rfl fieldA_73_0 rfl rfl)) ?_
    refine ASL.q (v := (.int .i64 p0.from_)) rfl rfl (Light.quiet (opLoadR rfl aggA_3 rfl rfl)) ?_
    refine ASL.q (v := (.rptr [(.int .i64 p1.from_), (.int .i64 p1.letter), (.int .i64 p1.to_), (.bool p1.good)])) rfl rfl (Light.quiet (opFieldAddrR rfl fieldA_73_0 rfl rfl)) ?_
    refine ASL.q (v := (.int .i64 p1.from_)) rfl rfl (Light.quiet (opLoadR rfl aggA_3 rfl rfl)) ?_
    refine ASL.q (v := (.bool (decide (p0.from_ < p1.from_)))) rfl rfl (Light.quiet (opInt rfl rfl rfl rfl)) ?_
    refine ASL.q (v := (.bool (decide (p0.from_ < p1.from_)))) rfl rfl (Light.quiet (opAssign rfl rfl)) ?_
    refine ASL.done ?_
    refine AWP.ret ?_
    refine QThen.rt ?_
    obtain rfl := hF
    exact QRet.sole (v := (.bool (decide (p0.from_ < p1.from_)))) ⟨rfl, trivial⟩ rfl
  · skip
    refine AWP.skip ?_
    refine QThen.nrm ?_
    refine AWP.seq ?_
    refine AWP.seqR rfl ?_
    refine ASL.q (v := (.rptr [(.int .i64 p0.letter), (.int .i64 p0.to_), (.bool p0.good)])) rfl rfl (Light.quiet (opFieldAddrR rfl fieldA_73_1 rfl rfl)) ?_
    refine ASL.q (v := (.int .i64 p0.letter)) rfl rfl (Light.quiet (opLoadR rfl aggA_3 rfl rfl)) ?_
    refine ASL.q (v := (.rptr [(.int .i64 p1.letter), (.int .i64 p1.to_), (.bool p1.good)])) rfl rfl (Light.quiet (opFieldAddrR rfl fieldA_73_1 rfl rfl)) ?_
    refine ASL.q (v := (.int .i64 p1.letter)) rfl rfl (Light.quiet (opLoadR rfl aggA_3 rfl rfl)) ?_
    refine ASL.q (v := (.bool (decide (p0.letter ≠ p1.letter)))) rfl rfl (Light.quiet (opInt rfl rfl rfl rfl)) ?_
    refine ASL.done ?_
    refine AWP.ifP hF rfl (fun hc2 hF => ?_) (fun hc2 hF => ?_)
    · skip
      refine AWP.seqR rfl ?_
      refine ASL.q (v := (.rptr [(.int .i64 p0.letter), (.int .i64 p0.to_), (.bool p0.good)])) rfl rfl (Light.quiet (opFieldAddrR rfl fieldA_73_1 rfl rfl)) ?_
      refine ASL.q (v := (.int .i64 p0.letter)) rfl rfl (Light.quiet (opLoadR rfl aggA_3 rfl rfl)) ?_
      refine ASL.q (v := (.rptr [(.int .i64 p1.letter), (.int .i64 p1.to_), (.bool p1.good)])) rfl rfl (Light.quiet (opFieldAddrR rfl fieldA_73_1 rfl rfl)) ?_
      refine ASL.q (v := (.int .i64 p1.letter)) rfl rfl (Light.quiet (opLoadR rfl aggA_3 rfl rfl)) ?_
      refine ASL.q (v := (.bool (decide (p0.letter < p1.letter)))) rfl rfl (Light.quiet (opInt rfl rfl rfl rfl)) ?_
      refine ASL.q (v := (.bool (decide (p0.letter < p1.letter)))) rfl rfl (Light.quiet (opAssign rfl rfl)) ?_
      refine ASL.done ?_
      refine AWP.ret ?_
      refine QThen.rt ?_
      obtain rfl := hF
      exact QRet.sole (v := (.bool (decide (p0.letter < p1.letter)))) ⟨rfl, trivial⟩ rfl
    · skip
      refine AWP.skip ?_
      refine QThen.nrm ?_
      refine AWP.seqR rfl ?_
      refine ASL.q (v := (.rptr [(.int .i64 p0.to_), (.bool p0.good)])) rfl rfl (Light.quiet (opFieldAddrR rfl fieldA_73_2 rfl rfl)) ?_
      refine ASL.q (v := (.int .i64 p0.to_)) rfl rfl (Light.quiet (opLoadR rfl aggA_3 rfl rfl)) ?_
      refine ASL.q (v := (.rptr [(.int .i64 p1.to_), (.bool p1.good)])) rfl rfl (Light.quiet (opFieldAddrR rfl fieldA_73_2 rfl rfl)) ?_
      refine ASL.q (v := (.int .i64 p1.to_)) rfl rfl (Light.quiet (opLoadR rfl aggA_3 rfl rfl)) ?_
      refine ASL.q (v := (.bool (decide (p0.to_ < p1.to_)))) rfl rfl (Light.quiet (opInt rfl rfl rfl rfl)) ?_
      refine ASL.q (v := (.bool (decide (p0.to_ < p1.to_)))) rfl rfl (Light.quiet (opAssign rfl rfl)) ?_
      refine ASL.done ?_
      refine AWP.ret ?_
      obtain rfl := hF
      exact QRet.sole (v := (.bool (decide (p0.to_ < p1.to_)))) ⟨rfl, trivial⟩ rfl

set_option maxRecDepth 10000 in
theorem spec_AutoOk_ok {p0 : TAuto} {r : Bool} (hF : spec_AutoOk p0 = some r) : PC Try.prog 10 [(TAuto.av p0)] fun v => v = (.bool r) := by
  refine PC.enter Try.func10 rfl Try.ntmps10 (by simp) ?_
  have hS := Sep.void; unfold spec_AutoOk at hF
  refine AWP.seqR rfl ?_
  refine ASL.q (v := (.rptr [(.int .i64 p0.letters), (.int .i64 p0.states), (.int .i64 p0.start), (.list 4 (List.map TEdge.av p0.edges))])) rfl rfl ((qBoxI (v := (TAuto.av p0)) rfl rfl rfl rfl)) ?_
  refine ASL.q (v := (.bool false)) rfl rfl (Light.quiet (opAssign rfl rfl)) ?_
  refine ASL.done ?_
  refine AWP.seq ?_
  refine AWP.seqD [(0, false), (1, false), (2, false), (3, false), (4, false), (5, false), (6, false), (7, false), (8, false), (9, false), (10, false), (11, false), (12, false), (13, false), (14, false), (15, false), (16, false), (17, false), (18, false), (19, false), (20, false), (21, false), (22, false), (23, false), (24, false), (25, false)] mixed (by kernel_rfl) rfl ?_
  refine ARL.q0 (v := (.rptr [(.int .i64 p0.letters), (.int .i64 p0.states), (.int .i64 p0.start), (.list 4 (List.map TEdge.av p0.edges))])) rfl rfl (Light.quiet (opFieldAddrR rfl fieldA_26_0 rfl rfl)) ?_
  refine ARL.q0 (v := (.int .i64 p0.letters)) rfl rfl (Light.quiet (opLoadR rfl aggA_3 rfl rfl)) ?_
  refine ARL.q0 (v := (.bool (spec_l1In p0.letters 1 8))) rfl rfl ((qCall rfl rfl call_41 (spec_l1In_ok p0.letters 1 8) rfl)) ?_
  refine ARL.q0 (v := (.bool (!(spec_l1In p0.letters 1 8)))) rfl rfl (Light.quiet (opNot rfl rfl)) ?_
  obtain ⟨c9, hc9, hF⟩ := bndE hF
  refine ARL.q0 (v := (.bool c9)) rfl rfl ((Quiet.cast (Light.quiet (opMove rfl rfl)) (congrArg AV.bool hc9.symm))) ?_
  refine ARL.g (v := (.rptr [(.int .i64 p0.states), (.int .i64 p0.start), (.list 4 (List.map TEdge.av p0.edges))])) (.bool c9) false rfl (wF _) rfl noneAlive (fun hG => by have q0 := gN hG; subst q0; exact Light.quiet (opFieldAddrR rfl fieldA_26_1 rfl rfl)) ?_
  refine ARL.g (v := (.int .i64 p0.states)) (.bool c9) false rfl (wF _) rfl noneAlive (fun hG => by have q0 := gN hG; subst q0; exact Light.quiet (opLoadR rfl aggA_3 rfl rfl)) ?_
  refine ARL.g (v := (.bool (spec_l1In p0.states 0 31))) (.bool c9) false rfl (wF _) rfl noneAlive (fun hG => by have q0 := gN hG; subst q0; exact (qCall rfl rfl call_41 (spec_l1In_ok p0.states 0 31) rfl)) ?_
  refine ARL.g (v := (.bool (!(spec_l1In p0.states 0 31)))) (.bool c9) false rfl (wF _) rfl noneAlive (fun hG => by have q0 := gN hG; subst q0; exact Light.quiet (opNot rfl rfl)) ?_
  refine ARL.q0 (v := (.bool (c9 || (!(spec_l1In p0.states 0 31))))) rfl rfl (Light.quiet (opPick (b := c9) rfl rfl (by cases c9 <;> rfl))) ?_
  obtain ⟨c15, hc15, hF⟩ := bndE hF
  refine ARL.q0 (v := (.bool c15)) rfl rfl ((Quiet.cast (Light.quiet (opMove rfl rfl)) (congrArg AV.bool hc15.symm))) ?_
  refine ARL.g (v := (.rptr [(.int .i64 p0.start), (.list 4 (List.map TEdge.av p0.edges))])) (.bool c15) false rfl (wF _) rfl noneAlive (fun hG => by have q0 := gN hG; subst q0; exact Light.quiet (opFieldAddrR rfl fieldA_26_2 rfl rfl)) ?_
  refine ARL.g (v := (.int .i64 p0.start)) (.bool c15) false rfl (wF _) rfl noneAlive (fun hG => by have q0 := gN hG; subst q0; exact Light.quiet (opLoadR rfl aggA_3 rfl rfl)) ?_
  refine ARL.g (v := (.rptr [(.int .i64 p0.states), (.int .i64 p0.start), (.list 4 (List.map TEdge.av p0.edges))])) (.bool c15) false rfl (wF _) rfl noneAlive (fun hG => by have q0 := gN hG; subst q0; exact Light.quiet (opFieldAddrR rfl fieldA_26_1 rfl rfl)) ?_
  refine ARL.g (v := (.int .i64 p0.states)) (.bool c15) false rfl (wF _) rfl noneAlive (fun hG => by have q0 := gN hG; subst q0; exact Light.quiet (opLoadR rfl aggA_3 rfl rfl)) ?_
  obtain ⟨u1, hu1, hF⟩ := bindE hF
  refine ARL.g (v := (.int .i64 (shl .i64 1 p0.states))) (.bool c15) false rfl (wF _) rfl noneAlive (fun hG => by have q0 := gN hG; subst q0; exact Light.quiet (opShl rfl rfl rfl (of_decide_eq_true (chkE (whenE hu1))) rfl)) ?_
  refine ARL.g (v := (.int .i64 (W (((shl .i64 1 p0.states)) - 1)))) (.bool c15) false rfl (wF _) rfl noneAlive (fun hG => by have q0 := gN hG; subst q0; exact Light.quiet (opInt rfl rfl rfl rfl)) ?_
  refine ARL.g (v := (.bool (spec_SetIn p0.start ((W (((shl .i64 1 p0.states)) - 1)))))) (.bool c15) false rfl (wF _) rfl noneAlive (fun hG => by have q0 := gN hG; subst q0; exact (qCall rfl rfl call_42 (spec_SetIn_ok p0.start ((W (((shl .i64 1 p0.states)) - 1)))) rfl)) ?_
  refine ARL.g (v := (.bool (!(spec_SetIn p0.start ((W (((shl .i64 1 p0.states)) - 1))))))) (.bool c15) false rfl (wF _) rfl noneAlive (fun hG => by have q0 := gN hG; subst q0; exact Light.quiet (opNot rfl rfl)) ?_
  refine ARL.q0 (v := (.bool (c15 || (!(spec_SetIn p0.start ((W (((shl .i64 1 p0.states)) - 1)))))))) rfl rfl (Light.quiet (opPick (b := c15) rfl rfl (by cases c15 <;> rfl))) ?_
  obtain ⟨c25, hc25, hF⟩ := bndE hF
  refine ARL.q0 (v := (.bool c25)) rfl rfl ((Quiet.cast (Light.quiet (opMove rfl rfl)) (congrArg AV.bool hc25.symm))) ?_
  refine ARL.g (v := (.rptr [(.list 4 (List.map TEdge.av p0.edges))])) (.bool c25) false rfl (wF _) rfl noneAlive (fun hG => by have q0 := gN hG; subst q0; exact Light.quiet (opFieldAddrR rfl fieldA_26_3 rfl rfl)) ?_
  refine ARL.g (v := (.list 4 (List.map TEdge.av p0.edges))) (.bool c25) false rfl (wF _) rfl noneAlive (fun hG => by have q0 := gN hG; subst q0; exact Light.quiet (opLoadR rfl aggA_24 rfl rfl)) ?_
  refine ARL.g (v := (.int .i64 (p0.edges.length : Int))) (.bool c25) false rfl (wF _) rfl noneAlive (fun hG => by have q0 := gN hG; subst q0; exact Light.quiet (opLenMap (f := TEdge.av) rfl rfl rfl lenT_24 rfl)) ?_
  refine ARL.g (v := (.bool (decide (((p0.edges.length : Int)) > 2000)))) (.bool c25) false rfl (wF _) rfl noneAlive (fun hG => by have q0 := gN hG; subst q0; exact Light.quiet (opInt rfl rfl rfl rfl)) ?_
  refine ARL.q0 (v := (.bool (c25 || (decide (((p0.edges.length : Int)) > 2000))))) rfl rfl (Light.quiet (opPick (b := c25) rfl rfl (by cases c25 <;> rfl))) ?_
  refine ARL.done ?_
  refine AWP.ifB hF rfl (fun hc2 hF => ?_) (fun hc2 hF => ?_)
  · skip
    refine AWP.seqR rfl ?_
    refine ASL.q (v := (.bool false)) rfl rfl (Light.quiet (opAssign rfl rfl)) ?_
    refine ASL.done ?_
    refine AWP.ret ?_
    refine QThen.rt ?_
    obtain rfl := someE hF
    exact QRet.sole (v := (.bool false)) ⟨rfl, trivial⟩ rfl
  · skip
    refine AWP.skip ?_
    refine QThen.nrm ?_
    refine AWP.seqM (fun e H => E.Told e [] ∧ E.Sep H [] ∧ spec_AutoOk.k0 = some r) ?_ ?_
    · rintro e0 G3 ⟨hT, hS, hF⟩; refine AWP.only _ hT ?_; unfold spec_AutoOk.k0 at hF
      refine AWP.seqR rfl ?_
      refine ASL.q (v := (.bool true)) rfl rfl (Light.quiet (opAssign rfl rfl)) ?_
      refine ASL.done ?_
      refine AWP.ret ?_
      obtain rfl := someE hF
      exact QRet.sole (v := (.bool true)) ⟨rfl, trivial⟩ rfl
    · skip
      refine AWP.seqR rfl ?_
      refine ASL.q (v := (.int .i64 0)) rfl rfl (Light.quiet (opAssign rfl rfl)) ?_
      refine ASL.done ?_
      refine AWP.block ?_
      obtain ⟨o7, hL6, hR8⟩ := bindE hF
      refine AWP.loopF (ω := Unit) hL6 (fun s w => [(1, (.rptr [(.int .i64 p0.letters), (.int .i64 p0.states), (.int .i64 p0.start), (.list 4 (List.map TEdge.av p0.edges))])), (3, (.int .i64 s))]) (fun s w => []) () ⟨rfl, rfl, trivial⟩ (hS.pick [] rfl rfl) ?_
      rintro x3_l0 _ G9 hS x4 hF hx5
      try dsimp only at hS ⊢
      have hF : spec_AutoOk.b0 p0 x3_l0 = some x4 := hF; unfold spec_AutoOk.b0 at hF
      refine AWP.seq ?_
      refine AWP.seqR rfl ?_
      refine ASL.q (v := (.int .i64 x3_l0)) rfl rfl (Light.quiet (opMove rfl rfl)) ?_
      refine ASL.q (v := (.rptr [(.list 4 (List.map TEdge.av p0.edges))])) rfl rfl (Light.quiet (opFieldAddrR rfl fieldA_26_3 rfl rfl)) ?_
      refine ASL.q (v := (.list 4 (List.map TEdge.av p0.edges))) rfl rfl (Light.quiet (opLoadR rfl aggA_24 rfl rfl)) ?_
      refine ASL.q (v := (.int .i64 (p0.edges.length : Int))) rfl rfl (Light.quiet (opLenMap (f := TEdge.av) rfl rfl rfl lenT_24 rfl)) ?_
      refine ASL.q (v := (.bool (decide (x3_l0 < ((p0.edges.length : Int)))))) rfl rfl (Light.quiet (opInt rfl rfl rfl rfl)) ?_
      refine ASL.done ?_
      refine AWP.ifP hF rfl (fun hc10 hF => ?_) (fun hc10 hF => ?_)
      · skip
        refine AWP.skip ?_
        refine QThen.nrm ?_
        refine AWP.seq ?_
        refine AWP.block ?_
        refine AWP.seqR rfl ?_
        refine ASL.q (v := (.rptr [(.list 4 (List.map TEdge.av p0.edges))])) rfl rfl (Light.quiet (opFieldAddrR rfl fieldA_26_3 rfl rfl)) ?_
        refine ASL.q (v := (.list 4 (List.map TEdge.av p0.edges))) rfl rfl (Light.quiet (opLoadR rfl aggA_24 rfl rfl)) ?_
        refine ASL.q (v := (.int .i64 x3_l0)) rfl rfl (Light.quiet (opMove rfl rfl)) ?_
        obtain ⟨a41, ha41, hF⟩ := bindE hF
        refine ASL.q (v := (.rptr [(.int .i64 a41.from_), (.int .i64 a41.letter), (.int .i64 a41.to_), (.bool a41.good)])) rfl rfl (Light.quiet (kIx (f := TEdge.av) ha41 rfl rfl rfl elemA_24 sizeA_73 rfl)) ?_
        refine ASL.q (v := (TEdge.av a41)) rfl rfl (Light.quiet (opLoadRA rfl aggA_73 sizeA_73 rfl (nlt rfl) rfl)) ?_
        refine ASL.x rfl rfl (hNewZ hS [(.int .i64 0), (.int .i64 0), (.int .i64 0), (.bool false)] rfl zeroA_73 ⟨.inl rfl, .inl rfl, .inl rfl, .inl rfl, trivial⟩ ?_); rintro b4 G11 hK hS
        refine ASL.n rfl rfl (hPutA hS (j := 0) rfl rfl sizeA_73 rfl rfl rfl rfl rfl (nlt rfl) ?_); rintro G13 hS
        refine ASL.done ?_
        refine AWP.seqD [(0, false), (1, false), (2, false), (3, false), (4, false), (5, false), (6, false), (7, false), (8, false), (9, false), (10, false), (11, false), (12, false), (13, false), (14, false), (15, false), (16, false), (17, false), (18, false), (19, false), (20, false), (21, false), (22, false), (23, false), (24, false), (25, false), (26, false), (27, false), (28, false), (29, false), (30, false), (31, false), (32, false), (33, false), (34, false), (35, false), (36, false), (37, false)] mixed (by kernel_rfl) rfl ?_
        refine ARL.q0 (v := (.ptr b4 0)) rfl rfl (Light.quiet (opFieldAddr rfl fieldA_73_0 rfl rfl)) ?_
        refine ARL.q (v := (.int .i64 a41.from_)) rfl rfl (hS.aliveC (k := 0) rfl) (Light.quiet (kAt hS (j := 0) rfl rfl aggA_3 rfl rfl)) ?_
        refine ARL.q0 (v := (.rptr [(.int .i64 p0.states), (.int .i64 p0.start), (.list 4 (List.map TEdge.av p0.edges))])) rfl rfl (Light.quiet (opFieldAddrR rfl fieldA_26_1 rfl rfl)) ?_
        refine ARL.q0 (v := (.int .i64 p0.states)) rfl rfl (Light.quiet (opLoadR rfl aggA_3 rfl rfl)) ?_
        refine ARL.q0 (v := (.bool (spec_l4State a41.from_ p0.states))) rfl rfl ((qCall rfl rfl call_43 (spec_l4State_ok a41.from_ p0.states) rfl)) ?_
        refine ARL.q0 (v := (.bool (!(spec_l4State a41.from_ p0.states)))) rfl rfl (Light.quiet (opNot rfl rfl)) ?_
        obtain ⟨c49, hc49, hF⟩ := bndE hF
        refine ARL.q0 (v := (.bool c49)) rfl rfl ((Quiet.cast (Light.quiet (opMove rfl rfl)) (congrArg AV.bool hc49.symm))) ?_
        refine ARL.g (v := (.ptr b4 2)) (.bool c49) false rfl (wF _) rfl noneAlive (fun hG => by have q0 := gN hG; subst q0; exact Light.quiet (opFieldAddr rfl fieldA_73_2 rfl rfl)) ?_
        refine ARL.g (v := (.int .i64 a41.to_)) (.bool c49) false rfl (wF _) rfl (hS.aliveC (k := 0) rfl) (fun hG => by have q0 := gN hG; subst q0; exact Light.quiet (kAt hS (j := 0) rfl rfl aggA_3 rfl rfl)) ?_
        refine ARL.g (v := (.rptr [(.int .i64 p0.states), (.int .i64 p0.start), (.list 4 (List.map TEdge.av p0.edges))])) (.bool c49) false rfl (wF _) rfl noneAlive (fun hG => by have q0 := gN hG; subst q0; exact Light.quiet (opFieldAddrR rfl fieldA_26_1 rfl rfl)) ?_
        refine ARL.g (v := (.int .i64 p0.states)) (.bool c49) false rfl (wF _) rfl noneAlive (fun hG => by have q0 := gN hG; subst q0; exact Light.quiet (opLoadR rfl aggA_3 rfl rfl)) ?_
        refine ARL.g (v := (.bool (spec_l4State a41.to_ p0.states))) (.bool c49) false rfl (wF _) rfl noneAlive (fun hG => by have q0 := gN hG; subst q0; exact (qCall rfl rfl call_43 (spec_l4State_ok a41.to_ p0.states) rfl)) ?_
        refine ARL.g (v := (.bool (!(spec_l4State a41.to_ p0.states)))) (.bool c49) false rfl (wF _) rfl noneAlive (fun hG => by have q0 := gN hG; subst q0; exact Light.quiet (opNot rfl rfl)) ?_
        refine ARL.q0 (v := (.bool (c49 || (!(spec_l4State a41.to_ p0.states))))) rfl rfl (Light.quiet (opPick (b := c49) rfl rfl (by cases c49 <;> rfl))) ?_
        obtain ⟨c57, hc57, hF⟩ := bndE hF
        refine ARL.q0 (v := (.bool c57)) rfl rfl ((Quiet.cast (Light.quiet (opMove rfl rfl)) (congrArg AV.bool hc57.symm))) ?_
        refine ARL.g (v := (.ptr b4 1)) (.bool c57) false rfl (wF _) rfl noneAlive (fun hG => by have q0 := gN hG; subst q0; exact Light.quiet (opFieldAddr rfl fieldA_73_1 rfl rfl)) ?_
        refine ARL.g (v := (.int .i64 a41.letter)) (.bool c57) false rfl (wF _) rfl (hS.aliveC (k := 0) rfl) (fun hG => by have q0 := gN hG; subst q0; exact Light.quiet (kAt hS (j := 0) rfl rfl aggA_3 rfl rfl)) ?_
        refine ARL.g (v := (.rptr [(.int .i64 p0.letters), (.int .i64 p0.states), (.int .i64 p0.start), (.list 4 (List.map TEdge.av p0.edges))])) (.bool c57) false rfl (wF _) rfl noneAlive (fun hG => by have q0 := gN hG; subst q0; exact Light.quiet (opFieldAddrR rfl fieldA_26_0 rfl rfl)) ?_
        refine ARL.g (v := (.int .i64 p0.letters)) (.bool c57) false rfl (wF _) rfl noneAlive (fun hG => by have q0 := gN hG; subst q0; exact Light.quiet (opLoadR rfl aggA_3 rfl rfl)) ?_
        refine ARL.g (v := (.int .i64 (W (p0.letters - 1)))) (.bool c57) false rfl (wF _) rfl noneAlive (fun hG => by have q0 := gN hG; subst q0; exact Light.quiet (opInt rfl rfl rfl rfl)) ?_
        refine ARL.g (v := (.bool (spec_l1In a41.letter 0 ((W (p0.letters - 1)))))) (.bool c57) false rfl (wF _) rfl noneAlive (fun hG => by have q0 := gN hG; subst q0; exact (qCall rfl rfl call_41 (spec_l1In_ok a41.letter 0 ((W (p0.letters - 1)))) rfl)) ?_
        refine ARL.g (v := (.bool (!(spec_l1In a41.letter 0 ((W (p0.letters - 1))))))) (.bool c57) false rfl (wF _) rfl noneAlive (fun hG => by have q0 := gN hG; subst q0; exact Light.quiet (opNot rfl rfl)) ?_
        refine ARL.q0 (v := (.bool (c57 || (!(spec_l1In a41.letter 0 ((W (p0.letters - 1)))))))) rfl rfl (Light.quiet (opPick (b := c57) rfl rfl (by cases c57 <;> rfl))) ?_
        obtain ⟨c66, hc66, hF⟩ := bndE hF
        refine ARL.q0 (v := (.bool c66)) rfl rfl ((Quiet.cast (Light.quiet (opMove rfl rfl)) (congrArg AV.bool hc66.symm))) ?_
        refine ARL.g (v := (.int .i64 x3_l0)) (.bool c66) false rfl (wF _) rfl noneAlive (fun hG => by have q0 := gN hG; subst q0; exact Light.quiet (opMove rfl rfl)) ?_
        refine ARL.g (v := (.bool (decide (x3_l0 > 0)))) (.bool c66) false rfl (wF _) rfl noneAlive (fun hG => by have q0 := gN hG; subst q0; exact Light.quiet (opInt rfl rfl rfl rfl)) ?_
        obtain ⟨c69, hc69, hF⟩ := bndE hF
        refine ARL.g (v := (.bool c69)) (.bool c66) false rfl (wF _) rfl noneAlive (fun hG => by have q0 := gN hG; subst q0; exact (Quiet.cast (Light.quiet (opMove rfl rfl)) (congrArg AV.bool hc69.symm))) ?_
        refine ARL.g (v := (.rptr [(.list 4 (List.map TEdge.av p0.edges))])) (bif (!c66) then (.bool c69) else .tup []) true rfl (wGT _ _) rfl noneAlive (fun hG => by have q0 := gN (gA1 hG); have q1 := gA2 hG; subst q0; subst q1; exact Light.quiet (opFieldAddrR rfl fieldA_26_3 rfl rfl)) ?_
        refine ARL.g (v := (.list 4 (List.map TEdge.av p0.edges))) (bif (!c66) then (.bool c69) else .tup []) true rfl (wGT _ _) rfl noneAlive (fun hG => by have q0 := gN (gA1 hG); have q1 := gA2 hG; subst q0; subst q1; exact Light.quiet (opLoadR rfl aggA_24 rfl rfl)) ?_
        refine ARL.g (v := (.int .i64 x3_l0)) (bif (!c66) then (.bool c69) else .tup []) true rfl (wGT _ _) rfl noneAlive (fun hG => by have q0 := gN (gA1 hG); have q1 := gA2 hG; subst q0; subst q1; exact Light.quiet (opMove rfl rfl)) ?_
        refine ARL.g (v := (.int .i64 (W (x3_l0 - 1)))) (bif (!c66) then (.bool c69) else .tup []) true rfl (wGT _ _) rfl noneAlive (fun hG => by have q0 := gN (gA1 hG); have q1 := gA2 hG; subst q0; subst q1; exact Light.quiet (opInt rfl rfl rfl rfl)) ?_
        obtain ⟨a74, ha74, hF⟩ := bindE hF
        refine ARL.g (v := (.rptr [(.int .i64 a74.from_), (.int .i64 a74.letter), (.int .i64 a74.to_), (.bool a74.good)])) (bif (!c66) then (.bool c69) else .tup []) true rfl (wGT _ _) rfl noneAlive (fun hG => by have q0 := gN (gA1 hG); have q1 := gA2 hG; subst q0; subst q1; exact Light.quiet (kIx (f := TEdge.av) (whenE ha74) rfl rfl rfl elemA_24 sizeA_73 rfl)) ?_
        refine ARL.g (v := (TEdge.av a74)) (bif (!c66) then (.bool c69) else .tup []) true rfl (wGT _ _) rfl noneAlive (fun hG => by have q0 := gN (gA1 hG); have q1 := gA2 hG; subst q0; subst q1; exact Light.quiet (opLoadRA rfl aggA_73 sizeA_73 rfl (nlt rfl) rfl)) ?_
        refine ARL.g (v := (TEdge.av a41)) (bif (!c66) then (.bool c69) else .tup []) true rfl (wGT _ _) rfl (hS.aliveC (k := 0) rfl) (fun hG => by have q0 := gN (gA1 hG); have q1 := gA2 hG; subst q0; subst q1; exact Light.quiet (kAtA hS (j := 0) rfl rfl aggA_73 sizeA_73 rfl (nlt rfl) rfl)) ?_
        refine ARL.g (v := (.bool (spec_l4Less a74 a41))) (bif (!c66) then (.bool c69) else .tup []) true rfl (wGT _ _) rfl noneAlive (fun hG => by have q0 := gN (gA1 hG); have q1 := gA2 hG; subst q0; subst q1; exact (qCall rfl rfl call_44 (spec_l4Less_ok a74 a41) rfl)) ?_
        refine ARL.g (v := (.bool (!(spec_l4Less a74 a41)))) (bif (!c66) then (.bool c69) else .tup []) true rfl (wGT _ _) rfl noneAlive (fun hG => by have q0 := gN (gA1 hG); have q1 := gA2 hG; subst q0; subst q1; exact Light.quiet (opNot rfl rfl)) ?_
        refine ARL.g (v := (.bool (c69 && (!(spec_l4Less a74 a41))))) (.bool c66) false rfl (wF _) rfl noneAlive (fun hG => by have q0 := gN hG; subst q0; exact Light.quiet (opPick (b := c69) rfl rfl (by cases c69 <;> rfl))) ?_
        refine ARL.q0 (v := (.bool (c66 || (c69 && (!(spec_l4Less a74 a41)))))) rfl rfl (Light.quiet (opPick (b := c66) rfl rfl (by cases c66 <;> rfl))) ?_
        refine ARL.done ?_
        refine AWP.ifB hF rfl (fun hc14 hF => ?_) (fun hc14 hF => ?_)
        · skip
          refine AWP.seqR rfl ?_
          refine ASL.q (v := (.bool false)) rfl rfl (Light.quiet (opAssign rfl rfl)) ?_
          refine ASL.done ?_
          refine AWP.ret ?_
          refine QBlock.ret ?_
          refine QThen.rt ?_
          refine QThen.rt ?_
          refine QBlock.ret ?_
          refine QThen.rt ?_
          obtain rfl := (hx5 _ (someE hF).symm)
          have hF := hR8
          have hF := sumR hF
          obtain rfl := someE hF
          exact QRet.sole (v := (.bool false)) ⟨rfl, trivial⟩ rfl
        · skip
          refine AWP.skip ?_
          refine QBlock.nrm ?_
          refine QThen.nrm ?_
          refine AWP.lastR rfl ?_
          refine ASL.q (v := (.int .i64 x3_l0)) rfl rfl (Light.quiet (opMove rfl rfl)) ?_
          refine ASL.q (v := (.int .i64 (W (x3_l0 + 1)))) rfl rfl (Light.quiet (opInt rfl rfl rfl rfl)) ?_
          refine ASL.q (v := (.int .i64 (W (x3_l0 + 1)))) rfl rfl (Light.quiet (opAssign rfl rfl)) ?_
          refine ASL.done ?_
          refine QThen.nrm ?_
          exact ⟨(W (x3_l0 + 1)), (), (someE hF).symm, ⟨rfl, rfl, trivial⟩, (hS.pick [] rfl rfl)⟩
      · skip
        refine AWP.exit ?_
        refine QThen.ext ?_
        refine QThen.ext ?_
        refine QBlock.hit ?_
        obtain rfl := (hx5 _ (someE hF).symm)
        have hF := hR8
        have hF := sumL hF
        refine QThen.nrm ?_
        exact ⟨trivial, (hS.pick [] rfl rfl), hF⟩

set_option maxRecDepth 10000 in
theorem spec_l1Max_ok (p0 : Int) (p1 : Int) : PC Try.prog 94 [(.int .i64 p0), (.int .i64 p1)] fun v => v = (.int .i64 (spec_l1Max p0 p1)) := by
  generalize hF : spec_l1Max p0 p1 = r
  refine PC.enter Try.func94 rfl Try.ntmps94 (by simp) ?_
  have hS := Sep.void; unfold spec_l1Max at hF
  refine AWP.seqR rfl ?_
  refine ASL.q (v := (.int .i64 0)) rfl rfl (Light.quiet (opAssign rfl rfl)) ?_
  refine ASL.done ?_
  refine AWP.seq ?_
  refine AWP.seqR rfl ?_
  refine ASL.q (v := (.int .i64 p0)) rfl rfl (Light.quiet (opMove rfl rfl)) ?_
  refine ASL.q (v := (.int .i64 p1)) rfl rfl (Light.quiet (opMove rfl rfl)) ?_
  refine ASL.q (v := (.bool (decide (p0 > p1)))) rfl rfl (Light.quiet (opInt rfl rfl rfl rfl)) ?_
  refine ASL.done ?_
  refine AWP.ifP hF rfl (fun hc1 hF => ?_) (fun hc1 hF => ?_)
  · skip
    refine AWP.seqR rfl ?_
    refine ASL.q (v := (.int .i64 p0)) rfl rfl (Light.quiet (opMove rfl rfl)) ?_
    refine ASL.q (v := (.int .i64 p0)) rfl rfl (Light.quiet (opAssign rfl rfl)) ?_
    refine ASL.done ?_
    refine AWP.ret ?_
    refine QThen.rt ?_
    obtain rfl := hF
    exact QRet.sole (v := (.int .i64 p0)) ⟨rfl, trivial⟩ rfl
  · skip
    refine AWP.skip ?_
    refine QThen.nrm ?_
    refine AWP.seqR rfl ?_
    refine ASL.q (v := (.int .i64 p1)) rfl rfl (Light.quiet (opMove rfl rfl)) ?_
    refine ASL.q (v := (.int .i64 p1)) rfl rfl (Light.quiet (opAssign rfl rfl)) ?_
    refine ASL.done ?_
    refine AWP.ret ?_
    obtain rfl := hF
    exact QRet.sole (v := (.int .i64 p1)) ⟨rfl, trivial⟩ rfl

set_option maxRecDepth 10000 in
theorem spec_AutoMake_ok {p0 : Int} {p1 : Int} {p2 : Int} {p3 : (List TEdge)} {r : (TAuto × Bool)} (hF : spec_AutoMake p0 p1 p2 p3 = some r) : HS Try.prog 95 [(.int .i64 p0), (.int .i64 p1), (.int .i64 p2), (.list 4 (List.map TEdge.av p3))] [] fun v L' => ∃ o0_Edges : AV, v = .tup [(.agg [(.int .i64 r.1.letters), (.int .i64 r.1.states), (.int .i64 r.1.start), o0_Edges]), (.bool r.2)] ∧ L' = [.row 4 o0_Edges (List.map TEdge.av r.1.edges)] := by
  intro H S hS
  refine HC.enter Try.func95 rfl Try.ntmps95 (by simp) ?_
  simp only [List.cons_append, List.nil_append] at hS
  unfold spec_AutoMake at hF
  refine AWP.seqR rfl ?_
  have hS := hNil (s := 4) (f := TEdge.av) hS
  refine ASL.x rfl rfl (hNewZ hS [(.int .i64 0), (.int .i64 0), (.int .i64 0), .nil] rfl zeroA_26 ⟨.inl rfl, .inl rfl, .inl rfl, .inl rfl, trivial⟩ ?_); rintro b8 G1 hK hS
  refine ASL.q (v := (.bool false)) rfl rfl (Light.quiet (opAssign rfl rfl)) ?_
  refine ASL.done ?_
  refine AWP.seqR rfl ?_
  refine ASL.q (v := (.int .i64 p0)) rfl rfl (Light.quiet (opMove rfl rfl)) ?_
  refine ASL.q (v := (.int .i64 p1)) rfl rfl (Light.quiet (opMove rfl rfl)) ?_
  refine ASL.q (v := (.int .i64 p2)) rfl rfl (Light.quiet (opMove rfl rfl)) ?_
  refine ASL.q (v := (.agg [(.int .i64 p0), (.int .i64 p1), (.int .i64 p2), .nil])) rfl rfl (Light.quiet (opBuildZ (zs := [(.int .i64 0), (.int .i64 0), (.int .i64 0), .nil]) rfl plan_26 zeroA_26 ⟨.inl rfl, .inl rfl, .inl rfl, .inl rfl, trivial⟩ rfl)) ?_
  have hS := hNil (s := 4) (f := TEdge.av) hS
  refine ASL.x rfl rfl (hNewZ hS [(.int .i64 0), (.int .i64 0), (.int .i64 0), .nil] rfl zeroA_26 ⟨.inl rfl, .inl rfl, .inl rfl, .inl rfl, trivial⟩ ?_); rintro b10 G4 hK hS
  have hS := hNil (s := 4) (f := TEdge.av) hS
  refine ASL.n rfl rfl (hPutA hS (j := 1) rfl rfl sizeA_26 rfl rfl rfl rfl (allC rfl (allC rfl (allC rfl (allC (hS.one (k := 0) rfl) rfl)))) (nlt rfl) ?_); rintro G7 hS
  refine ASL.done ?_
  refine AWP.seq ?_
  refine AWP.seqR rfl ?_
  refine ASL.q (v := (.agg [(.int .i64 p0), (.int .i64 p1), (.int .i64 p2), .nil])) rfl rfl (Light.quiet (kAtA hS (j := 1) rfl rfl aggA_26 sizeA_26 rfl (nlt rfl) rfl)) ?_
  obtain ⟨a22, ha22, hF⟩ := bindE hF
  refine ASL.q (v := (.bool a22)) rfl rfl ((qCallR hS rfl rfl call_10 (spec_AutoOk_ok ha22) ⟨.aggL ⟨.same _, .same _, .same _, .row (k := 0) rfl, trivial⟩, trivial⟩ (by constructor))) ?_
  refine ASL.q (v := (.bool (!a22))) rfl rfl (Light.quiet (opNot rfl rfl)) ?_
  obtain ⟨c24, hc24, hF⟩ := bndE hF
  refine ASL.q (v := (.bool c24)) rfl rfl ((Quiet.cast (Light.quiet (opMove rfl rfl)) (congrArg AV.bool hc24.symm))) ?_
  refine ASL.g (v := (.list 4 (List.map TEdge.av p3))) (.bool c24) false rfl (wF _) rfl (fun hG => by have q0 := gN hG; subst q0; exact Light.quiet (opMove rfl rfl)) ?_
  refine ASL.g (v := (.int .i64 (p3.length : Int))) (.bool c24) false rfl (wF _) rfl (fun hG => by have q0 := gN hG; subst q0; exact Light.quiet (opLenMap (f := TEdge.av) rfl rfl rfl lenT_24 rfl)) ?_
  refine ASL.g (v := (.bool (decide (((p3.length : Int)) > 2000)))) (.bool c24) false rfl (wF _) rfl (fun hG => by have q0 := gN hG; subst q0; exact Light.quiet (opInt rfl rfl rfl rfl)) ?_
  refine ASL.q (v := (.bool (c24 || (decide (((p3.length : Int)) > 2000))))) rfl rfl (Light.quiet (opPick (b := c24) rfl rfl (by cases c24 <;> rfl))) ?_
  refine ASL.done ?_
  refine AWP.ifB hF rfl (fun hc9 hF => ?_) (fun hc9 hF => ?_)
  · skip
    refine AWP.seqR rfl ?_
    refine ASL.q (v := (.agg [(.int .i64 0), (.int .i64 0), (.int .i64 0), .nil])) rfl rfl (Light.quiet (opBuildZ (zs := [(.int .i64 0), (.int .i64 0), (.int .i64 0), .nil]) rfl plan_26 zeroA_26 ⟨.inl rfl, .inl rfl, .inl rfl, .inl rfl, trivial⟩ rfl)) ?_
    have hS := hNil (s := 4) (f := TEdge.av) hS
    refine ASL.n rfl rfl (hPutA hS (j := 4) rfl rfl sizeA_26 rfl rfl rfl rfl (allC rfl (allC rfl (allC rfl (allC (hS.one (k := 0) rfl) rfl)))) (nlt rfl) ?_); rintro G10 hS
    refine ASL.q (v := (.bool false)) rfl rfl (Light.quiet (opAssign rfl rfl)) ?_
    refine ASL.done ?_
    refine AWP.ret ?_
    refine QThen.rt ?_
    obtain rfl := someE hF
    exact QRet.many (vs := [(.agg [(.int .i64 0), (.int .i64 0), (.int .i64 0), .nil]), (.bool false)]) ⟨resOne.at hS (k := 4) rfl rfl aggA_26 sizeA_26, rfl, trivial⟩ (by simp) ⟨_, ⟨.nil, rfl, rfl⟩, hS.pick [0, 6] rfl rfl⟩
  · skip
    refine AWP.skip ?_
    refine QThen.nrm ?_
    refine AWP.seqR rfl ?_
    refine ASL.q (v := (.int .i64 p1)) rfl rfl (Light.quiet (opMove rfl rfl)) ?_
    refine ASL.q (v := (.int .i64 p0)) rfl rfl (Light.quiet (opMove rfl rfl)) ?_
    refine ASL.q (v := (.int .i64 (W (p1 * p0)))) rfl rfl (Light.quiet (opInt rfl rfl rfl rfl)) ?_
    refine ASL.q (v := (.int .i64 p1)) rfl rfl (Light.quiet (opMove rfl rfl)) ?_
    refine ASL.q (v := (.int .i64 (W (((W (p1 * p0))) * p1)))) rfl rfl (Light.quiet (opInt rfl rfl rfl rfl)) ?_
    obtain ⟨z35, hz35, hF⟩ := bindE hF
    refine ASL.x rfl rfl (hMk (f := (AV.int .i64)) hS hz35 (by decide) rfl elemA_27 sizeA_3 bytesA_3 zeroA_3 rfl rfl (by decide) rfl rfl ?_); rintro v35 G12 hK hS
    refine ASL.q (v := v35) rfl rfl (Light.quiet (opAssign rfl rfl)) ?_
    refine ASL.done ?_
    refine AWP.seqM (fun e H => ∃ y14 : Int, ∃ y15 : Int, ∃ y16 : Int, ∃ y17 : (List TEdge), ∃ y20 : (List Int), ∃ w18 : AV, E.Told e [(0, (.int .i64 p0)), (1, (.int .i64 p1)), (8, (.ptr b8 0)), (10, (.ptr b10 0)), (11, v35)] ∧ E.Sep H [.row 4 w18 (List.map TEdge.av y17), .cell b8 [(.int .i64 y14), (.int .i64 y15), (.int .i64 y16), w18], .row 4 .nil (List.map TEdge.av ([])), .cell b10 [(.int .i64 p0), (.int .i64 p1), (.int .i64 p2), .nil], .row 1 v35 (List.map (AV.int .i64) y20), .snap S] ∧ spec_AutoMake.k0 p1 p0 p2 y14 y15 y16 y17 y20 = some r) ?_ ?_
    · rintro e0 G51 ⟨y14, y15, y16, y17, y20, w18, hT, hS, hF⟩; refine AWP.only _ hT ?_; unfold spec_AutoMake.k0 at hF
      refine AWP.seqM (fun e H => ∃ y21 : Int, ∃ y22 : Int, ∃ y23 : Int, ∃ y24 : (List TEdge), ∃ w25 : AV, E.Told e [(8, (.ptr b8 0)), (10, (.ptr b10 0))] ∧ E.Sep H [.row 4 w18 (List.map TEdge.av y17), .cell b8 [(.int .i64 y14), (.int .i64 y15), (.int .i64 y16), w18], .row 4 w25 (List.map TEdge.av y24), .cell b10 [(.int .i64 y21), (.int .i64 y22), (.int .i64 y23), w25], .snap S] ∧ spec_AutoMake.k1 y21 y22 y23 y24 = some r) ?_ ?_
      · rintro e0 G28 ⟨y21, y22, y23, y24, w25, hT, hS, hF⟩; refine AWP.only _ hT ?_; unfold spec_AutoMake.k1 at hF
        refine AWP.seqR rfl ?_
        refine ASL.q (v := (.agg [(.int .i64 y21), (.int .i64 y22), (.int .i64 y23), w25])) rfl rfl (Light.quiet (kAtA hS (j := 3) rfl rfl aggA_26 sizeA_26 rfl (nlt rfl) rfl)) ?_
        refine ASL.n rfl rfl (hPutA hS (j := 1) rfl rfl sizeA_26 rfl rfl rfl rfl (allC rfl (allC rfl (allC rfl (allC (hS.one (k := 2) rfl) rfl)))) (nlt rfl) ?_); rintro G27 hS
        refine ASL.q (v := (.bool true)) rfl rfl (Light.quiet (opAssign rfl rfl)) ?_
        refine ASL.done ?_
        refine AWP.ret ?_
        obtain rfl := someE hF
        exact QRet.many (vs := [(.agg [(.int .i64 y21), (.int .i64 y22), (.int .i64 y23), w25]), (.bool true)]) ⟨resOne.at hS (k := 1) rfl rfl aggA_26 sizeA_26, rfl, trivial⟩ (by simp) ⟨_, ⟨w25, rfl, rfl⟩, hS.pick [2, 4] rfl rfl⟩
      · skip
        refine AWP.seqR rfl ?_
        refine ASL.q (v := (.int .i64 0)) rfl rfl (Light.quiet (opAssign rfl rfl)) ?_
        refine ASL.done ?_
        refine AWP.block ?_
        obtain ⟨o38, hL37, hR39⟩ := bindE hF
        refine AWP.loopF (ω := AV) hL37 (fun s w => [(0, (.int .i64 p0)), (1, (.int .i64 p1)), (8, (.ptr b8 0)), (10, (.ptr b10 0)), (11, v35), (16, (.int .i64 s.2.2.2.2))]) (fun s w => [.row 4 w18 (List.map TEdge.av y17), .cell b8 [(.int .i64 y14), (.int .i64 y15), (.int .i64 y16), w18], .row 4 w (List.map TEdge.av s.2.2.2.1), .cell b10 [(.int .i64 s.1), (.int .i64 s.2.1), (.int .i64 s.2.2.1), w], .row 1 v35 (List.map (AV.int .i64) y20), .snap S]) .nil ⟨rfl, rfl, rfl, rfl, rfl, rfl, trivial⟩ (hS.pick [0, 1, 2, 3, 4, 5] rfl rfl) ?_
        rintro ⟨y29, y30, y31, y32, x16_l0⟩ w33 G40 hS x35 hF hx36
        try dsimp only at hS ⊢
        have hF : spec_AutoMake.b0 y20 p1 p0 y29 y30 y31 y32 x16_l0 = some x35 := hF; unfold spec_AutoMake.b0 at hF
        refine AWP.seq ?_
        refine AWP.seqR rfl ?_
        refine ASL.q (v := (.int .i64 x16_l0)) rfl rfl (Light.quiet (opMove rfl rfl)) ?_
        refine ASL.q (v := v35) rfl rfl (Light.quiet (opMove rfl rfl)) ?_
        refine ASL.q (v := (.int .i64 (y20.length : Int))) rfl rfl (Light.quiet (kLen hS (j := 4) rfl rfl rfl rfl lenT_27 rfl)) ?_
        refine ASL.q (v := (.bool (decide (x16_l0 < ((y20.length : Int)))))) rfl rfl (Light.quiet (opInt rfl rfl rfl rfl)) ?_
        refine ASL.done ?_
        refine AWP.ifP hF rfl (fun hc41 hF => ?_) (fun hc41 hF => ?_)
        · skip
          refine AWP.skip ?_
          refine QThen.nrm ?_
          refine AWP.seq ?_
          refine AWP.block ?_
          refine AWP.seqR rfl ?_
          refine ASL.q (v := v35) rfl rfl (Light.quiet (opMove rfl rfl)) ?_
          refine ASL.q (v := (.int .i64 x16_l0)) rfl rfl (Light.quiet (opMove rfl rfl)) ?_
          obtain ⟨a98, ha98, hF⟩ := bindE hF
          refine ASL.q (v := (ptrTo v35 x16_l0.toNat 1)) rfl rfl (Light.quiet (kIxOx hS (j := 4) rfl ha98 rfl rfl rfl elemA_27 sizeA_3)) ?_
          refine ASL.q (v := (.int .i64 a98)) rfl rfl (Light.quiet (kLd (f := (AV.int .i64)) hS (j := 4) rfl ha98 rfl aggA_3 rfl (fun _ => rfl))) ?_
          refine ASL.q (v := (.bool (decide (a98 > 0)))) rfl rfl (Light.quiet (opInt rfl rfl rfl rfl)) ?_
          refine ASL.done ?_
          refine AWP.ifP hF rfl (fun hc42 hF => ?_) (fun hc42 hF => ?_)
          · skip
            refine AWP.lastD [(0, false), (1, false), (2, false), (3, false), (4, false), (5, false), (6, false), (7, false), (8, false), (9, false), (10, false), (11, false), (12, false), (13, false), (14, false), (15, false), (16, false), (17, false), (18, false), (19, false), (20, false), (21, false), (22, true), (23, false), (24, true)] mixed (by kernel_rfl) rfl ?_
            refine ARL.q0 (v := (.ptr b10 3)) rfl rfl (Light.quiet (opFieldAddr rfl fieldA_26_3 rfl rfl)) ?_
            refine ARL.q (v := w33) rfl rfl (hS.aliveC (k := 3) rfl) (Light.quiet (kAt hS (j := 3) rfl rfl aggA_24 rfl rfl)) ?_
            refine ARL.q0 (v := (.int .i64 x16_l0)) rfl rfl (Light.quiet (opMove rfl rfl)) ?_
            refine ARL.q0 (v := (.int .i64 p1)) rfl rfl (Light.quiet (opMove rfl rfl)) ?_
            obtain ⟨u43, hu43, hF⟩ := bindE hF
            refine ARL.q0 (v := (.int .i64 (quo .i64 x16_l0 p1))) rfl rfl (Light.quiet (opQuo rfl rfl rfl (of_decide_eq_true (chkE hu43)) rfl)) ?_
            refine ARL.q0 (v := (.int .i64 p0)) rfl rfl (Light.quiet (opMove rfl rfl)) ?_
            obtain ⟨u44, hu44, hF⟩ := bindE hF
            refine ARL.q0 (v := (.int .i64 (quo .i64 ((quo .i64 x16_l0 p1)) p0))) rfl rfl (Light.quiet (opQuo rfl rfl rfl (of_decide_eq_true (chkE hu44)) rfl)) ?_
            refine ARL.q0 (v := (.int .i64 x16_l0)) rfl rfl (Light.quiet (opMove rfl rfl)) ?_
            refine ARL.q0 (v := (.int .i64 p1)) rfl rfl (Light.quiet (opMove rfl rfl)) ?_
            obtain ⟨u45, hu45, hF⟩ := bindE hF
            refine ARL.q0 (v := (.int .i64 (quo .i64 x16_l0 p1))) rfl rfl (Light.quiet (opQuo rfl rfl rfl (of_decide_eq_true (chkE hu45)) rfl)) ?_
            refine ARL.q0 (v := (.int .i64 p0)) rfl rfl (Light.quiet (opMove rfl rfl)) ?_
            obtain ⟨u46, hu46, hF⟩ := bindE hF
            refine ARL.q0 (v := (.int .i64 (Int.tmod ((quo .i64 x16_l0 p1)) p0))) rfl rfl (Light.quiet (opRem rfl rfl rfl (of_decide_eq_true (chkE hu46)) rfl)) ?_
            refine ARL.q0 (v := (.int .i64 x16_l0)) rfl rfl (Light.quiet (opMove rfl rfl)) ?_
            refine ARL.q0 (v := (.int .i64 p1)) rfl rfl (Light.quiet (opMove rfl rfl)) ?_
            obtain ⟨u47, hu47, hF⟩ := bindE hF
            refine ARL.q0 (v := (.int .i64 (Int.tmod x16_l0 p1))) rfl rfl (Light.quiet (opRem rfl rfl rfl (of_decide_eq_true (chkE hu47)) rfl)) ?_
            refine ARL.q0 (v := v35) rfl rfl (Light.quiet (opMove rfl rfl)) ?_
            refine ARL.q0 (v := (.int .i64 x16_l0)) rfl rfl (Light.quiet (opMove rfl rfl)) ?_
            obtain ⟨a118, ha118, hF⟩ := bindE hF
            refine ARL.q0 (v := (ptrTo v35 x16_l0.toNat 1)) rfl rfl (Light.quiet (kIxOx hS (j := 4) rfl ha118 rfl rfl rfl elemA_27 sizeA_3)) ?_
            refine ARL.q (v := (.int .i64 a118)) rfl rfl (hS.aliveR (k := 4) rfl) (Light.quiet (kLd (f := (AV.int .i64)) hS (j := 4) rfl ha118 rfl aggA_3 rfl (fun _ => rfl))) ?_
            refine ARL.q0 (v := (.bool (decide (a118 = 2)))) rfl rfl (Light.quiet (opInt rfl rfl rfl rfl)) ?_
            refine ARL.q0 (v := (.agg [(.int .i64 (quo .i64 ((quo .i64 x16_l0 p1)) p0)), (.int .i64 (Int.tmod ((quo .i64 x16_l0 p1)) p0)), (.int .i64 (Int.tmod x16_l0 p1)), (.bool (decide (a118 = 2)))])) rfl rfl (Light.quiet (opBuildZ (zs := [(.int .i64 0), (.int .i64 0), (.int .i64 0), (.bool false)]) rfl plan_73 zeroA_73 ⟨.inl rfl, .inl rfl, .inl rfl, .inl rfl, trivial⟩ rfl)) ?_
            refine ARL.q0 (v := (.list 4 (List.map TEdge.av [(TEdge.mk ((quo .i64 ((quo .i64 x16_l0 p1)) p0)) ((Int.tmod ((quo .i64 x16_l0 p1)) p0)) ((Int.tmod x16_l0 p1)) ((decide (a118 = 2))))]))) rfl rfl ((qLit (xs := [(.agg [(.int .i64 (quo .i64 ((quo .i64 x16_l0 p1)) p0)), (.int .i64 (Int.tmod ((quo .i64 x16_l0 p1)) p0)), (.int .i64 (Int.tmod x16_l0 p1)), (.bool (decide (a118 = 2)))])]) rfl elemA_24 sizeA_73 zeroA_73 rfl rfl rfl rfl (by simp [cells, TEdge.av]) (nlt rfl))) ?_
            obtain ⟨z123, hz123, hF⟩ := bindE hF
            refine ARL.y rfl rfl rfl rfl (hApp (f := TEdge.av) (ws := [(TEdge.mk ((quo .i64 ((quo .i64 x16_l0 p1)) p0)) ((Int.tmod ((quo .i64 x16_l0 p1)) p0)) ((Int.tmod x16_l0 p1)) ((decide (a118 = 2))))]) hS (j := 2) rfl hz123 rfl elemA_24 rfl sizeA_73 bytesA_73 zeroA_73 rfl rfl rfl (fun _ => rfl) ?_); rintro v123 G48 hS
            refine ARL.q0 (v := (.ptr b10 3)) rfl rfl (Light.quiet (opFieldAddr rfl fieldA_26_3 rfl rfl)) ?_
            refine ARL.n rfl rfl rfl rfl (hPut hS (j := 3) rfl rfl sizeA_24 rfl rfl (hS.one (k := 2) rfl) (nlt rfl) ?_); rintro G50 hS
            refine ARL.done ?_
            refine QBlock.nrm ?_
            refine QThen.nrm ?_
            refine AWP.lastR rfl ?_
            refine ASL.q (v := (.int .i64 x16_l0)) rfl rfl (Light.quiet (opMove rfl rfl)) ?_
            refine ASL.q (v := (.int .i64 (W (x16_l0 + 1)))) rfl rfl (Light.quiet (opInt rfl rfl rfl rfl)) ?_
            refine ASL.q (v := (.int .i64 (W (x16_l0 + 1)))) rfl rfl (Light.quiet (opAssign rfl rfl)) ?_
            refine ASL.done ?_
            refine QThen.nrm ?_
            exact ⟨(y29, y30, y31, z123, (W (x16_l0 + 1))), v123, (someE hF).symm, ⟨rfl, rfl, rfl, rfl, rfl, rfl, trivial⟩, (hS.pick [0, 1, 2, 3, 4, 5] rfl rfl)⟩
          · skip
            refine AWP.skip ?_
            refine QBlock.nrm ?_
            refine QThen.nrm ?_
            refine AWP.lastR rfl ?_
            refine ASL.q (v := (.int .i64 x16_l0)) rfl rfl (Light.quiet (opMove rfl rfl)) ?_
            refine ASL.q (v := (.int .i64 (W (x16_l0 + 1)))) rfl rfl (Light.quiet (opInt rfl rfl rfl rfl)) ?_
            refine ASL.q (v := (.int .i64 (W (x16_l0 + 1)))) rfl rfl (Light.quiet (opAssign rfl rfl)) ?_
            refine ASL.done ?_
            refine QThen.nrm ?_
            exact ⟨(y29, y30, y31, y32, (W (x16_l0 + 1))), w33, (someE hF).symm, ⟨rfl, rfl, rfl, rfl, rfl, rfl, trivial⟩, (hS.pick [0, 1, 2, 3, 4, 5] rfl rfl)⟩
        · skip
          refine AWP.exit ?_
          refine QThen.ext ?_
          refine QThen.ext ?_
          refine QBlock.hit ?_
          obtain rfl := (hx36 _ (someE hF).symm)
          have hF := hR39
          refine QThen.nrm ?_
          exact ⟨y29, y30, y31, y32, w33, ⟨rfl, rfl, trivial⟩, (hS.pick [0, 1, 2, 3, 5] rfl rfl), hF⟩
    · skip
      refine AWP.seqR rfl ?_
      refine ASL.q (v := (.int .i64 0)) rfl rfl (Light.quiet (opAssign rfl rfl)) ?_
      refine ASL.done ?_
      refine AWP.block ?_
      obtain ⟨o62, hL61, hR63⟩ := bindE hF
      refine AWP.loopF (ω := AV) hL61 (fun s w => [(0, (.int .i64 p0)), (1, (.int .i64 p1)), (3, (.list 4 (List.map TEdge.av p3))), (8, (.ptr b8 0)), (10, (.ptr b10 0)), (11, v35), (12, (.int .i64 s.2.2.2.2.2))]) (fun s w => [.row 4 w (List.map TEdge.av s.2.2.2.1), .cell b8 [(.int .i64 s.1), (.int .i64 s.2.1), (.int .i64 s.2.2.1), w], .row 4 .nil (List.map TEdge.av ([])), .cell b10 [(.int .i64 p0), (.int .i64 p1), (.int .i64 p2), .nil], .row 1 v35 (List.map (AV.int .i64) s.2.2.2.2.1), .snap S]) .nil ⟨rfl, rfl, rfl, rfl, rfl, rfl, rfl, trivial⟩ (hS.pick [5, 4, 1, 2, 0, 6] rfl rfl) ?_
      rintro ⟨y52, y53, y54, y55, y58, x12_l1⟩ w56 G64 hS x59 hF hx60
      try dsimp only at hS ⊢
      have hF : spec_AutoMake.b1 p3 p1 p0 y52 y53 y54 y55 y58 x12_l1 = some x59 := hF; unfold spec_AutoMake.b1 at hF
      refine AWP.seq ?_
      refine AWP.seqR rfl ?_
      refine ASL.q (v := (.int .i64 x12_l1)) rfl rfl (Light.quiet (opMove rfl rfl)) ?_
      refine ASL.q (v := (.list 4 (List.map TEdge.av p3))) rfl rfl (Light.quiet (opMove rfl rfl)) ?_
      refine ASL.q (v := (.int .i64 (p3.length : Int))) rfl rfl (Light.quiet (opLenMap (f := TEdge.av) rfl rfl rfl lenT_24 rfl)) ?_
      refine ASL.q (v := (.bool (decide (x12_l1 < ((p3.length : Int)))))) rfl rfl (Light.quiet (opInt rfl rfl rfl rfl)) ?_
      refine ASL.done ?_
      refine AWP.ifP hF rfl (fun hc65 hF => ?_) (fun hc65 hF => ?_)
      · skip
        refine AWP.skip ?_
        refine QThen.nrm ?_
        refine AWP.seq ?_
        refine AWP.block ?_
        refine AWP.seqR rfl ?_
        refine ASL.q (v := (.list 4 (List.map TEdge.av p3))) rfl rfl (Light.quiet (opMove rfl rfl)) ?_
        refine ASL.q (v := (.int .i64 x12_l1)) rfl rfl (Light.quiet (opMove rfl rfl)) ?_
        obtain ⟨a44, ha44, hF⟩ := bindE hF
        refine ASL.q (v := (.rptr [(.int .i64 a44.from_), (.int .i64 a44.letter), (.int .i64 a44.to_), (.bool a44.good)])) rfl rfl (Light.quiet (kIx (f := TEdge.av) ha44 rfl rfl rfl elemA_24 sizeA_73 rfl)) ?_
        refine ASL.q (v := (TEdge.av a44)) rfl rfl (Light.quiet (opLoadRA rfl aggA_73 sizeA_73 rfl (nlt rfl) rfl)) ?_
        refine ASL.x rfl rfl (hNewZ hS [(.int .i64 0), (.int .i64 0), (.int .i64 0), (.bool false)] rfl zeroA_73 ⟨.inl rfl, .inl rfl, .inl rfl, .inl rfl, trivial⟩ ?_); rintro b13 G66 hK hS
        refine ASL.n rfl rfl (hPutA hS (j := 0) rfl rfl sizeA_73 rfl rfl rfl rfl rfl (nlt rfl) ?_); rintro G68 hS
        refine ASL.done ?_
        refine AWP.seq ?_
        refine AWP.seqR rfl ?_
        refine ASL.q (v := (.ptr b13 0)) rfl rfl (Light.quiet (opFieldAddr rfl fieldA_73_0 rfl rfl)) ?_
        refine ASL.q (v := (.int .i64 a44.from_)) rfl rfl (Light.quiet (kAt hS (j := 0) rfl rfl aggA_3 rfl rfl)) ?_
        refine ASL.q (v := (.int .i64 p1)) rfl rfl (Light.quiet (opMove rfl rfl)) ?_
        refine ASL.q (v := (.bool (spec_l4State a44.from_ p1))) rfl rfl ((qCall rfl rfl call_43 (spec_l4State_ok a44.from_ p1) rfl)) ?_
        refine ASL.q (v := (.bool (!(spec_l4State a44.from_ p1)))) rfl rfl (Light.quiet (opNot rfl rfl)) ?_
        obtain ⟨c51, hc51, hF⟩ := bndE hF
        refine ASL.q (v := (.bool c51)) rfl rfl ((Quiet.cast (Light.quiet (opMove rfl rfl)) (congrArg AV.bool hc51.symm))) ?_
        refine ASL.g (v := (.ptr b13 2)) (.bool c51) false rfl (wF _) rfl (fun hG => by have q0 := gN hG; subst q0; exact Light.quiet (opFieldAddr rfl fieldA_73_2 rfl rfl)) ?_
        refine ASL.g (v := (.int .i64 a44.to_)) (.bool c51) false rfl (wF _) rfl (fun hG => by have q0 := gN hG; subst q0; exact Light.quiet (kAt hS (j := 0) rfl rfl aggA_3 rfl rfl)) ?_
        refine ASL.g (v := (.int .i64 p1)) (.bool c51) false rfl (wF _) rfl (fun hG => by have q0 := gN hG; subst q0; exact Light.quiet (opMove rfl rfl)) ?_
        refine ASL.g (v := (.bool (spec_l4State a44.to_ p1))) (.bool c51) false rfl (wF _) rfl (fun hG => by have q0 := gN hG; subst q0; exact (qCall rfl rfl call_43 (spec_l4State_ok a44.to_ p1) rfl)) ?_
        refine ASL.g (v := (.bool (!(spec_l4State a44.to_ p1)))) (.bool c51) false rfl (wF _) rfl (fun hG => by have q0 := gN hG; subst q0; exact Light.quiet (opNot rfl rfl)) ?_
        refine ASL.q (v := (.bool (c51 || (!(spec_l4State a44.to_ p1))))) rfl rfl (Light.quiet (opPick (b := c51) rfl rfl (by cases c51 <;> rfl))) ?_
        obtain ⟨c58, hc58, hF⟩ := bndE hF
        refine ASL.q (v := (.bool c58)) rfl rfl ((Quiet.cast (Light.quiet (opMove rfl rfl)) (congrArg AV.bool hc58.symm))) ?_
        refine ASL.g (v := (.ptr b13 1)) (.bool c58) false rfl (wF _) rfl (fun hG => by have q0 := gN hG; subst q0; exact Light.quiet (opFieldAddr rfl fieldA_73_1 rfl rfl)) ?_
        refine ASL.g (v := (.int .i64 a44.letter)) (.bool c58) false rfl (wF _) rfl (fun hG => by have q0 := gN hG; subst q0; exact Light.quiet (kAt hS (j := 0) rfl rfl aggA_3 rfl rfl)) ?_
        refine ASL.g (v := (.int .i64 p0)) (.bool c58) false rfl (wF _) rfl (fun hG => by have q0 := gN hG; subst q0; exact Light.quiet (opMove rfl rfl)) ?_
        refine ASL.g (v := (.int .i64 (W (p0 - 1)))) (.bool c58) false rfl (wF _) rfl (fun hG => by have q0 := gN hG; subst q0; exact Light.quiet (opInt rfl rfl rfl rfl)) ?_
        refine ASL.g (v := (.bool (spec_l1In a44.letter 0 ((W (p0 - 1)))))) (.bool c58) false rfl (wF _) rfl (fun hG => by have q0 := gN hG; subst q0; exact (qCall rfl rfl call_41 (spec_l1In_ok a44.letter 0 ((W (p0 - 1)))) rfl)) ?_
        refine ASL.g (v := (.bool (!(spec_l1In a44.letter 0 ((W (p0 - 1))))))) (.bool c58) false rfl (wF _) rfl (fun hG => by have q0 := gN hG; subst q0; exact Light.quiet (opNot rfl rfl)) ?_
        refine ASL.q (v := (.bool (c58 || (!(spec_l1In a44.letter 0 ((W (p0 - 1)))))))) rfl rfl (Light.quiet (opPick (b := c58) rfl rfl (by cases c58 <;> rfl))) ?_
        refine ASL.done ?_
        refine AWP.ifB hF rfl (fun hc69 hF => ?_) (fun hc69 hF => ?_)
        · skip
          refine AWP.seqR rfl ?_
          refine ASL.q (v := (.agg [(.int .i64 0), (.int .i64 0), (.int .i64 0), .nil])) rfl rfl (Light.quiet (opBuildZ (zs := [(.int .i64 0), (.int .i64 0), (.int .i64 0), .nil]) rfl plan_26 zeroA_26 ⟨.inl rfl, .inl rfl, .inl rfl, .inl rfl, trivial⟩ rfl)) ?_
          have hS := hNil (s := 4) (f := TEdge.av) hS
          refine ASL.n rfl rfl (hPutA hS (j := 3) rfl rfl sizeA_26 rfl rfl rfl rfl (allC rfl (allC rfl (allC rfl (allC (hS.one (k := 0) rfl) rfl)))) (nlt rfl) ?_); rintro G70 hS
          refine ASL.q (v := (.bool false)) rfl rfl (Light.quiet (opAssign rfl rfl)) ?_
          refine ASL.done ?_
          refine AWP.ret ?_
          refine QThen.rt ?_
          refine QBlock.ret ?_
          refine QThen.rt ?_
          refine QThen.rt ?_
          refine QBlock.ret ?_
          refine QThen.rt ?_
          obtain rfl := (hx60 _ (someE hF).symm)
          have hF := hR63
          have hF := sumR hF
          obtain rfl := someE hF
          exact QRet.many (vs := [(.agg [(.int .i64 0), (.int .i64 0), (.int .i64 0), .nil]), (.bool false)]) ⟨resOne.at hS (k := 3) rfl rfl aggA_26 sizeA_26, rfl, trivial⟩ (by simp) ⟨_, ⟨.nil, rfl, rfl⟩, hS.pick [0, 7] rfl rfl⟩
        · skip
          refine AWP.skip ?_
          refine QThen.nrm ?_
          refine AWP.seqR rfl ?_
          refine ASL.q (v := (.ptr b13 0)) rfl rfl (Light.quiet (opFieldAddr rfl fieldA_73_0 rfl rfl)) ?_
          refine ASL.q (v := (.int .i64 a44.from_)) rfl rfl (Light.quiet (kAt hS (j := 0) rfl rfl aggA_3 rfl rfl)) ?_
          refine ASL.q (v := (.int .i64 p0)) rfl rfl (Light.quiet (opMove rfl rfl)) ?_
          refine ASL.q (v := (.int .i64 (W (a44.from_ * p0)))) rfl rfl (Light.quiet (opInt rfl rfl rfl rfl)) ?_
          refine ASL.q (v := (.ptr b13 1)) rfl rfl (Light.quiet (opFieldAddr rfl fieldA_73_1 rfl rfl)) ?_
          refine ASL.q (v := (.int .i64 a44.letter)) rfl rfl (Light.quiet (kAt hS (j := 0) rfl rfl aggA_3 rfl rfl)) ?_
          refine ASL.q (v := (.int .i64 (W (((W (a44.from_ * p0))) + a44.letter)))) rfl rfl (Light.quiet (opInt rfl rfl rfl rfl)) ?_
          refine ASL.q (v := (.int .i64 p1)) rfl rfl (Light.quiet (opMove rfl rfl)) ?_
          refine ASL.q (v := (.int .i64 (W (((W (((W (a44.from_ * p0))) + a44.letter))) * p1)))) rfl rfl (Light.quiet (opInt rfl rfl rfl rfl)) ?_
          refine ASL.q (v := (.ptr b13 2)) rfl rfl (Light.quiet (opFieldAddr rfl fieldA_73_2 rfl rfl)) ?_
          refine ASL.q (v := (.int .i64 a44.to_)) rfl rfl (Light.quiet (kAt hS (j := 0) rfl rfl aggA_3 rfl rfl)) ?_
          refine ASL.q (v := (.int .i64 (W (((W (((W (((W (a44.from_ * p0))) + a44.letter))) * p1))) + a44.to_)))) rfl rfl (Light.quiet (opInt rfl rfl rfl rfl)) ?_
          refine ASL.q (v := (.int .i64 (W (((W (((W (((W (a44.from_ * p0))) + a44.letter))) * p1))) + a44.to_)))) rfl rfl (Light.quiet (opAssign rfl rfl)) ?_
          refine ASL.done ?_
          refine AWP.seqR rfl ?_
          refine ASL.q (v := (.int .i64 1)) rfl rfl (Light.quiet (opAssign rfl rfl)) ?_
          refine ASL.done ?_
          refine AWP.seqM (fun e H => ∃ x15_3 : Int, E.Told e [(0, (.int .i64 p0)), (1, (.int .i64 p1)), (3, (.list 4 (List.map TEdge.av p3))), (8, (.ptr b8 0)), (10, (.ptr b10 0)), (11, v35), (12, (.int .i64 x12_l1)), (14, (.int .i64 (W (((W (((W (((W (a44.from_ * p0))) + a44.letter))) * p1))) + a44.to_)))), (15, (.int .i64 x15_3))] ∧ E.Sep H [.row 4 w56 (List.map TEdge.av y55), .cell b8 [(.int .i64 y52), (.int .i64 y53), (.int .i64 y54), w56], .row 4 .nil (List.map TEdge.av ([])), .cell b10 [(.int .i64 p0), (.int .i64 p1), (.int .i64 p2), .nil], .row 1 v35 (List.map (AV.int .i64) y58), .snap S] ∧ spec_AutoMake.k2 y58 a44 p0 p1 y52 y53 y54 y55 x12_l1 x15_3 = some x59) ?_ ?_
          · rintro e0 G73 ⟨x15_3, hT, hS, hF⟩; refine AWP.only _ hT ?_; unfold spec_AutoMake.k2 at hF
            refine AWP.lastR rfl ?_
            refine ASL.q (v := v35) rfl rfl (Light.quiet (opMove rfl rfl)) ?_
            refine ASL.q (v := (.int .i64 (W (((W (((W (((W (a44.from_ * p0))) + a44.letter))) * p1))) + a44.to_)))) rfl rfl (Light.quiet (opMove rfl rfl)) ?_
            refine ASL.q (v := v35) rfl rfl (Light.quiet (opMove rfl rfl)) ?_
            refine ASL.q (v := (.int .i64 (W (((W (((W (((W (a44.from_ * p0))) + a44.letter))) * p1))) + a44.to_)))) rfl rfl (Light.quiet (opMove rfl rfl)) ?_
            obtain ⟨a85, ha85, hF⟩ := bindE hF
            refine ASL.q (v := (ptrTo v35 ((W (((W (((W (((W (a44.from_ * p0))) + a44.letter))) * p1))) + a44.to_))).toNat 1)) rfl rfl (Light.quiet (kIxOx hS (j := 4) rfl ha85 rfl rfl rfl elemA_27 sizeA_3)) ?_
            refine ASL.q (v := (.int .i64 a85)) rfl rfl (Light.quiet (kLd (f := (AV.int .i64)) hS (j := 4) rfl ha85 rfl aggA_3 rfl (fun _ => rfl))) ?_
            refine ASL.q (v := (.int .i64 x15_3)) rfl rfl (Light.quiet (opMove rfl rfl)) ?_
            refine ASL.q (v := (.int .i64 (spec_l1Max a85 x15_3))) rfl rfl ((qCall rfl rfl call_94 (spec_l1Max_ok a85 x15_3) rfl)) ?_
            obtain ⟨m89, hm89, hF⟩ := bindE hF
            refine ASL.q (v := (ptrTo v35 m89 1)) rfl rfl (Light.quiet (kIxO hS (j := 4) rfl hm89 rfl rfl rfl elemA_27 sizeA_3)) ?_
            refine ASL.n rfl rfl (hSt (f := (AV.int .i64)) (a := (spec_l1Max a85 x15_3)) hS (j := 4) rfl hm89 rfl sizeA_3 rfl rfl ⟨rfl, rfl, rfl⟩ ?_); rintro G72 hS
            refine ASL.done ?_
            refine QBlock.nrm ?_
            refine QThen.nrm ?_
            refine AWP.lastR rfl ?_
            refine ASL.q (v := (.int .i64 x12_l1)) rfl rfl (Light.quiet (opMove rfl rfl)) ?_
            refine ASL.q (v := (.int .i64 (W (x12_l1 + 1)))) rfl rfl (Light.quiet (opInt rfl rfl rfl rfl)) ?_
            refine ASL.q (v := (.int .i64 (W (x12_l1 + 1)))) rfl rfl (Light.quiet (opAssign rfl rfl)) ?_
            refine ASL.done ?_
            refine QThen.nrm ?_
            exact ⟨(y52, y53, y54, y55, (y58.set m89 ((spec_l1Max a85 x15_3))), (W (x12_l1 + 1))), w56, (someE hF).symm, ⟨rfl, rfl, rfl, rfl, rfl, rfl, rfl, trivial⟩, (hS.pick [0, 1, 2, 3, 4, 5] rfl rfl)⟩
          · skip
            refine AWP.seqR rfl ?_
            refine ASL.q (v := (.ptr b13 3)) rfl rfl (Light.quiet (opFieldAddr rfl fieldA_73_3 rfl rfl)) ?_
            refine ASL.q (v := (.bool a44.good)) rfl rfl (Light.quiet (kAt hS (j := 0) rfl rfl aggA_4 rfl rfl)) ?_
            refine ASL.done ?_
            refine AWP.ifB hF rfl (fun hc74 hF => ?_) (fun hc74 hF => ?_)
            · skip
              refine AWP.lastR rfl ?_
              refine ASL.q (v := (.int .i64 2)) rfl rfl (Light.quiet (opAssign rfl rfl)) ?_
              refine ASL.done ?_
              refine QThen.nrm ?_
              exact ⟨2, ⟨rfl, rfl, rfl, rfl, rfl, rfl, rfl, rfl, rfl, trivial⟩, (hS.pick [1, 2, 3, 4, 5, 6] rfl rfl), hF⟩
            · skip
              refine AWP.skip ?_
              refine QThen.nrm ?_
              exact ⟨1, ⟨rfl, rfl, rfl, rfl, rfl, rfl, rfl, rfl, rfl, trivial⟩, (hS.pick [1, 2, 3, 4, 5, 6] rfl rfl), hF⟩
      · skip
        refine AWP.exit ?_
        refine QThen.ext ?_
        refine QThen.ext ?_
        refine QBlock.hit ?_
        obtain rfl := (hx60 _ (someE hF).symm)
        have hF := hR63
        have hF := sumL hF
        refine QThen.nrm ?_
        exact ⟨y52, y53, y54, y55, y58, w56, ⟨rfl, rfl, rfl, rfl, rfl, trivial⟩, (hS.pick [0, 1, 2, 3, 4, 5] rfl rfl), hF⟩

set_option maxRecDepth 10000 in
theorem spec_l4DrawRight_ok {p0 : Tl1Cur} {p1 : Int} {p2 : Int} {r : (TAuto × Tl1Cur)} {bp0 : Nat} (hF : spec_l4DrawRight p0 p1 p2 = some r) : HS Try.prog 66 [(.ptr bp0 0), (.int .i64 p1), (.int .i64 p2)] [.cell bp0 [(.list 1 (List.map (AV.int .u8) p0.b)), (.int .i64 p0.i), (.int .i64 p0.h)]] fun v L' => ∃ o0_Edges : AV, v = (.agg [(.int .i64 r.1.letters), (.int .i64 r.1.states), (.int .i64 r.1.start), o0_Edges]) ∧ L' = [.row 4 o0_Edges (List.map TEdge.av r.1.edges), .cell bp0 [(.list 1 (List.map (AV.int .u8) r.2.b)), (.int .i64 r.2.i), (.int .i64 r.2.h)]] := by
  intro H S hS
  refine HC.enter Try.func66 rfl Try.ntmps66 (by simp) ?_
  simp only [List.cons_append, List.nil_append] at hS
  unfold spec_l4DrawRight at hF
  refine AWP.seqR rfl ?_
  have hS := hNil (s := 4) (f := TEdge.av) hS
  refine ASL.x rfl rfl (hNewZ hS [(.int .i64 0), (.int .i64 0), (.int .i64 0), .nil] rfl zeroA_26 ⟨.inl rfl, .inl rfl, .inl rfl, .inl rfl, trivial⟩ ?_); rintro b6 G2 hK hS
  refine ASL.done ?_
  refine AWP.seqR rfl ?_
  refine ASL.q (v := (.ptr bp0 0)) rfl rfl (Light.quiet (opMove rfl rfl)) ?_
  refine ASL.q (v := (.int .i64 p2)) rfl rfl (Light.quiet (opMove rfl rfl)) ?_
  obtain ⟨a12, ha12, hF⟩ := bindE hF
  refine ASL.x rfl rfl (hCallS hS [2, 0, 1, 3] (F := [.cell b6 [(.int .i64 0), (.int .i64 0), (.int .i64 0), .nil], .row 4 .nil (List.map TEdge.av ([])), .snap S]) rfl rfl rfl call_55 (spec_l1Below_ok ha12) rfl rfl ?_); rintro _ _ G5 ⟨rfl, rfl⟩ hS
  refine ASL.q (v := (.int .i64 (W (1 + a12.1)))) rfl rfl (Light.quiet (opInt rfl rfl rfl rfl)) ?_
  refine ASL.q (v := (.int .i64 (W (1 + a12.1)))) rfl rfl (Light.quiet (opAssign rfl rfl)) ?_
  refine ASL.done ?_
  refine AWP.seqR rfl ?_
  refine ASL.q (v := (.int .i64 p1)) rfl rfl (Light.quiet (opMove rfl rfl)) ?_
  refine ASL.q (v := (.int .i64 (W (1 + a12.1)))) rfl rfl (Light.quiet (opMove rfl rfl)) ?_
  refine ASL.q (v := (.ptr bp0 0)) rfl rfl (Light.quiet (opMove rfl rfl)) ?_
  refine ASL.q (v := (.int .i64 (W (1 + a12.1)))) rfl rfl (Light.quiet (opMove rfl rfl)) ?_
  obtain ⟨u6, hu6, hF⟩ := bindE hF
  refine ASL.q (v := (.int .i64 (shl .i64 1 ((W (1 + a12.1)))))) rfl rfl (Light.quiet (opShl rfl rfl rfl (of_decide_eq_true (chkE hu6)) rfl)) ?_
  obtain ⟨a20, ha20, hF⟩ := bindE hF
  refine ASL.x rfl rfl (hCallS hS [0, 1, 2, 3] (F := [.cell b6 [(.int .i64 0), (.int .i64 0), (.int .i64 0), .nil], .row 4 .nil (List.map TEdge.av ([])), .snap S]) rfl rfl rfl call_55 (spec_l1Below_ok ha20) rfl rfl ?_); rintro _ _ G7 ⟨rfl, rfl⟩ hS
  refine ASL.q (v := (.int .i64 (bOr .i64 1 a20.1))) rfl rfl (Light.quiet (opInt rfl rfl rfl rfl)) ?_
  refine ASL.q (v := (.ptr bp0 0)) rfl rfl (Light.quiet (opMove rfl rfl)) ?_
  refine ASL.q (v := (.int .i64 p1)) rfl rfl (Light.quiet (opMove rfl rfl)) ?_
  refine ASL.q (v := (.int .i64 (W (1 + a12.1)))) rfl rfl (Light.quiet (opMove rfl rfl)) ?_
  refine ASL.q (v := (.ptr bp0 0)) rfl rfl (Light.quiet (opMove rfl rfl)) ?_
  refine ASL.q (v := (.int .i64 (W (1 + a12.1)))) rfl rfl (Light.quiet (opMove rfl rfl)) ?_
  refine ASL.q (v := (.int .i64 (W (2 * ((W (1 + a12.1))))))) rfl rfl (Light.quiet (opInt rfl rfl rfl rfl)) ?_
  refine ASL.q (v := (.int .i64 p1)) rfl rfl (Light.quiet (opMove rfl rfl)) ?_
  refine ASL.q (v := (.int .i64 (W (((W (2 * ((W (1 + a12.1)))))) * p1)))) rfl rfl (Light.quiet (opInt rfl rfl rfl rfl)) ?_
  obtain ⟨a30, ha30, hF⟩ := bindE hF
  refine ASL.x rfl rfl (hCallS hS [0, 1, 2, 3] (F := [.cell b6 [(.int .i64 0), (.int .i64 0), (.int .i64 0), .nil], .row 4 .nil (List.map TEdge.av ([])), .snap S]) rfl rfl rfl call_55 (spec_l1Below_ok ha30) rfl rfl ?_); rintro _ _ G8 ⟨rfl, rfl⟩ hS
  refine ASL.q (v := (.int .i64 (W (1 + a30.1)))) rfl rfl (Light.quiet (opInt rfl rfl rfl rfl)) ?_
  obtain ⟨a32, ha32, hF⟩ := bindE hF
  refine ASL.x rfl rfl (hCallS hS [0, 1, 2, 3] (F := [.cell b6 [(.int .i64 0), (.int .i64 0), (.int .i64 0), .nil], .row 4 .nil (List.map TEdge.av ([])), .snap S]) rfl rfl rfl call_96 (spec_l4DrawEdges_ok ha32) rfl rfl ?_); rintro w9 _ G11 ⟨_, rfl, rfl⟩ hS
  obtain ⟨a33, ha33, hF⟩ := bindE hF
  refine ASL.x rfl rfl (hCallSR hS rfl rfl call_95 (spec_AutoMake_ok ha33) ⟨.same _, .same _, .same _, .row (k := 0) rfl, trivial⟩ (by rintro _ _ G ⟨w12, rfl, rfl⟩ hG; exact ⟨(Scal.tup (ScalC.cons (Scal.agg (ScalC.cons (by constructor) (ScalC.cons (by constructor) (ScalC.cons (by constructor) (ScalC.cons (hG.scR (k := 0) rfl) ScalC.nil))))) (ScalC.cons (by constructor) ScalC.nil))), ⟨(Scal.row (fun _ => by simp only [TEdge.av, cells, List.mem_cons, List.not_mem_nil, or_false]; rintro c hc; rcases hc with rfl | rfl | rfl | rfl <;> constructor)), trivial⟩⟩) ?_); rintro _ _ G14 ⟨w12, rfl, rfl⟩ hK hS
  refine ASL.q (v := (.tup [(.agg [(.int .i64 a33.1.letters), (.int .i64 a33.1.states), (.int .i64 a33.1.start), w12]), (.bool a33.2)])) rfl rfl (Light.quiet (opMove rfl rfl)) ?_
  refine ASL.q (v := (.agg [(.int .i64 a33.1.letters), (.int .i64 a33.1.states), (.int .i64 a33.1.start), w12])) rfl rfl (Light.quiet (opExtract rfl rfl rfl)) ?_
  refine ASL.q (v := (.bool a33.2)) rfl rfl (Light.quiet (opExtract rfl rfl rfl)) ?_
  have hS := hNil (s := 4) (f := TEdge.av) hS
  refine ASL.x rfl rfl (hNewZ hS [(.int .i64 0), (.int .i64 0), (.int .i64 0), .nil] rfl zeroA_26 ⟨.inl rfl, .inl rfl, .inl rfl, .inl rfl, trivial⟩ ?_); rintro b8 G15 hK hS
  refine ASL.n rfl rfl (hPutA hS (j := 0) rfl rfl sizeA_26 rfl rfl rfl rfl (allC rfl (allC rfl (allC rfl (allC (hS.one (k := 2) rfl) rfl)))) (nlt rfl) ?_); rintro G18 hS
  refine ASL.q (v := (.bool a33.2)) rfl rfl (Light.quiet (opAssign rfl rfl)) ?_
  refine ASL.done ?_
  refine AWP.seqR rfl ?_
  refine ASL.q (v := (.agg [(.int .i64 a33.1.letters), (.int .i64 a33.1.states), (.int .i64 a33.1.start), w12])) rfl rfl (Light.quiet (kAtA hS (j := 0) rfl rfl aggA_26 sizeA_26 rfl (nlt rfl) rfl)) ?_
  refine ASL.n rfl rfl (hPutA hS (j := 5) rfl rfl sizeA_26 rfl rfl rfl rfl (allC rfl (allC rfl (allC rfl (allC (hS.one (k := 2) rfl) rfl)))) (nlt rfl) ?_); rintro G19 hS
  refine ASL.done ?_
  refine AWP.ret ?_
  obtain rfl := someE hF
  exact QRet.sole (v := (.agg [(.int .i64 a33.1.letters), (.int .i64 a33.1.states), (.int .i64 a33.1.start), w12])) ⟨resOne.at hS (k := 5) rfl rfl aggA_26 sizeA_26, trivial⟩ ⟨_, ⟨w12, rfl, rfl⟩, hS.pick [2, 4, 7] rfl rfl⟩

set_option maxRecDepth 10000 in
theorem spec_l1PickInt_ok {p0 : Tl1Cur} {p1 : (List Int)} {r : (Int × Tl1Cur)} {bp0 : Nat} (hF : spec_l1PickInt p0 p1 = some r) : HS Try.prog 104 [(.ptr bp0 0), (.list 1 (List.map (AV.int .i64) p1))] [.cell bp0 [(.list 1 (List.map (AV.int .u8) p0.b)), (.int .i64 p0.i), (.int .i64 p0.h)]] fun v L' => v = (.int .i64 r.1) ∧ L' = [.cell bp0 [(.list 1 (List.map (AV.int .u8) r.2.b)), (.int .i64 r.2.i), (.int .i64 r.2.h)]] := by
  intro H S hS
  refine HC.enter Try.func104 rfl Try.ntmps104 (by simp) ?_
  simp only [List.cons_append, List.nil_append] at hS
  unfold spec_l1PickInt at hF
  refine AWP.seqR rfl ?_
  refine ASL.q (v := (.int .i64 0)) rfl rfl (Light.quiet (opAssign rfl rfl)) ?_
  refine ASL.done ?_
  refine AWP.seqR rfl ?_
  refine ASL.q (v := (.list 1 (List.map (AV.int .i64) p1))) rfl rfl (Light.quiet (opMove rfl rfl)) ?_
  refine ASL.q (v := (.ptr bp0 0)) rfl rfl (Light.quiet (opMove rfl rfl)) ?_
  refine ASL.q (v := (.list 1 (List.map (AV.int .i64) p1))) rfl rfl (Light.quiet (opMove rfl rfl)) ?_
  refine ASL.q (v := (.int .i64 (p1.length : Int))) rfl rfl (Light.quiet (opLenMap (f := (AV.int .i64)) rfl rfl rfl lenT_27 rfl)) ?_
  obtain ⟨a9, ha9, hF⟩ := bindE hF
  refine ASL.x rfl rfl (hCallS hS [0, 1] (F := [.snap S]) rfl rfl rfl call_55 (spec_l1Below_ok ha9) rfl rfl ?_); rintro _ _ G2 ⟨rfl, rfl⟩ hS
  obtain ⟨a10, ha10, hF⟩ := bindE hF
  refine ASL.q (v := (.rptr [(.int .i64 a10)])) rfl rfl (Light.quiet (kIx (f := (AV.int .i64)) ha10 rfl rfl rfl elemA_27 sizeA_3 rfl)) ?_
  refine ASL.q (v := (.int .i64 a10)) rfl rfl (Light.quiet (opLoadR rfl aggA_3 rfl rfl)) ?_
  refine ASL.q (v := (.int .i64 a10)) rfl rfl (Light.quiet (opAssign rfl rfl)) ?_
  refine ASL.done ?_
  refine AWP.ret ?_
  obtain rfl := someE hF
  exact QRet.sole (v := (.int .i64 a10)) ⟨rfl, trivial⟩ ⟨_, ⟨rfl, rfl⟩, hS.pick [0, 1] rfl rfl⟩

set_option maxRecDepth 10000 in
theorem spec_l4DrawAuto_ok {p0 : Tl1Cur} {p1 : Int} {r : (TAuto × Tl1Cur)} {bp0 : Nat} (hF : spec_l4DrawAuto p0 p1 = some r) : HS Try.prog 80 [(.ptr bp0 0), (.int .i64 p1)] [.cell bp0 [(.list 1 (List.map (AV.int .u8) p0.b)), (.int .i64 p0.i), (.int .i64 p0.h)]] fun v L' => ∃ o0_Edges : AV, v = (.agg [(.int .i64 r.1.letters), (.int .i64 r.1.states), (.int .i64 r.1.start), o0_Edges]) ∧ L' = [.row 4 o0_Edges (List.map TEdge.av r.1.edges), .cell bp0 [(.list 1 (List.map (AV.int .u8) r.2.b)), (.int .i64 r.2.i), (.int .i64 r.2.h)]] := by
  intro H S hS
  refine HC.enter Try.func80 rfl Try.ntmps80 (by simp) ?_
  simp only [List.cons_append, List.nil_append] at hS
  unfold spec_l4DrawAuto at hF
  refine AWP.seqR rfl ?_
  have hS := hNil (s := 4) (f := TEdge.av) hS
  refine ASL.x rfl rfl (hNewZ hS [(.int .i64 0), (.int .i64 0), (.int .i64 0), .nil] rfl zeroA_26 ⟨.inl rfl, .inl rfl, .inl rfl, .inl rfl, trivial⟩ ?_); rintro b4 G2 hK hS
  refine ASL.done ?_
  refine AWP.seqR rfl ?_
  refine ASL.q (v := (.ptr bp0 0)) rfl rfl (Light.quiet (opMove rfl rfl)) ?_
  refine ASL.q (v := (.ptr bp0 0)) rfl rfl (Light.quiet (opMove rfl rfl)) ?_
  refine ASL.q (v := (.list 1 (List.map (AV.int .i64) [1, 2, 2, 2, 3, 4]))) rfl rfl ((qLit (xs := [(.int .i64 1), (.int .i64 2), (.int .i64 2), (.int .i64 2), (.int .i64 3), (.int .i64 4)]) rfl elemA_27 sizeA_3 zeroA_3 rfl rfl rfl rfl (by simp [cells]) (nlt rfl))) ?_
  obtain ⟨a9, ha9, hF⟩ := bindE hF
  refine ASL.x rfl rfl (hCallS hS [2, 0, 1, 3] (F := [.cell b4 [(.int .i64 0), (.int .i64 0), (.int .i64 0), .nil], .row 4 .nil (List.map TEdge.av ([])), .snap S]) rfl rfl rfl call_104 (spec_l1PickInt_ok ha9) rfl rfl ?_); rintro _ _ G5 ⟨rfl, rfl⟩ hS
  refine ASL.q (v := (.int .i64 p1)) rfl rfl (Light.quiet (opMove rfl rfl)) ?_
  obtain ⟨a11, ha11, hF⟩ := bindE hF
  refine ASL.x rfl rfl (hCallS hS [0, 1, 2, 3] (F := [.cell b4 [(.int .i64 0), (.int .i64 0), (.int .i64 0), .nil], .row 4 .nil (List.map TEdge.av ([])), .snap S]) rfl rfl rfl call_66 (spec_l4DrawRight_ok ha11) rfl rfl ?_); rintro _ _ G8 ⟨w6, rfl, rfl⟩ hS
  have hS := hNil (s := 4) (f := TEdge.av) hS
  refine ASL.x rfl rfl (hNewZ hS [(.int .i64 0), (.int .i64 0), (.int .i64 0), .nil] rfl zeroA_26 ⟨.inl rfl, .inl rfl, .inl rfl, .inl rfl, trivial⟩ ?_); rintro b5 G9 hK hS
  refine ASL.n rfl rfl (hPutA hS (j := 0) rfl rfl sizeA_26 rfl rfl rfl rfl (allC rfl (allC rfl (allC rfl (allC (hS.one (k := 2) rfl) rfl)))) (nlt rfl) ?_); rintro G12 hS
  refine ASL.done ?_
  refine AWP.seqM (fun e H => ∃ y13 : Int, ∃ y14 : Int, ∃ y15 : Int, ∃ y16 : (List TEdge), ∃ y19 : (List Int), ∃ y20 : Int, ∃ y21 : Int, ∃ w17 : AV, E.Told e [(4, (.ptr b4 0)), (5, (.ptr b5 0))] ∧ E.Sep H [.row 4 .nil (List.map TEdge.av ([])), .cell b4 [(.int .i64 0), (.int .i64 0), (.int .i64 0), .nil], .row 4 w17 (List.map TEdge.av y16), .cell b5 [(.int .i64 y13), (.int .i64 y14), (.int .i64 y15), w17], .cell bp0 [(.list 1 (List.map (AV.int .u8) y19)), (.int .i64 y20), (.int .i64 y21)], .snap S] ∧ spec_l4DrawAuto.k0 y13 y14 y15 y16 y19 y20 y21 = some r) ?_ ?_
  · rintro e0 G23 ⟨y13, y14, y15, y16, y19, y20, y21, w17, hT, hS, hF⟩; refine AWP.only _ hT ?_; unfold spec_l4DrawAuto.k0 at hF
    refine AWP.seqR rfl ?_
    refine ASL.q (v := (.agg [(.int .i64 y13), (.int .i64 y14), (.int .i64 y15), w17])) rfl rfl (Light.quiet (kAtA hS (j := 3) rfl rfl aggA_26 sizeA_26 rfl (nlt rfl) rfl)) ?_
    refine ASL.n rfl rfl (hPutA hS (j := 1) rfl rfl sizeA_26 rfl rfl rfl rfl (allC rfl (allC rfl (allC rfl (allC (hS.one (k := 2) rfl) rfl)))) (nlt rfl) ?_); rintro G22 hS
    refine ASL.done ?_
    refine AWP.ret ?_
    obtain rfl := someE hF
    exact QRet.sole (v := (.agg [(.int .i64 y13), (.int .i64 y14), (.int .i64 y15), w17])) ⟨resOne.at hS (k := 1) rfl rfl aggA_26 sizeA_26, trivial⟩ ⟨_, ⟨w17, rfl, rfl⟩, hS.pick [2, 4, 5] rfl rfl⟩
  · skip
    refine AWP.seqR rfl ?_
    refine ASL.q (v := (.ptr bp0 0)) rfl rfl (Light.quiet (opMove rfl rfl)) ?_
    obtain ⟨a13, ha13, hF⟩ := bindE hF
    refine ASL.x rfl rfl (hCallS hS [3, 0, 1, 2, 4, 5, 6] (F := [.cell b5 [(.int .i64 a11.1.letters), (.int .i64 a11.1.states), (.int .i64 a11.1.start), w6], .row 4 .nil (List.map TEdge.av ([])), .row 4 w6 (List.map TEdge.av a11.1.edges), .cell b4 [(.int .i64 0), (.int .i64 0), (.int .i64 0), .nil], .row 4 .nil (List.map TEdge.av ([])), .snap S]) rfl rfl rfl call_55 (spec_l1Below_ok ha13) rfl rfl ?_); rintro _ _ G24 ⟨rfl, rfl⟩ hS
    refine ASL.done ?_
    refine AWP.block ?_
    refine AWP.seqR rfl ?_
    refine ASL.q (v := (.bool (decide (a13.1 = 0)))) rfl rfl (Light.quiet (opInt rfl rfl rfl rfl)) ?_
    refine ASL.q (v := (.bool (decide (a13.1 = 0)))) rfl rfl (Light.quiet (opAssign rfl rfl)) ?_
    refine ASL.done ?_
    refine AWP.ifP hF rfl (fun hc25 hF => ?_) (fun hc25 hF => ?_)
    · skip
      refine AWP.lastR rfl ?_
      refine ASL.q (v := (.ptr bp0 0)) rfl rfl (Light.quiet (opMove rfl rfl)) ?_
      refine ASL.q (v := (.list 1 (List.map (AV.int .i64) [0, 8, 9]))) rfl rfl ((qLit (xs := [(.int .i64 0), (.int .i64 8), (.int .i64 9)]) rfl elemA_27 sizeA_3 zeroA_3 rfl rfl rfl rfl (by simp [cells]) (nlt rfl))) ?_
      obtain ⟨a18, ha18, hF⟩ := bindE hF
      refine ASL.x rfl rfl (hCallS hS [0, 1, 2, 3, 4, 5, 6] (F := [.cell b5 [(.int .i64 a11.1.letters), (.int .i64 a11.1.states), (.int .i64 a11.1.start), w6], .row 4 .nil (List.map TEdge.av ([])), .row 4 w6 (List.map TEdge.av a11.1.edges), .cell b4 [(.int .i64 0), (.int .i64 0), (.int .i64 0), .nil], .row 4 .nil (List.map TEdge.av ([])), .snap S]) rfl rfl rfl call_104 (spec_l1PickInt_ok ha18) rfl rfl ?_); rintro _ _ G26 ⟨rfl, rfl⟩ hS
      refine ASL.q (v := (.ptr b5 0)) rfl rfl (Light.quiet (opFieldAddr rfl fieldA_26_0 rfl rfl)) ?_
      refine ASL.n rfl rfl (hPut hS (j := 1) rfl rfl sizeA_3 rfl rfl rfl (nlt rfl) ?_); rintro G27 hS
      refine ASL.done ?_
      refine QBlock.nrm ?_
      refine QThen.nrm ?_
      exact ⟨a18.1, a11.1.states, a11.1.start, a11.1.edges, a18.2.b, a18.2.i, a18.2.h, w6, ⟨rfl, rfl, trivial⟩, (hS.pick [5, 4, 3, 1, 0, 6] rfl rfl), hF⟩
    · skip
      refine AWP.seqR rfl ?_
      refine ASL.q (v := (.bool (decide (a13.1 = 1)))) rfl rfl (Light.quiet (opInt rfl rfl rfl rfl)) ?_
      refine ASL.q (v := (.bool (decide (a13.1 = 1)))) rfl rfl (Light.quiet (opAssign rfl rfl)) ?_
      refine ASL.done ?_
      refine AWP.ifP hF rfl (fun hc28 hF => ?_) (fun hc28 hF => ?_)
      · skip
        refine AWP.lastR rfl ?_
        refine ASL.q (v := (.ptr bp0 0)) rfl rfl (Light.quiet (opMove rfl rfl)) ?_
        refine ASL.q (v := (.list 1 (List.map (AV.int .i64) [0, (-1), 31, 32]))) rfl rfl ((qLit (xs := [(.int .i64 0), (.int .i64 (-1)), (.int .i64 31), (.int .i64 32)]) rfl elemA_27 sizeA_3 zeroA_3 rfl rfl rfl rfl (by simp [cells]) (nlt rfl))) ?_
        obtain ⟨a24, ha24, hF⟩ := bindE hF
        refine ASL.x rfl rfl (hCallS hS [0, 1, 2, 3, 4, 5, 6] (F := [.cell b5 [(.int .i64 a11.1.letters), (.int .i64 a11.1.states), (.int .i64 a11.1.start), w6], .row 4 .nil (List.map TEdge.av ([])), .row 4 w6 (List.map TEdge.av a11.1.edges), .cell b4 [(.int .i64 0), (.int .i64 0), (.int .i64 0), .nil], .row 4 .nil (List.map TEdge.av ([])), .snap S]) rfl rfl rfl call_104 (spec_l1PickInt_ok ha24) rfl rfl ?_); rintro _ _ G29 ⟨rfl, rfl⟩ hS
        refine ASL.q (v := (.ptr b5 1)) rfl rfl (Light.quiet (opFieldAddr rfl fieldA_26_1 rfl rfl)) ?_
        refine ASL.n rfl rfl (hPut hS (j := 1) rfl rfl sizeA_3 rfl rfl rfl (nlt rfl) ?_); rintro G30 hS
        refine ASL.done ?_
        refine QBlock.nrm ?_
        refine QThen.nrm ?_
        exact ⟨a11.1.letters, a24.1, a11.1.start, a11.1.edges, a24.2.b, a24.2.i, a24.2.h, w6, ⟨rfl, rfl, trivial⟩, (hS.pick [5, 4, 3, 1, 0, 6] rfl rfl), hF⟩
      · skip
        refine AWP.seqR rfl ?_
        refine ASL.q (v := (.bool (decide (a13.1 = 2)))) rfl rfl (Light.quiet (opInt rfl rfl rfl rfl)) ?_
        refine ASL.q (v := (.bool (decide (a13.1 = 2)))) rfl rfl (Light.quiet (opAssign rfl rfl)) ?_
        refine ASL.done ?_
        refine AWP.ifP hF rfl (fun hc31 hF => ?_) (fun hc31 hF => ?_)
        · skip
          refine AWP.lastR rfl ?_
          refine ASL.q (v := (.ptr bp0 0)) rfl rfl (Light.quiet (opMove rfl rfl)) ?_
          refine ASL.q (v := (.list 1 (List.map (AV.int .i64) [(-1), 0, 1048576]))) rfl rfl ((qLit (xs := [(.int .i64 (-1)), (.int .i64 0), (.int .i64 1048576)]) rfl elemA_27 sizeA_3 zeroA_3 rfl rfl rfl rfl (by simp [cells]) (nlt rfl))) ?_
          obtain ⟨a30, ha30, hF⟩ := bindE hF
          refine ASL.x rfl rfl (hCallS hS [0, 1, 2, 3, 4, 5, 6] (F := [.cell b5 [(.int .i64 a11.1.letters), (.int .i64 a11.1.states), (.int .i64 a11.1.start), w6], .row 4 .nil (List.map TEdge.av ([])), .row 4 w6 (List.map TEdge.av a11.1.edges), .cell b4 [(.int .i64 0), (.int .i64 0), (.int .i64 0), .nil], .row 4 .nil (List.map TEdge.av ([])), .snap S]) rfl rfl rfl call_104 (spec_l1PickInt_ok ha30) rfl rfl ?_); rintro _ _ G32 ⟨rfl, rfl⟩ hS
          refine ASL.q (v := (.ptr b5 2)) rfl rfl (Light.quiet (opFieldAddr rfl fieldA_26_2 rfl rfl)) ?_
          refine ASL.n rfl rfl (hPut hS (j := 1) rfl rfl sizeA_3 rfl rfl rfl (nlt rfl) ?_); rintro G33 hS
          refine ASL.done ?_
          refine QBlock.nrm ?_
          refine QThen.nrm ?_
          exact ⟨a11.1.letters, a11.1.states, a30.1, a11.1.edges, a30.2.b, a30.2.i, a30.2.h, w6, ⟨rfl, rfl, trivial⟩, (hS.pick [5, 4, 3, 1, 0, 6] rfl rfl), hF⟩
        · skip
          refine AWP.seqR rfl ?_
          refine ASL.q (v := (.bool (decide (a13.1 = 3)))) rfl rfl (Light.quiet (opInt rfl rfl rfl rfl)) ?_
          refine ASL.q (v := (.bool (decide (a13.1 = 3)))) rfl rfl (Light.quiet (opAssign rfl rfl)) ?_
          refine ASL.done ?_
          refine AWP.ifP hF rfl (fun hc34 hF => ?_) (fun hc34 hF => ?_)
          · skip
            refine AWP.lastR rfl ?_
            refine ASL.q (v := (.ptr b5 3)) rfl rfl (Light.quiet (opFieldAddr rfl fieldA_26_3 rfl rfl)) ?_
            refine ASL.q (v := w6) rfl rfl (Light.quiet (kAt hS (j := 1) rfl rfl aggA_24 rfl rfl)) ?_
            refine ASL.q (v := (.agg [(.int .i64 0), (.int .i64 0), (.int .i64 0), (.bool false)])) rfl rfl (Light.quiet (opBuildZ (zs := [(.int .i64 0), (.int .i64 0), (.int .i64 0), (.bool false)]) rfl plan_73 zeroA_73 ⟨.inl rfl, .inl rfl, .inl rfl, .inl rfl, trivial⟩ rfl)) ?_
            refine ASL.q (v := (.list 4 (List.map TEdge.av [(TEdge.mk 0 0 0 false)]))) rfl rfl ((qLit (xs := [(.agg [(.int .i64 0), (.int .i64 0), (.int .i64 0), (.bool false)])]) rfl elemA_24 sizeA_73 zeroA_73 rfl rfl rfl rfl (by simp [cells, TEdge.av]) (nlt rfl))) ?_
            obtain ⟨z38, hz38, hF⟩ := bindE hF
            refine ASL.x rfl rfl (hApp (f := TEdge.av) (ws := [(TEdge.mk 0 0 0 false)]) hS (j := 3) rfl hz38 rfl elemA_24 rfl sizeA_73 bytesA_73 zeroA_73 rfl rfl rfl (fun _ => rfl) ?_); rintro v38 G35 hS
            refine ASL.q (v := (.ptr b5 3)) rfl rfl (Light.quiet (opFieldAddr rfl fieldA_26_3 rfl rfl)) ?_
            refine ASL.n rfl rfl (hPut hS (j := 1) rfl rfl sizeA_24 rfl rfl (hS.one (k := 3) rfl) (nlt rfl) ?_); rintro G37 hS
            refine ASL.done ?_
            refine QBlock.nrm ?_
            refine QThen.nrm ?_
            exact ⟨a11.1.letters, a11.1.states, a11.1.start, z38, a13.2.b, a13.2.i, a13.2.h, v38, ⟨rfl, rfl, trivial⟩, (hS.pick [5, 4, 3, 1, 0, 6] rfl rfl), hF⟩
          · skip
            refine AWP.seqR rfl ?_
            refine ASL.q (v := (.bool (decide (a13.1 = 4)))) rfl rfl (Light.quiet (opInt rfl rfl rfl rfl)) ?_
            refine ASL.q (v := (.bool (decide (a13.1 = 4)))) rfl rfl (Light.quiet (opAssign rfl rfl)) ?_
            refine ASL.done ?_
            refine AWP.ifP hF rfl (fun hc38 hF => ?_) (fun hc38 hF => ?_)
            · skip
              refine AWP.lastR rfl ?_
              refine ASL.q (v := (.ptr b5 3)) rfl rfl (Light.quiet (opFieldAddr rfl fieldA_26_3 rfl rfl)) ?_
              refine ASL.q (v := w6) rfl rfl (Light.quiet (kAt hS (j := 1) rfl rfl aggA_24 rfl rfl)) ?_
              refine ASL.q (v := (.ptr b5 1)) rfl rfl (Light.quiet (opFieldAddr rfl fieldA_26_1 rfl rfl)) ?_
              refine ASL.q (v := (.int .i64 a11.1.states)) rfl rfl (Light.quiet (kAt hS (j := 1) rfl rfl aggA_3 rfl rfl)) ?_
              refine ASL.q (v := (.agg [(.int .i64 a11.1.states), (.int .i64 0), (.int .i64 0), (.bool false)])) rfl rfl (Light.quiet (opBuildZ (zs := [(.int .i64 0), (.int .i64 0), (.int .i64 0), (.bool false)]) rfl plan_73 zeroA_73 ⟨.inl rfl, .inl rfl, .inl rfl, .inl rfl, trivial⟩ rfl)) ?_
              refine ASL.q (v := (.list 4 (List.map TEdge.av [(TEdge.mk a11.1.states 0 0 false)]))) rfl rfl ((qLit (xs := [(.agg [(.int .i64 a11.1.states), (.int .i64 0), (.int .i64 0), (.bool false)])]) rfl elemA_24 sizeA_73 zeroA_73 rfl rfl rfl rfl (by simp [cells, TEdge.av]) (nlt rfl))) ?_
              obtain ⟨z48, hz48, hF⟩ := bindE hF
              refine ASL.x rfl rfl (hApp (f := TEdge.av) (ws := [(TEdge.mk a11.1.states 0 0 false)]) hS (j := 3) rfl hz48 rfl elemA_24 rfl sizeA_73 bytesA_73 zeroA_73 rfl rfl rfl (fun _ => rfl) ?_); rintro v48 G39 hS
              refine ASL.q (v := (.ptr b5 3)) rfl rfl (Light.quiet (opFieldAddr rfl fieldA_26_3 rfl rfl)) ?_
              refine ASL.n rfl rfl (hPut hS (j := 1) rfl rfl sizeA_24 rfl rfl (hS.one (k := 3) rfl) (nlt rfl) ?_); rintro G41 hS
              refine ASL.done ?_
              refine QBlock.nrm ?_
              refine QThen.nrm ?_
              exact ⟨a11.1.letters, a11.1.states, a11.1.start, z48, a13.2.b, a13.2.i, a13.2.h, v48, ⟨rfl, rfl, trivial⟩, (hS.pick [5, 4, 3, 1, 0, 6] rfl rfl), hF⟩
            · skip
              refine AWP.skip ?_
              refine QBlock.nrm ?_
              refine QThen.nrm ?_
              exact ⟨a11.1.letters, a11.1.states, a11.1.start, a11.1.edges, a13.2.b, a13.2.i, a13.2.h, w6, ⟨rfl, rfl, trivial⟩, (hS.pick [5, 4, 3, 1, 0, 6] rfl rfl), hF⟩

set_option maxRecDepth 10000 in
theorem spec_l14DrawAuto_ok {p0 : Tl1Cur} {r : (TAuto × Tl1Cur)} {bp0 : Nat} (hF : spec_l14DrawAuto p0 = some r) : HS Try.prog 60 [(.ptr bp0 0)] [.cell bp0 [(.list 1 (List.map (AV.int .u8) p0.b)), (.int .i64 p0.i), (.int .i64 p0.h)]] fun v L' => v = (TAuto.av r.1) ∧ L' = [.cell bp0 [(.list 1 (List.map (AV.int .u8) r.2.b)), (.int .i64 r.2.i), (.int .i64 r.2.h)]] := by
  intro H S hS
  refine HC.enter Try.func60 rfl Try.ntmps60 (by simp) ?_
  simp only [List.cons_append, List.nil_append] at hS
  unfold spec_l14DrawAuto at hF
  refine AWP.seqR rfl ?_
  refine ASL.x rfl rfl (hNewZ hS [(.int .i64 0), (.int .i64 0), (.int .i64 0), (.list 4 (List.map TEdge.av []))] rfl zeroA_26 ⟨.inl rfl, .inl rfl, .inl rfl, .inr ⟨_, rfl, rfl⟩, trivial⟩ ?_); rintro b2 G2 hK hS
  refine ASL.done ?_
  refine AWP.seqR rfl ?_
  refine ASL.q (v := (.ptr bp0 0)) rfl rfl (Light.quiet (opMove rfl rfl)) ?_
  obtain ⟨a5, ha5, hF⟩ := bindE hF
  refine ASL.x rfl rfl (hCallS hS [1, 0, 2] (F := [.cell b2 [(.int .i64 0), (.int .i64 0), (.int .i64 0), (.list 4 (List.map TEdge.av []))], .snap S]) rfl rfl rfl call_66 (spec_l4DrawRight_ok ha5) rfl rfl ?_); rintro _ _ G6 ⟨w4, rfl, rfl⟩ hS
  refine ASL.x rfl rfl (hNewZ hS [(.int .i64 0), (.int .i64 0), (.int .i64 0), (.list 4 (List.map TEdge.av []))] rfl zeroA_26 ⟨.inl rfl, .inl rfl, .inl rfl, .inr ⟨_, rfl, rfl⟩, trivial⟩ ?_); rintro b3 G7 hK hS
  refine ASL.n rfl rfl (hPutA hS (j := 0) rfl rfl sizeA_26 rfl rfl rfl rfl (allC rfl (allC rfl (allC rfl (allC (hS.one (k := 1) rfl) rfl)))) (nlt rfl) ?_); rintro G9 hS
  refine ASL.done ?_
  refine AWP.seq ?_
  refine AWP.seqR rfl ?_
  refine ASL.q (v := (.ptr bp0 0)) rfl rfl (Light.quiet (opMove rfl rfl)) ?_
  obtain ⟨a7, ha7, hF⟩ := bindE hF
  refine ASL.x rfl rfl (hCallS hS [2, 0, 1, 3, 4] (F := [.cell b3 [(.int .i64 a5.1.letters), (.int .i64 a5.1.states), (.int .i64 a5.1.start), w4], .row 4 w4 (List.map TEdge.av a5.1.edges), .cell b2 [(.int .i64 0), (.int .i64 0), (.int .i64 0), (.list 4 (List.map TEdge.av []))], .snap S]) rfl rfl rfl call_61 (spec_l1Once_ok ha7) rfl rfl ?_); rintro _ _ G10 ⟨rfl, rfl⟩ hS
  refine ASL.done ?_
  refine AWP.ifB hF rfl (fun hc11 hF => ?_) (fun hc11 hF => ?_)
  · skip
    refine AWP.lastR rfl ?_
    refine ASL.q (v := (.ptr bp0 0)) rfl rfl (Light.quiet (opMove rfl rfl)) ?_
    obtain ⟨a9, ha9, hF⟩ := bindE hF
    refine ASL.x rfl rfl (hCallS hS [0, 1, 2, 3, 4] (F := [.cell b3 [(.int .i64 a5.1.letters), (.int .i64 a5.1.states), (.int .i64 a5.1.start), w4], .row 4 w4 (List.map TEdge.av a5.1.edges), .cell b2 [(.int .i64 0), (.int .i64 0), (.int .i64 0), (.list 4 (List.map TEdge.av []))], .snap S]) rfl rfl rfl call_80 (spec_l4DrawAuto_ok ha9) rfl rfl ?_); rintro _ _ G14 ⟨w12, rfl, rfl⟩ hS
    refine ASL.n rfl rfl (hPutA hS (j := 2) rfl rfl sizeA_26 rfl rfl rfl rfl (allC rfl (allC rfl (allC rfl (allC (hS.one (k := 0) rfl) rfl)))) (nlt rfl) ?_); rintro G15 hS
    refine ASL.done ?_
    refine QThen.nrm ?_
    refine AWP.seqR rfl ?_
    refine ASL.q (v := (.agg [(.int .i64 a9.1.letters), (.int .i64 a9.1.states), (.int .i64 a9.1.start), w12])) rfl rfl (Light.quiet (kAtA hS (j := 2) rfl rfl aggA_26 sizeA_26 rfl (nlt rfl) rfl)) ?_
    refine ASL.n rfl rfl (hPutA hS (j := 4) rfl rfl sizeA_26 rfl rfl rfl rfl (allC rfl (allC rfl (allC rfl (allC (hS.one (k := 0) rfl) rfl)))) (nlt rfl) ?_); rintro G16 hS
    refine ASL.done ?_
    refine AWP.frz (L' := [.cell bp0 [(.list 1 (List.map (AV.int .u8) a9.2.b)), (.int .i64 a9.2.i), (.int .i64 a9.2.h)], .cell b3 [(.int .i64 a9.1.letters), (.int .i64 a9.1.states), (.int .i64 a9.1.start), (.list 4 (List.map TEdge.av a9.1.edges))], .row 4 w4 (List.map TEdge.av a5.1.edges), .cell b2 [(.int .i64 a9.1.letters), (.int .i64 a9.1.states), (.int .i64 a9.1.start), (.list 4 (List.map TEdge.av a9.1.edges))], .snap S]) hS (k := 0) rfl [(2, (.ptr b2 0))] ⟨.inl rfl, trivial⟩ ⟨⟨_, rfl, ⟨.inl rfl, .inl rfl, .inl rfl, trivial⟩⟩, ⟨_, rfl, ⟨.inl rfl, .inl rfl, .inl rfl, .inr ⟨rfl, rfl⟩, trivial⟩⟩, rfl, ⟨_, rfl, ⟨.inl rfl, .inl rfl, .inl rfl, .inr ⟨rfl, rfl⟩, trivial⟩⟩, rfl, trivial⟩ (fun G17 hS => ?_)
    refine AWP.ret ?_
    obtain rfl := someE hF
    exact QRet.sole (v := (TAuto.av a9.1)) ⟨resOne.at hS (k := 3) rfl rfl aggA_26 sizeA_26, trivial⟩ ⟨_, ⟨rfl, rfl⟩, hS.pick [0, 4] rfl rfl⟩
  · skip
    refine AWP.skip ?_
    refine QThen.nrm ?_
    refine AWP.seqR rfl ?_
    refine ASL.q (v := (.agg [(.int .i64 a5.1.letters), (.int .i64 a5.1.states), (.int .i64 a5.1.start), w4])) rfl rfl (Light.quiet (kAtA hS (j := 1) rfl rfl aggA_26 sizeA_26 rfl (nlt rfl) rfl)) ?_
    refine ASL.n rfl rfl (hPutA hS (j := 3) rfl rfl sizeA_26 rfl rfl rfl rfl (allC rfl (allC rfl (allC rfl (allC (hS.one (k := 2) rfl) rfl)))) (nlt rfl) ?_); rintro G18 hS
    refine ASL.done ?_
    refine AWP.frz (L' := [.cell bp0 [(.list 1 (List.map (AV.int .u8) a7.2.b)), (.int .i64 a7.2.i), (.int .i64 a7.2.h)], .cell b3 [(.int .i64 a5.1.letters), (.int .i64 a5.1.states), (.int .i64 a5.1.start), (.list 4 (List.map TEdge.av a5.1.edges))], .cell b2 [(.int .i64 a5.1.letters), (.int .i64 a5.1.states), (.int .i64 a5.1.start), (.list 4 (List.map TEdge.av a5.1.edges))], .snap S]) hS (k := 2) rfl [(2, (.ptr b2 0))] ⟨.inl rfl, trivial⟩ ⟨⟨_, rfl, ⟨.inl rfl, .inl rfl, .inl rfl, trivial⟩⟩, ⟨_, rfl, ⟨.inl rfl, .inl rfl, .inl rfl, .inr ⟨rfl, rfl⟩, trivial⟩⟩, ⟨_, rfl, ⟨.inl rfl, .inl rfl, .inl rfl, .inr ⟨rfl, rfl⟩, trivial⟩⟩, rfl, trivial⟩ (fun G19 hS => ?_)
    refine AWP.ret ?_
    obtain rfl := someE hF
    exact QRet.sole (v := (TAuto.av a5.1)) ⟨resOne.at hS (k := 2) rfl rfl aggA_26 sizeA_26, trivial⟩ ⟨_, ⟨rfl, rfl⟩, hS.pick [0, 3] rfl rfl⟩

set_option maxRecDepth 10000 in
theorem spec_DrawBoxesOf_ok {p0 : (List Int)} {r : TAuto} (hF : spec_DrawBoxesOf p0 = some r) : PC Try.prog 24 [(.list 1 (List.map (AV.int .u8) p0))] fun v => v = (TAuto.av r) := by
  refine PC.enter Try.func24 rfl Try.ntmps24 (by simp) ?_
  have hS := Sep.void; unfold spec_DrawBoxesOf at hF
  refine AWP.seqR rfl ?_
  refine ASL.x rfl rfl (hNewZ hS [(.int .i64 0), (.int .i64 0), (.int .i64 0), (.list 4 (List.map TEdge.av []))] rfl zeroA_26 ⟨.inl rfl, .inl rfl, .inl rfl, .inr ⟨_, rfl, rfl⟩, trivial⟩ ?_); rintro b2 G1 hK hS
  refine ASL.done ?_
  refine AWP.seqR rfl ?_
  refine ASL.q (v := (.list 1 (List.map (AV.int .u8) p0))) rfl rfl (Light.quiet (opMove rfl rfl)) ?_
  obtain ⟨a5, ha5, hF⟩ := bindE hF
  refine ASL.x rfl rfl (hCallS hS [0] (F := [.cell b2 [(.int .i64 0), (.int .i64 0), (.int .i64 0), (.list 4 (List.map TEdge.av []))]]) rfl rfl rfl call_40 (spec_l1New_ok ha5) rfl rfl ?_); rintro _ _ G5 ⟨bq3, rfl, rfl⟩ hS
  refine ASL.q (v := (.ptr bq3 0)) rfl rfl (Light.quiet (opAssign rfl rfl)) ?_
  refine ASL.done ?_
  refine AWP.seq ?_
  refine AWP.seqR rfl ?_
  refine ASL.q (v := (.ptr bq3 0)) rfl rfl (Light.quiet (opMove rfl rfl)) ?_
  obtain ⟨a7, ha7, hF⟩ := bindE hF
  refine ASL.x rfl rfl (hCallS hS [0, 1] (F := [.cell b2 [(.int .i64 0), (.int .i64 0), (.int .i64 0), (.list 4 (List.map TEdge.av []))]]) rfl rfl rfl call_61 (spec_l1Once_ok ha7) rfl rfl ?_); rintro _ _ G6 ⟨rfl, rfl⟩ hS
  refine ASL.done ?_
  refine AWP.ifB hF rfl (fun hc7 hF => ?_) (fun hc7 hF => ?_)
  · skip
    refine AWP.seqR rfl ?_
    refine ASL.q (v := (.ptr bq3 0)) rfl rfl (Light.quiet (opMove rfl rfl)) ?_
    obtain ⟨a9, ha9, hF⟩ := bindE hF
    refine ASL.x rfl rfl (hCallS hS [0, 1] (F := [.cell b2 [(.int .i64 0), (.int .i64 0), (.int .i64 0), (.list 4 (List.map TEdge.av []))]]) rfl rfl rfl call_66 (spec_l4DrawRight_ok ha9) rfl rfl ?_); rintro _ _ G10 ⟨w8, rfl, rfl⟩ hS
    refine ASL.n rfl rfl (hPutA hS (j := 2) rfl rfl sizeA_26 rfl rfl rfl rfl (allC rfl (allC rfl (allC rfl (allC (hS.one (k := 0) rfl) rfl)))) (nlt rfl) ?_); rintro G11 hS
    refine ASL.done ?_
    refine AWP.frz (L' := [.cell bq3 [(.list 1 (List.map (AV.int .u8) a9.2.b)), (.int .i64 a9.2.i), (.int .i64 a9.2.h)], .cell b2 [(.int .i64 a9.1.letters), (.int .i64 a9.1.states), (.int .i64 a9.1.start), (.list 4 (List.map TEdge.av a9.1.edges))]]) hS (k := 0) rfl [(2, (.ptr b2 0))] ⟨.inl rfl, trivial⟩ ⟨⟨_, rfl, ⟨.inl rfl, .inl rfl, .inl rfl, trivial⟩⟩, ⟨_, rfl, ⟨.inl rfl, .inl rfl, .inl rfl, .inr ⟨rfl, rfl⟩, trivial⟩⟩, trivial⟩ (fun G12 hS => ?_)
    refine AWP.ret ?_
    refine QThen.rt ?_
    obtain rfl := someE hF
    exact QRet.sole (v := (TAuto.av a9.1)) ⟨resOne.at hS (k := 1) rfl rfl aggA_26 sizeA_26, trivial⟩ rfl
  · skip
    refine AWP.skip ?_
    refine QThen.nrm ?_
    refine AWP.seqR rfl ?_
    refine ASL.q (v := (.ptr bq3 0)) rfl rfl (Light.quiet (opMove rfl rfl)) ?_
    obtain ⟨a11, ha11, hF⟩ := bindE hF
    refine ASL.x rfl rfl (hCallS hS [0, 1] (F := [.cell b2 [(.int .i64 0), (.int .i64 0), (.int .i64 0), (.list 4 (List.map TEdge.av []))]]) rfl rfl rfl call_60 (spec_l14DrawAuto_ok ha11) rfl rfl ?_); rintro _ _ G13 ⟨rfl, rfl⟩ hS
    refine ASL.n rfl rfl (hPutA hS (j := 1) rfl rfl sizeA_26 rfl rfl rfl rfl rfl (nlt rfl) ?_); rintro G14 hS
    refine ASL.done ?_
    refine AWP.ret ?_
    obtain rfl := someE hF
    exact QRet.sole (v := (TAuto.av a11.1)) ⟨resOne.at hS (k := 1) rfl rfl aggA_26 sizeA_26, trivial⟩ rfl

set_option maxRecDepth 10000 in
theorem impl_inRange_ok (p0 : Int) (p1 : Int) (p2 : Int) : PC Try.prog 59 [(.int .i64 p0), (.int .i64 p1), (.int .i64 p2)] fun v => v = (.bool (impl_inRange p0 p1 p2)) := by
  generalize hF : impl_inRange p0 p1 p2 = r
  refine PC.enter Try.func59 rfl Try.ntmps59 (by simp) ?_
  have hS := Sep.void; unfold impl_inRange at hF
  refine AWP.seqR rfl ?_
  refine ASL.q (v := (.bool false)) rfl rfl (Light.quiet (opAssign rfl rfl)) ?_
  refine ASL.done ?_
  refine AWP.seqR rfl ?_
  refine ASL.q (v := (.int .i64 p0)) rfl rfl (Light.quiet (opMove rfl rfl)) ?_
  refine ASL.q (v := (.int .i64 p1)) rfl rfl (Light.quiet (opMove rfl rfl)) ?_
  refine ASL.q (v := (.bool (decide (p0 ≥ p1)))) rfl rfl (Light.quiet (opInt rfl rfl rfl rfl)) ?_
  obtain ⟨c10, hc10, hF⟩ := bndE hF
  refine ASL.q (v := (.bool c10)) rfl rfl ((Quiet.cast (Light.quiet (opMove rfl rfl)) (congrArg AV.bool hc10.symm))) ?_
  refine ASL.g (v := (.int .i64 p0)) (.bool c10) true rfl (wT _) rfl (fun hG => by have q0 := hG; subst q0; exact Light.quiet (opMove rfl rfl)) ?_
  refine ASL.g (v := (.int .i64 p2)) (.bool c10) true rfl (wT _) rfl (fun hG => by have q0 := hG; subst q0; exact Light.quiet (opMove rfl rfl)) ?_
  refine ASL.g (v := (.bool (decide (p0 ≤ p2)))) (.bool c10) true rfl (wT _) rfl (fun hG => by have q0 := hG; subst q0; exact Light.quiet (opInt rfl rfl rfl rfl)) ?_
  refine ASL.q (v := (.bool (c10 && (decide (p0 ≤ p2))))) rfl rfl (Light.quiet (opPick (b := c10) rfl rfl (by cases c10 <;> rfl))) ?_
  refine ASL.q (v := (.bool (c10 && (decide (p0 ≤ p2))))) rfl rfl (Light.quiet (opAssign rfl rfl)) ?_
  refine ASL.done ?_
  refine AWP.ret ?_
  obtain rfl := hF
  exact QRet.sole (v := (.bool (c10 && (decide (p0 ≤ p2))))) ⟨rfl, trivial⟩ rfl

set_option maxRecDepth 10000 in
theorem impl_isBoxed_ok (p0 : Int) : PC Try.prog 48 [(.int .i64 p0)] fun v => v = (.bool (impl_isBoxed p0)) := by
  generalize hF : impl_isBoxed p0 = r
  refine PC.enter Try.func48 rfl Try.ntmps48 (by simp) ?_
  have hS := Sep.void; unfold impl_isBoxed at hF
  refine AWP.seqR rfl ?_
  refine ASL.q (v := (.bool false)) rfl rfl (Light.quiet (opAssign rfl rfl)) ?_
  refine ASL.done ?_
  refine AWP.seqR rfl ?_
  refine ASL.q (v := (.int .i64 p0)) rfl rfl (Light.quiet (opMove rfl rfl)) ?_
  refine ASL.q (v := (.bool (impl_inRange p0 1 4))) rfl rfl ((qCall rfl rfl call_59 (impl_inRange_ok p0 1 4) rfl)) ?_
  refine ASL.q (v := (.bool (impl_inRange p0 1 4))) rfl rfl (Light.quiet (opAssign rfl rfl)) ?_
  refine ASL.done ?_
  refine AWP.ret ?_
  obtain rfl := hF
  exact QRet.sole (v := (.bool (impl_inRange p0 1 4))) ⟨rfl, trivial⟩ rfl

set_option maxRecDepth 10000 in
theorem impl_isLetters_ok (p0 : Int) : PC Try.prog 107 [(.int .i64 p0)] fun v => v = (.bool (impl_isLetters p0)) := by
  generalize hF : impl_isLetters p0 = r
  refine PC.enter Try.func107 rfl Try.ntmps107 (by simp) ?_
  have hS := Sep.void; unfold impl_isLetters at hF
  refine AWP.seqR rfl ?_
  refine ASL.q (v := (.bool false)) rfl rfl (Light.quiet (opAssign rfl rfl)) ?_
  refine ASL.done ?_
  refine AWP.seqR rfl ?_
  refine ASL.q (v := (.int .i64 p0)) rfl rfl (Light.quiet (opMove rfl rfl)) ?_
  refine ASL.q (v := (.bool (impl_inRange p0 1 8))) rfl rfl ((qCall rfl rfl call_59 (impl_inRange_ok p0 1 8) rfl)) ?_
  refine ASL.q (v := (.bool (impl_inRange p0 1 8))) rfl rfl (Light.quiet (opAssign rfl rfl)) ?_
  refine ASL.done ?_
  refine AWP.ret ?_
  obtain rfl := hF
  exact QRet.sole (v := (.bool (impl_inRange p0 1 8))) ⟨rfl, trivial⟩ rfl

set_option maxRecDepth 10000 in
theorem impl_SetOk_ok (p0 : Int) : PC Try.prog 108 [(.int .i64 p0)] fun v => v = (.bool (impl_SetOk p0)) := by
  generalize hF : impl_SetOk p0 = r
  refine PC.enter Try.func108 rfl Try.ntmps108 (by simp) ?_
  have hS := Sep.void; unfold impl_SetOk at hF
  refine AWP.seqR rfl ?_
  refine ASL.q (v := (.bool false)) rfl rfl (Light.quiet (opAssign rfl rfl)) ?_
  refine ASL.done ?_
  refine AWP.seqR rfl ?_
  refine ASL.q (v := (.int .i64 p0)) rfl rfl (Light.quiet (opMove rfl rfl)) ?_
  refine ASL.q (v := (.bool (impl_inRange p0 0 2147483647))) rfl rfl ((qCall rfl rfl call_59 (impl_inRange_ok p0 0 2147483647) rfl)) ?_
  refine ASL.q (v := (.bool (impl_inRange p0 0 2147483647))) rfl rfl (Light.quiet (opAssign rfl rfl)) ?_
  refine ASL.done ?_
  refine AWP.ret ?_
  obtain rfl := hF
  exact QRet.sole (v := (.bool (impl_inRange p0 0 2147483647))) ⟨rfl, trivial⟩ rfl

set_option maxRecDepth 10000 in
theorem impl_only_ok (p0 : Int) : PC Try.prog 109 [(.int .i64 p0)] fun v => v = (.int .i64 (impl_only p0)) := by
  generalize hF : impl_only p0 = r
  refine PC.enter Try.func109 rfl Try.ntmps109 (by simp) ?_
  have hS := Sep.void; unfold impl_only at hF
  refine AWP.seqR rfl ?_
  refine ASL.q (v := (.int .i64 0)) rfl rfl (Light.quiet (opAssign rfl rfl)) ?_
  refine ASL.done ?_
  refine AWP.seqR rfl ?_
  refine ASL.q (v := (.int .i64 p0)) rfl rfl (Light.quiet (opMove rfl rfl)) ?_
  refine ASL.q (v := (.int .u64 (IntKind.u64.wrap p0))) rfl rfl (Light.quiet (opConv rfl rfl und_3 und_135 rfl)) ?_
  refine ASL.q (v := (.int .i64 (shl .i64 1 ((IntKind.u64.wrap p0))))) rfl rfl (Light.quiet (opShl rfl rfl rfl (wrapU_nn rfl _) rfl)) ?_
  refine ASL.q (v := (.int .i64 (shl .i64 1 ((IntKind.u64.wrap p0))))) rfl rfl (Light.quiet (opAssign rfl rfl)) ?_
  refine ASL.done ?_
  refine AWP.ret ?_
  obtain rfl := hF
  exact QRet.sole (v := (.int .i64 (shl .i64 1 ((IntKind.u64.wrap p0))))) ⟨rfl, trivial⟩ rfl

set_option maxRecDepth 10000 in
theorem impl_headOk_ok (p0 : Int) (p1 : Int) (p2 : Int) : PC Try.prog 84 [(.int .i64 p0), (.int .i64 p1), (.int .i64 p2)] fun v => v = (.bool (impl_headOk p0 p1 p2)) := by
  generalize hF : impl_headOk p0 p1 p2 = r
  refine PC.enter Try.func84 rfl Try.ntmps84 (by simp) ?_
  have hS := Sep.void; unfold impl_headOk at hF
  refine AWP.seqR rfl ?_
  refine ASL.q (v := (.bool false)) rfl rfl (Light.quiet (opAssign rfl rfl)) ?_
  refine ASL.done ?_
  refine AWP.seqR rfl ?_
  refine ASL.q (v := (.int .i64 p0)) rfl rfl (Light.quiet (opMove rfl rfl)) ?_
  refine ASL.q (v := (.bool (impl_isLetters p0))) rfl rfl ((qCall rfl rfl call_107 (impl_isLetters_ok p0) rfl)) ?_
  obtain ⟨c9, hc9, hF⟩ := bndE hF
  refine ASL.q (v := (.bool c9)) rfl rfl ((Quiet.cast (Light.quiet (opMove rfl rfl)) (congrArg AV.bool hc9.symm))) ?_
  refine ASL.g (v := (.int .i64 p1)) (.bool c9) true rfl (wT _) rfl (fun hG => by have q0 := hG; subst q0; exact Light.quiet (opMove rfl rfl)) ?_
  refine ASL.g (v := (.bool (impl_inRange p1 0 31))) (.bool c9) true rfl (wT _) rfl (fun hG => by have q0 := hG; subst q0; exact (qCall rfl rfl call_59 (impl_inRange_ok p1 0 31) rfl)) ?_
  refine ASL.q (v := (.bool (c9 && (impl_inRange p1 0 31)))) rfl rfl (Light.quiet (opPick (b := c9) rfl rfl (by cases c9 <;> rfl))) ?_
  obtain ⟨c13, hc13, hF⟩ := bndE hF
  refine ASL.q (v := (.bool c13)) rfl rfl ((Quiet.cast (Light.quiet (opMove rfl rfl)) (congrArg AV.bool hc13.symm))) ?_
  refine ASL.g (v := (.int .i64 p2)) (.bool c13) true rfl (wT _) rfl (fun hG => by have q0 := hG; subst q0; exact Light.quiet (opMove rfl rfl)) ?_
  refine ASL.g (v := (.bool (impl_SetOk p2))) (.bool c13) true rfl (wT _) rfl (fun hG => by have q0 := hG; subst q0; exact (qCall rfl rfl call_108 (impl_SetOk_ok p2) rfl)) ?_
  refine ASL.q (v := (.bool (c13 && (impl_SetOk p2)))) rfl rfl (Light.quiet (opPick (b := c13) rfl rfl (by cases c13 <;> rfl))) ?_
  obtain ⟨c17, hc17, hF⟩ := bndE hF
  refine ASL.q (v := (.bool c17)) rfl rfl ((Quiet.cast (Light.quiet (opMove rfl rfl)) (congrArg AV.bool hc17.symm))) ?_
  refine ASL.g (v := (.int .i64 p2)) (.bool c17) true rfl (wT _) rfl (fun hG => by have q0 := hG; subst q0; exact Light.quiet (opMove rfl rfl)) ?_
  refine ASL.g (v := (.int .i64 p1)) (.bool c17) true rfl (wT _) rfl (fun hG => by have q0 := hG; subst q0; exact Light.quiet (opMove rfl rfl)) ?_
  refine ASL.g (v := (.int .i64 (impl_only p1))) (.bool c17) true rfl (wT _) rfl (fun hG => by have q0 := hG; subst q0; exact (qCall rfl rfl call_109 (impl_only_ok p1) rfl)) ?_
  refine ASL.g (v := (.bool (decide (p2 < ((impl_only p1)))))) (.bool c17) true rfl (wT _) rfl (fun hG => by have q0 := hG; subst q0; exact Light.quiet (opInt rfl rfl rfl rfl)) ?_
  refine ASL.q (v := (.bool (c17 && (decide (p2 < ((impl_only p1))))))) rfl rfl (Light.quiet (opPick (b := c17) rfl rfl (by cases c17 <;> rfl))) ?_
  refine ASL.q (v := (.bool (c17 && (decide (p2 < ((impl_only p1))))))) rfl rfl (Light.quiet (opAssign rfl rfl)) ?_
  refine ASL.done ?_
  refine AWP.ret ?_
  obtain rfl := hF
  exact QRet.sole (v := (.bool (c17 && (decide (p2 < ((impl_only p1))))))) ⟨rfl, trivial⟩ rfl

set_option maxRecDepth 10000 in
theorem cmp_isNaN_int_ok (p0 : Int) : PC Try.prog 120 [(.int .i64 p0)] fun v => v = (.bool (cmp_isNaN_int p0)) := by
  generalize hF : cmp_isNaN_int p0 = r
  refine PC.enter Try.func120 rfl Try.ntmps120 (by simp) ?_
  have hS := Sep.void; unfold cmp_isNaN_int at hF
  refine AWP.seqR rfl ?_
  refine ASL.q (v := (.bool false)) rfl rfl (Light.quiet (opAssign rfl rfl)) ?_
  refine ASL.done ?_
  refine AWP.seqR rfl ?_
  refine ASL.q (v := (.int .i64 p0)) rfl rfl (Light.quiet (opMove rfl rfl)) ?_
  refine ASL.q (v := (.int .i64 p0)) rfl rfl (Light.quiet (opMove rfl rfl)) ?_
  refine ASL.q (v := (.bool (decide (p0 ≠ p0)))) rfl rfl (Light.quiet (opInt rfl rfl rfl rfl)) ?_
  refine ASL.q (v := (.bool (decide (p0 ≠ p0)))) rfl rfl (Light.quiet (opAssign rfl rfl)) ?_
  refine ASL.done ?_
  refine AWP.ret ?_
  obtain rfl := hF
  exact QRet.sole (v := (.bool (decide (p0 ≠ p0)))) ⟨rfl, trivial⟩ rfl

set_option maxRecDepth 10000 in
theorem cmp_Compare_int_ok (p0 : Int) (p1 : Int) : PC Try.prog 111 [(.int .i64 p0), (.int .i64 p1)] fun v => v = (.int .i64 (cmp_Compare_int p0 p1)) := by
  generalize hF : cmp_Compare_int p0 p1 = r
  refine PC.enter Try.func111 rfl Try.ntmps111 (by simp) ?_
  have hS := Sep.void; unfold cmp_Compare_int at hF
  refine AWP.seqR rfl ?_
  refine ASL.q (v := (.int .i64 0)) rfl rfl (Light.quiet (opAssign rfl rfl)) ?_
  refine ASL.done ?_
  refine AWP.seqR rfl ?_
  refine ASL.q (v := (.int .i64 p0)) rfl rfl (Light.quiet (opMove rfl rfl)) ?_
  refine ASL.q (v := (.bool (cmp_isNaN_int p0))) rfl rfl ((qCall rfl rfl call_120 (cmp_isNaN_int_ok p0) rfl)) ?_
  refine ASL.q (v := (.bool (cmp_isNaN_int p0))) rfl rfl (Light.quiet (opAssign rfl rfl)) ?_
  refine ASL.done ?_
  refine AWP.seqR rfl ?_
  refine ASL.q (v := (.int .i64 p1)) rfl rfl (Light.quiet (opMove rfl rfl)) ?_
  refine ASL.q (v := (.bool (cmp_isNaN_int p1))) rfl rfl ((qCall rfl rfl call_120 (cmp_isNaN_int_ok p1) rfl)) ?_
  refine ASL.q (v := (.bool (cmp_isNaN_int p1))) rfl rfl (Light.quiet (opAssign rfl rfl)) ?_
  refine ASL.done ?_
  refine AWP.seq ?_
  refine AWP.seqR rfl ?_
  refine ASL.q (v := (.bool (cmp_isNaN_int p0))) rfl rfl (Light.quiet (opMove rfl rfl)) ?_
  refine ASL.done ?_
  refine AWP.ifB hF rfl (fun hc1 hF => ?_) (fun hc1 hF => ?_)
  · skip
    refine AWP.seq ?_
    refine AWP.seqR rfl ?_
    refine ASL.q (v := (.bool (cmp_isNaN_int p1))) rfl rfl (Light.quiet (opMove rfl rfl)) ?_
    refine ASL.done ?_
    refine AWP.ifB hF rfl (fun hc2 hF => ?_) (fun hc2 hF => ?_)
    · skip
      refine AWP.seqR rfl ?_
      refine ASL.q (v := (.int .i64 0)) rfl rfl (Light.quiet (opAssign rfl rfl)) ?_
      refine ASL.done ?_
      refine AWP.ret ?_
      refine QThen.rt ?_
      refine QThen.rt ?_
      obtain rfl := hF
      exact QRet.sole (v := (.int .i64 0)) ⟨rfl, trivial⟩ rfl
    · skip
      refine AWP.skip ?_
      refine QThen.nrm ?_
      refine AWP.seqR rfl ?_
      refine ASL.q (v := (.int .i64 (-1))) rfl rfl (Light.quiet (opAssign rfl rfl)) ?_
      refine ASL.done ?_
      refine AWP.ret ?_
      refine QThen.rt ?_
      obtain rfl := hF
      exact QRet.sole (v := (.int .i64 (-1))) ⟨rfl, trivial⟩ rfl
  · skip
    refine AWP.skip ?_
    refine QThen.nrm ?_
    refine AWP.seq ?_
    refine AWP.seqR rfl ?_
    refine ASL.q (v := (.bool (cmp_isNaN_int p1))) rfl rfl (Light.quiet (opMove rfl rfl)) ?_
    refine ASL.done ?_
    refine AWP.ifB hF rfl (fun hc3 hF => ?_) (fun hc3 hF => ?_)
    · skip
      refine AWP.seqR rfl ?_
      refine ASL.q (v := (.int .i64 1)) rfl rfl (Light.quiet (opAssign rfl rfl)) ?_
      refine ASL.done ?_
      refine AWP.ret ?_
      refine QThen.rt ?_
      obtain rfl := hF
      exact QRet.sole (v := (.int .i64 1)) ⟨rfl, trivial⟩ rfl
    · skip
      refine AWP.skip ?_
      refine QThen.nrm ?_
      refine AWP.seq ?_
      refine AWP.seqR rfl ?_
      refine ASL.q (v := (.int .i64 p0)) rfl rfl (Light.quiet (opMove rfl rfl)) ?_
      refine ASL.q (v := (.int .i64 p1)) rfl rfl (Light.quiet (opMove rfl rfl)) ?_
      refine ASL.q (v := (.bool (decide (p0 < p1)))) rfl rfl (Light.quiet (opInt rfl rfl rfl rfl)) ?_
      refine ASL.done ?_
      refine AWP.ifP hF rfl (fun hc4 hF => ?_) (fun hc4 hF => ?_)
      · skip
        refine AWP.seqR rfl ?_
        refine ASL.q (v := (.int .i64 (-1))) rfl rfl (Light.quiet (opAssign rfl rfl)) ?_
        refine ASL.done ?_
        refine AWP.ret ?_
        refine QThen.rt ?_
        obtain rfl := hF
        exact QRet.sole (v := (.int .i64 (-1))) ⟨rfl, trivial⟩ rfl
      · skip
        refine AWP.skip ?_
        refine QThen.nrm ?_
        refine AWP.seq ?_
        refine AWP.seqR rfl ?_
        refine ASL.q (v := (.int .i64 p0)) rfl rfl (Light.quiet (opMove rfl rfl)) ?_
        refine ASL.q (v := (.int .i64 p1)) rfl rfl (Light.quiet (opMove rfl rfl)) ?_
        refine ASL.q (v := (.bool (decide (p0 > p1)))) rfl rfl (Light.quiet (opInt rfl rfl rfl rfl)) ?_
        refine ASL.done ?_
        refine AWP.ifP hF rfl (fun hc5 hF => ?_) (fun hc5 hF => ?_)
        · skip
          refine AWP.seqR rfl ?_
          refine ASL.q (v := (.int .i64 1)) rfl rfl (Light.quiet (opAssign rfl rfl)) ?_
          refine ASL.done ?_
          refine AWP.ret ?_
          refine QThen.rt ?_
          obtain rfl := hF
          exact QRet.sole (v := (.int .i64 1)) ⟨rfl, trivial⟩ rfl
        · skip
          refine AWP.skip ?_
          refine QThen.nrm ?_
          refine AWP.seqR rfl ?_
          refine ASL.q (v := (.int .i64 0)) rfl rfl (Light.quiet (opAssign rfl rfl)) ?_
          refine ASL.done ?_
          refine AWP.ret ?_
          obtain rfl := hF
          exact QRet.sole (v := (.int .i64 0)) ⟨rfl, trivial⟩ rfl

set_option maxRecDepth 10000 in
theorem cmp_Or_int_ok {p0 : (List Int)} {r : Int} (hF : cmp_Or_int p0 = some r) : PC Try.prog 110 [(.list 1 (List.map (AV.int .i64) p0))] fun v => v = (.int .i64 r) := by
  refine PC.enter Try.func110 rfl Try.ntmps110 (by simp) ?_
  have hS := Sep.void; unfold cmp_Or_int at hF
  refine AWP.seqR rfl ?_
  refine ASL.q (v := (.int .i64 0)) rfl rfl (Light.quiet (opAssign rfl rfl)) ?_
  refine ASL.done ?_
  refine AWP.seqR rfl ?_
  refine ASL.q (v := (.int .i64 0)) rfl rfl (Light.quiet (opAssign rfl rfl)) ?_
  refine ASL.done ?_
  refine AWP.seqM (fun e H => E.Told e [(3, (.int .i64 0))] ∧ E.Sep H [] ∧ cmp_Or_int.k0 = some r) ?_ ?_
  · rintro e0 G1 ⟨hT, hS, hF⟩; refine AWP.only _ hT ?_; unfold cmp_Or_int.k0 at hF
    refine AWP.seqR rfl ?_
    refine ASL.q (v := (.int .i64 0)) rfl rfl (Light.quiet (opMove rfl rfl)) ?_
    refine ASL.q (v := (.int .i64 0)) rfl rfl (Light.quiet (opAssign rfl rfl)) ?_
    refine ASL.done ?_
    refine AWP.ret ?_
    obtain rfl := someE hF
    exact QRet.sole (v := (.int .i64 0)) ⟨rfl, trivial⟩ rfl
  · skip
    refine AWP.seqR rfl ?_
    refine ASL.q (v := (.list 1 (List.map (AV.int .i64) p0))) rfl rfl (Light.quiet (opMove rfl rfl)) ?_
    refine ASL.q (v := (.int .i64 (p0.length : Int))) rfl rfl (Light.quiet (opLenMap (f := (AV.int .i64)) rfl rfl rfl lenT_27 rfl)) ?_
    refine ASL.q (v := (.int .i64 0)) rfl rfl (Light.quiet (opMove rfl rfl)) ?_
    refine ASL.done ?_
    refine AWP.block ?_
    obtain ⟨o5, hL4, hR6⟩ := bindE hF
    refine AWP.loopF (ω := Unit) hL4 (fun s w => [(3, (.int .i64 0)), (6, (.list 1 (List.map (AV.int .i64) p0))), (7, (.int .i64 (p0.length : Int))), (8, (.int .i64 s))]) (fun s w => []) () ⟨rfl, rfl, rfl, rfl, trivial⟩ (hS.pick [] rfl rfl) ?_
    rintro x8_l0 _ G7 hS x2 hF hx3
    try dsimp only at hS ⊢
    have hF : cmp_Or_int.b0 p0 x8_l0 = some x2 := hF; unfold cmp_Or_int.b0 at hF
    refine AWP.seqR rfl ?_
    refine ASL.q (v := (.bool (decide (x8_l0 < ((p0.length : Int)))))) rfl rfl (Light.quiet (opInt rfl rfl rfl rfl)) ?_
    refine ASL.done ?_
    refine AWP.seq ?_
    refine AWP.ifP hF rfl (fun hc8 hF => ?_) (fun hc8 hF => ?_)
    · skip
      refine AWP.skip ?_
      refine QThen.nrm ?_
      refine AWP.seq ?_
      refine AWP.block ?_
      refine AWP.seqR rfl ?_
      obtain ⟨a10, ha10, hF⟩ := bindE hF
      refine ASL.q (v := (.rptr [(.int .i64 a10)])) rfl rfl (Light.quiet (kIx (f := (AV.int .i64)) ha10 rfl rfl rfl elemA_27 sizeA_3 rfl)) ?_
      refine ASL.q (v := (.int .i64 a10)) rfl rfl (Light.quiet (opLoadR rfl aggA_3 rfl rfl)) ?_
      refine ASL.q (v := (.int .i64 a10)) rfl rfl (Light.quiet (opAssign rfl rfl)) ?_
      refine ASL.done ?_
      refine AWP.seqR rfl ?_
      refine ASL.q (v := (.int .i64 a10)) rfl rfl (Light.quiet (opMove rfl rfl)) ?_
      refine ASL.q (v := (.int .i64 0)) rfl rfl (Light.quiet (opMove rfl rfl)) ?_
      refine ASL.q (v := (.bool (decide (a10 ≠ 0)))) rfl rfl (Light.quiet (opInt rfl rfl rfl rfl)) ?_
      refine ASL.done ?_
      refine AWP.ifP hF rfl (fun hc9 hF => ?_) (fun hc9 hF => ?_)
      · skip
        refine AWP.seqR rfl ?_
        refine ASL.q (v := (.int .i64 a10)) rfl rfl (Light.quiet (opMove rfl rfl)) ?_
        refine ASL.q (v := (.int .i64 a10)) rfl rfl (Light.quiet (opAssign rfl rfl)) ?_
        refine ASL.done ?_
        refine AWP.ret ?_
        refine QBlock.ret ?_
        refine QThen.rt ?_
        refine QThen.rt ?_
        refine QBlock.ret ?_
        refine QThen.rt ?_
        obtain rfl := (hx3 _ (someE hF).symm)
        have hF := hR6
        have hF := sumR hF
        obtain rfl := someE hF
        exact QRet.sole (v := (.int .i64 a10)) ⟨rfl, trivial⟩ rfl
      · skip
        refine AWP.skip ?_
        refine QBlock.nrm ?_
        refine QThen.nrm ?_
        refine AWP.lastR rfl ?_
        refine ASL.q (v := (.int .i64 (W (x8_l0 + 1)))) rfl rfl (Light.quiet (opInt rfl rfl rfl rfl)) ?_
        refine ASL.q (v := (.int .i64 (W (x8_l0 + 1)))) rfl rfl (Light.quiet (opMove rfl rfl)) ?_
        refine ASL.done ?_
        refine QThen.nrm ?_
        exact ⟨(W (x8_l0 + 1)), (), (someE hF).symm, ⟨rfl, rfl, rfl, rfl, trivial⟩, (hS.pick [] rfl rfl)⟩
    · skip
      refine AWP.exit ?_
      refine QThen.ext ?_
      refine QThen.ext ?_
      refine QBlock.hit ?_
      obtain rfl := (hx3 _ (someE hF).symm)
      have hF := hR6
      have hF := sumL hF
      refine QThen.nrm ?_
      exact ⟨⟨rfl, trivial⟩, (hS.pick [] rfl rfl), hF⟩

set_option maxRecDepth 10000 in
theorem impl_compareEdges_ok {p0 : TEdge} {p1 : TEdge} {r : Int} (hF : impl_compareEdges p0 p1 = some r) : PC Try.prog 85 [(TEdge.av p0), (TEdge.av p1)] fun v => v = (.int .i64 r) := by
  refine PC.enter Try.func85 rfl Try.ntmps85 (by simp) ?_
  have hS := Sep.void; unfold impl_compareEdges at hF
  refine AWP.seqR rfl ?_
  refine ASL.q (v := (.rptr [(.int .i64 p0.from_), (.int .i64 p0.letter), (.int .i64 p0.to_), (.bool p0.good)])) rfl rfl ((qBoxI (v := (TEdge.av p0)) rfl rfl rfl rfl)) ?_
  refine ASL.q (v := (.rptr [(.int .i64 p1.from_), (.int .i64 p1.letter), (.int .i64 p1.to_), (.bool p1.good)])) rfl rfl ((qBoxI (v := (TEdge.av p1)) rfl rfl rfl rfl)) ?_
  refine ASL.q (v := (.int .i64 0)) rfl rfl (Light.quiet (opAssign rfl rfl)) ?_
  refine ASL.done ?_
  refine AWP.seqD [(0, false), (1, false), (2, false), (3, false), (4, false), (5, false), (6, false), (7, false), (8, false), (9, false), (10, false), (11, false), (12, false), (13, false), (14, false), (15, false), (16, false), (17, false)] mixed (by kernel_rfl) rfl ?_
  refine ARL.q0 (v := (.rptr [(.int .i64 p0.from_), (.int .i64 p0.letter), (.int .i64 p0.to_), (.bool p0.good)])) rfl rfl (Light.quiet (opFieldAddrR rfl fieldA_73_0 rfl rfl)) ?_
  refine ARL.q0 (v := (.int .i64 p0.from_)) rfl rfl (Light.quiet (opLoadR rfl aggA_3 rfl rfl)) ?_
  refine ARL.q0 (v := (.rptr [(.int .i64 p1.from_), (.int .i64 p1.letter), (.int .i64 p1.to_), (.bool p1.good)])) rfl rfl (Light.quiet (opFieldAddrR rfl fieldA_73_0 rfl rfl)) ?_
  refine ARL.q0 (v := (.int .i64 p1.from_)) rfl rfl (Light.quiet (opLoadR rfl aggA_3 rfl rfl)) ?_
  refine ARL.q0 (v := (.int .i64 (cmp_Compare_int p0.from_ p1.from_))) rfl rfl ((qCall rfl rfl call_111 (cmp_Compare_int_ok p0.from_ p1.from_) rfl)) ?_
  refine ARL.q0 (v := (.rptr [(.int .i64 p0.letter), (.int .i64 p0.to_), (.bool p0.good)])) rfl rfl (Light.quiet (opFieldAddrR rfl fieldA_73_1 rfl rfl)) ?_
  refine ARL.q0 (v := (.int .i64 p0.letter)) rfl rfl (Light.quiet (opLoadR rfl aggA_3 rfl rfl)) ?_
  refine ARL.q0 (v := (.rptr [(.int .i64 p1.letter), (.int .i64 p1.to_), (.bool p1.good)])) rfl rfl (Light.quiet (opFieldAddrR rfl fieldA_73_1 rfl rfl)) ?_
  refine ARL.q0 (v := (.int .i64 p1.letter)) rfl rfl (Light.quiet (opLoadR rfl aggA_3 rfl rfl)) ?_
  refine ARL.q0 (v := (.int .i64 (cmp_Compare_int p0.letter p1.letter))) rfl rfl ((qCall rfl rfl call_111 (cmp_Compare_int_ok p0.letter p1.letter) rfl)) ?_
  refine ARL.q0 (v := (.rptr [(.int .i64 p0.to_), (.bool p0.good)])) rfl rfl (Light.quiet (opFieldAddrR rfl fieldA_73_2 rfl rfl)) ?_
  refine ARL.q0 (v := (.int .i64 p0.to_)) rfl rfl (Light.quiet (opLoadR rfl aggA_3 rfl rfl)) ?_
  refine ARL.q0 (v := (.rptr [(.int .i64 p1.to_), (.bool p1.good)])) rfl rfl (Light.quiet (opFieldAddrR rfl fieldA_73_2 rfl rfl)) ?_
  refine ARL.q0 (v := (.int .i64 p1.to_)) rfl rfl (Light.quiet (opLoadR rfl aggA_3 rfl rfl)) ?_
  refine ARL.q0 (v := (.int .i64 (cmp_Compare_int p0.to_ p1.to_))) rfl rfl ((qCall rfl rfl call_111 (cmp_Compare_int_ok p0.to_ p1.to_) rfl)) ?_
  refine ARL.q0 (v := (.list 1 (List.map (AV.int .i64) [(cmp_Compare_int p0.from_ p1.from_), (cmp_Compare_int p0.letter p1.letter), (cmp_Compare_int p0.to_ p1.to_)]))) rfl rfl ((qLit (xs := [(.int .i64 (cmp_Compare_int p0.from_ p1.from_)), (.int .i64 (cmp_Compare_int p0.letter p1.letter)), (.int .i64 (cmp_Compare_int p0.to_ p1.to_))]) rfl elemA_27 sizeA_3 zeroA_3 rfl rfl rfl rfl (by simp [cells]) (nlt rfl))) ?_
  obtain ⟨a21, ha21, hF⟩ := bindE hF
  refine ARL.q0 (v := (.int .i64 a21)) rfl rfl ((qCall rfl rfl call_110 (cmp_Or_int_ok ha21) rfl)) ?_
  refine ARL.q0 (v := (.int .i64 a21)) rfl rfl (Light.quiet (opAssign rfl rfl)) ?_
  refine ARL.done ?_
  refine AWP.ret ?_
  obtain rfl := someE hF
  exact QRet.sole (v := (.int .i64 a21)) ⟨rfl, trivial⟩ rfl

set_option maxRecDepth 10000 in
theorem impl_AutoOk_ok {p0 : TAuto} {r : Bool} (hF : impl_AutoOk p0 = some r) : PC Try.prog 46 [(TAuto.av p0)] fun v => v = (.bool r) := by
  refine PC.enter Try.func46 rfl Try.ntmps46 (by simp) ?_
  have hS := Sep.void; unfold impl_AutoOk at hF
  refine AWP.seqR rfl ?_
  refine ASL.q (v := (.rptr [(.int .i64 p0.letters), (.int .i64 p0.states), (.int .i64 p0.start), (.list 4 (List.map TEdge.av p0.edges))])) rfl rfl ((qBoxI (v := (TAuto.av p0)) rfl rfl rfl rfl)) ?_
  refine ASL.q (v := (.bool false)) rfl rfl (Light.quiet (opAssign rfl rfl)) ?_
  refine ASL.done ?_
  refine AWP.seq ?_
  refine AWP.seqR rfl ?_
  refine ASL.q (v := (.rptr [(.int .i64 p0.letters), (.int .i64 p0.states), (.int .i64 p0.start), (.list 4 (List.map TEdge.av p0.edges))])) rfl rfl (Light.quiet (opFieldAddrR rfl fieldA_26_0 rfl rfl)) ?_
  refine ASL.q (v := (.int .i64 p0.letters)) rfl rfl (Light.quiet (opLoadR rfl aggA_3 rfl rfl)) ?_
  refine ASL.q (v := (.rptr [(.int .i64 p0.states), (.int .i64 p0.start), (.list 4 (List.map TEdge.av p0.edges))])) rfl rfl (Light.quiet (opFieldAddrR rfl fieldA_26_1 rfl rfl)) ?_
  refine ASL.q (v := (.int .i64 p0.states)) rfl rfl (Light.quiet (opLoadR rfl aggA_3 rfl rfl)) ?_
  refine ASL.q (v := (.rptr [(.int .i64 p0.start), (.list 4 (List.map TEdge.av p0.edges))])) rfl rfl (Light.quiet (opFieldAddrR rfl fieldA_26_2 rfl rfl)) ?_
  refine ASL.q (v := (.int .i64 p0.start)) rfl rfl (Light.quiet (opLoadR rfl aggA_3 rfl rfl)) ?_
  refine ASL.q (v := (.bool (impl_headOk p0.letters p0.states p0.start))) rfl rfl ((qCall rfl rfl call_84 (impl_headOk_ok p0.letters p0.states p0.start) rfl)) ?_
  refine ASL.q (v := (.bool (!(impl_headOk p0.letters p0.states p0.start)))) rfl rfl (Light.quiet (opNot rfl rfl)) ?_
  obtain ⟨c13, hc13, hF⟩ := bndE hF
  refine ASL.q (v := (.bool c13)) rfl rfl ((Quiet.cast (Light.quiet (opMove rfl rfl)) (congrArg AV.bool hc13.symm))) ?_
  refine ASL.g (v := (.rptr [(.list 4 (List.map TEdge.av p0.edges))])) (.bool c13) false rfl (wF _) rfl (fun hG => by have q0 := gN hG; subst q0; exact Light.quiet (opFieldAddrR rfl fieldA_26_3 rfl rfl)) ?_
  refine ASL.g (v := (.list 4 (List.map TEdge.av p0.edges))) (.bool c13) false rfl (wF _) rfl (fun hG => by have q0 := gN hG; subst q0; exact Light.quiet (opLoadR rfl aggA_24 rfl rfl)) ?_
  refine ASL.g (v := (.int .i64 (p0.edges.length : Int))) (.bool c13) false rfl (wF _) rfl (fun hG => by have q0 := gN hG; subst q0; exact Light.quiet (opLenMap (f := TEdge.av) rfl rfl rfl lenT_24 rfl)) ?_
  refine ASL.g (v := (.bool (decide (((p0.edges.length : Int)) > 2000)))) (.bool c13) false rfl (wF _) rfl (fun hG => by have q0 := gN hG; subst q0; exact Light.quiet (opInt rfl rfl rfl rfl)) ?_
  refine ASL.q (v := (.bool (c13 || (decide (((p0.edges.length : Int)) > 2000))))) rfl rfl (Light.quiet (opPick (b := c13) rfl rfl (by cases c13 <;> rfl))) ?_
  refine ASL.done ?_
  refine AWP.ifB hF rfl (fun hc1 hF => ?_) (fun hc1 hF => ?_)
  · skip
    refine AWP.seqR rfl ?_
    refine ASL.q (v := (.bool false)) rfl rfl (Light.quiet (opAssign rfl rfl)) ?_
    refine ASL.done ?_
    refine AWP.ret ?_
    refine QThen.rt ?_
    obtain rfl := someE hF
    exact QRet.sole (v := (.bool false)) ⟨rfl, trivial⟩ rfl
  · skip
    refine AWP.skip ?_
    refine QThen.nrm ?_
    refine AWP.seqM (fun e H => E.Told e [] ∧ E.Sep H [] ∧ impl_AutoOk.k0 = some r) ?_ ?_
    · rintro e0 G2 ⟨hT, hS, hF⟩; refine AWP.only _ hT ?_; unfold impl_AutoOk.k0 at hF
      refine AWP.seqR rfl ?_
      refine ASL.q (v := (.bool true)) rfl rfl (Light.quiet (opAssign rfl rfl)) ?_
      refine ASL.done ?_
      refine AWP.ret ?_
      obtain rfl := someE hF
      exact QRet.sole (v := (.bool true)) ⟨rfl, trivial⟩ rfl
    · skip
      refine AWP.seqR rfl ?_
      refine ASL.q (v := (.rptr [(.list 4 (List.map TEdge.av p0.edges))])) rfl rfl (Light.quiet (opFieldAddrR rfl fieldA_26_3 rfl rfl)) ?_
      refine ASL.q (v := (.list 4 (List.map TEdge.av p0.edges))) rfl rfl (Light.quiet (opLoadR rfl aggA_24 rfl rfl)) ?_
      refine ASL.q (v := (.int .i64 (p0.edges.length : Int))) rfl rfl (Light.quiet (opLenMap (f := TEdge.av) rfl rfl rfl lenT_24 rfl)) ?_
      refine ASL.q (v := (.int .i64 0)) rfl rfl (Light.quiet (opMove rfl rfl)) ?_
      refine ASL.done ?_
      refine AWP.block ?_
      obtain ⟨o6, hL5, hR7⟩ := bindE hF
      refine AWP.loopF (ω := Unit) hL5 (fun s w => [(1, (.rptr [(.int .i64 p0.letters), (.int .i64 p0.states), (.int .i64 p0.start), (.list 4 (List.map TEdge.av p0.edges))])), (20, (.list 4 (List.map TEdge.av p0.edges))), (21, (.int .i64 (p0.edges.length : Int))), (22, (.int .i64 s))]) (fun s w => []) () ⟨rfl, rfl, rfl, rfl, trivial⟩ (hS.pick [] rfl rfl) ?_
      rintro x22_l0 _ G8 hS x3 hF hx4
      try dsimp only at hS ⊢
      have hF : impl_AutoOk.b0 p0 x22_l0 = some x3 := hF; unfold impl_AutoOk.b0 at hF
      refine AWP.seqR rfl ?_
      refine ASL.q (v := (.bool (decide (x22_l0 < ((p0.edges.length : Int)))))) rfl rfl (Light.quiet (opInt rfl rfl rfl rfl)) ?_
      refine ASL.done ?_
      refine AWP.seq ?_
      refine AWP.ifP hF rfl (fun hc9 hF => ?_) (fun hc9 hF => ?_)
      · skip
        refine AWP.skip ?_
        refine QThen.nrm ?_
        refine AWP.seq ?_
        refine AWP.block ?_
        refine AWP.seqR rfl ?_
        refine ASL.q (v := (.int .i64 x22_l0)) rfl rfl (Light.quiet (opMove rfl rfl)) ?_
        obtain ⟨a25, ha25, hF⟩ := bindE hF
        refine ASL.q (v := (.rptr [(.int .i64 a25.from_), (.int .i64 a25.letter), (.int .i64 a25.to_), (.bool a25.good)])) rfl rfl (Light.quiet (kIx (f := TEdge.av) ha25 rfl rfl rfl elemA_24 sizeA_73 rfl)) ?_
        refine ASL.q (v := (TEdge.av a25)) rfl rfl (Light.quiet (opLoadRA rfl aggA_73 sizeA_73 rfl (nlt rfl) rfl)) ?_
        refine ASL.x rfl rfl (hNewZ hS [(.int .i64 0), (.int .i64 0), (.int .i64 0), (.bool false)] rfl zeroA_73 ⟨.inl rfl, .inl rfl, .inl rfl, .inl rfl, trivial⟩ ?_); rintro b4 G10 hK hS
        refine ASL.q (v := (.int .i64 x22_l0)) rfl rfl (Light.quiet (opAssign rfl rfl)) ?_
        refine ASL.n rfl rfl (hPutA hS (j := 0) rfl rfl sizeA_73 rfl rfl rfl rfl rfl (nlt rfl) ?_); rintro G12 hS
        refine ASL.done ?_
        refine AWP.seq ?_
        refine AWP.seqR rfl ?_
        refine ASL.q (v := (.ptr b4 0)) rfl rfl (Light.quiet (opFieldAddr rfl fieldA_73_0 rfl rfl)) ?_
        refine ASL.q (v := (.int .i64 a25.from_)) rfl rfl (Light.quiet (kAt hS (j := 0) rfl rfl aggA_3 rfl rfl)) ?_
        refine ASL.q (v := (.rptr [(.int .i64 p0.states), (.int .i64 p0.start), (.list 4 (List.map TEdge.av p0.edges))])) rfl rfl (Light.quiet (opFieldAddrR rfl fieldA_26_1 rfl rfl)) ?_
        refine ASL.q (v := (.int .i64 p0.states)) rfl rfl (Light.quiet (opLoadR rfl aggA_3 rfl rfl)) ?_
        refine ASL.q (v := (.int .i64 (W (p0.states - 1)))) rfl rfl (Light.quiet (opInt rfl rfl rfl rfl)) ?_
        refine ASL.q (v := (.bool (impl_inRange a25.from_ 0 ((W (p0.states - 1)))))) rfl rfl ((qCall rfl rfl call_59 (impl_inRange_ok a25.from_ 0 ((W (p0.states - 1)))) rfl)) ?_
        refine ASL.q (v := (.bool (!(impl_inRange a25.from_ 0 ((W (p0.states - 1))))))) rfl rfl (Light.quiet (opNot rfl rfl)) ?_
        obtain ⟨c34, hc34, hF⟩ := bndE hF
        refine ASL.q (v := (.bool c34)) rfl rfl ((Quiet.cast (Light.quiet (opMove rfl rfl)) (congrArg AV.bool hc34.symm))) ?_
        refine ASL.g (v := (.ptr b4 2)) (.bool c34) false rfl (wF _) rfl (fun hG => by have q0 := gN hG; subst q0; exact Light.quiet (opFieldAddr rfl fieldA_73_2 rfl rfl)) ?_
        refine ASL.g (v := (.int .i64 a25.to_)) (.bool c34) false rfl (wF _) rfl (fun hG => by have q0 := gN hG; subst q0; exact Light.quiet (kAt hS (j := 0) rfl rfl aggA_3 rfl rfl)) ?_
        refine ASL.g (v := (.rptr [(.int .i64 p0.states), (.int .i64 p0.start), (.list 4 (List.map TEdge.av p0.edges))])) (.bool c34) false rfl (wF _) rfl (fun hG => by have q0 := gN hG; subst q0; exact Light.quiet (opFieldAddrR rfl fieldA_26_1 rfl rfl)) ?_
        refine ASL.g (v := (.int .i64 p0.states)) (.bool c34) false rfl (wF _) rfl (fun hG => by have q0 := gN hG; subst q0; exact Light.quiet (opLoadR rfl aggA_3 rfl rfl)) ?_
        refine ASL.g (v := (.int .i64 (W (p0.states - 1)))) (.bool c34) false rfl (wF _) rfl (fun hG => by have q0 := gN hG; subst q0; exact Light.quiet (opInt rfl rfl rfl rfl)) ?_
        refine ASL.g (v := (.bool (impl_inRange a25.to_ 0 ((W (p0.states - 1)))))) (.bool c34) false rfl (wF _) rfl (fun hG => by have q0 := gN hG; subst q0; exact (qCall rfl rfl call_59 (impl_inRange_ok a25.to_ 0 ((W (p0.states - 1)))) rfl)) ?_
        refine ASL.g (v := (.bool (!(impl_inRange a25.to_ 0 ((W (p0.states - 1))))))) (.bool c34) false rfl (wF _) rfl (fun hG => by have q0 := gN hG; subst q0; exact Light.quiet (opNot rfl rfl)) ?_
        refine ASL.q (v := (.bool (c34 || (!(impl_inRange a25.to_ 0 ((W (p0.states - 1)))))))) rfl rfl (Light.quiet (opPick (b := c34) rfl rfl (by cases c34 <;> rfl))) ?_
        obtain ⟨c43, hc43, hF⟩ := bndE hF
        refine ASL.q (v := (.bool c43)) rfl rfl ((Quiet.cast (Light.quiet (opMove rfl rfl)) (congrArg AV.bool hc43.symm))) ?_
        refine ASL.g (v := (.ptr b4 1)) (.bool c43) false rfl (wF _) rfl (fun hG => by have q0 := gN hG; subst q0; exact Light.quiet (opFieldAddr rfl fieldA_73_1 rfl rfl)) ?_
        refine ASL.g (v := (.int .i64 a25.letter)) (.bool c43) false rfl (wF _) rfl (fun hG => by have q0 := gN hG; subst q0; exact Light.quiet (kAt hS (j := 0) rfl rfl aggA_3 rfl rfl)) ?_
        refine ASL.g (v := (.rptr [(.int .i64 p0.letters), (.int .i64 p0.states), (.int .i64 p0.start), (.list 4 (List.map TEdge.av p0.edges))])) (.bool c43) false rfl (wF _) rfl (fun hG => by have q0 := gN hG; subst q0; exact Light.quiet (opFieldAddrR rfl fieldA_26_0 rfl rfl)) ?_
        refine ASL.g (v := (.int .i64 p0.letters)) (.bool c43) false rfl (wF _) rfl (fun hG => by have q0 := gN hG; subst q0; exact Light.quiet (opLoadR rfl aggA_3 rfl rfl)) ?_
        refine ASL.g (v := (.int .i64 (W (p0.letters - 1)))) (.bool c43) false rfl (wF _) rfl (fun hG => by have q0 := gN hG; subst q0; exact Light.quiet (opInt rfl rfl rfl rfl)) ?_
        refine ASL.g (v := (.bool (impl_inRange a25.letter 0 ((W (p0.letters - 1)))))) (.bool c43) false rfl (wF _) rfl (fun hG => by have q0 := gN hG; subst q0; exact (qCall rfl rfl call_59 (impl_inRange_ok a25.letter 0 ((W (p0.letters - 1)))) rfl)) ?_
        refine ASL.g (v := (.bool (!(impl_inRange a25.letter 0 ((W (p0.letters - 1))))))) (.bool c43) false rfl (wF _) rfl (fun hG => by have q0 := gN hG; subst q0; exact Light.quiet (opNot rfl rfl)) ?_
        refine ASL.q (v := (.bool (c43 || (!(impl_inRange a25.letter 0 ((W (p0.letters - 1)))))))) rfl rfl (Light.quiet (opPick (b := c43) rfl rfl (by cases c43 <;> rfl))) ?_
        refine ASL.done ?_
        refine AWP.ifB hF rfl (fun hc13 hF => ?_) (fun hc13 hF => ?_)
        · skip
          refine AWP.seqR rfl ?_
          refine ASL.q (v := (.bool false)) rfl rfl (Light.quiet (opAssign rfl rfl)) ?_
          refine ASL.done ?_
          refine AWP.ret ?_
          refine QThen.rt ?_
          refine QBlock.ret ?_
          refine QThen.rt ?_
          refine QThen.rt ?_
          refine QBlock.ret ?_
          refine QThen.rt ?_
          obtain rfl := (hx4 _ (someE hF).symm)
          have hF := hR7
          have hF := sumR hF
          obtain rfl := someE hF
          exact QRet.sole (v := (.bool false)) ⟨rfl, trivial⟩ rfl
        · skip
          refine AWP.skip ?_
          refine QThen.nrm ?_
          refine AWP.seqD [(0, false), (1, false), (2, false), (3, false), (4, false), (5, false), (6, false), (7, false), (8, false), (9, false), (10, false), (11, false), (12, false)] mixed (by kernel_rfl) rfl ?_
          refine ARL.q0 (v := (.int .i64 x22_l0)) rfl rfl (Light.quiet (opMove rfl rfl)) ?_
          refine ARL.q0 (v := (.bool (decide (x22_l0 > 0)))) rfl rfl (Light.quiet (opInt rfl rfl rfl rfl)) ?_
          obtain ⟨c54, hc54, hF⟩ := bndE hF
          refine ARL.q0 (v := (.bool c54)) rfl rfl ((Quiet.cast (Light.quiet (opMove rfl rfl)) (congrArg AV.bool hc54.symm))) ?_
          refine ARL.g (v := (.rptr [(.list 4 (List.map TEdge.av p0.edges))])) (.bool c54) true rfl (wT _) rfl noneAlive (fun hG => by have q0 := hG; subst q0; exact Light.quiet (opFieldAddrR rfl fieldA_26_3 rfl rfl)) ?_
          refine ARL.g (v := (.list 4 (List.map TEdge.av p0.edges))) (.bool c54) true rfl (wT _) rfl noneAlive (fun hG => by have q0 := hG; subst q0; exact Light.quiet (opLoadR rfl aggA_24 rfl rfl)) ?_
          refine ARL.g (v := (.int .i64 x22_l0)) (.bool c54) true rfl (wT _) rfl noneAlive (fun hG => by have q0 := hG; subst q0; exact Light.quiet (opMove rfl rfl)) ?_
          refine ARL.g (v := (.int .i64 (W (x22_l0 - 1)))) (.bool c54) true rfl (wT _) rfl noneAlive (fun hG => by have q0 := hG; subst q0; exact Light.quiet (opInt rfl rfl rfl rfl)) ?_
          obtain ⟨a59, ha59, hF⟩ := bindE hF
          refine ARL.g (v := (.rptr [(.int .i64 a59.from_), (.int .i64 a59.letter), (.int .i64 a59.to_), (.bool a59.good)])) (.bool c54) true rfl (wT _) rfl noneAlive (fun hG => by have q0 := hG; subst q0; exact Light.quiet (kIx (f := TEdge.av) (whenE ha59) rfl rfl rfl elemA_24 sizeA_73 rfl)) ?_
          refine ARL.g (v := (TEdge.av a59)) (.bool c54) true rfl (wT _) rfl noneAlive (fun hG => by have q0 := hG; subst q0; exact Light.quiet (opLoadRA rfl aggA_73 sizeA_73 rfl (nlt rfl) rfl)) ?_
          refine ARL.g (v := (TEdge.av a25)) (.bool c54) true rfl (wT _) rfl (hS.aliveC (k := 0) rfl) (fun hG => by have q0 := hG; subst q0; exact Light.quiet (kAtA hS (j := 0) rfl rfl aggA_73 sizeA_73 rfl (nlt rfl) rfl)) ?_
          obtain ⟨a62, ha62, hF⟩ := bindE hF
          refine ARL.g (v := (.int .i64 a62)) (.bool c54) true rfl (wT _) rfl noneAlive (fun hG => by have q0 := hG; subst q0; exact (qCall rfl rfl call_85 (impl_compareEdges_ok (whenE ha62)) rfl)) ?_
          refine ARL.g (v := (.bool (decide (a62 ≥ 0)))) (.bool c54) true rfl (wT _) rfl noneAlive (fun hG => by have q0 := hG; subst q0; exact Light.quiet (opInt rfl rfl rfl rfl)) ?_
          refine ARL.q0 (v := (.bool (c54 && (decide (a62 ≥ 0))))) rfl rfl (Light.quiet (opPick (b := c54) rfl rfl (by cases c54 <;> rfl))) ?_
          refine ARL.done ?_
          refine AWP.ifB hF rfl (fun hc14 hF => ?_) (fun hc14 hF => ?_)
          · skip
            refine AWP.seqR rfl ?_
            refine ASL.q (v := (.bool false)) rfl rfl (Light.quiet (opAssign rfl rfl)) ?_
            refine ASL.done ?_
            refine AWP.ret ?_
            refine QBlock.ret ?_
            refine QThen.rt ?_
            refine QThen.rt ?_
            refine QBlock.ret ?_
            refine QThen.rt ?_
            obtain rfl := (hx4 _ (someE hF).symm)
            have hF := hR7
            have hF := sumR hF
            obtain rfl := someE hF
            exact QRet.sole (v := (.bool false)) ⟨rfl, trivial⟩ rfl
          · skip
            refine AWP.skip ?_
            refine QBlock.nrm ?_
            refine QThen.nrm ?_
            refine AWP.lastR rfl ?_
            refine ASL.q (v := (.int .i64 (W (x22_l0 + 1)))) rfl rfl (Light.quiet (opInt rfl rfl rfl rfl)) ?_
            refine ASL.q (v := (.int .i64 (W (x22_l0 + 1)))) rfl rfl (Light.quiet (opMove rfl rfl)) ?_
            refine ASL.done ?_
            refine QThen.nrm ?_
            exact ⟨(W (x22_l0 + 1)), (), (someE hF).symm, ⟨rfl, rfl, rfl, rfl, trivial⟩, (hS.pick [] rfl rfl)⟩
      · skip
        refine AWP.exit ?_
        refine QThen.ext ?_
        refine QThen.ext ?_
        refine QBlock.hit ?_
        obtain rfl := (hx4 _ (someE hF).symm)
        have hF := hR7
        have hF := sumL hF
        refine QThen.nrm ?_
        exact ⟨trivial, (hS.pick [] rfl rfl), hF⟩

set_option maxRecDepth 10000 in
theorem impl_boxOne_ok {p0 : Int} {r : (List Int)} (hF : impl_boxOne p0 = some r) : PO Try.prog 50 [(.int .i64 p0)] 1 (List.map (AV.int .i64) r) := by
  refine HC.enter Try.func50 rfl Try.ntmps50 (by simp) ?_
  have hS := Sep.void; unfold impl_boxOne at hF
  refine AWP.seqR rfl ?_
  have hS := hNil (s := 1) (f := (AV.int .i64)) hS
  refine ASL.q (v := .nil) rfl rfl (Light.quiet (opAssign rfl rfl)) ?_
  refine ASL.done ?_
  refine AWP.seqR rfl ?_
  refine ASL.q (v := (.int .i64 p0)) rfl rfl (Light.quiet (opMove rfl rfl)) ?_
  refine ASL.q (v := (.int .i64 p0)) rfl rfl (Light.quiet (opMove rfl rfl)) ?_
  refine ASL.q (v := (.int .i64 (W (p0 * p0)))) rfl rfl (Light.quiet (opInt rfl rfl rfl rfl)) ?_
  obtain ⟨z8, hz8, hF⟩ := bindE hF
  refine ASL.x rfl rfl (hMk (f := (AV.int .i64)) hS hz8 (by decide) rfl elemA_27 sizeA_3 bytesA_3 zeroA_3 rfl rfl (by decide) rfl rfl ?_); rintro v8 G2 hK hS
  refine ASL.q (v := v8) rfl rfl (Light.quiet (opAssign rfl rfl)) ?_
  refine ASL.done ?_
  refine AWP.seqM (fun e H => ∃ y4 : (List Int), E.Told e [(3, v8)] ∧ E.Sep H [.row 1 v8 (List.map (AV.int .i64) y4)] ∧ impl_boxOne.k0 y4 = some r) ?_ ?_
  · rintro e0 G5 ⟨y4, hT, hS, hF⟩; refine AWP.only _ hT ?_; unfold impl_boxOne.k0 at hF
    refine AWP.seqR rfl ?_
    refine ASL.q (v := v8) rfl rfl (Light.quiet (opMove rfl rfl)) ?_
    refine ASL.q (v := v8) rfl rfl (Light.quiet (opAssign rfl rfl)) ?_
    refine ASL.done ?_
    refine AWP.ret ?_
    obtain rfl := someE hF
    exact QRet.sole (v := v8) ⟨rfl, trivial⟩ (hS.get (k := 0) rfl)
  · skip
    refine AWP.seqR rfl ?_
    refine ASL.q (v := (.int .i64 p0)) rfl rfl (Light.quiet (opMove rfl rfl)) ?_
    refine ASL.q (v := (.int .i64 0)) rfl rfl (Light.quiet (opMove rfl rfl)) ?_
    refine ASL.done ?_
    refine AWP.block ?_
    obtain ⟨o10, hL9, hR11⟩ := bindE hF
    refine AWP.loopF (ω := Unit) hL9 (fun s w => [(0, (.int .i64 p0)), (3, v8), (9, (.int .i64 p0)), (10, (.int .i64 s.2))]) (fun s w => [.row 1 v8 (List.map (AV.int .i64) s.1)]) () ⟨rfl, rfl, rfl, rfl, trivial⟩ (hS.pick [0] rfl rfl) ?_
    rintro ⟨y6, x10_l0⟩ _ G12 hS x7 hF hx8
    try dsimp only at hS ⊢
    have hF : impl_boxOne.b0 p0 y6 x10_l0 = some x7 := hF; unfold impl_boxOne.b0 at hF
    refine AWP.seqR rfl ?_
    refine ASL.q (v := (.bool (decide (x10_l0 < p0)))) rfl rfl (Light.quiet (opInt rfl rfl rfl rfl)) ?_
    refine ASL.done ?_
    refine AWP.seq ?_
    refine AWP.ifP hF rfl (fun hc13 hF => ?_) (fun hc13 hF => ?_)
    · skip
      refine AWP.skip ?_
      refine QThen.nrm ?_
      refine AWP.seq ?_
      refine AWP.block ?_
      refine AWP.seqR rfl ?_
      refine ASL.q (v := (.int .i64 x10_l0)) rfl rfl (Light.quiet (opMove rfl rfl)) ?_
      refine ASL.q (v := (.int .i64 x10_l0)) rfl rfl (Light.quiet (opAssign rfl rfl)) ?_
      refine ASL.done ?_
      refine AWP.lastR rfl ?_
      refine ASL.q (v := v8) rfl rfl (Light.quiet (opMove rfl rfl)) ?_
      refine ASL.q (v := (.int .i64 x10_l0)) rfl rfl (Light.quiet (opMove rfl rfl)) ?_
      refine ASL.q (v := (.int .i64 p0)) rfl rfl (Light.quiet (opMove rfl rfl)) ?_
      refine ASL.q (v := (.int .i64 (W (x10_l0 * p0)))) rfl rfl (Light.quiet (opInt rfl rfl rfl rfl)) ?_
      refine ASL.q (v := (.int .i64 x10_l0)) rfl rfl (Light.quiet (opMove rfl rfl)) ?_
      refine ASL.q (v := (.int .i64 (W (((W (x10_l0 * p0))) + x10_l0)))) rfl rfl (Light.quiet (opInt rfl rfl rfl rfl)) ?_
      obtain ⟨m19, hm19, hF⟩ := bindE hF
      refine ASL.q (v := (ptrTo v8 m19 1)) rfl rfl (Light.quiet (kIxO hS (j := 0) rfl hm19 rfl rfl rfl elemA_27 sizeA_3)) ?_
      refine ASL.n rfl rfl (hSt (f := (AV.int .i64)) (a := 1) hS (j := 0) rfl hm19 rfl sizeA_3 rfl rfl ⟨rfl, rfl, rfl⟩ ?_); rintro G14 hS
      refine ASL.done ?_
      refine QBlock.nrm ?_
      refine QThen.nrm ?_
      refine AWP.lastR rfl ?_
      refine ASL.q (v := (.int .i64 (W (x10_l0 + 1)))) rfl rfl (Light.quiet (opInt rfl rfl rfl rfl)) ?_
      refine ASL.q (v := (.int .i64 (W (x10_l0 + 1)))) rfl rfl (Light.quiet (opMove rfl rfl)) ?_
      refine ASL.done ?_
      refine QThen.nrm ?_
      exact ⟨((y6.set m19 1), (W (x10_l0 + 1))), (), (someE hF).symm, ⟨rfl, rfl, rfl, rfl, trivial⟩, (hS.pick [0] rfl rfl)⟩
    · skip
      refine AWP.exit ?_
      refine QThen.ext ?_
      refine QThen.ext ?_
      refine QBlock.hit ?_
      obtain rfl := (hx8 _ (someE hF).symm)
      have hF := hR11
      refine QThen.nrm ?_
      exact ⟨y6, ⟨rfl, trivial⟩, (hS.pick [0] rfl rfl), hF⟩

set_option maxRecDepth 10000 in
theorem slices_Equal_int_int_ok {p0 : (List Int)} {p1 : (List Int)} {r : Bool} (hF : slices_Equal_int_int p0 p1 = some r) : PC Try.prog 86 [(.list 1 (List.map (AV.int .i64) p0)), (.list 1 (List.map (AV.int .i64) p1))] fun v => v = (.bool r) := by
  refine PC.enter Try.func86 rfl Try.ntmps86 (by simp) ?_
  have hS := Sep.void; unfold slices_Equal_int_int at hF
  refine AWP.seqR rfl ?_
  refine ASL.q (v := (.bool false)) rfl rfl (Light.quiet (opAssign rfl rfl)) ?_
  refine ASL.done ?_
  refine AWP.seq ?_
  refine AWP.seqR rfl ?_
  refine ASL.q (v := (.list 1 (List.map (AV.int .i64) p0))) rfl rfl (Light.quiet (opMove rfl rfl)) ?_
  refine ASL.q (v := (.int .i64 (p0.length : Int))) rfl rfl (Light.quiet (opLenMap (f := (AV.int .i64)) rfl rfl rfl lenT_27 rfl)) ?_
  refine ASL.q (v := (.list 1 (List.map (AV.int .i64) p1))) rfl rfl (Light.quiet (opMove rfl rfl)) ?_
  refine ASL.q (v := (.int .i64 (p1.length : Int))) rfl rfl (Light.quiet (opLenMap (f := (AV.int .i64)) rfl rfl rfl lenT_27 rfl)) ?_
  refine ASL.q (v := (.bool (decide (((p0.length : Int)) ≠ ((p1.length : Int)))))) rfl rfl (Light.quiet (opInt rfl rfl rfl rfl)) ?_
  refine ASL.done ?_
  refine AWP.ifP hF rfl (fun hc1 hF => ?_) (fun hc1 hF => ?_)
  · skip
    refine AWP.seqR rfl ?_
    refine ASL.q (v := (.bool false)) rfl rfl (Light.quiet (opAssign rfl rfl)) ?_
    refine ASL.done ?_
    refine AWP.ret ?_
    refine QThen.rt ?_
    obtain rfl := someE hF
    exact QRet.sole (v := (.bool false)) ⟨rfl, trivial⟩ rfl
  · skip
    refine AWP.skip ?_
    refine QThen.nrm ?_
    refine AWP.seqM (fun e H => E.Told e [] ∧ E.Sep H [] ∧ slices_Equal_int_int.k0 = some r) ?_ ?_
    · rintro e0 G2 ⟨hT, hS, hF⟩; refine AWP.only _ hT ?_; unfold slices_Equal_int_int.k0 at hF
      refine AWP.seqR rfl ?_
      refine ASL.q (v := (.bool true)) rfl rfl (Light.quiet (opAssign rfl rfl)) ?_
      refine ASL.done ?_
      refine AWP.ret ?_
      obtain rfl := someE hF
      exact QRet.sole (v := (.bool true)) ⟨rfl, trivial⟩ rfl
    · skip
      refine AWP.seqR rfl ?_
      refine ASL.q (v := (.list 1 (List.map (AV.int .i64) p0))) rfl rfl (Light.quiet (opMove rfl rfl)) ?_
      refine ASL.q (v := (.int .i64 (p0.length : Int))) rfl rfl (Light.quiet (opLenMap (f := (AV.int .i64)) rfl rfl rfl lenT_27 rfl)) ?_
      refine ASL.q (v := (.int .i64 0)) rfl rfl (Light.quiet (opMove rfl rfl)) ?_
      refine ASL.done ?_
      refine AWP.block ?_
      obtain ⟨o6, hL5, hR7⟩ := bindE hF
      refine AWP.loopF (ω := Unit) hL5 (fun s w => [(0, (.list 1 (List.map (AV.int .i64) p0))), (1, (.list 1 (List.map (AV.int .i64) p1))), (12, (.int .i64 (p0.length : Int))), (13, (.int .i64 s))]) (fun s w => []) () ⟨rfl, rfl, rfl, rfl, trivial⟩ (hS.pick [] rfl rfl) ?_
      rintro x13_l0 _ G8 hS x3 hF hx4
      try dsimp only at hS ⊢
      have hF : slices_Equal_int_int.b0 p0 p1 x13_l0 = some x3 := hF; unfold slices_Equal_int_int.b0 at hF
      refine AWP.seqR rfl ?_
      refine ASL.q (v := (.bool (decide (x13_l0 < ((p0.length : Int)))))) rfl rfl (Light.quiet (opInt rfl rfl rfl rfl)) ?_
      refine ASL.done ?_
      refine AWP.seq ?_
      refine AWP.ifP hF rfl (fun hc9 hF => ?_) (fun hc9 hF => ?_)
      · skip
        refine AWP.skip ?_
        refine QThen.nrm ?_
        refine AWP.seq ?_
        refine AWP.block ?_
        refine AWP.seqR rfl ?_
        refine ASL.q (v := (.int .i64 x13_l0)) rfl rfl (Light.quiet (opMove rfl rfl)) ?_
        refine ASL.q (v := (.int .i64 x13_l0)) rfl rfl (Light.quiet (opAssign rfl rfl)) ?_
        refine ASL.done ?_
        refine AWP.seqD [(0, false), (1, false), (2, false), (3, false), (4, false), (5, false), (6, false), (7, false), (8, false)] mixed (by kernel_rfl) rfl ?_
        refine ARL.q0 (v := (.list 1 (List.map (AV.int .i64) p0))) rfl rfl (Light.quiet (opMove rfl rfl)) ?_
        refine ARL.q0 (v := (.int .i64 x13_l0)) rfl rfl (Light.quiet (opMove rfl rfl)) ?_
        obtain ⟨a18, ha18, hF⟩ := bindE hF
        refine ARL.q0 (v := (.rptr [(.int .i64 a18)])) rfl rfl (Light.quiet (kIx (f := (AV.int .i64)) ha18 rfl rfl rfl elemA_27 sizeA_3 rfl)) ?_
        refine ARL.q0 (v := (.int .i64 a18)) rfl rfl (Light.quiet (opLoadR rfl aggA_3 rfl rfl)) ?_
        refine ARL.q0 (v := (.list 1 (List.map (AV.int .i64) p1))) rfl rfl (Light.quiet (opMove rfl rfl)) ?_
        refine ARL.q0 (v := (.int .i64 x13_l0)) rfl rfl (Light.quiet (opMove rfl rfl)) ?_
        obtain ⟨a22, ha22, hF⟩ := bindE hF
        refine ARL.q0 (v := (.rptr [(.int .i64 a22)])) rfl rfl (Light.quiet (kIx (f := (AV.int .i64)) ha22 rfl rfl rfl elemA_27 sizeA_3 rfl)) ?_
        refine ARL.q0 (v := (.int .i64 a22)) rfl rfl (Light.quiet (opLoadR rfl aggA_3 rfl rfl)) ?_
        refine ARL.q0 (v := (.bool (decide (a18 ≠ a22)))) rfl rfl (Light.quiet (opInt rfl rfl rfl rfl)) ?_
        refine ARL.done ?_
        refine AWP.ifP hF rfl (fun hc10 hF => ?_) (fun hc10 hF => ?_)
        · skip
          refine AWP.seqR rfl ?_
          refine ASL.q (v := (.bool false)) rfl rfl (Light.quiet (opAssign rfl rfl)) ?_
          refine ASL.done ?_
          refine AWP.ret ?_
          refine QBlock.ret ?_
          refine QThen.rt ?_
          refine QThen.rt ?_
          refine QBlock.ret ?_
          refine QThen.rt ?_
          obtain rfl := (hx4 _ (someE hF).symm)
          have hF := hR7
          have hF := sumR hF
          obtain rfl := someE hF
          exact QRet.sole (v := (.bool false)) ⟨rfl, trivial⟩ rfl
        · skip
          refine AWP.skip ?_
          refine QBlock.nrm ?_
          refine QThen.nrm ?_
          refine AWP.lastR rfl ?_
          refine ASL.q (v := (.int .i64 (W (x13_l0 + 1)))) rfl rfl (Light.quiet (opInt rfl rfl rfl rfl)) ?_
          refine ASL.q (v := (.int .i64 (W (x13_l0 + 1)))) rfl rfl (Light.quiet (opMove rfl rfl)) ?_
          refine ASL.done ?_
          refine QThen.nrm ?_
          exact ⟨(W (x13_l0 + 1)), (), (someE hF).symm, ⟨rfl, rfl, rfl, rfl, trivial⟩, (hS.pick [] rfl rfl)⟩
      · skip
        refine AWP.exit ?_
        refine QThen.ext ?_
        refine QThen.ext ?_
        refine QBlock.hit ?_
        obtain rfl := (hx4 _ (someE hF).symm)
        have hF := hR7
        have hF := sumL hF
        refine QThen.nrm ?_
        exact ⟨trivial, (hS.pick [] rfl rfl), hF⟩

set_option maxRecDepth 10000 in
theorem impl_twins_1_1_ok {p0 : Ttwin} {p1 : Ttwin} {r : Bool} (hF : impl_twins_1_1 p0 p1 = some r) : PC Try.prog 99 [(Ttwin.av p0), (.rptr [(.list 1 (List.map (AV.int .i64) p1.word)), (.list 1 (List.map (AV.int .i64) p1.a)), (.list 1 (List.map (AV.int .i64) p1.b))])] fun v => v = (.bool r) := by
  refine PC.enter Try.func99 rfl Try.ntmps99 (by simp) ?_
  have hS := Sep.void; unfold impl_twins_1_1 at hF
  refine AWP.seqR rfl ?_
  refine ASL.q (v := (.rptr [(.list 1 (List.map (AV.int .i64) p0.word)), (.list 1 (List.map (AV.int .i64) p0.a)), (.list 1 (List.map (AV.int .i64) p0.b))])) rfl rfl ((qBoxI (v := (Ttwin.av p0)) rfl rfl rfl rfl)) ?_
  refine ASL.q (v := (.bool false)) rfl rfl (Light.quiet (opAssign rfl rfl)) ?_
  refine ASL.done ?_
  refine AWP.seqR rfl ?_
  refine ASL.q (v := (.rptr [(.list 1 (List.map (AV.int .i64) p1.a)), (.list 1 (List.map (AV.int .i64) p1.b))])) rfl rfl (Light.quiet (opFieldAddrR rfl fieldA_93_1 rfl rfl)) ?_
  refine ASL.q (v := (.list 1 (List.map (AV.int .i64) p1.a))) rfl rfl (Light.quiet (opLoadR rfl aggA_27 rfl rfl)) ?_
  refine ASL.q (v := (.rptr [(.list 1 (List.map (AV.int .i64) p0.a)), (.list 1 (List.map (AV.int .i64) p0.b))])) rfl rfl (Light.quiet (opFieldAddrR rfl fieldA_93_1 rfl rfl)) ?_
  refine ASL.q (v := (.list 1 (List.map (AV.int .i64) p0.a))) rfl rfl (Light.quiet (opLoadR rfl aggA_27 rfl rfl)) ?_
  obtain ⟨a8, ha8, hF⟩ := bindE hF
  refine ASL.q (v := (.bool a8)) rfl rfl ((qCall rfl rfl call_86 (slices_Equal_int_int_ok ha8) rfl)) ?_
  refine ASL.q (v := (.bool a8)) rfl rfl (Light.quiet (opMove rfl rfl)) ?_
  refine ASL.g (v := (.rptr [(.list 1 (List.map (AV.int .i64) p1.b))])) (.bool a8) true rfl (wT _) rfl (fun hG => by have q0 := hG; subst q0; exact Light.quiet (opFieldAddrR rfl fieldA_93_2 rfl rfl)) ?_
  refine ASL.g (v := (.list 1 (List.map (AV.int .i64) p1.b))) (.bool a8) true rfl (wT _) rfl (fun hG => by have q0 := hG; subst q0; exact Light.quiet (opLoadR rfl aggA_27 rfl rfl)) ?_
  refine ASL.g (v := (.rptr [(.list 1 (List.map (AV.int .i64) p0.b))])) (.bool a8) true rfl (wT _) rfl (fun hG => by have q0 := hG; subst q0; exact Light.quiet (opFieldAddrR rfl fieldA_93_2 rfl rfl)) ?_
  refine ASL.g (v := (.list 1 (List.map (AV.int .i64) p0.b))) (.bool a8) true rfl (wT _) rfl (fun hG => by have q0 := hG; subst q0; exact Light.quiet (opLoadR rfl aggA_27 rfl rfl)) ?_
  obtain ⟨a14, ha14, hF⟩ := bindE hF
  refine ASL.g (v := (.bool a14)) (.bool a8) true rfl (wT _) rfl (fun hG => by have q0 := hG; subst q0; exact (qCall rfl rfl call_86 (slices_Equal_int_int_ok (whenE ha14)) rfl)) ?_
  refine ASL.q (v := (.bool (a8 && a14))) rfl rfl (Light.quiet (opPick (b := a8) rfl rfl (by cases a8 <;> rfl))) ?_
  refine ASL.q (v := (.bool (a8 && a14))) rfl rfl (Light.quiet (opAssign rfl rfl)) ?_
  refine ASL.done ?_
  refine AWP.ret ?_
  obtain rfl := someE hF
  exact QRet.sole (v := (.bool (a8 && a14))) ⟨rfl, trivial⟩ rfl

set_option maxRecDepth 10000 in
theorem slices_IndexFunc_impl_twin_impl_twin_ok {p0 : (List Ttwin)} {g1 : (Ttwin → Option Bool)} {r : Int} {c1 : List AV} {k1 : Nat} (hcal1 : callable Try.prog k1 = true) (hg1 : ∀ q0 y, g1 q0 = some y → PC Try.prog k1 ((Ttwin.av q0) :: c1) fun v => v = (.bool y)) (hF : slices_IndexFunc_impl_twin_impl_twin p0 g1 = some r) : PC Try.prog 117 [(.list 3 (List.map Ttwin.av p0)), (.fn (.func k1) [] c1)] fun v => v = (.int .i64 r) := by
  refine PC.enter Try.func117 rfl Try.ntmps117 (by simp) ?_
  have hS := Sep.void; unfold slices_IndexFunc_impl_twin_impl_twin at hF
  refine AWP.seqR rfl ?_
  refine ASL.q (v := (.int .i64 0)) rfl rfl (Light.quiet (opAssign rfl rfl)) ?_
  refine ASL.done ?_
  refine AWP.seqM (fun e H => E.Told e [] ∧ E.Sep H [] ∧ slices_IndexFunc_impl_twin_impl_twin.k0 = some r) ?_ ?_
  · rintro e0 G1 ⟨hT, hS, hF⟩; refine AWP.only _ hT ?_; unfold slices_IndexFunc_impl_twin_impl_twin.k0 at hF
    refine AWP.seqR rfl ?_
    refine ASL.q (v := (.int .i64 (-1))) rfl rfl (Light.quiet (opAssign rfl rfl)) ?_
    refine ASL.done ?_
    refine AWP.ret ?_
    obtain rfl := someE hF
    exact QRet.sole (v := (.int .i64 (-1))) ⟨rfl, trivial⟩ rfl
  · skip
    refine AWP.seqR rfl ?_
    refine ASL.q (v := (.list 3 (List.map Ttwin.av p0))) rfl rfl (Light.quiet (opMove rfl rfl)) ?_
    refine ASL.q (v := (.int .i64 (p0.length : Int))) rfl rfl (Light.quiet (opLenMap (f := Ttwin.av) rfl rfl rfl lenT_89 rfl)) ?_
    refine ASL.q (v := (.int .i64 0)) rfl rfl (Light.quiet (opMove rfl rfl)) ?_
    refine ASL.done ?_
    refine AWP.block ?_
    obtain ⟨o5, hL4, hR6⟩ := bindE hF
    refine AWP.loopF (ω := Unit) hL4 (fun s w => [(0, (.list 3 (List.map Ttwin.av p0))), (1, (.fn (.func k1) [] c1)), (7, (.int .i64 (p0.length : Int))), (8, (.int .i64 s))]) (fun s w => []) () ⟨rfl, rfl, rfl, rfl, trivial⟩ (hS.pick [] rfl rfl) ?_
    rintro x8_l0 _ G7 hS x2 hF hx3
    try dsimp only at hS ⊢
    have hF : slices_IndexFunc_impl_twin_impl_twin.b0 p0 g1 x8_l0 = some x2 := hF; unfold slices_IndexFunc_impl_twin_impl_twin.b0 at hF
    refine AWP.seqR rfl ?_
    refine ASL.q (v := (.bool (decide (x8_l0 < ((p0.length : Int)))))) rfl rfl (Light.quiet (opInt rfl rfl rfl rfl)) ?_
    refine ASL.done ?_
    refine AWP.seq ?_
    refine AWP.ifP hF rfl (fun hc8 hF => ?_) (fun hc8 hF => ?_)
    · skip
      refine AWP.skip ?_
      refine QThen.nrm ?_
      refine AWP.seq ?_
      refine AWP.block ?_
      refine AWP.seqR rfl ?_
      refine ASL.q (v := (.int .i64 x8_l0)) rfl rfl (Light.quiet (opMove rfl rfl)) ?_
      refine ASL.q (v := (.int .i64 x8_l0)) rfl rfl (Light.quiet (opAssign rfl rfl)) ?_
      refine ASL.done ?_
      refine AWP.seqR rfl ?_
      refine ASL.q (v := (.fn (.func k1) [] c1)) rfl rfl (Light.quiet (opMove rfl rfl)) ?_
      refine ASL.q (v := (.list 3 (List.map Ttwin.av p0))) rfl rfl (Light.quiet (opMove rfl rfl)) ?_
      refine ASL.q (v := (.int .i64 x8_l0)) rfl rfl (Light.quiet (opMove rfl rfl)) ?_
      obtain ⟨a14, ha14, hF⟩ := bindE hF
      refine ASL.q (v := (.rptr [(.list 1 (List.map (AV.int .i64) a14.word)), (.list 1 (List.map (AV.int .i64) a14.a)), (.list 1 (List.map (AV.int .i64) a14.b))])) rfl rfl (Light.quiet (kIx (f := Ttwin.av) ha14 rfl rfl rfl elemA_89 sizeA_93 rfl)) ?_
      refine ASL.q (v := (Ttwin.av a14)) rfl rfl (Light.quiet (opLoadRA rfl aggA_93 sizeA_93 rfl (nlt rfl) rfl)) ?_
      obtain ⟨a16, ha16, hF⟩ := bindE hF
      refine ASL.q (v := (.bool a16)) rfl rfl ((qCall rfl rfl hcal1 ((hg1 _ _) ha16) rfl)) ?_
      refine ASL.done ?_
      refine AWP.ifB hF rfl (fun hc9 hF => ?_) (fun hc9 hF => ?_)
      · skip
        refine AWP.seqR rfl ?_
        refine ASL.q (v := (.int .i64 x8_l0)) rfl rfl (Light.quiet (opMove rfl rfl)) ?_
        refine ASL.q (v := (.int .i64 x8_l0)) rfl rfl (Light.quiet (opAssign rfl rfl)) ?_
        refine ASL.done ?_
        refine AWP.ret ?_
        refine QBlock.ret ?_
        refine QThen.rt ?_
        refine QThen.rt ?_
        refine QBlock.ret ?_
        refine QThen.rt ?_
        obtain rfl := (hx3 _ (someE hF).symm)
        have hF := hR6
        have hF := sumR hF
        obtain rfl := someE hF
        exact QRet.sole (v := (.int .i64 x8_l0)) ⟨rfl, trivial⟩ rfl
      · skip
        refine AWP.skip ?_
        refine QBlock.nrm ?_
        refine QThen.nrm ?_
        refine AWP.lastR rfl ?_
        refine ASL.q (v := (.int .i64 (W (x8_l0 + 1)))) rfl rfl (Light.quiet (opInt rfl rfl rfl rfl)) ?_
        refine ASL.q (v := (.int .i64 (W (x8_l0 + 1)))) rfl rfl (Light.quiet (opMove rfl rfl)) ?_
        refine ASL.done ?_
        refine QThen.nrm ?_
        exact ⟨(W (x8_l0 + 1)), (), (someE hF).symm, ⟨rfl, rfl, rfl, rfl, trivial⟩, (hS.pick [] rfl rfl)⟩
    · skip
      refine AWP.exit ?_
      refine QThen.ext ?_
      refine QThen.ext ?_
      refine QBlock.hit ?_
      obtain rfl := (hx3 _ (someE hF).symm)
      have hF := hR6
      have hF := sumL hF
      refine QThen.nrm ?_
      exact ⟨trivial, (hS.pick [] rfl rfl), hF⟩

set_option maxRecDepth 10000 in
theorem slices_ContainsFunc_impl_twin_impl_twin_ok {p0 : (List Ttwin)} {g1 : (Ttwin → Option Bool)} {r : Bool} {c1 : List AV} {k1 : Nat} (hcal1 : callable Try.prog k1 = true) (hg1 : ∀ q0 y, g1 q0 = some y → PC Try.prog k1 ((Ttwin.av q0) :: c1) fun v => v = (.bool y)) (hF : slices_ContainsFunc_impl_twin_impl_twin p0 g1 = some r) : PC Try.prog 98 [(.list 3 (List.map Ttwin.av p0)), (.fn (.func k1) [] c1)] fun v => v = (.bool r) := by
  refine PC.enter Try.func98 rfl Try.ntmps98 (by simp) ?_
  have hS := Sep.void; unfold slices_ContainsFunc_impl_twin_impl_twin at hF
  refine AWP.seqR rfl ?_
  refine ASL.q (v := (.bool false)) rfl rfl (Light.quiet (opAssign rfl rfl)) ?_
  refine ASL.done ?_
  refine AWP.seqR rfl ?_
  refine ASL.q (v := (.list 3 (List.map Ttwin.av p0))) rfl rfl (Light.quiet (opMove rfl rfl)) ?_
  refine ASL.q (v := (.fn (.func k1) [] c1)) rfl rfl (Light.quiet (opMove rfl rfl)) ?_
  obtain ⟨a7, ha7, hF⟩ := bindE hF
  refine ASL.q (v := (.int .i64 a7)) rfl rfl ((qCall rfl rfl call_117 (slices_IndexFunc_impl_twin_impl_twin_ok hcal1 hg1 ha7) rfl)) ?_
  refine ASL.q (v := (.bool (decide (a7 ≥ 0)))) rfl rfl (Light.quiet (opInt rfl rfl rfl rfl)) ?_
  refine ASL.q (v := (.bool (decide (a7 ≥ 0)))) rfl rfl (Light.quiet (opAssign rfl rfl)) ?_
  refine ASL.done ?_
  refine AWP.ret ?_
  obtain rfl := someE hF
  exact QRet.sole (v := (.bool (decide (a7 ≥ 0)))) ⟨rfl, trivial⟩ rfl

set_option maxRecDepth 10000 in
theorem impl_twins_1_ok {p0 : Ttwin} {p1 : (List Ttwin)} {r : Bool} (hF : impl_twins_1 p0 p1 = some r) : PC Try.prog 97 [(Ttwin.av p0), (.rptr [(.list 3 (List.map Ttwin.av p1))])] fun v => v = (.bool r) := by
  refine PC.enter Try.func97 rfl Try.ntmps97 (by simp) ?_
  have hS := Sep.void; unfold impl_twins_1 at hF
  refine AWP.seqR rfl ?_
  refine ASL.q (v := (.rptr [(.list 1 (List.map (AV.int .i64) p0.word)), (.list 1 (List.map (AV.int .i64) p0.a)), (.list 1 (List.map (AV.int .i64) p0.b))])) rfl rfl ((qBoxI (v := (Ttwin.av p0)) rfl rfl rfl rfl)) ?_
  refine ASL.q (v := (.bool false)) rfl rfl (Light.quiet (opAssign rfl rfl)) ?_
  refine ASL.done ?_
  refine AWP.seqR rfl ?_
  refine ASL.q (v := (.list 3 (List.map Ttwin.av p1))) rfl rfl (Light.quiet (opLoadR rfl aggA_89 rfl rfl)) ?_
  refine ASL.q (v := (.fn (.func 99) [] [(.rptr [(.list 1 (List.map (AV.int .i64) p0.word)), (.list 1 (List.map (AV.int .i64) p0.a)), (.list 1 (List.map (AV.int .i64) p0.b))])])) rfl rfl (Light.quiet (opFunc rfl rfl)) ?_
  obtain ⟨a6, ha6, hF⟩ := bindE hF
  refine ASL.q (v := (.bool a6)) rfl rfl ((qCall rfl rfl call_98 (slices_ContainsFunc_impl_twin_impl_twin_ok call_99 (fun q0 y h => impl_twins_1_1_ok h) ha6) rfl)) ?_
  refine ASL.q (v := (.bool a6)) rfl rfl (Light.quiet (opAssign rfl rfl)) ?_
  refine ASL.done ?_
  refine AWP.ret ?_
  obtain rfl := someE hF
  exact QRet.sole (v := (.bool a6)) ⟨rfl, trivial⟩ rfl

set_option maxRecDepth 10000 in
theorem impl_boxLetter_ok {p0 : TAuto} {p1 : Int} {r : (List Int)} (hF : impl_boxLetter p0 p1 = some r) : PO Try.prog 52 [(TAuto.av p0), (.int .i64 p1)] 1 (List.map (AV.int .i64) r) := by
  refine HC.enter Try.func52 rfl Try.ntmps52 (by simp) ?_
  have hS := Sep.void; unfold impl_boxLetter at hF
  refine AWP.seqR rfl ?_
  refine ASL.q (v := (.rptr [(.int .i64 p0.letters), (.int .i64 p0.states), (.int .i64 p0.start), (.list 4 (List.map TEdge.av p0.edges))])) rfl rfl ((qBoxI (v := (TAuto.av p0)) rfl rfl rfl rfl)) ?_
  have hS := hNil (s := 1) (f := (AV.int .i64)) hS
  refine ASL.q (v := .nil) rfl rfl (Light.quiet (opAssign rfl rfl)) ?_
  refine ASL.done ?_
  refine AWP.seqR rfl ?_
  refine ASL.q (v := (.rptr [(.int .i64 p0.states), (.int .i64 p0.start), (.list 4 (List.map TEdge.av p0.edges))])) rfl rfl (Light.quiet (opFieldAddrR rfl fieldA_26_1 rfl rfl)) ?_
  refine ASL.q (v := (.int .i64 p0.states)) rfl rfl (Light.quiet (opLoadR rfl aggA_3 rfl rfl)) ?_
  refine ASL.q (v := (.rptr [(.int .i64 p0.states), (.int .i64 p0.start), (.list 4 (List.map TEdge.av p0.edges))])) rfl rfl (Light.quiet (opFieldAddrR rfl fieldA_26_1 rfl rfl)) ?_
  refine ASL.q (v := (.int .i64 p0.states)) rfl rfl (Light.quiet (opLoadR rfl aggA_3 rfl rfl)) ?_
  refine ASL.q (v := (.int .i64 (W (p0.states * p0.states)))) rfl rfl (Light.quiet (opInt rfl rfl rfl rfl)) ?_
  obtain ⟨z13, hz13, hF⟩ := bindE hF
  refine ASL.x rfl rfl (hMk (f := (AV.int .i64)) hS hz13 (by decide) rfl elemA_27 sizeA_3 bytesA_3 zeroA_3 rfl rfl (by decide) rfl rfl ?_); rintro v13 G2 hK hS
  refine ASL.q (v := v13) rfl rfl (Light.quiet (opAssign rfl rfl)) ?_
  refine ASL.done ?_
  refine AWP.seqM (fun e H => ∃ y4 : (List Int), E.Told e [(5, v13)] ∧ E.Sep H [.row 1 v13 (List.map (AV.int .i64) y4)] ∧ impl_boxLetter.k0 y4 = some r) ?_ ?_
  · rintro e0 G5 ⟨y4, hT, hS, hF⟩; refine AWP.only _ hT ?_; unfold impl_boxLetter.k0 at hF
    refine AWP.seqR rfl ?_
    refine ASL.q (v := v13) rfl rfl (Light.quiet (opMove rfl rfl)) ?_
    refine ASL.q (v := v13) rfl rfl (Light.quiet (opAssign rfl rfl)) ?_
    refine ASL.done ?_
    refine AWP.ret ?_
    obtain rfl := someE hF
    exact QRet.sole (v := v13) ⟨rfl, trivial⟩ (hS.get (k := 0) rfl)
  · skip
    refine AWP.seqR rfl ?_
    refine ASL.q (v := (.rptr [(.list 4 (List.map TEdge.av p0.edges))])) rfl rfl (Light.quiet (opFieldAddrR rfl fieldA_26_3 rfl rfl)) ?_
    refine ASL.q (v := (.list 4 (List.map TEdge.av p0.edges))) rfl rfl (Light.quiet (opLoadR rfl aggA_24 rfl rfl)) ?_
    refine ASL.q (v := (.int .i64 (p0.edges.length : Int))) rfl rfl (Light.quiet (opLenMap (f := TEdge.av) rfl rfl rfl lenT_24 rfl)) ?_
    refine ASL.q (v := (.int .i64 0)) rfl rfl (Light.quiet (opMove rfl rfl)) ?_
    refine ASL.done ?_
    refine AWP.block ?_
    obtain ⟨o10, hL9, hR11⟩ := bindE hF
    refine AWP.loopF (ω := Unit) hL9 (fun s w => [(1, (.int .i64 p1)), (2, (.rptr [(.int .i64 p0.letters), (.int .i64 p0.states), (.int .i64 p0.start), (.list 4 (List.map TEdge.av p0.edges))])), (5, v13), (15, (.list 4 (List.map TEdge.av p0.edges))), (16, (.int .i64 (p0.edges.length : Int))), (17, (.int .i64 s.2))]) (fun s w => [.row 1 v13 (List.map (AV.int .i64) s.1)]) () ⟨rfl, rfl, rfl, rfl, rfl, rfl, trivial⟩ (hS.pick [0] rfl rfl) ?_
    rintro ⟨y6, x17_l0⟩ _ G12 hS x7 hF hx8
    try dsimp only at hS ⊢
    have hF : impl_boxLetter.b0 p0 p1 y6 x17_l0 = some x7 := hF; unfold impl_boxLetter.b0 at hF
    refine AWP.seqR rfl ?_
    refine ASL.q (v := (.bool (decide (x17_l0 < ((p0.edges.length : Int)))))) rfl rfl (Light.quiet (opInt rfl rfl rfl rfl)) ?_
    refine ASL.done ?_
    refine AWP.seq ?_
    refine AWP.ifP hF rfl (fun hc13 hF => ?_) (fun hc13 hF => ?_)
    · skip
      refine AWP.skip ?_
      refine QThen.nrm ?_
      refine AWP.seq ?_
      refine AWP.block ?_
      refine AWP.seqR rfl ?_
      obtain ⟨a19, ha19, hF⟩ := bindE hF
      refine ASL.q (v := (.rptr [(.int .i64 a19.from_), (.int .i64 a19.letter), (.int .i64 a19.to_), (.bool a19.good)])) rfl rfl (Light.quiet (kIx (f := TEdge.av) ha19 rfl rfl rfl elemA_24 sizeA_73 rfl)) ?_
      refine ASL.q (v := (TEdge.av a19)) rfl rfl (Light.quiet (opLoadRA rfl aggA_73 sizeA_73 rfl (nlt rfl) rfl)) ?_
      refine ASL.x rfl rfl (hNewZ hS [(.int .i64 0), (.int .i64 0), (.int .i64 0), (.bool false)] rfl zeroA_73 ⟨.inl rfl, .inl rfl, .inl rfl, .inl rfl, trivial⟩ ?_); rintro b7 G14 hK hS
      refine ASL.n rfl rfl (hPutA hS (j := 0) rfl rfl sizeA_73 rfl rfl rfl rfl rfl (nlt rfl) ?_); rintro G16 hS
      refine ASL.done ?_
      refine AWP.seq ?_
      refine AWP.seqR rfl ?_
      refine ASL.q (v := (.ptr b7 1)) rfl rfl (Light.quiet (opFieldAddr rfl fieldA_73_1 rfl rfl)) ?_
      refine ASL.q (v := (.int .i64 a19.letter)) rfl rfl (Light.quiet (kAt hS (j := 0) rfl rfl aggA_3 rfl rfl)) ?_
      refine ASL.q (v := (.int .i64 p1)) rfl rfl (Light.quiet (opMove rfl rfl)) ?_
      refine ASL.q (v := (.bool (decide (a19.letter ≠ p1)))) rfl rfl (Light.quiet (opInt rfl rfl rfl rfl)) ?_
      refine ASL.done ?_
      refine AWP.ifP hF rfl (fun hc17 hF => ?_) (fun hc17 hF => ?_)
      · skip
        refine AWP.exit ?_
        refine QThen.ext ?_
        refine QBlock.hit ?_
        refine QThen.nrm ?_
        refine AWP.lastR rfl ?_
        refine ASL.q (v := (.int .i64 (W (x17_l0 + 1)))) rfl rfl (Light.quiet (opInt rfl rfl rfl rfl)) ?_
        refine ASL.q (v := (.int .i64 (W (x17_l0 + 1)))) rfl rfl (Light.quiet (opMove rfl rfl)) ?_
        refine ASL.done ?_
        refine QThen.nrm ?_
        exact ⟨(y6, (W (x17_l0 + 1))), (), (someE hF).symm, ⟨rfl, rfl, rfl, rfl, rfl, rfl, trivial⟩, (hS.pick [1] rfl rfl)⟩
      · skip
        refine AWP.skip ?_
        refine QThen.nrm ?_
        refine AWP.seqR rfl ?_
        refine ASL.q (v := v13) rfl rfl (Light.quiet (opMove rfl rfl)) ?_
        refine ASL.q (v := (.ptr b7 0)) rfl rfl (Light.quiet (opFieldAddr rfl fieldA_73_0 rfl rfl)) ?_
        refine ASL.q (v := (.int .i64 a19.from_)) rfl rfl (Light.quiet (kAt hS (j := 0) rfl rfl aggA_3 rfl rfl)) ?_
        refine ASL.q (v := (.rptr [(.int .i64 p0.states), (.int .i64 p0.start), (.list 4 (List.map TEdge.av p0.edges))])) rfl rfl (Light.quiet (opFieldAddrR rfl fieldA_26_1 rfl rfl)) ?_
        refine ASL.q (v := (.int .i64 p0.states)) rfl rfl (Light.quiet (opLoadR rfl aggA_3 rfl rfl)) ?_
        refine ASL.q (v := (.int .i64 (W (a19.from_ * p0.states)))) rfl rfl (Light.quiet (opInt rfl rfl rfl rfl)) ?_
        refine ASL.q (v := (.ptr b7 2)) rfl rfl (Light.quiet (opFieldAddr rfl fieldA_73_2 rfl rfl)) ?_
        refine ASL.q (v := (.int .i64 a19.to_)) rfl rfl (Light.quiet (kAt hS (j := 0) rfl rfl aggA_3 rfl rfl)) ?_
        refine ASL.q (v := (.int .i64 (W (((W (a19.from_ * p0.states))) + a19.to_)))) rfl rfl (Light.quiet (opInt rfl rfl rfl rfl)) ?_
        obtain ⟨m34, hm34, hF⟩ := bindE hF
        refine ASL.q (v := (ptrTo v13 m34 1)) rfl rfl (Light.quiet (kIxO hS (j := 1) rfl hm34 rfl rfl rfl elemA_27 sizeA_3)) ?_
        refine ASL.n rfl rfl (hSt (f := (AV.int .i64)) (a := 1) hS (j := 1) rfl hm34 rfl sizeA_3 rfl rfl ⟨rfl, rfl, rfl⟩ ?_); rintro G18 hS
        refine ASL.done ?_
        refine AWP.seqR rfl ?_
        refine ASL.q (v := (.ptr b7 3)) rfl rfl (Light.quiet (opFieldAddr rfl fieldA_73_3 rfl rfl)) ?_
        refine ASL.q (v := (.bool a19.good)) rfl rfl (Light.quiet (kAt hS (j := 0) rfl rfl aggA_4 rfl rfl)) ?_
        refine ASL.done ?_
        refine AWP.ifB hF rfl (fun hc19 hF => ?_) (fun hc19 hF => ?_)
        · skip
          refine AWP.lastR rfl ?_
          refine ASL.q (v := v13) rfl rfl (Light.quiet (opMove rfl rfl)) ?_
          refine ASL.q (v := (.ptr b7 0)) rfl rfl (Light.quiet (opFieldAddr rfl fieldA_73_0 rfl rfl)) ?_
          refine ASL.q (v := (.int .i64 a19.from_)) rfl rfl (Light.quiet (kAt hS (j := 0) rfl rfl aggA_3 rfl rfl)) ?_
          refine ASL.q (v := (.rptr [(.int .i64 p0.states), (.int .i64 p0.start), (.list 4 (List.map TEdge.av p0.edges))])) rfl rfl (Light.quiet (opFieldAddrR rfl fieldA_26_1 rfl rfl)) ?_
          refine ASL.q (v := (.int .i64 p0.states)) rfl rfl (Light.quiet (opLoadR rfl aggA_3 rfl rfl)) ?_
          refine ASL.q (v := (.int .i64 (W (a19.from_ * p0.states)))) rfl rfl (Light.quiet (opInt rfl rfl rfl rfl)) ?_
          refine ASL.q (v := (.ptr b7 2)) rfl rfl (Light.quiet (opFieldAddr rfl fieldA_73_2 rfl rfl)) ?_
          refine ASL.q (v := (.int .i64 a19.to_)) rfl rfl (Light.quiet (kAt hS (j := 0) rfl rfl aggA_3 rfl rfl)) ?_
          refine ASL.q (v := (.int .i64 (W (((W (a19.from_ * p0.states))) + a19.to_)))) rfl rfl (Light.quiet (opInt rfl rfl rfl rfl)) ?_
          obtain ⟨m46, hm46, hF⟩ := bindE hF
          refine ASL.q (v := (ptrTo v13 m46 1)) rfl rfl (Light.quiet (kIxO hS (j := 1) rfl hm46 rfl rfl rfl elemA_27 sizeA_3)) ?_
          refine ASL.n rfl rfl (hSt (f := (AV.int .i64)) (a := 2) hS (j := 1) rfl hm46 rfl sizeA_3 rfl rfl ⟨rfl, rfl, rfl⟩ ?_); rintro G20 hS
          refine ASL.done ?_
          refine QBlock.nrm ?_
          refine QThen.nrm ?_
          refine AWP.lastR rfl ?_
          refine ASL.q (v := (.int .i64 (W (x17_l0 + 1)))) rfl rfl (Light.quiet (opInt rfl rfl rfl rfl)) ?_
          refine ASL.q (v := (.int .i64 (W (x17_l0 + 1)))) rfl rfl (Light.quiet (opMove rfl rfl)) ?_
          refine ASL.done ?_
          refine QThen.nrm ?_
          exact ⟨((((y6.set m34 1)).set m46 2), (W (x17_l0 + 1))), (), (someE hF).symm, ⟨rfl, rfl, rfl, rfl, rfl, rfl, trivial⟩, (hS.pick [1] rfl rfl)⟩
        · skip
          refine AWP.skip ?_
          refine QBlock.nrm ?_
          refine QThen.nrm ?_
          refine AWP.lastR rfl ?_
          refine ASL.q (v := (.int .i64 (W (x17_l0 + 1)))) rfl rfl (Light.quiet (opInt rfl rfl rfl rfl)) ?_
          refine ASL.q (v := (.int .i64 (W (x17_l0 + 1)))) rfl rfl (Light.quiet (opMove rfl rfl)) ?_
          refine ASL.done ?_
          refine QThen.nrm ?_
          exact ⟨((y6.set m34 1), (W (x17_l0 + 1))), (), (someE hF).symm, ⟨rfl, rfl, rfl, rfl, rfl, rfl, trivial⟩, (hS.pick [1] rfl rfl)⟩
    · skip
      refine AWP.exit ?_
      refine QThen.ext ?_
      refine QThen.ext ?_
      refine QBlock.hit ?_
      obtain rfl := (hx8 _ (someE hF).symm)
      have hF := hR11
      refine QThen.nrm ?_
      exact ⟨y6, ⟨rfl, trivial⟩, (hS.pick [0] rfl rfl), hF⟩

set_option maxRecDepth 10000 in
theorem impl_boxMul_ok {p0 : Int} {p1 : (List Int)} {p2 : (List Int)} {r : (List Int)} (hF : impl_boxMul p0 p1 p2 = some r) : PO Try.prog 51 [(.int .i64 p0), (.list 1 (List.map (AV.int .i64) p1)), (.list 1 (List.map (AV.int .i64) p2))] 1 (List.map (AV.int .i64) r) := by
  refine HC.enter Try.func51 rfl Try.ntmps51 (by simp) ?_
  have hS := Sep.void; unfold impl_boxMul at hF
  refine AWP.seqR rfl ?_
  have hS := hNil (s := 1) (f := (AV.int .i64)) hS
  refine ASL.q (v := .nil) rfl rfl (Light.quiet (opAssign rfl rfl)) ?_
  refine ASL.done ?_
  refine AWP.seqR rfl ?_
  refine ASL.q (v := (.int .i64 p0)) rfl rfl (Light.quiet (opMove rfl rfl)) ?_
  refine ASL.q (v := (.int .i64 p0)) rfl rfl (Light.quiet (opMove rfl rfl)) ?_
  refine ASL.q (v := (.int .i64 (W (p0 * p0)))) rfl rfl (Light.quiet (opInt rfl rfl rfl rfl)) ?_
  obtain ⟨z14, hz14, hF⟩ := bindE hF
  refine ASL.x rfl rfl (hMk (f := (AV.int .i64)) hS hz14 (by decide) rfl elemA_27 sizeA_3 bytesA_3 zeroA_3 rfl rfl (by decide) rfl rfl ?_); rintro v14 G2 hK hS
  refine ASL.q (v := v14) rfl rfl (Light.quiet (opAssign rfl rfl)) ?_
  refine ASL.done ?_
  refine AWP.seqM (fun e H => ∃ y4 : (List Int), E.Told e [(7, v14)] ∧ E.Sep H [.row 1 v14 (List.map (AV.int .i64) y4)] ∧ impl_boxMul.k0 y4 = some r) ?_ ?_
  · rintro e0 G5 ⟨y4, hT, hS, hF⟩; refine AWP.only _ hT ?_; unfold impl_boxMul.k0 at hF
    refine AWP.seqR rfl ?_
    refine ASL.q (v := v14) rfl rfl (Light.quiet (opMove rfl rfl)) ?_
    refine ASL.q (v := v14) rfl rfl (Light.quiet (opAssign rfl rfl)) ?_
    refine ASL.done ?_
    refine AWP.ret ?_
    obtain rfl := someE hF
    exact QRet.sole (v := v14) ⟨rfl, trivial⟩ (hS.get (k := 0) rfl)
  · skip
    refine AWP.seqR rfl ?_
    refine ASL.q (v := (.int .i64 p0)) rfl rfl (Light.quiet (opMove rfl rfl)) ?_
    refine ASL.q (v := (.int .i64 0)) rfl rfl (Light.quiet (opMove rfl rfl)) ?_
    refine ASL.done ?_
    refine AWP.block ?_
    obtain ⟨o10, hL9, hR11⟩ := bindE hF
    refine AWP.loopF (ω := Unit) hL9 (fun s w => [(0, (.int .i64 p0)), (1, (.list 1 (List.map (AV.int .i64) p1))), (2, (.list 1 (List.map (AV.int .i64) p2))), (7, v14), (15, (.int .i64 p0)), (16, (.int .i64 s.2))]) (fun s w => [.row 1 v14 (List.map (AV.int .i64) s.1)]) () ⟨rfl, rfl, rfl, rfl, rfl, rfl, trivial⟩ (hS.pick [0] rfl rfl) ?_
    rintro ⟨y6, x16_l0⟩ _ G12 hS x7 hF hx8
    try dsimp only at hS ⊢
    have hF : impl_boxMul.b0 p0 p1 p2 y6 x16_l0 = some x7 := hF; unfold impl_boxMul.b0 at hF
    refine AWP.seqR rfl ?_
    refine ASL.q (v := (.bool (decide (x16_l0 < p0)))) rfl rfl (Light.quiet (opInt rfl rfl rfl rfl)) ?_
    refine ASL.done ?_
    refine AWP.seq ?_
    refine AWP.ifP hF rfl (fun hc13 hF => ?_) (fun hc13 hF => ?_)
    · skip
      refine AWP.skip ?_
      refine QThen.nrm ?_
      refine AWP.seqM (fun e H => ∃ y14 : (List Int), E.Told e [(0, (.int .i64 p0)), (1, (.list 1 (List.map (AV.int .i64) p1))), (2, (.list 1 (List.map (AV.int .i64) p2))), (7, v14), (15, (.int .i64 p0)), (16, (.int .i64 x16_l0))] ∧ E.Sep H [.row 1 v14 (List.map (AV.int .i64) y14)] ∧ impl_boxMul.k1 x16_l0 y14 = some x7) ?_ ?_
      · rintro e0 G15 ⟨y14, hT, hS, hF⟩; refine AWP.only _ hT ?_; unfold impl_boxMul.k1 at hF
        refine AWP.lastR rfl ?_
        refine ASL.q (v := (.int .i64 (W (x16_l0 + 1)))) rfl rfl (Light.quiet (opInt rfl rfl rfl rfl)) ?_
        refine ASL.q (v := (.int .i64 (W (x16_l0 + 1)))) rfl rfl (Light.quiet (opMove rfl rfl)) ?_
        refine ASL.done ?_
        refine QThen.nrm ?_
        exact ⟨(y14, (W (x16_l0 + 1))), (), (someE hF).symm, ⟨rfl, rfl, rfl, rfl, rfl, rfl, trivial⟩, (hS.pick [0] rfl rfl)⟩
      · skip
        refine AWP.block ?_
        refine AWP.seqR rfl ?_
        refine ASL.q (v := (.int .i64 x16_l0)) rfl rfl (Light.quiet (opMove rfl rfl)) ?_
        refine ASL.q (v := (.int .i64 x16_l0)) rfl rfl (Light.quiet (opAssign rfl rfl)) ?_
        refine ASL.done ?_
        refine AWP.seqR rfl ?_
        refine ASL.q (v := (.int .i64 p0)) rfl rfl (Light.quiet (opMove rfl rfl)) ?_
        refine ASL.q (v := (.int .i64 0)) rfl rfl (Light.quiet (opMove rfl rfl)) ?_
        refine ASL.done ?_
        refine AWP.block ?_
        obtain ⟨o20, hL19, hR21⟩ := bindE hF
        refine AWP.loopF (ω := Unit) hL19 (fun s w => [(0, (.int .i64 p0)), (1, (.list 1 (List.map (AV.int .i64) p1))), (2, (.list 1 (List.map (AV.int .i64) p2))), (7, v14), (8, (.int .i64 x16_l0)), (15, (.int .i64 p0)), (16, (.int .i64 x16_l0)), (19, (.int .i64 p0)), (20, (.int .i64 s.2))]) (fun s w => [.row 1 v14 (List.map (AV.int .i64) s.1)]) () ⟨rfl, rfl, rfl, rfl, rfl, rfl, rfl, rfl, rfl, trivial⟩ (hS.pick [0] rfl rfl) ?_
        rintro ⟨y16, x20_l1⟩ _ G22 hS x17 hF hx18
        try dsimp only at hS ⊢
        have hF : impl_boxMul.b1 p0 p1 x16_l0 p2 y16 x20_l1 = some x17 := hF; unfold impl_boxMul.b1 at hF
        refine AWP.seqR rfl ?_
        refine ASL.q (v := (.bool (decide (x20_l1 < p0)))) rfl rfl (Light.quiet (opInt rfl rfl rfl rfl)) ?_
        refine ASL.done ?_
        refine AWP.seq ?_
        refine AWP.ifP hF rfl (fun hc23 hF => ?_) (fun hc23 hF => ?_)
        · skip
          refine AWP.skip ?_
          refine QThen.nrm ?_
          refine AWP.seqM (fun e H => ∃ y24 : (List Int), E.Told e [(0, (.int .i64 p0)), (1, (.list 1 (List.map (AV.int .i64) p1))), (2, (.list 1 (List.map (AV.int .i64) p2))), (7, v14), (8, (.int .i64 x16_l0)), (15, (.int .i64 p0)), (16, (.int .i64 x16_l0)), (19, (.int .i64 p0)), (20, (.int .i64 x20_l1))] ∧ E.Sep H [.row 1 v14 (List.map (AV.int .i64) y24)] ∧ impl_boxMul.k2 x20_l1 y24 = some x17) ?_ ?_
          · rintro e0 G25 ⟨y24, hT, hS, hF⟩; refine AWP.only _ hT ?_; unfold impl_boxMul.k2 at hF
            refine AWP.lastR rfl ?_
            refine ASL.q (v := (.int .i64 (W (x20_l1 + 1)))) rfl rfl (Light.quiet (opInt rfl rfl rfl rfl)) ?_
            refine ASL.q (v := (.int .i64 (W (x20_l1 + 1)))) rfl rfl (Light.quiet (opMove rfl rfl)) ?_
            refine ASL.done ?_
            refine QThen.nrm ?_
            exact ⟨(y24, (W (x20_l1 + 1))), (), (someE hF).symm, ⟨rfl, rfl, rfl, rfl, rfl, rfl, rfl, rfl, rfl, trivial⟩, (hS.pick [0] rfl rfl)⟩
          · skip
            refine AWP.block ?_
            refine AWP.seqR rfl ?_
            refine ASL.q (v := (.int .i64 x20_l1)) rfl rfl (Light.quiet (opMove rfl rfl)) ?_
            refine ASL.q (v := (.int .i64 x20_l1)) rfl rfl (Light.quiet (opAssign rfl rfl)) ?_
            refine ASL.done ?_
            refine AWP.seq ?_
            refine AWP.seqR rfl ?_
            refine ASL.q (v := (.list 1 (List.map (AV.int .i64) p1))) rfl rfl (Light.quiet (opMove rfl rfl)) ?_
            refine ASL.q (v := (.int .i64 x16_l0)) rfl rfl (Light.quiet (opMove rfl rfl)) ?_
            refine ASL.q (v := (.int .i64 p0)) rfl rfl (Light.quiet (opMove rfl rfl)) ?_
            refine ASL.q (v := (.int .i64 (W (x16_l0 * p0)))) rfl rfl (Light.quiet (opInt rfl rfl rfl rfl)) ?_
            refine ASL.q (v := (.int .i64 x20_l1)) rfl rfl (Light.quiet (opMove rfl rfl)) ?_
            refine ASL.q (v := (.int .i64 (W (((W (x16_l0 * p0))) + x20_l1)))) rfl rfl (Light.quiet (opInt rfl rfl rfl rfl)) ?_
            obtain ⟨a29, ha29, hF⟩ := bindE hF
            refine ASL.q (v := (.rptr [(.int .i64 a29)])) rfl rfl (Light.quiet (kIx (f := (AV.int .i64)) ha29 rfl rfl rfl elemA_27 sizeA_3 rfl)) ?_
            refine ASL.q (v := (.int .i64 a29)) rfl rfl (Light.quiet (opLoadR rfl aggA_3 rfl rfl)) ?_
            refine ASL.q (v := (.bool (decide (a29 = 0)))) rfl rfl (Light.quiet (opInt rfl rfl rfl rfl)) ?_
            refine ASL.done ?_
            refine AWP.ifP hF rfl (fun hc26 hF => ?_) (fun hc26 hF => ?_)
            · skip
              refine AWP.exit ?_
              refine QThen.ext ?_
              refine QBlock.hit ?_
              refine QThen.nrm ?_
              exact ⟨y16, ⟨rfl, rfl, rfl, rfl, rfl, rfl, rfl, rfl, rfl, trivial⟩, (hS.pick [0] rfl rfl), hF⟩
            · skip
              refine AWP.skip ?_
              refine QThen.nrm ?_
              refine AWP.seqR rfl ?_
              refine ASL.q (v := (.int .i64 p0)) rfl rfl (Light.quiet (opMove rfl rfl)) ?_
              refine ASL.q (v := (.int .i64 0)) rfl rfl (Light.quiet (opMove rfl rfl)) ?_
              refine ASL.done ?_
              refine AWP.block ?_
              obtain ⟨o31, hL30, hR32⟩ := bindE hF
              refine AWP.loopF (ω := Unit) hL30 (fun s w => [(0, (.int .i64 p0)), (1, (.list 1 (List.map (AV.int .i64) p1))), (2, (.list 1 (List.map (AV.int .i64) p2))), (7, v14), (8, (.int .i64 x16_l0)), (9, (.int .i64 x20_l1)), (15, (.int .i64 p0)), (16, (.int .i64 x16_l0)), (19, (.int .i64 p0)), (20, (.int .i64 x20_l1)), (32, (.int .i64 p0)), (33, (.int .i64 s.2))]) (fun s w => [.row 1 v14 (List.map (AV.int .i64) s.1)]) () ⟨rfl, rfl, rfl, rfl, rfl, rfl, rfl, rfl, rfl, rfl, rfl, rfl, trivial⟩ (hS.pick [0] rfl rfl) ?_
              rintro ⟨y27, x33_l2⟩ _ G33 hS x28 hF hx29
              try dsimp only at hS ⊢
              have hF : impl_boxMul.b2 p0 p2 x20_l1 x16_l0 p1 y27 x33_l2 = some x28 := hF; unfold impl_boxMul.b2 at hF
              refine AWP.seqR rfl ?_
              refine ASL.q (v := (.bool (decide (x33_l2 < p0)))) rfl rfl (Light.quiet (opInt rfl rfl rfl rfl)) ?_
              refine ASL.done ?_
              refine AWP.seq ?_
              refine AWP.ifP hF rfl (fun hc34 hF => ?_) (fun hc34 hF => ?_)
              · skip
                refine AWP.skip ?_
                refine QThen.nrm ?_
                refine AWP.seq ?_
                refine AWP.block ?_
                refine AWP.seqR rfl ?_
                refine ASL.q (v := (.int .i64 x33_l2)) rfl rfl (Light.quiet (opMove rfl rfl)) ?_
                refine ASL.q (v := (.int .i64 x33_l2)) rfl rfl (Light.quiet (opAssign rfl rfl)) ?_
                refine ASL.done ?_
                refine AWP.seqR rfl ?_
                refine ASL.q (v := (.list 1 (List.map (AV.int .i64) p2))) rfl rfl (Light.quiet (opMove rfl rfl)) ?_
                refine ASL.q (v := (.int .i64 x20_l1)) rfl rfl (Light.quiet (opMove rfl rfl)) ?_
                refine ASL.q (v := (.int .i64 p0)) rfl rfl (Light.quiet (opMove rfl rfl)) ?_
                refine ASL.q (v := (.int .i64 (W (x20_l1 * p0)))) rfl rfl (Light.quiet (opInt rfl rfl rfl rfl)) ?_
                refine ASL.q (v := (.int .i64 x33_l2)) rfl rfl (Light.quiet (opMove rfl rfl)) ?_
                refine ASL.q (v := (.int .i64 (W (((W (x20_l1 * p0))) + x33_l2)))) rfl rfl (Light.quiet (opInt rfl rfl rfl rfl)) ?_
                obtain ⟨a42, ha42, hF⟩ := bindE hF
                refine ASL.q (v := (.rptr [(.int .i64 a42)])) rfl rfl (Light.quiet (kIx (f := (AV.int .i64)) ha42 rfl rfl rfl elemA_27 sizeA_3 rfl)) ?_
                refine ASL.q (v := (.int .i64 a42)) rfl rfl (Light.quiet (opLoadR rfl aggA_3 rfl rfl)) ?_
                refine ASL.q (v := (.bool (decide (a42 ≠ 0)))) rfl rfl (Light.quiet (opInt rfl rfl rfl rfl)) ?_
                refine ASL.done ?_
                refine AWP.ifP hF rfl (fun hc35 hF => ?_) (fun hc35 hF => ?_)
                · skip
                  refine AWP.lastD [(0, false), (1, false), (2, false), (3, false), (4, false), (5, false), (6, false), (7, false), (8, false), (9, false), (10, false), (11, false), (12, false), (13, false), (14, false), (15, false), (16, false), (17, false), (18, false), (19, false), (20, false), (21, false), (22, false), (23, false), (24, false), (25, false), (26, false), (27, false), (28, false), (29, false), (30, false), (31, false), (32, true)] mixed (by kernel_rfl) rfl ?_
                  refine ARL.q0 (v := v14) rfl rfl (Light.quiet (opMove rfl rfl)) ?_
                  refine ARL.q0 (v := (.int .i64 x16_l0)) rfl rfl (Light.quiet (opMove rfl rfl)) ?_
                  refine ARL.q0 (v := (.int .i64 p0)) rfl rfl (Light.quiet (opMove rfl rfl)) ?_
                  refine ARL.q0 (v := (.int .i64 (W (x16_l0 * p0)))) rfl rfl (Light.quiet (opInt rfl rfl rfl rfl)) ?_
                  refine ARL.q0 (v := (.int .i64 x33_l2)) rfl rfl (Light.quiet (opMove rfl rfl)) ?_
                  refine ARL.q0 (v := (.int .i64 (W (((W (x16_l0 * p0))) + x33_l2)))) rfl rfl (Light.quiet (opInt rfl rfl rfl rfl)) ?_
                  refine ARL.q0 (v := v14) rfl rfl (Light.quiet (opMove rfl rfl)) ?_
                  refine ARL.q0 (v := (.int .i64 x16_l0)) rfl rfl (Light.quiet (opMove rfl rfl)) ?_
                  refine ARL.q0 (v := (.int .i64 p0)) rfl rfl (Light.quiet (opMove rfl rfl)) ?_
                  refine ARL.q0 (v := (.int .i64 (W (x16_l0 * p0)))) rfl rfl (Light.quiet (opInt rfl rfl rfl rfl)) ?_
                  refine ARL.q0 (v := (.int .i64 x33_l2)) rfl rfl (Light.quiet (opMove rfl rfl)) ?_
                  refine ARL.q0 (v := (.int .i64 (W (((W (x16_l0 * p0))) + x33_l2)))) rfl rfl (Light.quiet (opInt rfl rfl rfl rfl)) ?_
                  obtain ⟨a57, ha57, hF⟩ := bindE hF
                  refine ARL.q0 (v := (ptrTo v14 ((W (((W (x16_l0 * p0))) + x33_l2))).toNat 1)) rfl rfl (Light.quiet (kIxOx hS (j := 0) rfl ha57 rfl rfl rfl elemA_27 sizeA_3)) ?_
                  refine ARL.q (v := (.int .i64 a57)) rfl rfl (hS.aliveR (k := 0) rfl) (Light.quiet (kLd (f := (AV.int .i64)) hS (j := 0) rfl ha57 rfl aggA_3 rfl (fun _ => rfl))) ?_
                  refine ARL.q0 (v := (.list 1 (List.map (AV.int .i64) p1))) rfl rfl (Light.quiet (opMove rfl rfl)) ?_
                  refine ARL.q0 (v := (.int .i64 x16_l0)) rfl rfl (Light.quiet (opMove rfl rfl)) ?_
                  refine ARL.q0 (v := (.int .i64 p0)) rfl rfl (Light.quiet (opMove rfl rfl)) ?_
                  refine ARL.q0 (v := (.int .i64 (W (x16_l0 * p0)))) rfl rfl (Light.quiet (opInt rfl rfl rfl rfl)) ?_
                  refine ARL.q0 (v := (.int .i64 x20_l1)) rfl rfl (Light.quiet (opMove rfl rfl)) ?_
                  refine ARL.q0 (v := (.int .i64 (W (((W (x16_l0 * p0))) + x20_l1)))) rfl rfl (Light.quiet (opInt rfl rfl rfl rfl)) ?_
                  obtain ⟨a65, ha65, hF⟩ := bindE hF
                  refine ARL.q0 (v := (.rptr [(.int .i64 a65)])) rfl rfl (Light.quiet (kIx (f := (AV.int .i64)) ha65 rfl rfl rfl elemA_27 sizeA_3 rfl)) ?_
                  refine ARL.q0 (v := (.int .i64 a65)) rfl rfl (Light.quiet (opLoadR rfl aggA_3 rfl rfl)) ?_
                  refine ARL.q0 (v := (.list 1 (List.map (AV.int .i64) p2))) rfl rfl (Light.quiet (opMove rfl rfl)) ?_
                  refine ARL.q0 (v := (.int .i64 x20_l1)) rfl rfl (Light.quiet (opMove rfl rfl)) ?_
                  refine ARL.q0 (v := (.int .i64 p0)) rfl rfl (Light.quiet (opMove rfl rfl)) ?_
                  refine ARL.q0 (v := (.int .i64 (W (x20_l1 * p0)))) rfl rfl (Light.quiet (opInt rfl rfl rfl rfl)) ?_
                  refine ARL.q0 (v := (.int .i64 x33_l2)) rfl rfl (Light.quiet (opMove rfl rfl)) ?_
                  refine ARL.q0 (v := (.int .i64 (W (((W (x20_l1 * p0))) + x33_l2)))) rfl rfl (Light.quiet (opInt rfl rfl rfl rfl)) ?_
                  obtain ⟨a73, ha73, hF⟩ := bindE hF
                  refine ARL.q0 (v := (.rptr [(.int .i64 a73)])) rfl rfl (Light.quiet (kIx (f := (AV.int .i64)) ha73 rfl rfl rfl elemA_27 sizeA_3 rfl)) ?_
                  refine ARL.q0 (v := (.int .i64 a73)) rfl rfl (Light.quiet (opLoadR rfl aggA_3 rfl rfl)) ?_
                  refine ARL.q0 (v := (.int .i64 (mx ((mx a57 a65)) a73))) rfl rfl (Light.quiet (opMax (ns := [a57, a65, a73]) rfl rfl rfl rfl)) ?_
                  obtain ⟨m76, hm76, hF⟩ := bindE hF
                  refine ARL.q0 (v := (ptrTo v14 m76 1)) rfl rfl (Light.quiet (kIxO hS (j := 0) rfl hm76 rfl rfl rfl elemA_27 sizeA_3)) ?_
                  refine ARL.n rfl rfl rfl rfl (hSt (f := (AV.int .i64)) (a := (mx ((mx a57 a65)) a73)) hS (j := 0) rfl hm76 rfl sizeA_3 rfl rfl ⟨rfl, rfl, rfl⟩ ?_); rintro G36 hS
                  refine ARL.done ?_
                  refine QBlock.nrm ?_
                  refine QThen.nrm ?_
                  refine AWP.lastR rfl ?_
                  refine ASL.q (v := (.int .i64 (W (x33_l2 + 1)))) rfl rfl (Light.quiet (opInt rfl rfl rfl rfl)) ?_
                  refine ASL.q (v := (.int .i64 (W (x33_l2 + 1)))) rfl rfl (Light.quiet (opMove rfl rfl)) ?_
                  refine ASL.done ?_
                  refine QThen.nrm ?_
                  exact ⟨((y27.set m76 ((mx ((mx a57 a65)) a73))), (W (x33_l2 + 1))), (), (someE hF).symm, ⟨rfl, rfl, rfl, rfl, rfl, rfl, rfl, rfl, rfl, rfl, rfl, rfl, trivial⟩, (hS.pick [0] rfl rfl)⟩
                · skip
                  refine AWP.skip ?_
                  refine QBlock.nrm ?_
                  refine QThen.nrm ?_
                  refine AWP.lastR rfl ?_
                  refine ASL.q (v := (.int .i64 (W (x33_l2 + 1)))) rfl rfl (Light.quiet (opInt rfl rfl rfl rfl)) ?_
                  refine ASL.q (v := (.int .i64 (W (x33_l2 + 1)))) rfl rfl (Light.quiet (opMove rfl rfl)) ?_
                  refine ASL.done ?_
                  refine QThen.nrm ?_
                  exact ⟨(y27, (W (x33_l2 + 1))), (), (someE hF).symm, ⟨rfl, rfl, rfl, rfl, rfl, rfl, rfl, rfl, rfl, rfl, rfl, rfl, trivial⟩, (hS.pick [0] rfl rfl)⟩
              · skip
                refine AWP.exit ?_
                refine QThen.ext ?_
                refine QThen.ext ?_
                refine QBlock.hit ?_
                obtain rfl := (hx29 _ (someE hF).symm)
                have hF := hR32
                refine QBlock.nrm ?_
                refine QThen.nrm ?_
                exact ⟨y27, ⟨rfl, rfl, rfl, rfl, rfl, rfl, rfl, rfl, rfl, trivial⟩, (hS.pick [0] rfl rfl), hF⟩
        · skip
          refine AWP.exit ?_
          refine QThen.ext ?_
          refine QThen.ext ?_
          refine QBlock.hit ?_
          obtain rfl := (hx18 _ (someE hF).symm)
          have hF := hR21
          refine QBlock.nrm ?_
          refine QThen.nrm ?_
          exact ⟨y16, ⟨rfl, rfl, rfl, rfl, rfl, rfl, trivial⟩, (hS.pick [0] rfl rfl), hF⟩
    · skip
      refine AWP.exit ?_
      refine QThen.ext ?_
      refine QThen.ext ?_
      refine QBlock.hit ?_
      obtain rfl := (hx8 _ (someE hF).symm)
      have hF := hR11
      refine QThen.nrm ?_
      exact ⟨y6, ⟨rfl, trivial⟩, (hS.pick [0] rfl rfl), hF⟩

set_option maxRecDepth 10000 in
theorem slices_Clone_int_int_ok {p0 : (List Int)} {r : (List Int)} (hF : slices_Clone_int_int p0 = some r) : PO Try.prog 78 [(.list 1 (List.map (AV.int .i64) p0))] 1 (List.map (AV.int .i64) r) := by
  refine HC.enter Try.func78 rfl Try.ntmps78 (by simp) ?_
  have hS := Sep.void; unfold slices_Clone_int_int at hF
  refine AWP.seqR rfl ?_
  have hS := hNil (s := 1) (f := (AV.int .i64)) hS
  refine ASL.q (v := .nil) rfl rfl (Light.quiet (opAssign rfl rfl)) ?_
  refine ASL.done ?_
  refine AWP.seq ?_
  refine AWP.seqR rfl ?_
  refine ASL.q (v := (.list 1 (List.map (AV.int .i64) p0))) rfl rfl (Light.quiet (opMove rfl rfl)) ?_
  refine ASL.x rfl rfl (opNilT rfl und_27 rfl rfl ?_); rintro b4 hb4
  refine ASL.done ?_
  refine AWP.ifN hF rfl (fun h => by simpa using hb4 h) (fun h g => by subst h; exact g) (fun hF => ?_) (fun hF => ?_)
  · skip
    refine AWP.seqR rfl ?_
    have hS := hNil (s := 1) (f := (AV.int .i64)) hS
    refine ASL.q (v := .nil) rfl rfl (Light.quiet (opAssign rfl rfl)) ?_
    refine ASL.done ?_
    refine AWP.ret ?_
    refine QThen.rt ?_
    obtain rfl := someE hF
    exact QRet.sole (v := .nil) ⟨rfl, trivial⟩ (hS.get (k := 0) rfl)
  · skip
    refine AWP.skip ?_
    refine QThen.nrm ?_
    refine AWP.seqR rfl ?_
    refine ASL.x rfl rfl (hLit (f := (AV.int .i64)) (zs := []) hS rfl rfl elemA_27 sizeA_3 zeroA_3 rfl rfl rfl rfl (by simp [cells]) (nlt rfl) ?_); rintro v5 G3 hK hS
    refine ASL.q (v := (.list 1 (List.map (AV.int .i64) p0))) rfl rfl (Light.quiet (opMove rfl rfl)) ?_
    obtain ⟨z7, hz7, hF⟩ := bindE hF
    refine ASL.x rfl rfl (hApp (f := (AV.int .i64)) (ws := p0) hS (j := 0) rfl hz7 rfl elemA_27 rfl sizeA_3 bytesA_3 zeroA_3 rfl rfl rfl (fun _ => rfl) ?_); rintro v7 G5 hS
    refine ASL.q (v := v7) rfl rfl (Light.quiet (opAssign rfl rfl)) ?_
    refine ASL.done ?_
    refine AWP.ret ?_
    obtain rfl := someE hF
    exact QRet.sole (v := v7) ⟨rfl, trivial⟩ (hS.get (k := 0) rfl)

end Go.Proofs.Ytcmbbpdepobnlaa
