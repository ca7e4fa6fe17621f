/- Each of these functions of the program comes to just what its plain function says: FnBoxWord. -/
import Derived.Test.YtcmbbpdepobnlaaDBoxWord
import Derived.Test.YtcmbbpdepobnlaaFa
namespace Go.Proofs.Ytcmbbpdepobnlaa
open Go Go.RowKit E
set_option linter.unusedVariables false
set_option maxRecDepth 10000 in
theorem laws_big_ok (p0 : (List Int)) : PC Try.prog 8 [(.list 1 (List.map (AV.int .u8) p0))] fun v => v = (.bool (laws_big p0)) := by
  generalize hF : laws_big p0 = r
  refine PC.enter Try.func8 rfl Try.ntmps8 (by simp) ?_
  have hS := Sep.void; unfold laws_big at hF
  refine AWP.seqR rfl ?_
  refine ASL.q (v := (.bool false)) rfl rfl (Light.quiet (opAssign rfl rfl)) ?_
  refine ASL.done ?_
  refine AWP.seqR rfl ?_
  refine ASL.q (v := (.list 1 (List.map (AV.int .u8) p0))) rfl rfl (Light.quiet (opMove rfl rfl)) ?_
  refine ASL.q (v := (.int .i64 (p0.length : Int))) rfl rfl (Light.quiet (opLenMap (f := (AV.int .u8)) rfl rfl rfl lenT_22 rfl)) ?_
  refine ASL.q (v := (.bool (decide (((p0.length : Int)) > 1048576)))) rfl rfl (Light.quiet (opInt rfl rfl rfl rfl)) ?_
  refine ASL.q (v := (.bool (decide (((p0.length : Int)) > 1048576)))) rfl rfl (Light.quiet (opAssign rfl rfl)) ?_
  refine ASL.done ?_
  refine AWP.ret ?_
  obtain rfl := hF
  exact QRet.sole (v := (.bool (decide (((p0.length : Int)) > 1048576)))) ⟨rfl, trivial⟩ rfl

set_option maxRecDepth 10000 in
theorem spec_l1New_ok {p0 : (List Int)} {r : Tl1Cur} (hF : spec_l1New p0 = some r) : HS Try.prog 40 [(.list 1 (List.map (AV.int .u8) p0))] [] fun v L' => ∃ o0 : Nat, v = (.ptr o0 0) ∧ L' = [.cell o0 [(.list 1 (List.map (AV.int .u8) r.b)), (.int .i64 r.i), (.int .i64 r.h)]] := by
  intro H S hS
  refine HC.enter Try.func40 rfl Try.ntmps40 (by simp) ?_
  simp only [List.cons_append, List.nil_append] at hS
  unfold spec_l1New at hF
  refine AWP.seqR rfl ?_
  refine ASL.q (v := .nilptr) rfl rfl (Light.quiet (opAssign rfl rfl)) ?_
  refine ASL.done ?_
  refine AWP.seqR rfl ?_
  refine ASL.q (v := (.list 1 (List.map (AV.int .u8) p0))) rfl rfl (Light.quiet (opMove rfl rfl)) ?_
  refine ASL.q (v := (.int .i64 (p0.length : Int))) rfl rfl (Light.quiet (opLenMap (f := (AV.int .u8)) rfl rfl rfl lenT_22 rfl)) ?_
  refine ASL.q (v := (.int .i64 (W (10277 + ((p0.length : Int)))))) rfl rfl (Light.quiet (opInt rfl rfl rfl rfl)) ?_
  refine ASL.q (v := (.int .i64 (W (10277 + ((p0.length : Int)))))) rfl rfl (Light.quiet (opAssign rfl rfl)) ?_
  refine ASL.done ?_
  refine AWP.seqM (fun e H => ∃ x3_1 : Int, E.Told e [(0, (.list 1 (List.map (AV.int .u8) p0))), (3, (.int .i64 x3_1))] ∧ E.Sep H [.snap S] ∧ spec_l1New.k0 p0 x3_1 = some r) ?_ ?_
  · rintro e0 G3 ⟨x3_1, hT, hS, hF⟩; refine AWP.only _ hT ?_; unfold spec_l1New.k0 at hF
    refine AWP.seqR rfl ?_
    refine ASL.q (v := (.list 1 (List.map (AV.int .u8) p0))) rfl rfl (Light.quiet (opMove rfl rfl)) ?_
    refine ASL.q (v := (.int .i64 x3_1)) rfl rfl (Light.quiet (opMove rfl rfl)) ?_
    refine ASL.q (v := (.agg [(.list 1 (List.map (AV.int .u8) p0)), (.int .i64 0), (.int .i64 x3_1)])) rfl rfl (Light.quiet (opBuildZ (zs := [(.list 1 (List.map (AV.int .u8) [])), (.int .i64 0), (.int .i64 0)]) rfl plan_108 zeroA_108 ⟨.inr ⟨_, rfl, rfl⟩, .inl rfl, .inl rfl, trivial⟩ rfl)) ?_
    refine ASL.x rfl rfl (hBox hS rfl rfl rfl ?_); rintro b31 G1 hK hS
    refine ASL.q (v := (.ptr b31 0)) rfl rfl (Light.quiet (opAssign rfl rfl)) ?_
    refine ASL.done ?_
    refine AWP.ret ?_
    obtain rfl := someE hF
    exact QRet.sole (v := (.ptr b31 0)) ⟨rfl, trivial⟩ ⟨_, ⟨b31, rfl, rfl⟩, hS.pick [0, 1] rfl rfl⟩
  · skip
    refine AWP.seqR rfl ?_
    refine ASL.q (v := (.int .i64 0)) rfl rfl (Light.quiet (opAssign rfl rfl)) ?_
    refine ASL.done ?_
    refine AWP.block ?_
    obtain ⟨o7, hL6, hR8⟩ := bindE hF
    refine AWP.loopF (ω := Unit) hL6 (fun s w => [(0, (.list 1 (List.map (AV.int .u8) p0))), (3, (.int .i64 s.1)), (4, (.int .i64 s.2))]) (fun s w => [.snap S]) () ⟨rfl, rfl, rfl, trivial⟩ (hS.pick [0] rfl rfl) ?_
    rintro ⟨x3_l0, x4_l0⟩ _ G9 hS x4 hF hx5
    try dsimp only at hS ⊢
    have hF : spec_l1New.b0 p0 x3_l0 x4_l0 = some x4 := hF; unfold spec_l1New.b0 at hF
    refine AWP.seq ?_
    refine AWP.seqR rfl ?_
    refine ASL.q (v := (.int .i64 x4_l0)) rfl rfl (Light.quiet (opMove rfl rfl)) ?_
    refine ASL.q (v := (.list 1 (List.map (AV.int .u8) p0))) rfl rfl (Light.quiet (opMove rfl rfl)) ?_
    refine ASL.q (v := (.int .i64 (p0.length : Int))) rfl rfl (Light.quiet (opLenMap (f := (AV.int .u8)) rfl rfl rfl lenT_22 rfl)) ?_
    refine ASL.q (v := (.bool (decide (x4_l0 < ((p0.length : Int)))))) rfl rfl (Light.quiet (opInt rfl rfl rfl rfl)) ?_
    obtain ⟨c12, hc12, hF⟩ := bndE hF
    refine ASL.q (v := (.bool c12)) rfl rfl ((Quiet.cast (Light.quiet (opMove rfl rfl)) (congrArg AV.bool hc12.symm))) ?_
    refine ASL.g (v := (.int .i64 x4_l0)) (.bool c12) true rfl (wT _) rfl (fun hG => by have q0 := hG; subst q0; exact Light.quiet (opMove rfl rfl)) ?_
    refine ASL.g (v := (.bool (decide (x4_l0 < 4000)))) (.bool c12) true rfl (wT _) rfl (fun hG => by have q0 := hG; subst q0; exact Light.quiet (opInt rfl rfl rfl rfl)) ?_
    refine ASL.q (v := (.bool (c12 && (decide (x4_l0 < 4000))))) rfl rfl (Light.quiet (opPick (b := c12) rfl rfl (by cases c12 <;> rfl))) ?_
    refine ASL.done ?_
    refine AWP.ifB hF rfl (fun hc10 hF => ?_) (fun hc10 hF => ?_)
    · skip
      refine AWP.skip ?_
      refine QThen.nrm ?_
      refine AWP.seq ?_
      refine AWP.block ?_
      refine AWP.lastR rfl ?_
      refine ASL.q (v := (.int .i64 x3_l0)) rfl rfl (Light.quiet (opMove rfl rfl)) ?_
      refine ASL.q (v := (.int .i64 (W (x3_l0 * 131)))) rfl rfl (Light.quiet (opInt rfl rfl rfl rfl)) ?_
      refine ASL.q (v := (.list 1 (List.map (AV.int .u8) p0))) rfl rfl (Light.quiet (opMove rfl rfl)) ?_
      refine ASL.q (v := (.int .i64 x4_l0)) rfl rfl (Light.quiet (opMove rfl rfl)) ?_
      obtain ⟨a22, ha22, hF⟩ := bindE hF
      refine ASL.q (v := (.rptr [(.int .u8 a22)])) rfl rfl (Light.quiet (kIx (f := (AV.int .u8)) ha22 rfl rfl rfl elemA_22 sizeA_5 rfl)) ?_
      refine ASL.q (v := (.int .u8 a22)) rfl rfl (Light.quiet (opLoadR rfl aggA_5 rfl rfl)) ?_
      refine ASL.q (v := (.int .i64 (IntKind.i64.wrap a22))) rfl rfl (Light.quiet (opConv rfl rfl und_5 und_3 rfl)) ?_
      refine ASL.q (v := (.int .i64 (W (((W (x3_l0 * 131))) + ((IntKind.i64.wrap a22)))))) rfl rfl (Light.quiet (opInt rfl rfl rfl rfl)) ?_
      refine ASL.q (v := (.int .i64 (W (((W (((W (x3_l0 * 131))) + ((IntKind.i64.wrap a22))))) + 7)))) rfl rfl (Light.quiet (opInt rfl rfl rfl rfl)) ?_
      refine ASL.q (v := (.int .i64 (bAnd .i64 ((W (((W (((W (x3_l0 * 131))) + ((IntKind.i64.wrap a22))))) + 7))) 1073741823))) rfl rfl (Light.quiet (opInt rfl rfl rfl rfl)) ?_
      refine ASL.q (v := (.int .i64 (bAnd .i64 ((W (((W (((W (x3_l0 * 131))) + ((IntKind.i64.wrap a22))))) + 7))) 1073741823))) rfl rfl (Light.quiet (opAssign rfl rfl)) ?_
      refine ASL.done ?_
      refine QBlock.nrm ?_
      refine QThen.nrm ?_
      refine AWP.lastR rfl ?_
      refine ASL.q (v := (.int .i64 x4_l0)) rfl rfl (Light.quiet (opMove rfl rfl)) ?_
      refine ASL.q (v := (.int .i64 (W (x4_l0 + 1)))) rfl rfl (Light.quiet (opInt rfl rfl rfl rfl)) ?_
      refine ASL.q (v := (.int .i64 (W (x4_l0 + 1)))) rfl rfl (Light.quiet (opAssign rfl rfl)) ?_
      refine ASL.done ?_
      refine QThen.nrm ?_
      exact ⟨((bAnd .i64 ((W (((W (((W (x3_l0 * 131))) + ((IntKind.i64.wrap a22))))) + 7))) 1073741823), (W (x4_l0 + 1))), (), (someE hF).symm, ⟨rfl, rfl, rfl, trivial⟩, (hS.pick [0] rfl rfl)⟩
    · skip
      refine AWP.exit ?_
      refine QThen.ext ?_
      refine QThen.ext ?_
      refine QBlock.hit ?_
      obtain rfl := (hx5 _ (someE hF).symm)
      have hF := hR8
      refine QThen.nrm ?_
      exact ⟨x3_l0, ⟨rfl, rfl, trivial⟩, (hS.pick [0] rfl rfl), hF⟩

set_option maxRecDepth 10000 in
theorem spec_l1Byte_ok {p0 : Tl1Cur} {r : (Int × Tl1Cur)} {bp0 : Nat} (hF : spec_l1Byte p0 = some r) : HS Try.prog 93 [(.ptr bp0 0)] [.cell bp0 [(.list 1 (List.map (AV.int .u8) p0.b)), (.int .i64 p0.i), (.int .i64 p0.h)]] fun v L' => v = (.int .i64 r.1) ∧ L' = [.cell bp0 [(.list 1 (List.map (AV.int .u8) r.2.b)), (.int .i64 r.2.i), (.int .i64 r.2.h)]] := by
  intro H S hS
  refine HC.enter Try.func93 rfl Try.ntmps93 (by simp) ?_
  simp only [List.cons_append, List.nil_append] at hS
  unfold spec_l1Byte at hF
  refine AWP.seqR rfl ?_
  refine ASL.q (v := (.int .i64 0)) rfl rfl (Light.quiet (opAssign rfl rfl)) ?_
  refine ASL.done ?_
  refine AWP.seqR rfl ?_
  refine ASL.q (v := (.ptr bp0 0)) rfl rfl (Light.quiet (opMove rfl rfl)) ?_
  refine ASL.q (v := (.ptr bp0 0)) rfl rfl (Light.quiet (opMove rfl rfl)) ?_
  refine ASL.q (v := (.ptr bp0 0)) rfl rfl (Light.quiet (opNil rfl rfl rfl)) ?_
  refine ASL.q (v := (.ptr bp0 2)) rfl rfl (Light.quiet (opFieldAddr rfl fieldA_108_2 rfl rfl)) ?_
  refine ASL.q (v := (.int .i64 p0.h)) rfl rfl (Light.quiet (kAt hS (j := 0) rfl rfl aggA_3 rfl rfl)) ?_
  refine ASL.q (v := (.int .i64 (W (p0.h * 6364136223846793005)))) rfl rfl (Light.quiet (opInt rfl rfl rfl rfl)) ?_
  refine ASL.q (v := (.int .i64 (W (((W (p0.h * 6364136223846793005))) + 1442695040888963407)))) rfl rfl (Light.quiet (opInt rfl rfl rfl rfl)) ?_
  refine ASL.q (v := (.ptr bp0 0)) rfl rfl (Light.quiet (opNil rfl rfl rfl)) ?_
  refine ASL.q (v := (.ptr bp0 2)) rfl rfl (Light.quiet (opFieldAddr rfl fieldA_108_2 rfl rfl)) ?_
  refine ASL.n rfl rfl (hPut hS (j := 0) rfl rfl sizeA_3 rfl rfl rfl (nlt rfl) ?_); rintro G2 hS
  refine ASL.done ?_
  refine AWP.seqD [(0, false), (1, false), (2, false), (3, false), (4, false), (5, false), (6, false), (7, false), (8, false), (9, false), (10, false), (11, false), (12, false)] mixed (by kernel_rfl) rfl ?_
  refine ARL.q0 (v := (.ptr bp0 0)) rfl rfl (Light.quiet (opMove rfl rfl)) ?_
  refine ARL.q0 (v := (.ptr bp0 0)) rfl rfl (Light.quiet (opNil rfl rfl rfl)) ?_
  refine ARL.q0 (v := (.ptr bp0 2)) rfl rfl (Light.quiet (opFieldAddr rfl fieldA_108_2 rfl rfl)) ?_
  refine ARL.q (v := (.int .i64 (W (((W (p0.h * 6364136223846793005))) + 1442695040888963407)))) rfl rfl (hS.aliveC (k := 0) rfl) (Light.quiet (kAt hS (j := 0) rfl rfl aggA_3 rfl rfl)) ?_
  refine ARL.q0 (v := (.int .i64 (shr .i64 ((W (((W (p0.h * 6364136223846793005))) + 1442695040888963407))) 33))) rfl rfl (Light.quiet (opShr rfl rfl rfl (by decide) rfl)) ?_
  refine ARL.q0 (v := (.ptr bp0 0)) rfl rfl (Light.quiet (opMove rfl rfl)) ?_
  refine ARL.q0 (v := (.ptr bp0 0)) rfl rfl (Light.quiet (opNil rfl rfl rfl)) ?_
  refine ARL.q0 (v := (.ptr bp0 2)) rfl rfl (Light.quiet (opFieldAddr rfl fieldA_108_2 rfl rfl)) ?_
  refine ARL.q (v := (.int .i64 (W (((W (p0.h * 6364136223846793005))) + 1442695040888963407)))) rfl rfl (hS.aliveC (k := 0) rfl) (Light.quiet (kAt hS (j := 0) rfl rfl aggA_3 rfl rfl)) ?_
  refine ARL.q0 (v := (.int .i64 (shr .i64 ((W (((W (p0.h * 6364136223846793005))) + 1442695040888963407))) 45))) rfl rfl (Light.quiet (opShr rfl rfl rfl (by decide) rfl)) ?_
  refine ARL.q0 (v := (.int .i64 (bXor .i64 ((shr .i64 ((W (((W (p0.h * 6364136223846793005))) + 1442695040888963407))) 33)) ((shr .i64 ((W (((W (p0.h * 6364136223846793005))) + 1442695040888963407))) 45))))) rfl rfl (Light.quiet (opInt rfl rfl rfl rfl)) ?_
  refine ARL.q0 (v := (.int .i64 (bAnd .i64 ((bXor .i64 ((shr .i64 ((W (((W (p0.h * 6364136223846793005))) + 1442695040888963407))) 33)) ((shr .i64 ((W (((W (p0.h * 6364136223846793005))) + 1442695040888963407))) 45)))) 255))) rfl rfl (Light.quiet (opInt rfl rfl rfl rfl)) ?_
  refine ARL.q0 (v := (.int .i64 (bAnd .i64 ((bXor .i64 ((shr .i64 ((W (((W (p0.h * 6364136223846793005))) + 1442695040888963407))) 33)) ((shr .i64 ((W (((W (p0.h * 6364136223846793005))) + 1442695040888963407))) 45)))) 255))) rfl rfl (Light.quiet (opAssign rfl rfl)) ?_
  refine ARL.done ?_
  refine AWP.seq ?_
  refine AWP.seqD [(0, false), (1, false), (2, false), (3, false), (4, false), (5, false), (6, false), (7, false), (8, false), (9, false)] mixed (by kernel_rfl) rfl ?_
  refine ARL.q0 (v := (.ptr bp0 0)) rfl rfl (Light.quiet (opMove rfl rfl)) ?_
  refine ARL.q0 (v := (.ptr bp0 0)) rfl rfl (Light.quiet (opNil rfl rfl rfl)) ?_
  refine ARL.q0 (v := (.ptr bp0 1)) rfl rfl (Light.quiet (opFieldAddr rfl fieldA_108_1 rfl rfl)) ?_
  refine ARL.q (v := (.int .i64 p0.i)) rfl rfl (hS.aliveC (k := 0) rfl) (Light.quiet (kAt hS (j := 0) rfl rfl aggA_3 rfl rfl)) ?_
  refine ARL.q0 (v := (.ptr bp0 0)) rfl rfl (Light.quiet (opMove rfl rfl)) ?_
  refine ARL.q0 (v := (.ptr bp0 0)) rfl rfl (Light.quiet (opNil rfl rfl rfl)) ?_
  refine ARL.q0 (v := (.ptr bp0 0)) rfl rfl (Light.quiet (opFieldAddr rfl fieldA_108_0 rfl rfl)) ?_
  refine ARL.q (v := (.list 1 (List.map (AV.int .u8) p0.b))) rfl rfl (hS.aliveC (k := 0) rfl) (Light.quiet (kAt hS (j := 0) rfl rfl aggA_22 rfl rfl)) ?_
  refine ARL.q0 (v := (.int .i64 (p0.b.length : Int))) rfl rfl (Light.quiet (opLenMap (f := (AV.int .u8)) rfl rfl rfl lenT_22 rfl)) ?_
  refine ARL.q0 (v := (.bool (decide (p0.i < ((p0.b.length : Int)))))) rfl rfl (Light.quiet (opInt rfl rfl rfl rfl)) ?_
  refine ARL.done ?_
  refine AWP.ifP hF rfl (fun hc3 hF => ?_) (fun hc3 hF => ?_)
  · skip
    refine AWP.seqD [(0, false), (1, false), (2, false), (3, false), (4, false), (5, false), (6, false), (7, false), (8, false), (9, false), (10, false), (11, false), (12, false), (13, false), (14, false)] mixed (by kernel_rfl) rfl ?_
    refine ARL.q0 (v := (.int .i64 (bAnd .i64 ((bXor .i64 ((shr .i64 ((W (((W (p0.h * 6364136223846793005))) + 1442695040888963407))) 33)) ((shr .i64 ((W (((W (p0.h * 6364136223846793005))) + 1442695040888963407))) 45)))) 255))) rfl rfl (Light.quiet (opMove rfl rfl)) ?_
    refine ARL.q0 (v := (.ptr bp0 0)) rfl rfl (Light.quiet (opMove rfl rfl)) ?_
    refine ARL.q0 (v := (.ptr bp0 0)) rfl rfl (Light.quiet (opNil rfl rfl rfl)) ?_
    refine ARL.q0 (v := (.ptr bp0 0)) rfl rfl (Light.quiet (opFieldAddr rfl fieldA_108_0 rfl rfl)) ?_
    refine ARL.q (v := (.list 1 (List.map (AV.int .u8) p0.b))) rfl rfl (hS.aliveC (k := 0) rfl) (Light.quiet (kAt hS (j := 0) rfl rfl aggA_22 rfl rfl)) ?_
    refine ARL.q0 (v := (.ptr bp0 0)) rfl rfl (Light.quiet (opMove rfl rfl)) ?_
    refine ARL.q0 (v := (.ptr bp0 0)) rfl rfl (Light.quiet (opNil rfl rfl rfl)) ?_
    refine ARL.q0 (v := (.ptr bp0 1)) rfl rfl (Light.quiet (opFieldAddr rfl fieldA_108_1 rfl rfl)) ?_
    refine ARL.q (v := (.int .i64 p0.i)) rfl rfl (hS.aliveC (k := 0) rfl) (Light.quiet (kAt hS (j := 0) rfl rfl aggA_3 rfl rfl)) ?_
    obtain ⟨a44, ha44, hF⟩ := bindE hF
    refine ARL.q0 (v := (.rptr [(.int .u8 a44)])) rfl rfl (Light.quiet (kIx (f := (AV.int .u8)) ha44 rfl rfl rfl elemA_22 sizeA_5 rfl)) ?_
    refine ARL.q0 (v := (.int .u8 a44)) rfl rfl (Light.quiet (opLoadR rfl aggA_5 rfl rfl)) ?_
    refine ARL.q0 (v := (.int .i64 (IntKind.i64.wrap a44))) rfl rfl (Light.quiet (opConv rfl rfl und_5 und_3 rfl)) ?_
    refine ARL.q0 (v := (.int .i64 (W (((bAnd .i64 ((bXor .i64 ((shr .i64 ((W (((W (p0.h * 6364136223846793005))) + 1442695040888963407))) 33)) ((shr .i64 ((W (((W (p0.h * 6364136223846793005))) + 1442695040888963407))) 45)))) 255)) + ((IntKind.i64.wrap a44)))))) rfl rfl (Light.quiet (opInt rfl rfl rfl rfl)) ?_
    refine ARL.q0 (v := (.int .i64 (bAnd .i64 ((W (((bAnd .i64 ((bXor .i64 ((shr .i64 ((W (((W (p0.h * 6364136223846793005))) + 1442695040888963407))) 33)) ((shr .i64 ((W (((W (p0.h * 6364136223846793005))) + 1442695040888963407))) 45)))) 255)) + ((IntKind.i64.wrap a44))))) 255))) rfl rfl (Light.quiet (opInt rfl rfl rfl rfl)) ?_
    refine ARL.q0 (v := (.int .i64 (bAnd .i64 ((W (((bAnd .i64 ((bXor .i64 ((shr .i64 ((W (((W (p0.h * 6364136223846793005))) + 1442695040888963407))) 33)) ((shr .i64 ((W (((W (p0.h * 6364136223846793005))) + 1442695040888963407))) 45)))) 255)) + ((IntKind.i64.wrap a44))))) 255))) rfl rfl (Light.quiet (opAssign rfl rfl)) ?_
    refine ARL.done ?_
    refine AWP.lastR rfl ?_
    refine ASL.q (v := (.ptr bp0 0)) rfl rfl (Light.quiet (opMove rfl rfl)) ?_
    refine ASL.q (v := (.ptr bp0 0)) rfl rfl (Light.quiet (opMove rfl rfl)) ?_
    refine ASL.q (v := (.ptr bp0 0)) rfl rfl (Light.quiet (opNil rfl rfl rfl)) ?_
    refine ASL.q (v := (.ptr bp0 1)) rfl rfl (Light.quiet (opFieldAddr rfl fieldA_108_1 rfl rfl)) ?_
    refine ASL.q (v := (.int .i64 p0.i)) rfl rfl (Light.quiet (kAt hS (j := 0) rfl rfl aggA_3 rfl rfl)) ?_
    refine ASL.q (v := (.int .i64 (W (p0.i + 1)))) rfl rfl (Light.quiet (opInt rfl rfl rfl rfl)) ?_
    refine ASL.q (v := (.ptr bp0 0)) rfl rfl (Light.quiet (opNil rfl rfl rfl)) ?_
    refine ASL.q (v := (.ptr bp0 1)) rfl rfl (Light.quiet (opFieldAddr rfl fieldA_108_1 rfl rfl)) ?_
    refine ASL.n rfl rfl (hPut hS (j := 0) rfl rfl sizeA_3 rfl rfl rfl (nlt rfl) ?_); rintro G4 hS
    refine ASL.done ?_
    refine QThen.nrm ?_
    refine AWP.seqR rfl ?_
    refine ASL.q (v := (.int .i64 (bAnd .i64 ((W (((bAnd .i64 ((bXor .i64 ((shr .i64 ((W (((W (p0.h * 6364136223846793005))) + 1442695040888963407))) 33)) ((shr .i64 ((W (((W (p0.h * 6364136223846793005))) + 1442695040888963407))) 45)))) 255)) + ((IntKind.i64.wrap a44))))) 255))) rfl rfl (Light.quiet (opMove rfl rfl)) ?_
    refine ASL.q (v := (.int .i64 (bAnd .i64 ((W (((bAnd .i64 ((bXor .i64 ((shr .i64 ((W (((W (p0.h * 6364136223846793005))) + 1442695040888963407))) 33)) ((shr .i64 ((W (((W (p0.h * 6364136223846793005))) + 1442695040888963407))) 45)))) 255)) + ((IntKind.i64.wrap a44))))) 255))) rfl rfl (Light.quiet (opAssign rfl rfl)) ?_
    refine ASL.done ?_
    refine AWP.ret ?_
    obtain rfl := someE hF
    exact QRet.sole (v := (.int .i64 (bAnd .i64 ((W (((bAnd .i64 ((bXor .i64 ((shr .i64 ((W (((W (p0.h * 6364136223846793005))) + 1442695040888963407))) 33)) ((shr .i64 ((W (((W (p0.h * 6364136223846793005))) + 1442695040888963407))) 45)))) 255)) + ((IntKind.i64.wrap a44))))) 255))) ⟨rfl, trivial⟩ ⟨_, ⟨rfl, rfl⟩, hS.pick [0, 1] rfl rfl⟩
  · skip
    refine AWP.skip ?_
    refine QThen.nrm ?_
    refine AWP.seqR rfl ?_
    refine ASL.q (v := (.int .i64 (bAnd .i64 ((bXor .i64 ((shr .i64 ((W (((W (p0.h * 6364136223846793005))) + 1442695040888963407))) 33)) ((shr .i64 ((W (((W (p0.h * 6364136223846793005))) + 1442695040888963407))) 45)))) 255))) rfl rfl (Light.quiet (opMove rfl rfl)) ?_
    refine ASL.q (v := (.int .i64 (bAnd .i64 ((bXor .i64 ((shr .i64 ((W (((W (p0.h * 6364136223846793005))) + 1442695040888963407))) 33)) ((shr .i64 ((W (((W (p0.h * 6364136223846793005))) + 1442695040888963407))) 45)))) 255))) rfl rfl (Light.quiet (opAssign rfl rfl)) ?_
    refine ASL.done ?_
    refine AWP.ret ?_
    obtain rfl := someE hF
    exact QRet.sole (v := (.int .i64 (bAnd .i64 ((bXor .i64 ((shr .i64 ((W (((W (p0.h * 6364136223846793005))) + 1442695040888963407))) 33)) ((shr .i64 ((W (((W (p0.h * 6364136223846793005))) + 1442695040888963407))) 45)))) 255))) ⟨rfl, trivial⟩ ⟨_, ⟨rfl, rfl⟩, hS.pick [0, 1] rfl rfl⟩

set_option maxRecDepth 10000 in
theorem spec_l1Below_ok {p0 : Tl1Cur} {p1 : Int} {r : (Int × Tl1Cur)} {bp0 : Nat} (hF : spec_l1Below p0 p1 = some r) : HS Try.prog 55 [(.ptr bp0 0), (.int .i64 p1)] [.cell bp0 [(.list 1 (List.map (AV.int .u8) p0.b)), (.int .i64 p0.i), (.int .i64 p0.h)]] fun v L' => v = (.int .i64 r.1) ∧ L' = [.cell bp0 [(.list 1 (List.map (AV.int .u8) r.2.b)), (.int .i64 r.2.i), (.int .i64 r.2.h)]] := by
  intro H S hS
  refine HC.enter Try.func55 rfl Try.ntmps55 (by simp) ?_
  simp only [List.cons_append, List.nil_append] at hS
  unfold spec_l1Below at hF
  refine AWP.seqR rfl ?_
  refine ASL.q (v := (.int .i64 0)) rfl rfl (Light.quiet (opAssign rfl rfl)) ?_
  refine ASL.done ?_
  refine AWP.seq ?_
  refine AWP.seqR rfl ?_
  refine ASL.q (v := (.int .i64 p1)) rfl rfl (Light.quiet (opMove rfl rfl)) ?_
  refine ASL.q (v := (.bool (decide (p1 ≤ 0)))) rfl rfl (Light.quiet (opInt rfl rfl rfl rfl)) ?_
  refine ASL.done ?_
  refine AWP.ifP hF rfl (fun hc2 hF => ?_) (fun hc2 hF => ?_)
  · skip
    refine AWP.seqR rfl ?_
    refine ASL.q (v := (.int .i64 0)) rfl rfl (Light.quiet (opAssign rfl rfl)) ?_
    refine ASL.done ?_
    refine AWP.ret ?_
    refine QThen.rt ?_
    obtain rfl := someE hF
    exact QRet.sole (v := (.int .i64 0)) ⟨rfl, trivial⟩ ⟨_, ⟨rfl, rfl⟩, hS.pick [0, 1] rfl rfl⟩
  · skip
    refine AWP.skip ?_
    refine QThen.nrm ?_
    refine AWP.seq ?_
    refine AWP.seqR rfl ?_
    refine ASL.q (v := (.int .i64 p1)) rfl rfl (Light.quiet (opMove rfl rfl)) ?_
    refine ASL.q (v := (.bool (decide (p1 ≤ 256)))) rfl rfl (Light.quiet (opInt rfl rfl rfl rfl)) ?_
    refine ASL.done ?_
    refine AWP.ifP hF rfl (fun hc3 hF => ?_) (fun hc3 hF => ?_)
    · skip
      refine AWP.seqR rfl ?_
      refine ASL.q (v := (.ptr bp0 0)) rfl rfl (Light.quiet (opMove rfl rfl)) ?_
      obtain ⟨a14, ha14, hF⟩ := bindE hF
      refine ASL.x rfl rfl (hCallS hS [0, 1] (F := [.snap S]) rfl rfl rfl call_93 (spec_l1Byte_ok ha14) rfl rfl ?_); rintro _ _ G4 ⟨rfl, rfl⟩ hS
      refine ASL.q (v := (.int .i64 p1)) rfl rfl (Light.quiet (opMove rfl rfl)) ?_
      obtain ⟨u5, hu5, hF⟩ := bindE hF
      refine ASL.q (v := (.int .i64 (Int.tmod a14.1 p1))) rfl rfl (Light.quiet (opRem rfl rfl rfl (of_decide_eq_true (chkE hu5)) rfl)) ?_
      refine ASL.q (v := (.int .i64 (Int.tmod a14.1 p1))) rfl rfl (Light.quiet (opAssign rfl rfl)) ?_
      refine ASL.done ?_
      refine AWP.ret ?_
      refine QThen.rt ?_
      obtain rfl := someE hF
      exact QRet.sole (v := (.int .i64 (Int.tmod a14.1 p1))) ⟨rfl, trivial⟩ ⟨_, ⟨rfl, rfl⟩, hS.pick [0, 1] rfl rfl⟩
    · skip
      refine AWP.skip ?_
      refine QThen.nrm ?_
      refine AWP.seqR rfl ?_
      refine ASL.q (v := (.ptr bp0 0)) rfl rfl (Light.quiet (opMove rfl rfl)) ?_
      obtain ⟨a18, ha18, hF⟩ := bindE hF
      refine ASL.x rfl rfl (hCallS hS [0, 1] (F := [.snap S]) rfl rfl rfl call_93 (spec_l1Byte_ok ha18) rfl rfl ?_); rintro _ _ G6 ⟨rfl, rfl⟩ hS
      refine ASL.q (v := (.int .i64 a18.1)) rfl rfl (Light.quiet (opAssign rfl rfl)) ?_
      refine ASL.done ?_
      refine AWP.seqR rfl ?_
      refine ASL.q (v := (.ptr bp0 0)) rfl rfl (Light.quiet (opMove rfl rfl)) ?_
      obtain ⟨a20, ha20, hF⟩ := bindE hF
      refine ASL.x rfl rfl (hCallS hS [0, 1] (F := [.snap S]) rfl rfl rfl call_93 (spec_l1Byte_ok ha20) rfl rfl ?_); rintro _ _ G7 ⟨rfl, rfl⟩ hS
      refine ASL.q (v := (.int .i64 a20.1)) rfl rfl (Light.quiet (opAssign rfl rfl)) ?_
      refine ASL.done ?_
      refine AWP.seqR rfl ?_
      refine ASL.q (v := (.ptr bp0 0)) rfl rfl (Light.quiet (opMove rfl rfl)) ?_
      obtain ⟨a22, ha22, hF⟩ := bindE hF
      refine ASL.x rfl rfl (hCallS hS [0, 1] (F := [.snap S]) rfl rfl rfl call_93 (spec_l1Byte_ok ha22) rfl rfl ?_); rintro _ _ G8 ⟨rfl, rfl⟩ hS
      refine ASL.q (v := (.int .i64 a22.1)) rfl rfl (Light.quiet (opAssign rfl rfl)) ?_
      refine ASL.done ?_
      refine AWP.seqR rfl ?_
      refine ASL.q (v := (.ptr bp0 0)) rfl rfl (Light.quiet (opMove rfl rfl)) ?_
      obtain ⟨a24, ha24, hF⟩ := bindE hF
      refine ASL.x rfl rfl (hCallS hS [0, 1] (F := [.snap S]) rfl rfl rfl call_93 (spec_l1Byte_ok ha24) rfl rfl ?_); rintro _ _ G9 ⟨rfl, rfl⟩ hS
      refine ASL.q (v := (.int .i64 a24.1)) rfl rfl (Light.quiet (opAssign rfl rfl)) ?_
      refine ASL.done ?_
      refine AWP.seqR rfl ?_
      refine ASL.q (v := (.int .i64 a18.1)) rfl rfl (Light.quiet (opMove rfl rfl)) ?_
      refine ASL.q (v := (.int .i64 (W (a18.1 * 16777216)))) rfl rfl (Light.quiet (opInt rfl rfl rfl rfl)) ?_
      refine ASL.q (v := (.int .i64 a20.1)) rfl rfl (Light.quiet (opMove rfl rfl)) ?_
      refine ASL.q (v := (.int .i64 (W (a20.1 * 65536)))) rfl rfl (Light.quiet (opInt rfl rfl rfl rfl)) ?_
      refine ASL.q (v := (.int .i64 (W (((W (a18.1 * 16777216))) + ((W (a20.1 * 65536))))))) rfl rfl (Light.quiet (opInt rfl rfl rfl rfl)) ?_
      refine ASL.q (v := (.int .i64 a22.1)) rfl rfl (Light.quiet (opMove rfl rfl)) ?_
      refine ASL.q (v := (.int .i64 (W (a22.1 * 256)))) rfl rfl (Light.quiet (opInt rfl rfl rfl rfl)) ?_
      refine ASL.q (v := (.int .i64 (W (((W (((W (a18.1 * 16777216))) + ((W (a20.1 * 65536)))))) + ((W (a22.1 * 256))))))) rfl rfl (Light.quiet (opInt rfl rfl rfl rfl)) ?_
      refine ASL.q (v := (.int .i64 a24.1)) rfl rfl (Light.quiet (opMove rfl rfl)) ?_
      refine ASL.q (v := (.int .i64 (W (((W (((W (((W (a18.1 * 16777216))) + ((W (a20.1 * 65536)))))) + ((W (a22.1 * 256)))))) + a24.1)))) rfl rfl (Light.quiet (opInt rfl rfl rfl rfl)) ?_
      refine ASL.q (v := (.int .i64 p1)) rfl rfl (Light.quiet (opMove rfl rfl)) ?_
      obtain ⟨u10, hu10, hF⟩ := bindE hF
      refine ASL.q (v := (.int .i64 (Int.tmod ((W (((W (((W (((W (a18.1 * 16777216))) + ((W (a20.1 * 65536)))))) + ((W (a22.1 * 256)))))) + a24.1))) p1))) rfl rfl (Light.quiet (opRem rfl rfl rfl (of_decide_eq_true (chkE hu10)) rfl)) ?_
      refine ASL.q (v := (.int .i64 (Int.tmod ((W (((W (((W (((W (a18.1 * 16777216))) + ((W (a20.1 * 65536)))))) + ((W (a22.1 * 256)))))) + a24.1))) p1))) rfl rfl (Light.quiet (opAssign rfl rfl)) ?_
      refine ASL.done ?_
      refine AWP.ret ?_
      obtain rfl := someE hF
      exact QRet.sole (v := (.int .i64 (Int.tmod ((W (((W (((W (((W (a18.1 * 16777216))) + ((W (a20.1 * 65536)))))) + ((W (a22.1 * 256)))))) + a24.1))) p1))) ⟨rfl, trivial⟩ ⟨_, ⟨rfl, rfl⟩, hS.pick [0, 1] rfl rfl⟩

set_option maxRecDepth 10000 in
theorem spec_l1PickInt_ok {p0 : Tl1Cur} {p1 : (List Int)} {r : (Int × Tl1Cur)} {bp0 : Nat} (hF : spec_l1PickInt p0 p1 = some r) : HS Try.prog 104 [(.ptr bp0 0), (.list 1 (List.map (AV.int .i64) p1))] [.cell bp0 [(.list 1 (List.map (AV.int .u8) p0.b)), (.int .i64 p0.i), (.int .i64 p0.h)]] fun v L' => v = (.int .i64 r.1) ∧ L' = [.cell bp0 [(.list 1 (List.map (AV.int .u8) r.2.b)), (.int .i64 r.2.i), (.int .i64 r.2.h)]] := by
  intro H S hS
  refine HC.enter Try.func104 rfl Try.ntmps104 (by simp) ?_
  simp only [List.cons_append, List.nil_append] at hS
  unfold spec_l1PickInt at hF
  refine AWP.seqR rfl ?_
  refine ASL.q (v := (.int .i64 0)) rfl rfl (Light.quiet (opAssign rfl rfl)) ?_
  refine ASL.done ?_
  refine AWP.seqR rfl ?_
  refine ASL.q (v := (.list 1 (List.map (AV.int .i64) p1))) rfl rfl (Light.quiet (opMove rfl rfl)) ?_
  refine ASL.q (v := (.ptr bp0 0)) rfl rfl (Light.quiet (opMove rfl rfl)) ?_
  refine ASL.q (v := (.list 1 (List.map (AV.int .i64) p1))) rfl rfl (Light.quiet (opMove rfl rfl)) ?_
  refine ASL.q (v := (.int .i64 (p1.length : Int))) rfl rfl (Light.quiet (opLenMap (f := (AV.int .i64)) rfl rfl rfl lenT_27 rfl)) ?_
  obtain ⟨a9, ha9, hF⟩ := bindE hF
  refine ASL.x rfl rfl (hCallS hS [0, 1] (F := [.snap S]) rfl rfl rfl call_55 (spec_l1Below_ok ha9) rfl rfl ?_); rintro _ _ G2 ⟨rfl, rfl⟩ hS
  obtain ⟨a10, ha10, hF⟩ := bindE hF
  refine ASL.q (v := (.rptr [(.int .i64 a10)])) rfl rfl (Light.quiet (kIx (f := (AV.int .i64)) ha10 rfl rfl rfl elemA_27 sizeA_3 rfl)) ?_
  refine ASL.q (v := (.int .i64 a10)) rfl rfl (Light.quiet (opLoadR rfl aggA_3 rfl rfl)) ?_
  refine ASL.q (v := (.int .i64 a10)) rfl rfl (Light.quiet (opAssign rfl rfl)) ?_
  refine ASL.done ?_
  refine AWP.ret ?_
  obtain rfl := someE hF
  exact QRet.sole (v := (.int .i64 a10)) ⟨rfl, trivial⟩ ⟨_, ⟨rfl, rfl⟩, hS.pick [0, 1] rfl rfl⟩

set_option maxRecDepth 10000 in
theorem spec_l1Once_ok {p0 : Tl1Cur} {p1 : Int} {r : (Bool × Tl1Cur)} {bp0 : Nat} (hF : spec_l1Once p0 p1 = some r) : HS Try.prog 61 [(.ptr bp0 0), (.int .i64 p1)] [.cell bp0 [(.list 1 (List.map (AV.int .u8) p0.b)), (.int .i64 p0.i), (.int .i64 p0.h)]] fun v L' => v = (.bool r.1) ∧ L' = [.cell bp0 [(.list 1 (List.map (AV.int .u8) r.2.b)), (.int .i64 r.2.i), (.int .i64 r.2.h)]] := by
  intro H S hS
  refine HC.enter Try.func61 rfl Try.ntmps61 (by simp) ?_
  simp only [List.cons_append, List.nil_append] at hS
  unfold spec_l1Once at hF
  refine AWP.seqR rfl ?_
  refine ASL.q (v := (.bool false)) rfl rfl (Light.quiet (opAssign rfl rfl)) ?_
  refine ASL.done ?_
  refine AWP.seqR rfl ?_
  refine ASL.q (v := (.ptr bp0 0)) rfl rfl (Light.quiet (opMove rfl rfl)) ?_
  refine ASL.q (v := (.int .i64 p1)) rfl rfl (Light.quiet (opMove rfl rfl)) ?_
  obtain ⟨a7, ha7, hF⟩ := bindE hF
  refine ASL.x rfl rfl (hCallS hS [0, 1] (F := [.snap S]) rfl rfl rfl call_55 (spec_l1Below_ok ha7) rfl rfl ?_); rintro _ _ G2 ⟨rfl, rfl⟩ hS
  refine ASL.q (v := (.bool (decide (a7.1 = 0)))) rfl rfl (Light.quiet (opInt rfl rfl rfl rfl)) ?_
  refine ASL.q (v := (.bool (decide (a7.1 = 0)))) rfl rfl (Light.quiet (opAssign rfl rfl)) ?_
  refine ASL.done ?_
  refine AWP.ret ?_
  obtain rfl := someE hF
  exact QRet.sole (v := (.bool (decide (a7.1 = 0)))) ⟨rfl, trivial⟩ ⟨_, ⟨rfl, rfl⟩, hS.pick [0, 1] rfl rfl⟩

set_option maxRecDepth 10000 in
theorem spec_l4DrawEdges_ok {p0 : Tl1Cur} {p1 : Int} {p2 : Int} {p3 : Int} {r : ((List TEdge) × Tl1Cur)} {bp0 : Nat} (hF : spec_l4DrawEdges p0 p1 p2 p3 = some r) : HS Try.prog 96 [(.ptr bp0 0), (.int .i64 p1), (.int .i64 p2), (.int .i64 p3)] [.cell bp0 [(.list 1 (List.map (AV.int .u8) p0.b)), (.int .i64 p0.i), (.int .i64 p0.h)]] fun v L' => ∃ o0 : AV, v = o0 ∧ L' = [.row 4 o0 (List.map TEdge.av r.1), .cell bp0 [(.list 1 (List.map (AV.int .u8) r.2.b)), (.int .i64 r.2.i), (.int .i64 r.2.h)]] := by
  intro H S hS
  refine HC.enter Try.func96 rfl Try.ntmps96 (by simp) ?_
  simp only [List.cons_append, List.nil_append] at hS
  unfold spec_l4DrawEdges at hF
  refine AWP.seqR rfl ?_
  have hS := hNil (s := 4) (f := TEdge.av) hS
  refine ASL.q (v := .nil) rfl rfl (Light.quiet (opAssign rfl rfl)) ?_
  refine ASL.done ?_
  refine AWP.seqR rfl ?_
  refine ASL.x rfl rfl (hLit (f := TEdge.av) (zs := []) hS rfl rfl elemA_24 sizeA_73 zeroA_73 rfl rfl rfl rfl (by simp [cells, TEdge.av]) (nlt rfl) ?_); rintro v11 G3 hK hS
  refine ASL.q (v := v11) rfl rfl (Light.quiet (opAssign rfl rfl)) ?_
  refine ASL.done ?_
  refine AWP.seqM (fun e H => ∃ y5 : (List TEdge), ∃ y8 : (List Int), ∃ y9 : Int, ∃ y10 : Int, ∃ w6 : AV, E.Told e [(9, w6)] ∧ E.Sep H [.row 4 w6 (List.map TEdge.av y5), .cell bp0 [(.list 1 (List.map (AV.int .u8) y8)), (.int .i64 y9), (.int .i64 y10)], .snap S] ∧ spec_l4DrawEdges.k0 y5 y8 y9 y10 = some r) ?_ ?_
  · rintro e0 G11 ⟨y5, y8, y9, y10, w6, hT, hS, hF⟩; refine AWP.only _ hT ?_; unfold spec_l4DrawEdges.k0 at hF
    refine AWP.seqR rfl ?_
    refine ASL.q (v := w6) rfl rfl (Light.quiet (opMove rfl rfl)) ?_
    refine ASL.q (v := w6) rfl rfl (Light.quiet (opAssign rfl rfl)) ?_
    refine ASL.done ?_
    refine AWP.ret ?_
    obtain rfl := someE hF
    exact QRet.sole (v := w6) ⟨rfl, trivial⟩ ⟨_, ⟨w6, rfl, rfl⟩, hS.pick [0, 1, 2] rfl rfl⟩
  · skip
    refine AWP.seqR rfl ?_
    refine ASL.q (v := (.int .i64 0)) rfl rfl (Light.quiet (opAssign rfl rfl)) ?_
    refine ASL.done ?_
    refine AWP.block ?_
    obtain ⟨o21, hL20, hR22⟩ := bindE hF
    refine AWP.loopF (ω := AV) hL20 (fun s w => [(0, (.ptr bp0 0)), (1, (.int .i64 p1)), (2, (.int .i64 p2)), (3, (.int .i64 p3)), (9, w), (10, (.int .i64 s.2.2.2.2))]) (fun s w => [.cell bp0 [(.list 1 (List.map (AV.int .u8) s.1)), (.int .i64 s.2.1), (.int .i64 s.2.2.1)], .row 4 w (List.map TEdge.av s.2.2.2.1), .snap S]) v11 ⟨rfl, rfl, rfl, rfl, rfl, rfl, trivial⟩ (hS.pick [2, 0, 3] rfl rfl) ?_
    rintro ⟨y12, y13, y14, y15, x10_l0⟩ w16 G23 hS x18 hF hx19
    try dsimp only at hS ⊢
    have hF : spec_l4DrawEdges.b0 p3 p2 p1 y12 y13 y14 y15 x10_l0 = some x18 := hF; unfold spec_l4DrawEdges.b0 at hF
    refine AWP.seq ?_
    refine AWP.seqR rfl ?_
    refine ASL.q (v := (.int .i64 x10_l0)) rfl rfl (Light.quiet (opMove rfl rfl)) ?_
    refine ASL.q (v := (.int .i64 p3)) rfl rfl (Light.quiet (opMove rfl rfl)) ?_
    refine ASL.q (v := (.bool (decide (x10_l0 < p3)))) rfl rfl (Light.quiet (opInt rfl rfl rfl rfl)) ?_
    refine ASL.done ?_
    refine AWP.ifP hF rfl (fun hc24 hF => ?_) (fun hc24 hF => ?_)
    · skip
      refine AWP.skip ?_
      refine QThen.nrm ?_
      refine AWP.seq ?_
      refine AWP.block ?_
      refine AWP.lastR rfl ?_
      refine ASL.q (v := w16) rfl rfl (Light.quiet (opMove rfl rfl)) ?_
      refine ASL.q (v := (.ptr bp0 0)) rfl rfl (Light.quiet (opMove rfl rfl)) ?_
      refine ASL.q (v := (.int .i64 p2)) rfl rfl (Light.quiet (opMove rfl rfl)) ?_
      obtain ⟨a20, ha20, hF⟩ := bindE hF
      refine ASL.x rfl rfl (hCallS hS [0, 1, 2] (F := [.row 4 w16 (List.map TEdge.av y15), .snap S]) rfl rfl rfl call_55 (spec_l1Below_ok ha20) rfl rfl ?_); rintro _ _ G25 ⟨rfl, rfl⟩ hS
      refine ASL.q (v := (.ptr bp0 0)) rfl rfl (Light.quiet (opMove rfl rfl)) ?_
      refine ASL.q (v := (.int .i64 p1)) rfl rfl (Light.quiet (opMove rfl rfl)) ?_
      obtain ⟨a23, ha23, hF⟩ := bindE hF
      refine ASL.x rfl rfl (hCallS hS [0, 1, 2] (F := [.row 4 w16 (List.map TEdge.av y15), .snap S]) rfl rfl rfl call_55 (spec_l1Below_ok ha23) rfl rfl ?_); rintro _ _ G26 ⟨rfl, rfl⟩ hS
      refine ASL.q (v := (.ptr bp0 0)) rfl rfl (Light.quiet (opMove rfl rfl)) ?_
      refine ASL.q (v := (.int .i64 p2)) rfl rfl (Light.quiet (opMove rfl rfl)) ?_
      obtain ⟨a26, ha26, hF⟩ := bindE hF
      refine ASL.x rfl rfl (hCallS hS [0, 1, 2] (F := [.row 4 w16 (List.map TEdge.av y15), .snap S]) rfl rfl rfl call_55 (spec_l1Below_ok ha26) rfl rfl ?_); rintro _ _ G27 ⟨rfl, rfl⟩ hS
      refine ASL.q (v := (.ptr bp0 0)) rfl rfl (Light.quiet (opMove rfl rfl)) ?_
      obtain ⟨a28, ha28, hF⟩ := bindE hF
      refine ASL.x rfl rfl (hCallS hS [0, 1, 2] (F := [.row 4 w16 (List.map TEdge.av y15), .snap S]) rfl rfl rfl call_61 (spec_l1Once_ok ha28) rfl rfl ?_); rintro _ _ G28 ⟨rfl, rfl⟩ hS
      refine ASL.q (v := (.agg [(.int .i64 a20.1), (.int .i64 a23.1), (.int .i64 a26.1), (.bool a28.1)])) rfl rfl (Light.quiet (opBuildZ (zs := [(.int .i64 0), (.int .i64 0), (.int .i64 0), (.bool false)]) rfl plan_73 zeroA_73 ⟨.inl rfl, .inl rfl, .inl rfl, .inl rfl, trivial⟩ rfl)) ?_
      refine ASL.q (v := (.list 4 (List.map TEdge.av [(TEdge.mk a20.1 a23.1 a26.1 a28.1)]))) rfl rfl ((qLit (xs := [(.agg [(.int .i64 a20.1), (.int .i64 a23.1), (.int .i64 a26.1), (.bool a28.1)])]) rfl elemA_24 sizeA_73 zeroA_73 rfl rfl rfl rfl (by simp [cells, TEdge.av]) (nlt rfl))) ?_
      obtain ⟨z31, hz31, hF⟩ := bindE hF
      refine ASL.x rfl rfl (hApp (f := TEdge.av) (ws := [(TEdge.mk a20.1 a23.1 a26.1 a28.1)]) hS (j := 1) rfl hz31 rfl elemA_24 rfl sizeA_73 bytesA_73 zeroA_73 rfl rfl rfl (fun _ => rfl) ?_); rintro v31 G29 hS
      refine ASL.q (v := v31) rfl rfl (Light.quiet (opAssign rfl rfl)) ?_
      refine ASL.done ?_
      refine QBlock.nrm ?_
      refine QThen.nrm ?_
      refine AWP.lastR rfl ?_
      refine ASL.q (v := (.int .i64 x10_l0)) rfl rfl (Light.quiet (opMove rfl rfl)) ?_
      refine ASL.q (v := (.int .i64 (W (x10_l0 + 1)))) rfl rfl (Light.quiet (opInt rfl rfl rfl rfl)) ?_
      refine ASL.q (v := (.int .i64 (W (x10_l0 + 1)))) rfl rfl (Light.quiet (opAssign rfl rfl)) ?_
      refine ASL.done ?_
      refine QThen.nrm ?_
      exact ⟨(a28.2.b, a28.2.i, a28.2.h, z31, (W (x10_l0 + 1))), v31, (someE hF).symm, ⟨rfl, rfl, rfl, rfl, rfl, rfl, trivial⟩, (hS.pick [0, 1, 2] rfl rfl)⟩
    · skip
      refine AWP.exit ?_
      refine QThen.ext ?_
      refine QThen.ext ?_
      refine QBlock.hit ?_
      obtain rfl := (hx19 _ (someE hF).symm)
      have hF := hR22
      refine QThen.nrm ?_
      exact ⟨y15, y12, y13, y14, w16, ⟨rfl, trivial⟩, (hS.pick [1, 0, 2] rfl rfl), hF⟩

set_option maxRecDepth 10000 in
theorem spec_l1In_ok (p0 : Int) (p1 : Int) (p2 : Int) : PC Try.prog 41 [(.int .i64 p0), (.int .i64 p1), (.int .i64 p2)] fun v => v = (.bool (spec_l1In p0 p1 p2)) := by
  generalize hF : spec_l1In p0 p1 p2 = r
  refine PC.enter Try.func41 rfl Try.ntmps41 (by simp) ?_
  have hS := Sep.void; unfold spec_l1In at hF
  refine AWP.seqR rfl ?_
  refine ASL.q (v := (.bool false)) rfl rfl (Light.quiet (opAssign rfl rfl)) ?_
  refine ASL.done ?_
  refine AWP.seqR rfl ?_
  refine ASL.q (v := (.int .i64 p0)) rfl rfl (Light.quiet (opMove rfl rfl)) ?_
  refine ASL.q (v := (.int .i64 p1)) rfl rfl (Light.quiet (opMove rfl rfl)) ?_
  refine ASL.q (v := (.bool (decide (p0 ≥ p1)))) rfl rfl (Light.quiet (opInt rfl rfl rfl rfl)) ?_
  obtain ⟨c10, hc10, hF⟩ := bndE hF
  refine ASL.q (v := (.bool c10)) rfl rfl ((Quiet.cast (Light.quiet (opMove rfl rfl)) (congrArg AV.bool hc10.symm))) ?_
  refine ASL.g (v := (.int .i64 p0)) (.bool c10) true rfl (wT _) rfl (fun hG => by have q0 := hG; subst q0; exact Light.quiet (opMove rfl rfl)) ?_
  refine ASL.g (v := (.int .i64 p2)) (.bool c10) true rfl (wT _) rfl (fun hG => by have q0 := hG; subst q0; exact Light.quiet (opMove rfl rfl)) ?_
  refine ASL.g (v := (.bool (decide (p0 ≤ p2)))) (.bool c10) true rfl (wT _) rfl (fun hG => by have q0 := hG; subst q0; exact Light.quiet (opInt rfl rfl rfl rfl)) ?_
  refine ASL.q (v := (.bool (c10 && (decide (p0 ≤ p2))))) rfl rfl (Light.quiet (opPick (b := c10) rfl rfl (by cases c10 <;> rfl))) ?_
  refine ASL.q (v := (.bool (c10 && (decide (p0 ≤ p2))))) rfl rfl (Light.quiet (opAssign rfl rfl)) ?_
  refine ASL.done ?_
  refine AWP.ret ?_
  obtain rfl := hF
  exact QRet.sole (v := (.bool (c10 && (decide (p0 ≤ p2))))) ⟨rfl, trivial⟩ rfl

set_option maxRecDepth 10000 in
theorem spec_SetOk_ok (p0 : Int) : PC Try.prog 83 [(.int .i64 p0)] fun v => v = (.bool (spec_SetOk p0)) := by
  generalize hF : spec_SetOk p0 = r
  refine PC.enter Try.func83 rfl Try.ntmps83 (by simp) ?_
  have hS := Sep.void; unfold spec_SetOk at hF
  refine AWP.seqR rfl ?_
  refine ASL.q (v := (.bool false)) rfl rfl (Light.quiet (opAssign rfl rfl)) ?_
  refine ASL.done ?_
  refine AWP.seqR rfl ?_
  refine ASL.q (v := (.int .i64 p0)) rfl rfl (Light.quiet (opMove rfl rfl)) ?_
  refine ASL.q (v := (.bool (spec_l1In p0 0 2147483647))) rfl rfl ((qCall rfl rfl call_41 (spec_l1In_ok p0 0 2147483647) rfl)) ?_
  refine ASL.q (v := (.bool (spec_l1In p0 0 2147483647))) rfl rfl (Light.quiet (opAssign rfl rfl)) ?_
  refine ASL.done ?_
  refine AWP.ret ?_
  obtain rfl := hF
  exact QRet.sole (v := (.bool (spec_l1In p0 0 2147483647))) ⟨rfl, trivial⟩ rfl

set_option maxRecDepth 10000 in
theorem spec_SetIn_ok (p0 : Int) (p1 : Int) : PC Try.prog 42 [(.int .i64 p0), (.int .i64 p1)] fun v => v = (.bool (spec_SetIn p0 p1)) := by
  generalize hF : spec_SetIn p0 p1 = r
  refine PC.enter Try.func42 rfl Try.ntmps42 (by simp) ?_
  have hS := Sep.void; unfold spec_SetIn at hF
  refine AWP.seqR rfl ?_
  refine ASL.q (v := (.bool false)) rfl rfl (Light.quiet (opAssign rfl rfl)) ?_
  refine ASL.done ?_
  refine AWP.seqR rfl ?_
  refine ASL.q (v := (.int .i64 p0)) rfl rfl (Light.quiet (opMove rfl rfl)) ?_
  refine ASL.q (v := (.bool (spec_SetOk p0))) rfl rfl ((qCall rfl rfl call_83 (spec_SetOk_ok p0) rfl)) ?_
  obtain ⟨c7, hc7, hF⟩ := bndE hF
  refine ASL.q (v := (.bool c7)) rfl rfl ((Quiet.cast (Light.quiet (opMove rfl rfl)) (congrArg AV.bool hc7.symm))) ?_
  refine ASL.g (v := (.int .i64 p1)) (.bool c7) true rfl (wT _) rfl (fun hG => by have q0 := hG; subst q0; exact Light.quiet (opMove rfl rfl)) ?_
  refine ASL.g (v := (.bool (spec_SetOk p1))) (.bool c7) true rfl (wT _) rfl (fun hG => by have q0 := hG; subst q0; exact (qCall rfl rfl call_83 (spec_SetOk_ok p1) rfl)) ?_
  refine ASL.q (v := (.bool (c7 && (spec_SetOk p1)))) rfl rfl (Light.quiet (opPick (b := c7) rfl rfl (by cases c7 <;> rfl))) ?_
  obtain ⟨c11, hc11, hF⟩ := bndE hF
  refine ASL.q (v := (.bool c11)) rfl rfl ((Quiet.cast (Light.quiet (opMove rfl rfl)) (congrArg AV.bool hc11.symm))) ?_
  refine ASL.g (v := (.int .i64 p0)) (.bool c11) true rfl (wT _) rfl (fun hG => by have q0 := hG; subst q0; exact Light.quiet (opMove rfl rfl)) ?_
  refine ASL.g (v := (.int .i64 p1)) (.bool c11) true rfl (wT _) rfl (fun hG => by have q0 := hG; subst q0; exact Light.quiet (opMove rfl rfl)) ?_
  refine ASL.g (v := (.int .i64 (bAnd .i64 p0 p1))) (.bool c11) true rfl (wT _) rfl (fun hG => by have q0 := hG; subst q0; exact Light.quiet (opInt rfl rfl rfl rfl)) ?_
  refine ASL.g (v := (.int .i64 p0)) (.bool c11) true rfl (wT _) rfl (fun hG => by have q0 := hG; subst q0; exact Light.quiet (opMove rfl rfl)) ?_
  refine ASL.g (v := (.bool (decide (((bAnd .i64 p0 p1)) = p0)))) (.bool c11) true rfl (wT _) rfl (fun hG => by have q0 := hG; subst q0; exact Light.quiet (opInt rfl rfl rfl rfl)) ?_
  refine ASL.q (v := (.bool (c11 && (decide (((bAnd .i64 p0 p1)) = p0))))) rfl rfl (Light.quiet (opPick (b := c11) rfl rfl (by cases c11 <;> rfl))) ?_
  refine ASL.q (v := (.bool (c11 && (decide (((bAnd .i64 p0 p1)) = p0))))) rfl rfl (Light.quiet (opAssign rfl rfl)) ?_
  refine ASL.done ?_
  refine AWP.ret ?_
  obtain rfl := hF
  exact QRet.sole (v := (.bool (c11 && (decide (((bAnd .i64 p0 p1)) = p0))))) ⟨rfl, trivial⟩ rfl

set_option maxRecDepth 10000 in
theorem spec_l4State_ok (p0 : Int) (p1 : Int) : PC Try.prog 43 [(.int .i64 p0), (.int .i64 p1)] fun v => v = (.bool (spec_l4State p0 p1)) := by
  generalize hF : spec_l4State p0 p1 = r
  refine PC.enter Try.func43 rfl Try.ntmps43 (by simp) ?_
  have hS := Sep.void; unfold spec_l4State at hF
  refine AWP.seqR rfl ?_
  refine ASL.q (v := (.bool false)) rfl rfl (Light.quiet (opAssign rfl rfl)) ?_
  refine ASL.done ?_
  refine AWP.seqR rfl ?_
  refine ASL.q (v := (.int .i64 p0)) rfl rfl (Light.quiet (opMove rfl rfl)) ?_
  refine ASL.q (v := (.int .i64 p1)) rfl rfl (Light.quiet (opMove rfl rfl)) ?_
  refine ASL.q (v := (.int .i64 (W (p1 - 1)))) rfl rfl (Light.quiet (opInt rfl rfl rfl rfl)) ?_
  refine ASL.q (v := (.bool (spec_l1In p0 0 ((W (p1 - 1)))))) rfl rfl ((qCall rfl rfl call_41 (spec_l1In_ok p0 0 ((W (p1 - 1)))) rfl)) ?_
  refine ASL.q (v := (.bool (spec_l1In p0 0 ((W (p1 - 1)))))) rfl rfl (Light.quiet (opAssign rfl rfl)) ?_
  refine ASL.done ?_
  refine AWP.ret ?_
  obtain rfl := hF
  exact QRet.sole (v := (.bool (spec_l1In p0 0 ((W (p1 - 1)))))) ⟨rfl, trivial⟩ rfl

set_option maxRecDepth 10000 in
theorem spec_l4Less_ok (p0 : TEdge) (p1 : TEdge) : PC Try.prog 44 [(TEdge.av p0), (TEdge.av p1)] fun v => v = (.bool (spec_l4Less p0 p1)) := by
  generalize hF : spec_l4Less p0 p1 = r
  refine PC.enter Try.func44 rfl Try.ntmps44 (by simp) ?_
  have hS := Sep.void; unfold spec_l4Less at hF
  refine AWP.seqR rfl ?_
  refine ASL.q (v := (.rptr [(.int .i64 p0.from_), (.int .i64 p0.letter), (.int .i64 p0.to_), (.bool p0.good)])) rfl rfl ((qBoxI (v := (TEdge.av p0)) rfl rfl rfl rfl)) ?_
  refine ASL.q (v := (.rptr [(.int .i64 p1.from_), (.int .i64 p1.letter), (.int .i64 p1.to_), (.bool p1.good)])) rfl rfl ((qBoxI (v := (TEdge.av p1)) rfl rfl rfl rfl)) ?_
  refine ASL.q (v := (.bool false)) rfl rfl (Light.quiet (opAssign rfl rfl)) ?_
  refine ASL.done ?_
  refine AWP.seq ?_
  refine AWP.seqR rfl ?_
  refine ASL.q (v := (.rptr [(.int .i64 p0.from_), (.int .i64 p0.letter), (.int .i64 p0.to_), (.bool p0.good)])) rfl rfl (Light.quiet (opFieldAddrR rfl fieldA_73_0 rfl rfl)) ?_
  refine ASL.q (v := (.int .i64 p0.from_)) rfl rfl (Light.quiet (opLoadR rfl aggA_3 rfl rfl)) ?_
  refine ASL.q (v := (.rptr [(.int .i64 p1.from_), (.int .i64 p1.letter), (.int .i64 p1.to_), (.bool p1.good)])) rfl rfl (Light.quiet (opFieldAddrR rfl fieldA_73_0 rfl rfl)) ?_
  refine ASL.q (v := (.int .i64 p1.from_)) rfl rfl (Light.quiet (opLoadR rfl aggA_3 rfl rfl)) ?_
  refine ASL.q (v := (.bool (decide (p0.from_ ≠ p1.from_)))) rfl rfl (Light.quiet (opInt rfl rfl rfl rfl)) ?_
  refine ASL.done ?_
  refine AWP.ifP hF rfl (fun hc1 hF => ?_) (fun hc1 hF => ?_)
  · skip
    refine AWP.seqR rfl ?_
    refine ASL.q (v := (.rptr [(.int .i64 p0.from_), (.int .i64 p0.letter), (.int .i64 p0.to_), (.bool p0.good)])) rfl rfl (Light.quiet (opFieldAddrR rfl fieldA_73_0 rfl rfl)) ?_
    refine ASL.q (v := (.int .i64 p0.from_)) rfl rfl (Light.quiet (opLoadR rfl aggA_3 rfl rfl)) ?_
    refine ASL.q (v := (.rptr [(.int .i64 p1.from_), (.int .i64 p1.letter), (.int .i64 p1.to_), (.bool p1.good)])) rfl rfl (Light.quiet (opFieldAddrR rfl fieldA_73_0 rfl rfl)) ?_
    refine ASL.q (v := (.int .i64 p1.from_)) rfl rfl (Light.quiet (opLoadR rfl aggA_3 rfl rfl)) ?_
    refine ASL.q (v := (.bool (decide (p0.from_ < p1.from_)))) rfl rfl (Light.quiet (opInt rfl rfl rfl rfl)) ?_
    refine ASL.q (v := (.bool (decide (p0.from_ < p1.from_)))) rfl rfl (Light.quiet (opAssign rfl rfl)) ?_
    refine ASL.done ?_
    refine AWP.ret ?_
    refine QThen.rt ?_
    obtain rfl := hF
    exact QRet.sole (v := (.bool (decide (p0.from_ < p1.from_)))) ⟨rfl, trivial⟩ rfl
  · skip
    refine AWP.skip ?_
    refine QThen.nrm ?_
    refine AWP.seq ?_
    refine AWP.seqR rfl ?_
    refine ASL.q (v := (.rptr [(.int .i64 p0.letter), (.int .i64 p0.to_), (.bool p0.good)])) rfl rfl (Light.quiet (opFieldAddrR rfl fieldA_73_1 rfl rfl)) ?_
    refine ASL.q (v := (.int .i64 p0.letter)) rfl rfl (Light.quiet (opLoadR rfl aggA_3 rfl rfl)) ?_
    refine ASL.q (v := (.rptr [(.int .i64 p1.letter), (.int .i64 p1.to_), (.bool p1.good)])) rfl rfl (Light.quiet (opFieldAddrR rfl fieldA_73_1 rfl rfl)) ?_
    refine ASL.q (v := (.int .i64 p1.letter)) rfl rfl (Light.quiet (opLoadR rfl aggA_3 rfl rfl)) ?_
    refine ASL.q (v := (.bool (decide (p0.letter ≠ p1.letter)))) rfl rfl (Light.quiet (opInt rfl rfl rfl rfl)) ?_
    refine ASL.done ?_
    refine AWP.ifP hF rfl (fun hc2 hF => ?_) (fun hc2 hF => ?_)
    · skip
      refine AWP.seqR rfl ?_
      refine ASL.q (v := (.rptr [(.int .i64 p0.letter), (.int .i64 p0.to_), (.bool p0.good)])) rfl rfl (Light.quiet (opFieldAddrR rfl fieldA_73_1 rfl rfl)) ?_
      refine ASL.q (v := (.int .i64 p0.letter)) rfl rfl (Light.quiet (opLoadR rfl aggA_3 rfl rfl)) ?_
      refine ASL.q (v := (.rptr [(.int .i64 p1.letter), (.int .i64 p1.to_), (.bool p1.good)])) rfl rfl (Light.quiet (opFieldAddrR rfl fieldA_73_1 rfl rfl)) ?_
      refine ASL.q (v := (.int .i64 p1.letter)) rfl rfl (Light.quiet (opLoadR rfl aggA_3 rfl rfl)) ?_
      refine ASL.q (v := (.bool (decide (p0.letter < p1.letter)))) rfl rfl (Light.quiet (opInt rfl rfl rfl rfl)) ?_
      refine ASL.q (v := (.bool (decide (p0.letter < p1.letter)))) rfl rfl (Light.quiet (opAssign rfl rfl)) ?_
      refine ASL.done ?_
      refine AWP.ret ?_
      refine QThen.rt ?_
      obtain rfl := hF
      exact QRet.sole (v := (.bool (decide (p0.letter < p1.letter)))) ⟨rfl, trivial⟩ rfl
    · skip
      refine AWP.skip ?_
      refine QThen.nrm ?_
      refine AWP.seqR rfl ?_
      refine ASL.q (v := (.rptr [(.int .i64 p0.to_), (.bool p0.good)])) rfl rfl (Light.quiet (opFieldAddrR rfl fieldA_73_2 rfl rfl)) ?_
      refine ASL.q (v := (.int .i64 p0.to_)) rfl rfl (Light.quiet (opLoadR rfl aggA_3 rfl rfl)) ?_
      refine ASL.q (v := (.rptr [(.int .i64 p1.to_), (.bool p1.good)])) rfl rfl (Light.quiet (opFieldAddrR rfl fieldA_73_2 rfl rfl)) ?_
      refine ASL.q (v := (.int .i64 p1.to_)) rfl rfl (Light.quiet (opLoadR rfl aggA_3 rfl rfl)) ?_
      refine ASL.q (v := (.bool (decide (p0.to_ < p1.to_)))) rfl rfl (Light.quiet (opInt rfl rfl rfl rfl)) ?_
      refine ASL.q (v := (.bool (decide (p0.to_ < p1.to_)))) rfl rfl (Light.quiet (opAssign rfl rfl)) ?_
      refine ASL.done ?_
      refine AWP.ret ?_
      obtain rfl := hF
      exact QRet.sole (v := (.bool (decide (p0.to_ < p1.to_)))) ⟨rfl, trivial⟩ rfl

set_option maxRecDepth 10000 in
theorem spec_AutoOk_ok {p0 : TAuto} {r : Bool} (hF : spec_AutoOk p0 = some r) : PC Try.prog 10 [(TAuto.av p0)] fun v => v = (.bool r) := by
  refine PC.enter Try.func10 rfl Try.ntmps10 (by simp) ?_
  have hS := Sep.void; unfold spec_AutoOk at hF
  refine AWP.seqR rfl ?_
  refine ASL.q (v := (.rptr [(.int .i64 p0.letters), (.int .i64 p0.states), (.int .i64 p0.start), (.list 4 (List.map TEdge.av p0.edges))])) rfl rfl ((qBoxI (v := (TAuto.av p0)) rfl rfl rfl rfl)) ?_
  refine ASL.q (v := (.bool false)) rfl rfl (Light.quiet (opAssign rfl rfl)) ?_
  refine ASL.done ?_
  refine AWP.seq ?_
  refine AWP.seqD [(0, false), (1, false), (2, false), (3, false), (4, false), (5, false), (6, false), (7, false), (8, false), (9, false), (10, false), (11, false), (12, false), (13, false), (14, false), (15, false), (16, false), (17, false), (18, false), (19, false), (20, false), (21, false), (22, false), (23, false), (24, false), (25, false)] mixed (by kernel_rfl) rfl ?_
  refine ARL.q0 (v := (.rptr [(.int .i64 p0.letters), (.int .i64 p0.states), (.int .i64 p0.start), (.list 4 (List.map TEdge.av p0.edges))])) rfl rfl (Light.quiet (opFieldAddrR rfl fieldA_26_0 rfl rfl)) ?_
  refine ARL.q0 (v := (.int .i64 p0.letters)) rfl rfl (Light.quiet (opLoadR rfl aggA_3 rfl rfl)) ?_
  refine ARL.q0 (v := (.bool (spec_l1In p0.letters 1 8))) rfl rfl ((qCall rfl rfl call_41 (spec_l1In_ok p0.letters 1 8) rfl)) ?_
  refine ARL.q0 (v := (.bool (!(spec_l1In p0.letters 1 8)))) rfl rfl (Light.quiet (opNot rfl rfl)) ?_
  obtain ⟨c9, hc9, hF⟩ := bndE hF
  refine ARL.q0 (v := (.bool c9)) rfl rfl ((Quiet.cast (Light.quiet (opMove rfl rfl)) (congrArg AV.bool hc9.symm))) ?_
  refine ARL.g (v := (.rptr [(.int .i64 p0.states), (.int .i64 p0.start), (.list 4 (List.map TEdge.av p0.edges))])) (.bool c9) false rfl (wF _) rfl noneAlive (fun hG => by have q0 := gN hG; subst q0; exact Light.quiet (opFieldAddrR rfl fieldA_26_1 rfl rfl)) ?_
  refine ARL.g (v := (.int .i64 p0.states)) (.bool c9) false rfl (wF _) rfl noneAlive (fun hG => by have q0 := gN hG; subst q0; exact Light.quiet (opLoadR rfl aggA_3 rfl rfl)) ?_
  refine ARL.g (v := (.bool (spec_l1In p0.states 0 31))) (.bool c9) false rfl (wF _) rfl noneAlive (fun hG => by have q0 := gN hG; subst q0; exact (qCall rfl rfl call_41 (spec_l1In_ok p0.states 0 31) rfl)) ?_
  refine ARL.g (v := (.bool (!(spec_l1In p0.states 0 31)))) (.bool c9) false rfl (wF _) rfl noneAlive (fun hG => by have q0 := gN hG; subst q0; exact Light.quiet (opNot rfl rfl)) ?_
  refine ARL.q0 (v := (.bool (c9 || (!(spec_l1In p0.states 0 31))))) rfl rfl (Light.quiet (opPick (b := c9) rfl rfl (by cases c9 <;> rfl))) ?_
  obtain ⟨c15, hc15, hF⟩ := bndE hF
  refine ARL.q0 (v := (.bool c15)) rfl rfl ((Quiet.cast (Light.quiet (opMove rfl rfl)) (congrArg AV.bool hc15.symm))) ?_
  refine ARL.g (v := (.rptr [(.int .i64 p0.start), (.list 4 (List.map TEdge.av p0.edges))])) (.bool c15) false rfl (wF _) rfl noneAlive (fun hG => by have q0 := gN hG; subst q0; exact Light.quiet (opFieldAddrR rfl fieldA_26_2 rfl rfl)) ?_
  refine ARL.g (v := (.int .i64 p0.start)) (.bool c15) false rfl (wF _) rfl noneAlive (fun hG => by have q0 := gN hG; subst q0; exact Light.quiet (opLoadR rfl aggA_3 rfl rfl)) ?_
  refine ARL.g (v := (.rptr [(.int .i64 p0.states), (.int .i64 p0.start), (.list 4 (List.map TEdge.av p0.edges))])) (.bool c15) false rfl (wF _) rfl noneAlive (fun hG => by have q0 := gN hG; subst q0; exact Light.quiet (opFieldAddrR rfl fieldA_26_1 rfl rfl)) ?_
  refine ARL.g (v := (.int .i64 p0.states)) (.bool c15) false rfl (wF _) rfl noneAlive (fun hG => by have q0 := gN hG; subst q0; exact Light.quiet (opLoadR rfl aggA_3 rfl rfl)) ?_
  obtain ⟨u1, hu1, hF⟩ := bindE hF
  refine ARL.g (v := (.int .i64 (shl .i64 1 p0.states))) (.bool c15) false rfl (wF _) rfl noneAlive (fun hG => by have q0 := gN hG; subst q0; exact Light.quiet (opShl rfl rfl rfl (of_decide_eq_true (chkE (whenE hu1))) rfl)) ?_
  refine ARL.g (v := (.int .i64 (W (((shl .i64 1 p0.states)) - 1)))) (.bool c15) false rfl (wF _) rfl noneAlive (fun hG => by have q0 := gN hG; subst q0; exact Light.quiet (opInt rfl rfl rfl rfl)) ?_
  refine ARL.g (v := (.bool (spec_SetIn p0.start ((W (((shl .i64 1 p0.states)) - 1)))))) (.bool c15) false rfl (wF _) rfl noneAlive (fun hG => by have q0 := gN hG; subst q0; exact (qCall rfl rfl call_42 (spec_SetIn_ok p0.start ((W (((shl .i64 1 p0.states)) - 1)))) rfl)) ?_
  refine ARL.g (v := (.bool (!(spec_SetIn p0.start ((W (((shl .i64 1 p0.states)) - 1))))))) (.bool c15) false rfl (wF _) rfl noneAlive (fun hG => by have q0 := gN hG; subst q0; exact Light.quiet (opNot rfl rfl)) ?_
  refine ARL.q0 (v := (.bool (c15 || (!(spec_SetIn p0.start ((W (((shl .i64 1 p0.states)) - 1)))))))) rfl rfl (Light.quiet (opPick (b := c15) rfl rfl (by cases c15 <;> rfl))) ?_
  obtain ⟨c25, hc25, hF⟩ := bndE hF
  refine ARL.q0 (v := (.bool c25)) rfl rfl ((Quiet.cast (Light.quiet (opMove rfl rfl)) (congrArg AV.bool hc25.symm))) ?_
  refine ARL.g (v := (.rptr [(.list 4 (List.map TEdge.av p0.edges))])) (.bool c25) false rfl (wF _) rfl noneAlive (fun hG => by have q0 := gN hG; subst q0; exact Light.quiet (opFieldAddrR rfl fieldA_26_3 rfl rfl)) ?_
  refine ARL.g (v := (.list 4 (List.map TEdge.av p0.edges))) (.bool c25) false rfl (wF _) rfl noneAlive (fun hG => by have q0 := gN hG; subst q0; exact Light.quiet (opLoadR rfl aggA_24 rfl rfl)) ?_
  refine ARL.g (v := (.int .i64 (p0.edges.length : Int))) (.bool c25) false rfl (wF _) rfl noneAlive (fun hG => by have q0 := gN hG; subst q0; exact Light.quiet (opLenMap (f := TEdge.av) rfl rfl rfl lenT_24 rfl)) ?_
  refine ARL.g (v := (.bool (decide (((p0.edges.length : Int)) > 2000)))) (.bool c25) false rfl (wF _) rfl noneAlive (fun hG => by have q0 := gN hG; subst q0; exact Light.quiet (opInt rfl rfl rfl rfl)) ?_
  refine ARL.q0 (v := (.bool (c25 || (decide (((p0.edges.length : Int)) > 2000))))) rfl rfl (Light.quiet (opPick (b := c25) rfl rfl (by cases c25 <;> rfl))) ?_
  refine ARL.done ?_
  refine AWP.ifB hF rfl (fun hc2 hF => ?_) (fun hc2 hF => ?_)
  · skip
    refine AWP.seqR rfl ?_
    refine ASL.q (v := (.bool false)) rfl rfl (Light.quiet (opAssign rfl rfl)) ?_
    refine ASL.done ?_
    refine AWP.ret ?_
    refine QThen.rt ?_
    obtain rfl := someE hF
    exact QRet.sole (v := (.bool false)) ⟨rfl, trivial⟩ rfl
  · skip
    refine AWP.skip ?_
    refine QThen.nrm ?_
    refine AWP.seqM (fun e H => E.Told e [] ∧ E.Sep H [] ∧ spec_AutoOk.k0 = some r) ?_ ?_
    · rintro e0 G3 ⟨hT, hS, hF⟩; refine AWP.only _ hT ?_; unfold spec_AutoOk.k0 at hF
      refine AWP.seqR rfl ?_
      refine ASL.q (v := (.bool true)) rfl rfl (Light.quiet (opAssign rfl rfl)) ?_
      refine ASL.done ?_
      refine AWP.ret ?_
      obtain rfl := someE hF
      exact QRet.sole (v := (.bool true)) ⟨rfl, trivial⟩ rfl
    · skip
      refine AWP.seqR rfl ?_
      refine ASL.q (v := (.int .i64 0)) rfl rfl (Light.quiet (opAssign rfl rfl)) ?_
      refine ASL.done ?_
      refine AWP.block ?_
      obtain ⟨o7, hL6, hR8⟩ := bindE hF
      refine AWP.loopF (ω := Unit) hL6 (fun s w => [(1, (.rptr [(.int .i64 p0.letters), (.int .i64 p0.states), (.int .i64 p0.start), (.list 4 (List.map TEdge.av p0.edges))])), (3, (.int .i64 s))]) (fun s w => []) () ⟨rfl, rfl, trivial⟩ (hS.pick [] rfl rfl) ?_
      rintro x3_l0 _ G9 hS x4 hF hx5
      try dsimp only at hS ⊢
      have hF : spec_AutoOk.b0 p0 x3_l0 = some x4 := hF; unfold spec_AutoOk.b0 at hF
      refine AWP.seq ?_
      refine AWP.seqR rfl ?_
      refine ASL.q (v := (.int .i64 x3_l0)) rfl rfl (Light.quiet (opMove rfl rfl)) ?_
      refine ASL.q (v := (.rptr [(.list 4 (List.map TEdge.av p0.edges))])) rfl rfl (Light.quiet (opFieldAddrR rfl fieldA_26_3 rfl rfl)) ?_
      refine ASL.q (v := (.list 4 (List.map TEdge.av p0.edges))) rfl rfl (Light.quiet (opLoadR rfl aggA_24 rfl rfl)) ?_
      refine ASL.q (v := (.int .i64 (p0.edges.length : Int))) rfl rfl (Light.quiet (opLenMap (f := TEdge.av) rfl rfl rfl lenT_24 rfl)) ?_
      refine ASL.q (v := (.bool (decide (x3_l0 < ((p0.edges.length : Int)))))) rfl rfl (Light.quiet (opInt rfl rfl rfl rfl)) ?_
      refine ASL.done ?_
      refine AWP.ifP hF rfl (fun hc10 hF => ?_) (fun hc10 hF => ?_)
      · skip
        refine AWP.skip ?_
        refine QThen.nrm ?_
        refine AWP.seq ?_
        refine AWP.block ?_
        refine AWP.seqR rfl ?_
        refine ASL.q (v := (.rptr [(.list 4 (List.map TEdge.av p0.edges))])) rfl rfl (Light.quiet (opFieldAddrR rfl fieldA_26_3 rfl rfl)) ?_
        refine ASL.q (v := (.list 4 (List.map TEdge.av p0.edges))) rfl rfl (Light.quiet (opLoadR rfl aggA_24 rfl rfl)) ?_
        refine ASL.q (v := (.int .i64 x3_l0)) rfl rfl (Light.quiet (opMove rfl rfl)) ?_
        obtain ⟨a41, ha41, hF⟩ := bindE hF
        refine ASL.q (v := (.rptr [(.int .i64 a41.from_), (.int .i64 a41.letter), (.int .i64 a41.to_), (.bool a41.good)])) rfl rfl (Light.quiet (kIx (f := TEdge.av) ha41 rfl rfl rfl elemA_24 sizeA_73 rfl)) ?_
        refine ASL.q (v := (TEdge.av a41)) rfl rfl (Light.quiet (opLoadRA rfl aggA_73 sizeA_73 rfl (nlt rfl) rfl)) ?_
        refine ASL.x rfl rfl (hNewZ hS [(.int .i64 0), (.int .i64 0), (.int .i64 0), (.bool false)] rfl zeroA_73 ⟨.inl rfl, .inl rfl, .inl rfl, .inl rfl, trivial⟩ ?_); rintro b4 G11 hK hS
        refine ASL.n rfl rfl (hPutA hS (j := 0) rfl rfl sizeA_73 rfl rfl rfl rfl rfl (nlt rfl) ?_); rintro G13 hS
        refine ASL.done ?_
        refine AWP.seqD [(0, false), (1, false), (2, false), (3, false), (4, false), (5, false), (6, false), (7, false), (8, false), (9, false), (10, false), (11, false), (12, false), (13, false), (14, false), (15, false), (16, false), (17, false), (18, false), (19, false), (20, false), (21, false), (22, false), (23, false), (24, false), (25, false), (26, false), (27, false), (28, false), (29, false), (30, false), (31, false), (32, false), (33, false), (34, false), (35, false), (36, false), (37, false)] mixed (by kernel_rfl) rfl ?_
        refine ARL.q0 (v := (.ptr b4 0)) rfl rfl (Light.quiet (opFieldAddr rfl fieldA_73_0 rfl rfl)) ?_
        refine ARL.q (v := (.int .i64 a41.from_)) rfl rfl (hS.aliveC (k := 0) rfl) (Light.quiet (kAt hS (j := 0) rfl rfl aggA_3 rfl rfl)) ?_
        refine ARL.q0 (v := (.rptr [(.int .i64 p0.states), (.int .i64 p0.start), (.list 4 (List.map TEdge.av p0.edges))])) rfl rfl (Light.quiet (opFieldAddrR rfl fieldA_26_1 rfl rfl)) ?_
        refine ARL.q0 (v := (.int .i64 p0.states)) rfl rfl (Light.quiet (opLoadR rfl aggA_3 rfl rfl)) ?_
        refine ARL.q0 (v := (.bool (spec_l4State a41.from_ p0.states))) rfl rfl ((qCall rfl rfl call_43 (spec_l4State_ok a41.from_ p0.states) rfl)) ?_
        refine ARL.q0 (v := (.bool (!(spec_l4State a41.from_ p0.states)))) rfl rfl (Light.quiet (opNot rfl rfl)) ?_
        obtain ⟨c49, hc49, hF⟩ := bndE hF
        refine ARL.q0 (v := (.bool c49)) rfl rfl ((Quiet.cast (Light.quiet (opMove rfl rfl)) (congrArg AV.bool hc49.symm))) ?_
        refine ARL.g (v := (.ptr b4 2)) (.bool c49) false rfl (wF _) rfl noneAlive (fun hG => by have q0 := gN hG; subst q0; exact Light.quiet (opFieldAddr rfl fieldA_73_2 rfl rfl)) ?_
        refine ARL.g (v := (.int .i64 a41.to_)) (.bool c49) false rfl (wF _) rfl (hS.aliveC (k := 0) rfl) (fun hG => by have q0 := gN hG; subst q0; exact Light.quiet (kAt hS (j := 0) rfl rfl aggA_3 rfl rfl)) ?_
        refine ARL.g (v := (.rptr [(.int .i64 p0.states), (.int .i64 p0.start), (.list 4 (List.map TEdge.av p0.edges))])) (.bool c49) false rfl (wF _) rfl noneAlive (fun hG => by have q0 := gN hG; subst q0; exact Light.quiet (opFieldAddrR rfl fieldA_26_1 rfl rfl)) ?_
        refine ARL.g (v := (.int .i64 p0.states)) (.bool c49) false rfl (wF _) rfl noneAlive (fun hG => by have q0 := gN hG; subst q0; exact Light.quiet (opLoadR rfl aggA_3 rfl rfl)) ?_
        refine ARL.g (v := (.bool (spec_l4State a41.to_ p0.states))) (.bool c49) false rfl (wF _) rfl noneAlive (fun hG => by have q0 := gN hG; subst q0; exact (qCall rfl rfl call_43 (spec_l4State_ok a41.to_ p0.states) rfl)) ?_
        refine ARL.g (v := (.bool (!(spec_l4State a41.to_ p0.states)))) (.bool c49) false rfl (wF _) rfl noneAlive (fun hG => by have q0 := gN hG; subst q0; exact Light.quiet (opNot rfl rfl)) ?_
        refine ARL.q0 (v := (.bool (c49 || (!(spec_l4State a41.to_ p0.states))))) rfl rfl (Light.quiet (opPick (b := c49) rfl rfl (by cases c49 <;> rfl))) ?_
        obtain ⟨c57, hc57, hF⟩ := bndE hF
        refine ARL.q0 (v := (.bool c57)) rfl rfl ((Quiet.cast (Light.quiet (opMove rfl rfl)) (congrArg AV.bool hc57.symm))) ?_
        refine ARL.g (v := (.ptr b4 1)) (.bool c57) false rfl (wF _) rfl noneAlive (fun hG => by have q0 := gN hG; subst q0; exact Light.quiet (opFieldAddr rfl fieldA_73_1 rfl rfl)) ?_
        refine ARL.g (v := (.int .i64 a41.letter)) (.bool c57) false rfl (wF _) rfl (hS.aliveC (k := 0) rfl) (fun hG => by have q0 := gN hG; subst q0; exact Light.quiet (kAt hS (j := 0) rfl rfl aggA_3 rfl rfl)) ?_
        refine ARL.g (v := (.rptr [(.int .i64 p0.letters), (.int .i64 p0.states), (.int .i64 p0.start), (.list 4 (List.map TEdge.av p0.edges))])) (.bool c57) false rfl (wF _) rfl noneAlive (fun hG => by have q0 := gN hG; subst q0; exact Light.quiet (opFieldAddrR rfl fieldA_26_0 rfl rfl)) ?_
        refine ARL.g (v := (.int .i64 p0.letters)) (.bool c57) false rfl (wF _) rfl noneAlive (fun hG => by have q0 := gN hG; subst q0; exact Light.quiet (opLoadR rfl aggA_3 rfl rfl)) ?_
        refine ARL.g (v := (.int .i64 (W (p0.letters - 1)))) (.bool c57) false rfl (wF _) rfl noneAlive (fun hG => by have q0 := gN hG; subst q0; exact Light.quiet (opInt rfl rfl rfl rfl)) ?_
        refine ARL.g (v := (.bool (spec_l1In a41.letter 0 ((W (p0.letters - 1)))))) (.bool c57) false rfl (wF _) rfl noneAlive (fun hG => by have q0 := gN hG; subst q0; exact (qCall rfl rfl call_41 (spec_l1In_ok a41.letter 0 ((W (p0.letters - 1)))) rfl)) ?_
        refine ARL.g (v := (.bool (!(spec_l1In a41.letter 0 ((W (p0.letters - 1))))))) (.bool c57) false rfl (wF _) rfl noneAlive (fun hG => by have q0 := gN hG; subst q0; exact Light.quiet (opNot rfl rfl)) ?_
        refine ARL.q0 (v := (.bool (c57 || (!(spec_l1In a41.letter 0 ((W (p0.letters - 1)))))))) rfl rfl (Light.quiet (opPick (b := c57) rfl rfl (by cases c57 <;> rfl))) ?_
        obtain ⟨c66, hc66, hF⟩ := bndE hF
        refine ARL.q0 (v := (.bool c66)) rfl rfl ((Quiet.cast (Light.quiet (opMove rfl rfl)) (congrArg AV.bool hc66.symm))) ?_
        refine ARL.g (v := (.int .i64 x3_l0)) (.bool c66) false rfl (wF _) rfl noneAlive (fun hG => by have q0 := gN hG; subst q0; exact Light.quiet (opMove rfl rfl)) ?_
        refine ARL.g (v := (.bool (decide (x3_l0 > 0)))) (.bool c66) false rfl (wF _) rfl noneAlive (fun hG => by have q0 := gN hG; subst q0; exact Light.quiet (opInt rfl rfl rfl rfl)) ?_
        obtain ⟨c69, hc69, hF⟩ := bndE hF
        refine ARL.g (v := (.bool c69)) (.bool c66) false rfl (wF _) rfl noneAlive (fun hG => by have q0 := gN hG; subst q0; exact (Quiet.cast (Light.quiet (opMove rfl rfl)) (congrArg AV.bool hc69.symm))) ?_
        refine ARL.g (v := (.rptr [(.list 4 (List.map TEdge.av p0.edges))])) (bif (!c66) then (.bool c69) else .tup []) true rfl (wGT _ _) rfl noneAlive (fun hG => by have q0 := gN (gA1 hG); have q1 := gA2 hG; subst q0; subst q1; exact Light.quiet (opFieldAddrR rfl fieldA_26_3 rfl rfl)) ?_
        refine ARL.g (v := (.list 4 (List.map TEdge.av p0.edges))) (bif (!c66) then (.bool c69) else .tup []) true rfl (wGT _ _) rfl noneAlive (fun hG => by have q0 := gN (gA1 hG); have q1 := gA2 hG; subst q0; subst q1; exact Light.quiet (opLoadR rfl aggA_24 rfl rfl)) ?_
        refine ARL.g (v := (.int .i64 x3_l0)) (bif (!c66) then (.bool c69) else .tup []) true rfl (wGT _ _) rfl noneAlive (fun hG => by have q0 := gN (gA1 hG); have q1 := gA2 hG; subst q0; subst q1; exact Light.quiet (opMove rfl rfl)) ?_
        refine ARL.g (v := (.int .i64 (W (x3_l0 - 1)))) (bif (!c66) then (.bool c69) else .tup []) true rfl (wGT _ _) rfl noneAlive (fun hG => by have q0 := gN (gA1 hG); have q1 := gA2 hG; subst q0; subst q1; exact Light.quiet (opInt rfl rfl rfl rfl)) ?_
        obtain ⟨a74, ha74, hF⟩ := bindE hF
        refine ARL.g (v := (.rptr [(.int .i64 a74.from_), (.int .i64 a74.letter), (.int .i64 a74.to_), (.bool a74.good)])) (bif (!c66) then (.bool c69) else .tup []) true rfl (wGT _ _) rfl noneAlive (fun hG => by have q0 := gN (gA1 hG); have q1 := gA2 hG; subst q0; subst q1; exact Light.quiet (kIx (f := TEdge.av) (whenE ha74) rfl rfl rfl elemA_24 sizeA_73 rfl)) ?_
        refine ARL.g (v := (TEdge.av a74)) (bif (!c66) then (.bool c69) else .tup []) true rfl (wGT _ _) rfl noneAlive (fun hG => by have q0 := gN (gA1 hG); have q1 := gA2 hG; subst q0; subst q1; exact Light.quiet (opLoadRA rfl aggA_73 sizeA_73 rfl (nlt rfl) rfl)) ?_
        refine ARL.g (v := (TEdge.av a41)) (bif (!c66) then (.bool c69) else .tup []) true rfl (wGT _ _) rfl (hS.aliveC (k := 0) rfl) (fun hG => by have q0 := gN (gA1 hG); have q1 := gA2 hG; subst q0; subst q1; exact Light.quiet (kAtA hS (j := 0) rfl rfl aggA_73 sizeA_73 rfl (nlt rfl) rfl)) ?_
        refine ARL.g (v := (.bool (spec_l4Less a74 a41))) (bif (!c66) then (.bool c69) else .tup []) true rfl (wGT _ _) rfl noneAlive (fun hG => by have q0 := gN (gA1 hG); have q1 := gA2 hG; subst q0; subst q1; exact (qCall rfl rfl call_44 (spec_l4Less_ok a74 a41) rfl)) ?_
        refine ARL.g (v := (.bool (!(spec_l4Less a74 a41)))) (bif (!c66) then (.bool c69) else .tup []) true rfl (wGT _ _) rfl noneAlive (fun hG => by have q0 := gN (gA1 hG); have q1 := gA2 hG; subst q0; subst q1; exact Light.quiet (opNot rfl rfl)) ?_
        refine ARL.g (v := (.bool (c69 && (!(spec_l4Less a74 a41))))) (.bool c66) false rfl (wF _) rfl noneAlive (fun hG => by have q0 := gN hG; subst q0; exact Light.quiet (opPick (b := c69) rfl rfl (by cases c69 <;> rfl))) ?_
        refine ARL.q0 (v := (.bool (c66 || (c69 && (!(spec_l4Less a74 a41)))))) rfl rfl (Light.quiet (opPick (b := c66) rfl rfl (by cases c66 <;> rfl))) ?_
        refine ARL.done ?_
        refine AWP.ifB hF rfl (fun hc14 hF => ?_) (fun hc14 hF => ?_)
        · skip
          refine AWP.seqR rfl ?_
          refine ASL.q (v := (.bool false)) rfl rfl (Light.quiet (opAssign rfl rfl)) ?_
          refine ASL.done ?_
          refine AWP.ret ?_
          refine QBlock.ret ?_
          refine QThen.rt ?_
          refine QThen.rt ?_
          refine QBlock.ret ?_
          refine QThen.rt ?_
          obtain rfl := (hx5 _ (someE hF).symm)
          have hF := hR8
          have hF := sumR hF
          obtain rfl := someE hF
          exact QRet.sole (v := (.bool false)) ⟨rfl, trivial⟩ rfl
        · skip
          refine AWP.skip ?_
          refine QBlock.nrm ?_
          refine QThen.nrm ?_
          refine AWP.lastR rfl ?_
          refine ASL.q (v := (.int .i64 x3_l0)) rfl rfl (Light.quiet (opMove rfl rfl)) ?_
          refine ASL.q (v := (.int .i64 (W (x3_l0 + 1)))) rfl rfl (Light.quiet (opInt rfl rfl rfl rfl)) ?_
          refine ASL.q (v := (.int .i64 (W (x3_l0 + 1)))) rfl rfl (Light.quiet (opAssign rfl rfl)) ?_
          refine ASL.done ?_
          refine QThen.nrm ?_
          exact ⟨(W (x3_l0 + 1)), (), (someE hF).symm, ⟨rfl, rfl, trivial⟩, (hS.pick [] rfl rfl)⟩
      · skip
        refine AWP.exit ?_
        refine QThen.ext ?_
        refine QThen.ext ?_
        refine QBlock.hit ?_
        obtain rfl := (hx5 _ (someE hF).symm)
        have hF := hR8
        have hF := sumL hF
        refine QThen.nrm ?_
        exact ⟨trivial, (hS.pick [] rfl rfl), hF⟩

set_option maxRecDepth 10000 in
theorem spec_l1Max_ok (p0 : Int) (p1 : Int) : PC Try.prog 94 [(.int .i64 p0), (.int .i64 p1)] fun v => v = (.int .i64 (spec_l1Max p0 p1)) := by
  generalize hF : spec_l1Max p0 p1 = r
  refine PC.enter Try.func94 rfl Try.ntmps94 (by simp) ?_
  have hS := Sep.void; unfold spec_l1Max at hF
  refine AWP.seqR rfl ?_
  refine ASL.q (v := (.int .i64 0)) rfl rfl (Light.quiet (opAssign rfl rfl)) ?_
  refine ASL.done ?_
  refine AWP.seq ?_
  refine AWP.seqR rfl ?_
  refine ASL.q (v := (.int .i64 p0)) rfl rfl (Light.quiet (opMove rfl rfl)) ?_
  refine ASL.q (v := (.int .i64 p1)) rfl rfl (Light.quiet (opMove rfl rfl)) ?_
  refine ASL.q (v := (.bool (decide (p0 > p1)))) rfl rfl (Light.quiet (opInt rfl rfl rfl rfl)) ?_
  refine ASL.done ?_
  refine AWP.ifP hF rfl (fun hc1 hF => ?_) (fun hc1 hF => ?_)
  · skip
    refine AWP.seqR rfl ?_
    refine ASL.q (v := (.int .i64 p0)) rfl rfl (Light.quiet (opMove rfl rfl)) ?_
    refine ASL.q (v := (.int .i64 p0)) rfl rfl (Light.quiet (opAssign rfl rfl)) ?_
    refine ASL.done ?_
    refine AWP.ret ?_
    refine QThen.rt ?_
    obtain rfl := hF
    exact QRet.sole (v := (.int .i64 p0)) ⟨rfl, trivial⟩ rfl
  · skip
    refine AWP.skip ?_
    refine QThen.nrm ?_
    refine AWP.seqR rfl ?_
    refine ASL.q (v := (.int .i64 p1)) rfl rfl (Light.quiet (opMove rfl rfl)) ?_
    refine ASL.q (v := (.int .i64 p1)) rfl rfl (Light.quiet (opAssign rfl rfl)) ?_
    refine ASL.done ?_
    refine AWP.ret ?_
    obtain rfl := hF
    exact QRet.sole (v := (.int .i64 p1)) ⟨rfl, trivial⟩ rfl

set_option maxRecDepth 10000 in
theorem spec_AutoMake_ok {p0 : Int} {p1 : Int} {p2 : Int} {p3 : (List TEdge)} {r : (TAuto × Bool)} (hF : spec_AutoMake p0 p1 p2 p3 = some r) : HS Try.prog 95 [(.int .i64 p0), (.int .i64 p1), (.int .i64 p2), (.list 4 (List.map TEdge.av p3))] [] fun v L' => ∃ o0_Edges : AV, v = .tup [(.agg [(.int .i64 r.1.letters), (.int .i64 r.1.states), (.int .i64 r.1.start), o0_Edges]), (.bool r.2)] ∧ L' = [.row 4 o0_Edges (List.map TEdge.av r.1.edges)] := by
  intro H S hS
  refine HC.enter Try.func95 rfl Try.ntmps95 (by simp) ?_
  simp only [List.cons_append, List.nil_append] at hS
  unfold spec_AutoMake at hF
  refine AWP.seqR rfl ?_
  have hS := hNil (s := 4) (f := TEdge.av) hS
  refine ASL.x rfl rfl (hNewZ hS [(.int .i64 0), (.int .i64 0), (.int .i64 0), .nil] rfl zeroA_26 ⟨.inl rfl, .inl rfl, .inl rfl, .inl rfl, trivial⟩ ?_); rintro b8 G1 hK hS
  refine ASL.q (v := (.bool false)) rfl rfl (Light.quiet (opAssign rfl rfl)) ?_
  refine ASL.done ?_
  refine AWP.seqR rfl ?_
  refine ASL.q (v := (.int .i64 p0)) rfl rfl (Light.quiet (opMove rfl rfl)) ?_
  refine ASL.q (v := (.int .i64 p1)) rfl rfl (Light.quiet (opMove rfl rfl)) ?_
  refine ASL.q (v := (.int .i64 p2)) rfl rfl (Light.quiet (opMove rfl rfl)) ?_
  refine ASL.q (v := (.agg [(.int .i64 p0), (.int .i64 p1), (.int .i64 p2), .nil])) rfl rfl (Light.quiet (opBuildZ (zs := [(.int .i64 0), (.int .i64 0), (.int .i64 0), .nil]) rfl plan_26 zeroA_26 ⟨.inl rfl, .inl rfl, .inl rfl, .inl rfl, trivial⟩ rfl)) ?_
  have hS := hNil (s := 4) (f := TEdge.av) hS
  refine ASL.x rfl rfl (hNewZ hS [(.int .i64 0), (.int .i64 0), (.int .i64 0), .nil] rfl zeroA_26 ⟨.inl rfl, .inl rfl, .inl rfl, .inl rfl, trivial⟩ ?_); rintro b10 G4 hK hS
  have hS := hNil (s := 4) (f := TEdge.av) hS
  refine ASL.n rfl rfl (hPutA hS (j := 1) rfl rfl sizeA_26 rfl rfl rfl rfl (allC rfl (allC rfl (allC rfl (allC (hS.one (k := 0) rfl) rfl)))) (nlt rfl) ?_); rintro G7 hS
  refine ASL.done ?_
  refine AWP.seq ?_
  refine AWP.seqR rfl ?_
  refine ASL.q (v := (.agg [(.int .i64 p0), (.int .i64 p1), (.int .i64 p2), .nil])) rfl rfl (Light.quiet (kAtA hS (j := 1) rfl rfl aggA_26 sizeA_26 rfl (nlt rfl) rfl)) ?_
  obtain ⟨a22, ha22, hF⟩ := bindE hF
  refine ASL.q (v := (.bool a22)) rfl rfl ((qCallR hS rfl rfl call_10 (spec_AutoOk_ok ha22) ⟨.aggL ⟨.same _, .same _, .same _, .row (k := 0) rfl, trivial⟩, trivial⟩ (by constructor))) ?_
  refine ASL.q (v := (.bool (!a22))) rfl rfl (Light.quiet (opNot rfl rfl)) ?_
  obtain ⟨c24, hc24, hF⟩ := bndE hF
  refine ASL.q (v := (.bool c24)) rfl rfl ((Quiet.cast (Light.quiet (opMove rfl rfl)) (congrArg AV.bool hc24.symm))) ?_
  refine ASL.g (v := (.list 4 (List.map TEdge.av p3))) (.bool c24) false rfl (wF _) rfl (fun hG => by have q0 := gN hG; subst q0; exact Light.quiet (opMove rfl rfl)) ?_
  refine ASL.g (v := (.int .i64 (p3.length : Int))) (.bool c24) false rfl (wF _) rfl (fun hG => by have q0 := gN hG; subst q0; exact Light.quiet (opLenMap (f := TEdge.av) rfl rfl rfl lenT_24 rfl)) ?_
  refine ASL.g (v := (.bool (decide (((p3.length : Int)) > 2000)))) (.bool c24) false rfl (wF _) rfl (fun hG => by have q0 := gN hG; subst q0; exact Light.quiet (opInt rfl rfl rfl rfl)) ?_
  refine ASL.q (v := (.bool (c24 || (decide (((p3.length : Int)) > 2000))))) rfl rfl (Light.quiet (opPick (b := c24) rfl rfl (by cases c24 <;> rfl))) ?_
  refine ASL.done ?_
  refine AWP.ifB hF rfl (fun hc9 hF => ?_) (fun hc9 hF => ?_)
  · skip
    refine AWP.seqR rfl ?_
    refine ASL.q (v := (.agg [(.int .i64 0), (.int .i64 0), (.int .i64 0), .nil])) rfl rfl (Light.quiet (opBuildZ (zs := [(.int .i64 0), (.int .i64 0), (.int .i64 0), .nil]) rfl plan_26 zeroA_26 ⟨.inl rfl, .inl rfl, .inl rfl, .inl rfl, trivial⟩ rfl)) ?_
    have hS := hNil (s := 4) (f := TEdge.av) hS
    refine ASL.n rfl rfl (hPutA hS (j := 4) rfl rfl sizeA_26 rfl rfl rfl rfl (allC rfl (allC rfl (allC rfl (allC (hS.one (k := 0) rfl) rfl)))) (nlt rfl) ?_); rintro G10 hS
    refine ASL.q (v := (.bool false)) rfl rfl (Light.quiet (opAssign rfl rfl)) ?_
    refine ASL.done ?_
    refine AWP.ret ?_
    refine QThen.rt ?_
    obtain rfl := someE hF
    exact QRet.many (vs := [(.agg [(.int .i64 0), (.int .i64 0), (.int .i64 0), .nil]), (.bool false)]) ⟨resOne.at hS (k := 4) rfl rfl aggA_26 sizeA_26, rfl, trivial⟩ (by simp) ⟨_, ⟨.nil, rfl, rfl⟩, hS.pick [0, 6] rfl rfl⟩
  · skip
    refine AWP.skip ?_
    refine QThen.nrm ?_
    refine AWP.seqR rfl ?_
    refine ASL.q (v := (.int .i64 p1)) rfl rfl (Light.quiet (opMove rfl rfl)) ?_
    refine ASL.q (v := (.int .i64 p0)) rfl rfl (Light.quiet (opMove rfl rfl)) ?_
    refine ASL.q (v := (.int .i64 (W (p1 * p0)))) rfl rfl (Light.quiet (opInt rfl rfl rfl rfl)) ?_
    refine ASL.q (v := (.int .i64 p1)) rfl rfl (Light.quiet (opMove rfl rfl)) ?_
    refine ASL.q (v := (.int .i64 (W (((W (p1 * p0))) * p1)))) rfl rfl (Light.quiet (opInt rfl rfl rfl rfl)) ?_
    obtain ⟨z35, hz35, hF⟩ := bindE hF
    refine ASL.x rfl rfl (hMk (f := (AV.int .i64)) hS hz35 (by decide) rfl elemA_27 sizeA_3 bytesA_3 zeroA_3 rfl rfl (by decide) rfl rfl ?_); rintro v35 G12 hK hS
    refine ASL.q (v := v35) rfl rfl (Light.quiet (opAssign rfl rfl)) ?_
    refine ASL.done ?_
    refine AWP.seqM (fun e H => ∃ y14 : Int, ∃ y15 : Int, ∃ y16 : Int, ∃ y17 : (List TEdge), ∃ y20 : (List Int), ∃ w18 : AV, E.Told e [(0, (.int .i64 p0)), (1, (.int .i64 p1)), (8, (.ptr b8 0)), (10, (.ptr b10 0)), (11, v35)] ∧ E.Sep H [.row 4 w18 (List.map TEdge.av y17), .cell b8 [(.int .i64 y14), (.int .i64 y15), (.int .i64 y16), w18], .row 4 .nil (List.map TEdge.av ([])), .cell b10 [(.int .i64 p0), (.int .i64 p1), (.int .i64 p2), .nil], .row 1 v35 (List.map (AV.int .i64) y20), .snap S] ∧ spec_AutoMake.k0 p1 p0 p2 y14 y15 y16 y17 y20 = some r) ?_ ?_
    · rintro e0 G51 ⟨y14, y15, y16, y17, y20, w18, hT, hS, hF⟩; refine AWP.only _ hT ?_; unfold spec_AutoMake.k0 at hF
      refine AWP.seqM (fun e H => ∃ y21 : Int, ∃ y22 : Int, ∃ y23 : Int, ∃ y24 : (List TEdge), ∃ w25 : AV, E.Told e [(8, (.ptr b8 0)), (10, (.ptr b10 0))] ∧ E.Sep H [.row 4 w18 (List.map TEdge.av y17), .cell b8 [(.int .i64 y14), (.int .i64 y15), (.int .i64 y16), w18], .row 4 w25 (List.map TEdge.av y24), .cell b10 [(.int .i64 y21), (.int .i64 y22), (.int .i64 y23), w25], .snap S] ∧ spec_AutoMake.k1 y21 y22 y23 y24 = some r) ?_ ?_
      · rintro e0 G28 ⟨y21, y22, y23, y24, w25, hT, hS, hF⟩; refine AWP.only _ hT ?_; unfold spec_AutoMake.k1 at hF
        refine AWP.seqR rfl ?_
        refine ASL.q (v := (.agg [(.int .i64 y21), (.int .i64 y22), (.int .i64 y23), w25])) rfl rfl (Light.quiet (kAtA hS (j := 3) rfl rfl aggA_26 sizeA_26 rfl (nlt rfl) rfl)) ?_
        refine ASL.n rfl rfl (hPutA hS (j := 1) rfl rfl sizeA_26 rfl rfl rfl rfl (allC rfl (allC rfl (allC rfl (allC (hS.one (k := 2) rfl) rfl)))) (nlt rfl) ?_); rintro G27 hS
        refine ASL.q (v := (.bool true)) rfl rfl (Light.quiet (opAssign rfl rfl)) ?_
        refine ASL.done ?_
        refine AWP.ret ?_
        obtain rfl := someE hF
        exact QRet.many (vs := [(.agg [(.int .i64 y21), (.int .i64 y22), (.int .i64 y23), w25]), (.bool true)]) ⟨resOne.at hS (k := 1) rfl rfl aggA_26 sizeA_26, rfl, trivial⟩ (by simp) ⟨_, ⟨w25, rfl, rfl⟩, hS.pick [2, 4] rfl rfl⟩
      · skip
        refine AWP.seqR rfl ?_
        refine ASL.q (v := (.int .i64 0)) rfl rfl (Light.quiet (opAssign rfl rfl)) ?_
        refine ASL.done ?_
        refine AWP.block ?_
        obtain ⟨o38, hL37, hR39⟩ := bindE hF
        refine AWP.loopF (ω := AV) hL37 (fun s w => [(0, (.int .i64 p0)), (1, (.int .i64 p1)), (8, (.ptr b8 0)), (10, (.ptr b10 0)), (11, v35), (16, (.int .i64 s.2.2.2.2))]) (fun s w => [.row 4 w18 (List.map TEdge.av y17), .cell b8 [(.int .i64 y14), (.int .i64 y15), (.int .i64 y16), w18], .row 4 w (List.map TEdge.av s.2.2.2.1), .cell b10 [(.int .i64 s.1), (.int .i64 s.2.1), (.int .i64 s.2.2.1), w], .row 1 v35 (List.map (AV.int .i64) y20), .snap S]) .nil ⟨rfl, rfl, rfl, rfl, rfl, rfl, trivial⟩ (hS.pick [0, 1, 2, 3, 4, 5] rfl rfl) ?_
        rintro ⟨y29, y30, y31, y32, x16_l0⟩ w33 G40 hS x35 hF hx36
        try dsimp only at hS ⊢
        have hF : spec_AutoMake.b0 y20 p1 p0 y29 y30 y31 y32 x16_l0 = some x35 := hF; unfold spec_AutoMake.b0 at hF
        refine AWP.seq ?_
        refine AWP.seqR rfl ?_
        refine ASL.q (v := (.int .i64 x16_l0)) rfl rfl (Light.quiet (opMove rfl rfl)) ?_
        refine ASL.q (v := v35) rfl rfl (Light.quiet (opMove rfl rfl)) ?_
        refine ASL.q (v := (.int .i64 (y20.length : Int))) rfl rfl (Light.quiet (kLen hS (j := 4) rfl rfl rfl rfl lenT_27 rfl)) ?_
        refine ASL.q (v := (.bool (decide (x16_l0 < ((y20.length : Int)))))) rfl rfl (Light.quiet (opInt rfl rfl rfl rfl)) ?_
        refine ASL.done ?_
        refine AWP.ifP hF rfl (fun hc41 hF => ?_) (fun hc41 hF => ?_)
        · skip
          refine AWP.skip ?_
          refine QThen.nrm ?_
          refine AWP.seq ?_
          refine AWP.block ?_
          refine AWP.seqR rfl ?_
          refine ASL.q (v := v35) rfl rfl (Light.quiet (opMove rfl rfl)) ?_
          refine ASL.q (v := (.int .i64 x16_l0)) rfl rfl (Light.quiet (opMove rfl rfl)) ?_
          obtain ⟨a98, ha98, hF⟩ := bindE hF
          refine ASL.q (v := (ptrTo v35 x16_l0.toNat 1)) rfl rfl (Light.quiet (kIxOx hS (j := 4) rfl ha98 rfl rfl rfl elemA_27 sizeA_3)) ?_
          refine ASL.q (v := (.int .i64 a98)) rfl rfl (Light.quiet (kLd (f := (AV.int .i64)) hS (j := 4) rfl ha98 rfl aggA_3 rfl (fun _ => rfl))) ?_
          refine ASL.q (v := (.bool (decide (a98 > 0)))) rfl rfl (Light.quiet (opInt rfl rfl rfl rfl)) ?_
          refine ASL.done ?_
          refine AWP.ifP hF rfl (fun hc42 hF => ?_) (fun hc42 hF => ?_)
          · skip
            refine AWP.lastD [(0, false), (1, false), (2, false), (3, false), (4, false), (5, false), (6, false), (7, false), (8, false), (9, false), (10, false), (11, false), (12, false), (13, false), (14, false), (15, false), (16, false), (17, false), (18, false), (19, false), (20, false), (21, false), (22, true), (23, false), (24, true)] mixed (by kernel_rfl) rfl ?_
            refine ARL.q0 (v := (.ptr b10 3)) rfl rfl (Light.quiet (opFieldAddr rfl fieldA_26_3 rfl rfl)) ?_
            refine ARL.q (v := w33) rfl rfl (hS.aliveC (k := 3) rfl) (Light.quiet (kAt hS (j := 3) rfl rfl aggA_24 rfl rfl)) ?_
            refine ARL.q0 (v := (.int .i64 x16_l0)) rfl rfl (Light.quiet (opMove rfl rfl)) ?_
            refine ARL.q0 (v := (.int .i64 p1)) rfl rfl (Light.quiet (opMove rfl rfl)) ?_
            obtain ⟨u43, hu43, hF⟩ := bindE hF
            refine ARL.q0 (v := (.int .i64 (quo .i64 x16_l0 p1))) rfl rfl (Light.quiet (opQuo rfl rfl rfl (of_decide_eq_true (chkE hu43)) rfl)) ?_
            refine ARL.q0 (v := (.int .i64 p0)) rfl rfl (Light.quiet (opMove rfl rfl)) ?_
            obtain ⟨u44, hu44, hF⟩ := bindE hF
            refine ARL.q0 (v := (.int .i64 (quo .i64 ((quo .i64 x16_l0 p1)) p0))) rfl rfl (Light.quiet (opQuo rfl rfl rfl (of_decide_eq_true (chkE hu44)) rfl)) ?_
            refine ARL.q0 (v := (.int .i64 x16_l0)) rfl rfl (Light.quiet (opMove rfl rfl)) ?_
            refine ARL.q0 (v := (.int .i64 p1)) rfl rfl (Light.quiet (opMove rfl rfl)) ?_
            obtain ⟨u45, hu45, hF⟩ := bindE hF
            refine ARL.q0 (v := (.int .i64 (quo .i64 x16_l0 p1))) rfl rfl (Light.quiet (opQuo rfl rfl rfl (of_decide_eq_true (chkE hu45)) rfl)) ?_
            refine ARL.q0 (v := (.int .i64 p0)) rfl rfl (Light.quiet (opMove rfl rfl)) ?_
            obtain ⟨u46, hu46, hF⟩ := bindE hF
            refine ARL.q0 (v := (.int .i64 (Int.tmod ((quo .i64 x16_l0 p1)) p0))) rfl rfl (Light.quiet (opRem rfl rfl rfl (of_decide_eq_true (chkE hu46)) rfl)) ?_
            refine ARL.q0 (v := (.int .i64 x16_l0)) rfl rfl (Light.quiet (opMove rfl rfl)) ?_
            refine ARL.q0 (v := (.int .i64 p1)) rfl rfl (Light.quiet (opMove rfl rfl)) ?_
            obtain ⟨u47, hu47, hF⟩ := bindE hF
            refine ARL.q0 (v := (.int .i64 (Int.tmod x16_l0 p1))) rfl rfl (Light.quiet (opRem rfl rfl rfl (of_decide_eq_true (chkE hu47)) rfl)) ?_
            refine ARL.q0 (v := v35) rfl rfl (Light.quiet (opMove rfl rfl)) ?_
            refine ARL.q0 (v := (.int .i64 x16_l0)) rfl rfl (Light.quiet (opMove rfl rfl)) ?_
            obtain ⟨a118, ha118, hF⟩ := bindE hF
            refine ARL.q0 (v := (ptrTo v35 x16_l0.toNat 1)) rfl rfl (Light.quiet (kIxOx hS (j := 4) rfl ha118 rfl rfl rfl elemA_27 sizeA_3)) ?_
            refine ARL.q (v := (.int .i64 a118)) rfl rfl (hS.aliveR (k := 4) rfl) (Light.quiet (kLd (f := (AV.int .i64)) hS (j := 4) rfl ha118 rfl aggA_3 rfl (fun _ => rfl))) ?_
            refine ARL.q0 (v := (.bool (decide (a118 = 2)))) rfl rfl (Light.quiet (opInt rfl rfl rfl rfl)) ?_
            refine ARL.q0 (v := (.agg [(.int .i64 (quo .i64 ((quo .i64 x16_l0 p1)) p0)), (.int .i64 (Int.tmod ((quo .i64 x16_l0 p1)) p0)), (.int .i64 (Int.tmod x16_l0 p1)), (.bool (decide (a118 = 2)))])) rfl rfl (Light.quiet (opBuildZ (zs := [(.int .i64 0), (.int .i64 0), (.int .i64 0), (.bool false)]) rfl plan_73 zeroA_73 ⟨.inl rfl, .inl rfl, .inl rfl, .inl rfl, trivial⟩ rfl)) ?_
            refine ARL.q0 (v := (.list 4 (List.map TEdge.av [(TEdge.mk ((quo .i64 ((quo .i64 x16_l0 p1)) p0)) ((Int.tmod ((quo .i64 x16_l0 p1)) p0)) ((Int.tmod x16_l0 p1)) ((decide (a118 = 2))))]))) rfl rfl ((qLit (xs := [(.agg [(.int .i64 (quo .i64 ((quo .i64 x16_l0 p1)) p0)), (.int .i64 (Int.tmod ((quo .i64 x16_l0 p1)) p0)), (.int .i64 (Int.tmod x16_l0 p1)), (.bool (decide (a118 = 2)))])]) rfl elemA_24 sizeA_73 zeroA_73 rfl rfl rfl rfl (by simp [cells, TEdge.av]) (nlt rfl))) ?_
            obtain ⟨z123, hz123, hF⟩ := bindE hF
            refine ARL.y rfl rfl rfl rfl (hApp (f := TEdge.av) (ws := [(TEdge.mk ((quo .i64 ((quo .i64 x16_l0 p1)) p0)) ((Int.tmod ((quo .i64 x16_l0 p1)) p0)) ((Int.tmod x16_l0 p1)) ((decide (a118 = 2))))]) hS (j := 2) rfl hz123 rfl elemA_24 rfl sizeA_73 bytesA_73 zeroA_73 rfl rfl rfl (fun _ => rfl) ?_); rintro v123 G48 hS
            refine ARL.q0 (v := (.ptr b10 3)) rfl rfl (Light.quiet (opFieldAddr rfl fieldA_26_3 rfl rfl)) ?_
            refine ARL.n rfl rfl rfl rfl (hPut hS (j := 3) rfl rfl sizeA_24 rfl rfl (hS.one (k := 2) rfl) (nlt rfl) ?_); rintro G50 hS
            refine ARL.done ?_
            refine QBlock.nrm ?_
            refine QThen.nrm ?_
            refine AWP.lastR rfl ?_
            refine ASL.q (v := (.int .i64 x16_l0)) rfl rfl (Light.quiet (opMove rfl rfl)) ?_
            refine ASL.q (v := (.int .i64 (W (x16_l0 + 1)))) rfl rfl (Light.quiet (opInt rfl rfl rfl rfl)) ?_
            refine ASL.q (v := (.int .i64 (W (x16_l0 + 1)))) rfl rfl (Light.quiet (opAssign rfl rfl)) ?_
            refine ASL.done ?_
            refine QThen.nrm ?_
            exact ⟨(y29, y30, y31, z123, (W (x16_l0 + 1))), v123, (someE hF).symm, ⟨rfl, rfl, rfl, rfl, rfl, rfl, trivial⟩, (hS.pick [0, 1, 2, 3, 4, 5] rfl rfl)⟩
          · skip
            refine AWP.skip ?_
            refine QBlock.nrm ?_
            refine QThen.nrm ?_
            refine AWP.lastR rfl ?_
            refine ASL.q (v := (.int .i64 x16_l0)) rfl rfl (Light.quiet (opMove rfl rfl)) ?_
            refine ASL.q (v := (.int .i64 (W (x16_l0 + 1)))) rfl rfl (Light.quiet (opInt rfl rfl rfl rfl)) ?_
            refine ASL.q (v := (.int .i64 (W (x16_l0 + 1)))) rfl rfl (Light.quiet (opAssign rfl rfl)) ?_
            refine ASL.done ?_
            refine QThen.nrm ?_
            exact ⟨(y29, y30, y31, y32, (W (x16_l0 + 1))), w33, (someE hF).symm, ⟨rfl, rfl, rfl, rfl, rfl, rfl, trivial⟩, (hS.pick [0, 1, 2, 3, 4, 5] rfl rfl)⟩
        · skip
          refine AWP.exit ?_
          refine QThen.ext ?_
          refine QThen.ext ?_
          refine QBlock.hit ?_
          obtain rfl := (hx36 _ (someE hF).symm)
          have hF := hR39
          refine QThen.nrm ?_
          exact ⟨y29, y30, y31, y32, w33, ⟨rfl, rfl, trivial⟩, (hS.pick [0, 1, 2, 3, 5] rfl rfl), hF⟩
    · skip
      refine AWP.seqR rfl ?_
      refine ASL.q (v := (.int .i64 0)) rfl rfl (Light.quiet (opAssign rfl rfl)) ?_
      refine ASL.done ?_
      refine AWP.block ?_
      obtain ⟨o62, hL61, hR63⟩ := bindE hF
      refine AWP.loopF (ω := AV) hL61 (fun s w => [(0, (.int .i64 p0)), (1, (.int .i64 p1)), (3, (.list 4 (List.map TEdge.av p3))), (8, (.ptr b8 0)), (10, (.ptr b10 0)), (11, v35), (12, (.int .i64 s.2.2.2.2.2))]) (fun s w => [.row 4 w (List.map TEdge.av s.2.2.2.1), .cell b8 [(.int .i64 s.1), (.int .i64 s.2.1), (.int .i64 s.2.2.1), w], .row 4 .nil (List.map TEdge.av ([])), .cell b10 [(.int .i64 p0), (.int .i64 p1), (.int .i64 p2), .nil], .row 1 v35 (List.map (AV.int .i64) s.2.2.2.2.1), .snap S]) .nil ⟨rfl, rfl, rfl, rfl, rfl, rfl, rfl, trivial⟩ (hS.pick [5, 4, 1, 2, 0, 6] rfl rfl) ?_
      rintro ⟨y52, y53, y54, y55, y58, x12_l1⟩ w56 G64 hS x59 hF hx60
      try dsimp only at hS ⊢
      have hF : spec_AutoMake.b1 p3 p1 p0 y52 y53 y54 y55 y58 x12_l1 = some x59 := hF; unfold spec_AutoMake.b1 at hF
      refine AWP.seq ?_
      refine AWP.seqR rfl ?_
      refine ASL.q (v := (.int .i64 x12_l1)) rfl rfl (Light.quiet (opMove rfl rfl)) ?_
      refine ASL.q (v := (.list 4 (List.map TEdge.av p3))) rfl rfl (Light.quiet (opMove rfl rfl)) ?_
      refine ASL.q (v := (.int .i64 (p3.length : Int))) rfl rfl (Light.quiet (opLenMap (f := TEdge.av) rfl rfl rfl lenT_24 rfl)) ?_
      refine ASL.q (v := (.bool (decide (x12_l1 < ((p3.length : Int)))))) rfl rfl (Light.quiet (opInt rfl rfl rfl rfl)) ?_
      refine ASL.done ?_
      refine AWP.ifP hF rfl (fun hc65 hF => ?_) (fun hc65 hF => ?_)
      · skip
        refine AWP.skip ?_
        refine QThen.nrm ?_
        refine AWP.seq ?_
        refine AWP.block ?_
        refine AWP.seqR rfl ?_
        refine ASL.q (v := (.list 4 (List.map TEdge.av p3))) rfl rfl (Light.quiet (opMove rfl rfl)) ?_
        refine ASL.q (v := (.int .i64 x12_l1)) rfl rfl (Light.quiet (opMove rfl rfl)) ?_
        obtain ⟨a44, ha44, hF⟩ := bindE hF
        refine ASL.q (v := (.rptr [(.int .i64 a44.from_), (.int .i64 a44.letter), (.int .i64 a44.to_), (.bool a44.good)])) rfl rfl (Light.quiet (kIx (f := TEdge.av) ha44 rfl rfl rfl elemA_24 sizeA_73 rfl)) ?_
        refine ASL.q (v := (TEdge.av a44)) rfl rfl (Light.quiet (opLoadRA rfl aggA_73 sizeA_73 rfl (nlt rfl) rfl)) ?_
        refine ASL.x rfl rfl (hNewZ hS [(.int .i64 0), (.int .i64 0), (.int .i64 0), (.bool false)] rfl zeroA_73 ⟨.inl rfl, .inl rfl, .inl rfl, .inl rfl, trivial⟩ ?_); rintro b13 G66 hK hS
        refine ASL.n rfl rfl (hPutA hS (j := 0) rfl rfl sizeA_73 rfl rfl rfl rfl rfl (nlt rfl) ?_); rintro G68 hS
        refine ASL.done ?_
        refine AWP.seq ?_
        refine AWP.seqR rfl ?_
        refine ASL.q (v := (.ptr b13 0)) rfl rfl (Light.quiet (opFieldAddr rfl fieldA_73_0 rfl rfl)) ?_
        refine ASL.q (v := (.int .i64 a44.from_)) rfl rfl (Light.quiet (kAt hS (j := 0) rfl rfl aggA_3 rfl rfl)) ?_
        refine ASL.q (v := (.int .i64 p1)) rfl rfl (Light.quiet (opMove rfl rfl)) ?_
        refine ASL.q (v := (.bool (spec_l4State a44.from_ p1))) rfl rfl ((qCall rfl rfl call_43 (spec_l4State_ok a44.from_ p1) rfl)) ?_
        refine ASL.q (v := (.bool (!(spec_l4State a44.from_ p1)))) rfl rfl (Light.quiet (opNot rfl rfl)) ?_
        obtain ⟨c51, hc51, hF⟩ := bndE hF
        refine ASL.q (v := (.bool c51)) rfl rfl ((Quiet.cast (Light.quiet (opMove rfl rfl)) (congrArg AV.bool hc51.symm))) ?_
        refine ASL.g (v := (.ptr b13 2)) (.bool c51) false rfl (wF _) rfl (fun hG => by have q0 := gN hG; subst q0; exact Light.quiet (opFieldAddr rfl fieldA_73_2 rfl rfl)) ?_
        refine ASL.g (v := (.int .i64 a44.to_)) (.bool c51) false rfl (wF _) rfl (fun hG => by have q0 := gN hG; subst q0; exact Light.quiet (kAt hS (j := 0) rfl rfl aggA_3 rfl rfl)) ?_
        refine ASL.g (v := (.int .i64 p1)) (.bool c51) false rfl (wF _) rfl (fun hG => by have q0 := gN hG; subst q0; exact Light.quiet (opMove rfl rfl)) ?_
        refine ASL.g (v := (.bool (spec_l4State a44.to_ p1))) (.bool c51) false rfl (wF _) rfl (fun hG => by have q0 := gN hG; subst q0; exact (qCall rfl rfl call_43 (spec_l4State_ok a44.to_ p1) rfl)) ?_
        refine ASL.g (v := (.bool (!(spec_l4State a44.to_ p1)))) (.bool c51) false rfl (wF _) rfl (fun hG => by have q0 := gN hG; subst q0; exact Light.quiet (opNot rfl rfl)) ?_
        refine ASL.q (v := (.bool (c51 || (!(spec_l4State a44.to_ p1))))) rfl rfl (Light.quiet (opPick (b := c51) rfl rfl (by cases c51 <;> rfl))) ?_
        obtain ⟨c58, hc58, hF⟩ := bndE hF
        refine ASL.q (v := (.bool c58)) rfl rfl ((Quiet.cast (Light.quiet (opMove rfl rfl)) (congrArg AV.bool hc58.symm))) ?_
        refine ASL.g (v := (.ptr b13 1)) (.bool c58) false rfl (wF _) rfl (fun hG => by have q0 := gN hG; subst q0; exact Light.quiet (opFieldAddr rfl fieldA_73_1 rfl rfl)) ?_
        refine ASL.g (v := (.int .i64 a44.letter)) (.bool c58) false rfl (wF _) rfl (fun hG => by have q0 := gN hG; subst q0; exact Light.quiet (kAt hS (j := 0) rfl rfl aggA_3 rfl rfl)) ?_
        refine ASL.g (v := (.int .i64 p0)) (.bool c58) false rfl (wF _) rfl (fun hG => by have q0 := gN hG; subst q0; exact Light.quiet (opMove rfl rfl)) ?_
        refine ASL.g (v := (.int .i64 (W (p0 - 1)))) (.bool c58) false rfl (wF _) rfl (fun hG => by have q0 := gN hG; subst q0; exact Light.quiet (opInt rfl rfl rfl rfl)) ?_
        refine ASL.g (v := (.bool (spec_l1In a44.letter 0 ((W (p0 - 1)))))) (.bool c58) false rfl (wF _) rfl (fun hG => by have q0 := gN hG; subst q0; exact (qCall rfl rfl call_41 (spec_l1In_ok a44.letter 0 ((W (p0 - 1)))) rfl)) ?_
        refine ASL.g (v := (.bool (!(spec_l1In a44.letter 0 ((W (p0 - 1))))))) (.bool c58) false rfl (wF _) rfl (fun hG => by have q0 := gN hG; subst q0; exact Light.quiet (opNot rfl rfl)) ?_
        refine ASL.q (v := (.bool (c58 || (!(spec_l1In a44.letter 0 ((W (p0 - 1)))))))) rfl rfl (Light.quiet (opPick (b := c58) rfl rfl (by cases c58 <;> rfl))) ?_
        refine ASL.done ?_
        refine AWP.ifB hF rfl (fun hc69 hF => ?_) (fun hc69 hF => ?_)
        · skip
          refine AWP.seqR rfl ?_
          refine ASL.q (v := (.agg [(.int .i64 0), (.int .i64 0), (.int .i64 0), .nil])) rfl rfl (Light.quiet (opBuildZ (zs := [(.int .i64 0), (.int .i64 0), (.int .i64 0), .nil]) rfl plan_26 zeroA_26 ⟨.inl rfl, .inl rfl, .inl rfl, .inl rfl, trivial⟩ rfl)) ?_
          have hS := hNil (s := 4) (f := TEdge.av) hS
          refine ASL.n rfl rfl (hPutA hS (j := 3) rfl rfl sizeA_26 rfl rfl rfl rfl (allC rfl (allC rfl (allC rfl (allC (hS.one (k := 0) rfl) rfl)))) (nlt rfl) ?_); rintro G70 hS
          refine ASL.q (v := (.bool false)) rfl rfl (Light.quiet (opAssign rfl rfl)) ?_
          refine ASL.done ?_
          refine AWP.ret ?_
          refine QThen.rt ?_
          refine QBlock.ret ?_
          refine QThen.rt ?_
          refine QThen.rt ?_
          refine QBlock.ret ?_
          refine QThen.rt ?_
          obtain rfl := (hx60 _ (someE hF).symm)
          have hF := hR63
          have hF := sumR hF
          obtain rfl := someE hF
          exact QRet.many (vs := [(.agg [(.int .i64 0), (.int .i64 0), (.int .i64 0), .nil]), (.bool false)]) ⟨resOne.at hS (k := 3) rfl rfl aggA_26 sizeA_26, rfl, trivial⟩ (by simp) ⟨_, ⟨.nil, rfl, rfl⟩, hS.pick [0, 7] rfl rfl⟩
        · skip
          refine AWP.skip ?_
          refine QThen.nrm ?_
          refine AWP.seqR rfl ?_
          refine ASL.q (v := (.ptr b13 0)) rfl rfl (Light.quiet (opFieldAddr rfl fieldA_73_0 rfl rfl)) ?_
          refine ASL.q (v := (.int .i64 a44.from_)) rfl rfl (Light.quiet (kAt hS (j := 0) rfl rfl aggA_3 rfl rfl)) ?_
          refine ASL.q (v := (.int .i64 p0)) rfl rfl (Light.quiet (opMove rfl rfl)) ?_
          refine ASL.q (v := (.int .i64 (W (a44.from_ * p0)))) rfl rfl (Light.quiet (opInt rfl rfl rfl rfl)) ?_
          refine ASL.q (v := (.ptr b13 1)) rfl rfl (Light.quiet (opFieldAddr rfl fieldA_73_1 rfl rfl)) ?_
          refine ASL.q (v := (.int .i64 a44.letter)) rfl rfl (Light.quiet (kAt hS (j := 0) rfl rfl aggA_3 rfl rfl)) ?_
          refine ASL.q (v := (.int .i64 (W (((W (a44.from_ * p0))) + a44.letter)))) rfl rfl (Light.quiet (opInt rfl rfl rfl rfl)) ?_
          refine ASL.q (v := (.int .i64 p1)) rfl rfl (Light.quiet (opMove rfl rfl)) ?_
          refine ASL.q (v := (.int .i64 (W (((W (((W (a44.from_ * p0))) + a44.letter))) * p1)))) rfl rfl (Light.quiet (opInt rfl rfl rfl rfl)) ?_
          refine ASL.q (v := (.ptr b13 2)) rfl rfl (Light.quiet (opFieldAddr rfl fieldA_73_2 rfl rfl)) ?_
          refine ASL.q (v := (.int .i64 a44.to_)) rfl rfl (Light.quiet (kAt hS (j := 0) rfl rfl aggA_3 rfl rfl)) ?_
          refine ASL.q (v := (.int .i64 (W (((W (((W (((W (a44.from_ * p0))) + a44.letter))) * p1))) + a44.to_)))) rfl rfl (Light.quiet (opInt rfl rfl rfl rfl)) ?_
          refine ASL.q (v := (.int .i64 (W (((W (((W (((W (a44.from_ * p0))) + a44.letter))) * p1))) + a44.to_)))) rfl rfl (Light.quiet (opAssign rfl rfl)) ?_
          refine ASL.done ?_
          refine AWP.seqR rfl ?_
          refine ASL.q (v := (.int .i64 1)) rfl rfl (Light.quiet (opAssign rfl rfl)) ?_
          refine ASL.done ?_
          refine AWP.seqM (fun e H => ∃ x15_3 : Int, E.Told e [(0, (.int .i64 p0)), (1, (.int .i64 p1)), (3, (.list 4 (List.map TEdge.av p3))), (8, (.ptr b8 0)), (10, (.ptr b10 0)), (11, v35), (12, (.int .i64 x12_l1)), (14, (.int .i64 (W (((W (((W (((W (a44.from_ * p0))) + a44.letter))) * p1))) + a44.to_)))), (15, (.int .i64 x15_3))] ∧ E.Sep H [.row 4 w56 (List.map TEdge.av y55), .cell b8 [(.int .i64 y52), (.int .i64 y53), (.int .i64 y54), w56], .row 4 .nil (List.map TEdge.av ([])), .cell b10 [(.int .i64 p0), (.int .i64 p1), (.int .i64 p2), .nil], .row 1 v35 (List.map (AV.int .i64) y58), .snap S] ∧ spec_AutoMake.k2 y58 a44 p0 p1 y52 y53 y54 y55 x12_l1 x15_3 = some x59) ?_ ?_
          · rintro e0 G73 ⟨x15_3, hT, hS, hF⟩; refine AWP.only _ hT ?_; unfold spec_AutoMake.k2 at hF
            refine AWP.lastR rfl ?_
            refine ASL.q (v := v35) rfl rfl (Light.quiet (opMove rfl rfl)) ?_
            refine ASL.q (v := (.int .i64 (W (((W (((W (((W (a44.from_ * p0))) + a44.letter))) * p1))) + a44.to_)))) rfl rfl (Light.quiet (opMove rfl rfl)) ?_
            refine ASL.q (v := v35) rfl rfl (Light.quiet (opMove rfl rfl)) ?_
            refine ASL.q (v := (.int .i64 (W (((W (((W (((W (a44.from_ * p0))) + a44.letter))) * p1))) + a44.to_)))) rfl rfl (Light.quiet (opMove rfl rfl)) ?_
            obtain ⟨a85, ha85, hF⟩ := bindE hF
            refine ASL.q (v := (ptrTo v35 ((W (((W (((W (((W (a44.from_ * p0))) + a44.letter))) * p1))) + a44.to_))).toNat 1)) rfl rfl (Light.quiet (kIxOx hS (j := 4) rfl ha85 rfl rfl rfl elemA_27 sizeA_3)) ?_
            refine ASL.q (v := (.int .i64 a85)) rfl rfl (Light.quiet (kLd (f := (AV.int .i64)) hS (j := 4) rfl ha85 rfl aggA_3 rfl (fun _ => rfl))) ?_
            refine ASL.q (v := (.int .i64 x15_3)) rfl rfl (Light.quiet (opMove rfl rfl)) ?_
            refine ASL.q (v := (.int .i64 (spec_l1Max a85 x15_3))) rfl rfl ((qCall rfl rfl call_94 (spec_l1Max_ok a85 x15_3) rfl)) ?_
            obtain ⟨m89, hm89, hF⟩ := bindE hF
            refine ASL.q (v := (ptrTo v35 m89 1)) rfl rfl (Light.quiet (kIxO hS (j := 4) rfl hm89 rfl rfl rfl elemA_27 sizeA_3)) ?_
            refine ASL.n rfl rfl (hSt (f := (AV.int .i64)) (a := (spec_l1Max a85 x15_3)) hS (j := 4) rfl hm89 rfl sizeA_3 rfl rfl ⟨rfl, rfl, rfl⟩ ?_); rintro G72 hS
            refine ASL.done ?_
            refine QBlock.nrm ?_
            refine QThen.nrm ?_
            refine AWP.lastR rfl ?_
            refine ASL.q (v := (.int .i64 x12_l1)) rfl rfl (Light.quiet (opMove rfl rfl)) ?_
            refine ASL.q (v := (.int .i64 (W (x12_l1 + 1)))) rfl rfl (Light.quiet (opInt rfl rfl rfl rfl)) ?_
            refine ASL.q (v := (.int .i64 (W (x12_l1 + 1)))) rfl rfl (Light.quiet (opAssign rfl rfl)) ?_
            refine ASL.done ?_
            refine QThen.nrm ?_
            exact ⟨(y52, y53, y54, y55, (y58.set m89 ((spec_l1Max a85 x15_3))), (W (x12_l1 + 1))), w56, (someE hF).symm, ⟨rfl, rfl, rfl, rfl, rfl, rfl, rfl, trivial⟩, (hS.pick [0, 1, 2, 3, 4, 5] rfl rfl)⟩
          · skip
            refine AWP.seqR rfl ?_
            refine ASL.q (v := (.ptr b13 3)) rfl rfl (Light.quiet (opFieldAddr rfl fieldA_73_3 rfl rfl)) ?_
            refine ASL.q (v := (.bool a44.good)) rfl rfl (Light.quiet (kAt hS (j := 0) rfl rfl aggA_4 rfl rfl)) ?_
            refine ASL.done ?_
            refine AWP.ifB hF rfl (fun hc74 hF => ?_) (fun hc74 hF => ?_)
            · skip
              refine AWP.lastR rfl ?_
              refine ASL.q (v := (.int .i64 2)) rfl rfl (Light.quiet (opAssign rfl rfl)) ?_
              refine ASL.done ?_
              refine QThen.nrm ?_
              exact ⟨2, ⟨rfl, rfl, rfl, rfl, rfl, rfl, rfl, rfl, rfl, trivial⟩, (hS.pick [1, 2, 3, 4, 5, 6] rfl rfl), hF⟩
            · skip
              refine AWP.skip ?_
              refine QThen.nrm ?_
              exact ⟨1, ⟨rfl, rfl, rfl, rfl, rfl, rfl, rfl, rfl, rfl, trivial⟩, (hS.pick [1, 2, 3, 4, 5, 6] rfl rfl), hF⟩
      · skip
        refine AWP.exit ?_
        refine QThen.ext ?_
        refine QThen.ext ?_
        refine QBlock.hit ?_
        obtain rfl := (hx60 _ (someE hF).symm)
        have hF := hR63
        have hF := sumL hF
        refine QThen.nrm ?_
        exact ⟨y52, y53, y54, y55, y58, w56, ⟨rfl, rfl, rfl, rfl, rfl, trivial⟩, (hS.pick [0, 1, 2, 3, 4, 5] rfl rfl), hF⟩

set_option maxRecDepth 10000 in
theorem spec_l4DrawRight_ok {p0 : Tl1Cur} {p1 : Int} {p2 : Int} {r : (TAuto × Tl1Cur)} {bp0 : Nat} (hF : spec_l4DrawRight p0 p1 p2 = some r) : HS Try.prog 66 [(.ptr bp0 0), (.int .i64 p1), (.int .i64 p2)] [.cell bp0 [(.list 1 (List.map (AV.int .u8) p0.b)), (.int .i64 p0.i), (.int .i64 p0.h)]] fun v L' => ∃ o0_Edges : AV, v = (.agg [(.int .i64 r.1.letters), (.int .i64 r.1.states), (.int .i64 r.1.start), o0_Edges]) ∧ L' = [.row 4 o0_Edges (List.map TEdge.av r.1.edges), .cell bp0 [(.list 1 (List.map (AV.int .u8) r.2.b)), (.int .i64 r.2.i), (.int .i64 r.2.h)]] := by
  intro H S hS
  refine HC.enter Try.func66 rfl Try.ntmps66 (by simp) ?_
  simp only [List.cons_append, List.nil_append] at hS
  unfold spec_l4DrawRight at hF
  refine AWP.seqR rfl ?_
  have hS := hNil (s := 4) (f := TEdge.av) hS
  refine ASL.x rfl rfl (hNewZ hS [(.int .i64 0), (.int .i64 0), (.int .i64 0), .nil] rfl zeroA_26 ⟨.inl rfl, .inl rfl, .inl rfl, .inl rfl, trivial⟩ ?_); rintro b6 G2 hK hS
  refine ASL.done ?_
  refine AWP.seqR rfl ?_
  refine ASL.q (v := (.ptr bp0 0)) rfl rfl (Light.quiet (opMove rfl rfl)) ?_
  refine ASL.q (v := (.int .i64 p2)) rfl rfl (Light.quiet (opMove rfl rfl)) ?_
  obtain ⟨a12, ha12, hF⟩ := bindE hF
  refine ASL.x rfl rfl (hCallS hS [2, 0, 1, 3] (F := [.cell b6 [(.int .i64 0), (.int .i64 0), (.int .i64 0), .nil], .row 4 .nil (List.map TEdge.av ([])), .snap S]) rfl rfl rfl call_55 (spec_l1Below_ok ha12) rfl rfl ?_); rintro _ _ G5 ⟨rfl, rfl⟩ hS
  refine ASL.q (v := (.int .i64 (W (1 + a12.1)))) rfl rfl (Light.quiet (opInt rfl rfl rfl rfl)) ?_
  refine ASL.q (v := (.int .i64 (W (1 + a12.1)))) rfl rfl (Light.quiet (opAssign rfl rfl)) ?_
  refine ASL.done ?_
  refine AWP.seqR rfl ?_
  refine ASL.q (v := (.int .i64 p1)) rfl rfl (Light.quiet (opMove rfl rfl)) ?_
  refine ASL.q (v := (.int .i64 (W (1 + a12.1)))) rfl rfl (Light.quiet (opMove rfl rfl)) ?_
  refine ASL.q (v := (.ptr bp0 0)) rfl rfl (Light.quiet (opMove rfl rfl)) ?_
  refine ASL.q (v := (.int .i64 (W (1 + a12.1)))) rfl rfl (Light.quiet (opMove rfl rfl)) ?_
  obtain ⟨u6, hu6, hF⟩ := bindE hF
  refine ASL.q (v := (.int .i64 (shl .i64 1 ((W (1 + a12.1)))))) rfl rfl (Light.quiet (opShl rfl rfl rfl (of_decide_eq_true (chkE hu6)) rfl)) ?_
  obtain ⟨a20, ha20, hF⟩ := bindE hF
  refine ASL.x rfl rfl (hCallS hS [0, 1, 2, 3] (F := [.cell b6 [(.int .i64 0), (.int .i64 0), (.int .i64 0), .nil], .row 4 .nil (List.map TEdge.av ([])), .snap S]) rfl rfl rfl call_55 (spec_l1Below_ok ha20) rfl rfl ?_); rintro _ _ G7 ⟨rfl, rfl⟩ hS
  refine ASL.q (v := (.int .i64 (bOr .i64 1 a20.1))) rfl rfl (Light.quiet (opInt rfl rfl rfl rfl)) ?_
  refine ASL.q (v := (.ptr bp0 0)) rfl rfl (Light.quiet (opMove rfl rfl)) ?_
  refine ASL.q (v := (.int .i64 p1)) rfl rfl (Light.quiet (opMove rfl rfl)) ?_
  refine ASL.q (v := (.int .i64 (W (1 + a12.1)))) rfl rfl (Light.quiet (opMove rfl rfl)) ?_
  refine ASL.q (v := (.ptr bp0 0)) rfl rfl (Light.quiet (opMove rfl rfl)) ?_
  refine ASL.q (v := (.int .i64 (W (1 + a12.1)))) rfl rfl (Light.quiet (opMove rfl rfl)) ?_
  refine ASL.q (v := (.int .i64 (W (2 * ((W (1 + a12.1))))))) rfl rfl (Light.quiet (opInt rfl rfl rfl rfl)) ?_
  refine ASL.q (v := (.int .i64 p1)) rfl rfl (Light.quiet (opMove rfl rfl)) ?_
  refine ASL.q (v := (.int .i64 (W (((W (2 * ((W (1 + a12.1)))))) * p1)))) rfl rfl (Light.quiet (opInt rfl rfl rfl rfl)) ?_
  obtain ⟨a30, ha30, hF⟩ := bindE hF
  refine ASL.x rfl rfl (hCallS hS [0, 1, 2, 3] (F := [.cell b6 [(.int .i64 0), (.int .i64 0), (.int .i64 0), .nil], .row 4 .nil (List.map TEdge.av ([])), .snap S]) rfl rfl rfl call_55 (spec_l1Below_ok ha30) rfl rfl ?_); rintro _ _ G8 ⟨rfl, rfl⟩ hS
  refine ASL.q (v := (.int .i64 (W (1 + a30.1)))) rfl rfl (Light.quiet (opInt rfl rfl rfl rfl)) ?_
  obtain ⟨a32, ha32, hF⟩ := bindE hF
  refine ASL.x rfl rfl (hCallS hS [0, 1, 2, 3] (F := [.cell b6 [(.int .i64 0), (.int .i64 0), (.int .i64 0), .nil], .row 4 .nil (List.map TEdge.av ([])), .snap S]) rfl rfl rfl call_96 (spec_l4DrawEdges_ok ha32) rfl rfl ?_); rintro w9 _ G11 ⟨_, rfl, rfl⟩ hS
  obtain ⟨a33, ha33, hF⟩ := bindE hF
  refine ASL.x rfl rfl (hCallSR hS rfl rfl call_95 (spec_AutoMake_ok ha33) ⟨.same _, .same _, .same _, .row (k := 0) rfl, trivial⟩ (by rintro _ _ G ⟨w12, rfl, rfl⟩ hG; exact ⟨(Scal.tup (ScalC.cons (Scal.agg (ScalC.cons (by constructor) (ScalC.cons (by constructor) (ScalC.cons (by constructor) (ScalC.cons (hG.scR (k := 0) rfl) ScalC.nil))))) (ScalC.cons (by constructor) ScalC.nil))), ⟨(Scal.row (fun _ => by simp only [TEdge.av, cells, List.mem_cons, List.not_mem_nil, or_false]; rintro c hc; rcases hc with rfl | rfl | rfl | rfl <;> constructor)), trivial⟩⟩) ?_); rintro _ _ G14 ⟨w12, rfl, rfl⟩ hK hS
  refine ASL.q (v := (.tup [(.agg [(.int .i64 a33.1.letters), (.int .i64 a33.1.states), (.int .i64 a33.1.start), w12]), (.bool a33.2)])) rfl rfl (Light.quiet (opMove rfl rfl)) ?_
  refine ASL.q (v := (.agg [(.int .i64 a33.1.letters), (.int .i64 a33.1.states), (.int .i64 a33.1.start), w12])) rfl rfl (Light.quiet (opExtract rfl rfl rfl)) ?_
  refine ASL.q (v := (.bool a33.2)) rfl rfl (Light.quiet (opExtract rfl rfl rfl)) ?_
  have hS := hNil (s := 4) (f := TEdge.av) hS
  refine ASL.x rfl rfl (hNewZ hS [(.int .i64 0), (.int .i64 0), (.int .i64 0), .nil] rfl zeroA_26 ⟨.inl rfl, .inl rfl, .inl rfl, .inl rfl, trivial⟩ ?_); rintro b8 G15 hK hS
  refine ASL.n rfl rfl (hPutA hS (j := 0) rfl rfl sizeA_26 rfl rfl rfl rfl (allC rfl (allC rfl (allC rfl (allC (hS.one (k := 2) rfl) rfl)))) (nlt rfl) ?_); rintro G18 hS
  refine ASL.q (v := (.bool a33.2)) rfl rfl (Light.quiet (opAssign rfl rfl)) ?_
  refine ASL.done ?_
  refine AWP.seqR rfl ?_
  refine ASL.q (v := (.agg [(.int .i64 a33.1.letters), (.int .i64 a33.1.states), (.int .i64 a33.1.start), w12])) rfl rfl (Light.quiet (kAtA hS (j := 0) rfl rfl aggA_26 sizeA_26 rfl (nlt rfl) rfl)) ?_
  refine ASL.n rfl rfl (hPutA hS (j := 5) rfl rfl sizeA_26 rfl rfl rfl rfl (allC rfl (allC rfl (allC rfl (allC (hS.one (k := 2) rfl) rfl)))) (nlt rfl) ?_); rintro G19 hS
  refine ASL.done ?_
  refine AWP.ret ?_
  obtain rfl := someE hF
  exact QRet.sole (v := (.agg [(.int .i64 a33.1.letters), (.int .i64 a33.1.states), (.int .i64 a33.1.start), w12])) ⟨resOne.at hS (k := 5) rfl rfl aggA_26 sizeA_26, trivial⟩ ⟨_, ⟨w12, rfl, rfl⟩, hS.pick [2, 4, 7] rfl rfl⟩

set_option maxRecDepth 10000 in
theorem spec_l4DrawAuto_ok {p0 : Tl1Cur} {p1 : Int} {r : (TAuto × Tl1Cur)} {bp0 : Nat} (hF : spec_l4DrawAuto p0 p1 = some r) : HS Try.prog 80 [(.ptr bp0 0), (.int .i64 p1)] [.cell bp0 [(.list 1 (List.map (AV.int .u8) p0.b)), (.int .i64 p0.i), (.int .i64 p0.h)]] fun v L' => ∃ o0_Edges : AV, v = (.agg [(.int .i64 r.1.letters), (.int .i64 r.1.states), (.int .i64 r.1.start), o0_Edges]) ∧ L' = [.row 4 o0_Edges (List.map TEdge.av r.1.edges), .cell bp0 [(.list 1 (List.map (AV.int .u8) r.2.b)), (.int .i64 r.2.i), (.int .i64 r.2.h)]] := by
  intro H S hS
  refine HC.enter Try.func80 rfl Try.ntmps80 (by simp) ?_
  simp only [List.cons_append, List.nil_append] at hS
  unfold spec_l4DrawAuto at hF
  refine AWP.seqR rfl ?_
  have hS := hNil (s := 4) (f := TEdge.av) hS
  refine ASL.x rfl rfl (hNewZ hS [(.int .i64 0), (.int .i64 0), (.int .i64 0), .nil] rfl zeroA_26 ⟨.inl rfl, .inl rfl, .inl rfl, .inl rfl, trivial⟩ ?_); rintro b4 G2 hK hS
  refine ASL.done ?_
  refine AWP.seqR rfl ?_
  refine ASL.q (v := (.ptr bp0 0)) rfl rfl (Light.quiet (opMove rfl rfl)) ?_
  refine ASL.q (v := (.ptr bp0 0)) rfl rfl (Light.quiet (opMove rfl rfl)) ?_
  refine ASL.q (v := (.list 1 (List.map (AV.int .i64) [1, 2, 2, 2, 3, 4]))) rfl rfl ((qLit (xs := [(.int .i64 1), (.int .i64 2), (.int .i64 2), (.int .i64 2), (.int .i64 3), (.int .i64 4)]) rfl elemA_27 sizeA_3 zeroA_3 rfl rfl rfl rfl (by simp [cells]) (nlt rfl))) ?_
  obtain ⟨a9, ha9, hF⟩ := bindE hF
  refine ASL.x rfl rfl (hCallS hS [2, 0, 1, 3] (F := [.cell b4 [(.int .i64 0), (.int .i64 0), (.int .i64 0), .nil], .row 4 .nil (List.map TEdge.av ([])), .snap S]) rfl rfl rfl call_104 (spec_l1PickInt_ok ha9) rfl rfl ?_); rintro _ _ G5 ⟨rfl, rfl⟩ hS
  refine ASL.q (v := (.int .i64 p1)) rfl rfl (Light.quiet (opMove rfl rfl)) ?_
  obtain ⟨a11, ha11, hF⟩ := bindE hF
  refine ASL.x rfl rfl (hCallS hS [0, 1, 2, 3] (F := [.cell b4 [(.int .i64 0), (.int .i64 0), (.int .i64 0), .nil], .row 4 .nil (List.map TEdge.av ([])), .snap S]) rfl rfl rfl call_66 (spec_l4DrawRight_ok ha11) rfl rfl ?_); rintro _ _ G8 ⟨w6, rfl, rfl⟩ hS
  have hS := hNil (s := 4) (f := TEdge.av) hS
  refine ASL.x rfl rfl (hNewZ hS [(.int .i64 0), (.int .i64 0), (.int .i64 0), .nil] rfl zeroA_26 ⟨.inl rfl, .inl rfl, .inl rfl, .inl rfl, trivial⟩ ?_); rintro b5 G9 hK hS
  refine ASL.n rfl rfl (hPutA hS (j := 0) rfl rfl sizeA_26 rfl rfl rfl rfl (allC rfl (allC rfl (allC rfl (allC (hS.one (k := 2) rfl) rfl)))) (nlt rfl) ?_); rintro G12 hS
  refine ASL.done ?_
  refine AWP.seqM (fun e H => ∃ y13 : Int, ∃ y14 : Int, ∃ y15 : Int, ∃ y16 : (List TEdge), ∃ y19 : (List Int), ∃ y20 : Int, ∃ y21 : Int, ∃ w17 : AV, E.Told e [(4, (.ptr b4 0)), (5, (.ptr b5 0))] ∧ E.Sep H [.row 4 .nil (List.map TEdge.av ([])), .cell b4 [(.int .i64 0), (.int .i64 0), (.int .i64 0), .nil], .row 4 w17 (List.map TEdge.av y16), .cell b5 [(.int .i64 y13), (.int .i64 y14), (.int .i64 y15), w17], .cell bp0 [(.list 1 (List.map (AV.int .u8) y19)), (.int .i64 y20), (.int .i64 y21)], .snap S] ∧ spec_l4DrawAuto.k0 y13 y14 y15 y16 y19 y20 y21 = some r) ?_ ?_
  · rintro e0 G23 ⟨y13, y14, y15, y16, y19, y20, y21, w17, hT, hS, hF⟩; refine AWP.only _ hT ?_; unfold spec_l4DrawAuto.k0 at hF
    refine AWP.seqR rfl ?_
    refine ASL.q (v := (.agg [(.int .i64 y13), (.int .i64 y14), (.int .i64 y15), w17])) rfl rfl (Light.quiet (kAtA hS (j := 3) rfl rfl aggA_26 sizeA_26 rfl (nlt rfl) rfl)) ?_
    refine ASL.n rfl rfl (hPutA hS (j := 1) rfl rfl sizeA_26 rfl rfl rfl rfl (allC rfl (allC rfl (allC rfl (allC (hS.one (k := 2) rfl) rfl)))) (nlt rfl) ?_); rintro G22 hS
    refine ASL.done ?_
    refine AWP.ret ?_
    obtain rfl := someE hF
    exact QRet.sole (v := (.agg [(.int .i64 y13), (.int .i64 y14), (.int .i64 y15), w17])) ⟨resOne.at hS (k := 1) rfl rfl aggA_26 sizeA_26, trivial⟩ ⟨_, ⟨w17, rfl, rfl⟩, hS.pick [2, 4, 5] rfl rfl⟩
  · skip
    refine AWP.seqR rfl ?_
    refine ASL.q (v := (.ptr bp0 0)) rfl rfl (Light.quiet (opMove rfl rfl)) ?_
    obtain ⟨a13, ha13, hF⟩ := bindE hF
    refine ASL.x rfl rfl (hCallS hS [3, 0, 1, 2, 4, 5, 6] (F := [.cell b5 [(.int .i64 a11.1.letters), (.int .i64 a11.1.states), (.int .i64 a11.1.start), w6], .row 4 .nil (List.map TEdge.av ([])), .row 4 w6 (List.map TEdge.av a11.1.edges), .cell b4 [(.int .i64 0), (.int .i64 0), (.int .i64 0), .nil], .row 4 .nil (List.map TEdge.av ([])), .snap S]) rfl rfl rfl call_55 (spec_l1Below_ok ha13) rfl rfl ?_); rintro _ _ G24 ⟨rfl, rfl⟩ hS
    refine ASL.done ?_
    refine AWP.block ?_
    refine AWP.seqR rfl ?_
    refine ASL.q (v := (.bool (decide (a13.1 = 0)))) rfl rfl (Light.quiet (opInt rfl rfl rfl rfl)) ?_
    refine ASL.q (v := (.bool (decide (a13.1 = 0)))) rfl rfl (Light.quiet (opAssign rfl rfl)) ?_
    refine ASL.done ?_
    refine AWP.ifP hF rfl (fun hc25 hF => ?_) (fun hc25 hF => ?_)
    · skip
      refine AWP.lastR rfl ?_
      refine ASL.q (v := (.ptr bp0 0)) rfl rfl (Light.quiet (opMove rfl rfl)) ?_
      refine ASL.q (v := (.list 1 (List.map (AV.int .i64) [0, 8, 9]))) rfl rfl ((qLit (xs := [(.int .i64 0), (.int .i64 8), (.int .i64 9)]) rfl elemA_27 sizeA_3 zeroA_3 rfl rfl rfl rfl (by simp [cells]) (nlt rfl))) ?_
      obtain ⟨a18, ha18, hF⟩ := bindE hF
      refine ASL.x rfl rfl (hCallS hS [0, 1, 2, 3, 4, 5, 6] (F := [.cell b5 [(.int .i64 a11.1.letters), (.int .i64 a11.1.states), (.int .i64 a11.1.start), w6], .row 4 .nil (List.map TEdge.av ([])), .row 4 w6 (List.map TEdge.av a11.1.edges), .cell b4 [(.int .i64 0), (.int .i64 0), (.int .i64 0), .nil], .row 4 .nil (List.map TEdge.av ([])), .snap S]) rfl rfl rfl call_104 (spec_l1PickInt_ok ha18) rfl rfl ?_); rintro _ _ G26 ⟨rfl, rfl⟩ hS
      refine ASL.q (v := (.ptr b5 0)) rfl rfl (Light.quiet (opFieldAddr rfl fieldA_26_0 rfl rfl)) ?_
      refine ASL.n rfl rfl (hPut hS (j := 1) rfl rfl sizeA_3 rfl rfl rfl (nlt rfl) ?_); rintro G27 hS
      refine ASL.done ?_
      refine QBlock.nrm ?_
      refine QThen.nrm ?_
      exact ⟨a18.1, a11.1.states, a11.1.start, a11.1.edges, a18.2.b, a18.2.i, a18.2.h, w6, ⟨rfl, rfl, trivial⟩, (hS.pick [5, 4, 3, 1, 0, 6] rfl rfl), hF⟩
    · skip
      refine AWP.seqR rfl ?_
      refine ASL.q (v := (.bool (decide (a13.1 = 1)))) rfl rfl (Light.quiet (opInt rfl rfl rfl rfl)) ?_
      refine ASL.q (v := (.bool (decide (a13.1 = 1)))) rfl rfl (Light.quiet (opAssign rfl rfl)) ?_
      refine ASL.done ?_
      refine AWP.ifP hF rfl (fun hc28 hF => ?_) (fun hc28 hF => ?_)
      · skip
        refine AWP.lastR rfl ?_
        refine ASL.q (v := (.ptr bp0 0)) rfl rfl (Light.quiet (opMove rfl rfl)) ?_
        refine ASL.q (v := (.list 1 (List.map (AV.int .i64) [0, (-1), 31, 32]))) rfl rfl ((qLit (xs := [(.int .i64 0), (.int .i64 (-1)), (.int .i64 31), (.int .i64 32)]) rfl elemA_27 sizeA_3 zeroA_3 rfl rfl rfl rfl (by simp [cells]) (nlt rfl))) ?_
        obtain ⟨a24, ha24, hF⟩ := bindE hF
        refine ASL.x rfl rfl (hCallS hS [0, 1, 2, 3, 4, 5, 6] (F := [.cell b5 [(.int .i64 a11.1.letters), (.int .i64 a11.1.states), (.int .i64 a11.1.start), w6], .row 4 .nil (List.map TEdge.av ([])), .row 4 w6 (List.map TEdge.av a11.1.edges), .cell b4 [(.int .i64 0), (.int .i64 0), (.int .i64 0), .nil], .row 4 .nil (List.map TEdge.av ([])), .snap S]) rfl rfl rfl call_104 (spec_l1PickInt_ok ha24) rfl rfl ?_); rintro _ _ G29 ⟨rfl, rfl⟩ hS
        refine ASL.q (v := (.ptr b5 1)) rfl rfl (Light.quiet (opFieldAddr rfl fieldA_26_1 rfl rfl)) ?_
        refine ASL.n rfl rfl (hPut hS (j := 1) rfl rfl sizeA_3 rfl rfl rfl (nlt rfl) ?_); rintro G30 hS
        refine ASL.done ?_
        refine QBlock.nrm ?_
        refine QThen.nrm ?_
        exact ⟨a11.1.letters, a24.1, a11.1.start, a11.1.edges, a24.2.b, a24.2.i, a24.2.h, w6, ⟨rfl, rfl, trivial⟩, (hS.pick [5, 4, 3, 1, 0, 6] rfl rfl), hF⟩
      · skip
        refine AWP.seqR rfl ?_
        refine ASL.q (v := (.bool (decide (a13.1 = 2)))) rfl rfl (Light.quiet (opInt rfl rfl rfl rfl)) ?_
        refine ASL.q (v := (.bool (decide (a13.1 = 2)))) rfl rfl (Light.quiet (opAssign rfl rfl)) ?_
        refine ASL.done ?_
        refine AWP.ifP hF rfl (fun hc31 hF => ?_) (fun hc31 hF => ?_)
        · skip
          refine AWP.lastR rfl ?_
          refine ASL.q (v := (.ptr bp0 0)) rfl rfl (Light.quiet (opMove rfl rfl)) ?_
          refine ASL.q (v := (.list 1 (List.map (AV.int .i64) [(-1), 0, 1048576]))) rfl rfl ((qLit (xs := [(.int .i64 (-1)), (.int .i64 0), (.int .i64 1048576)]) rfl elemA_27 sizeA_3 zeroA_3 rfl rfl rfl rfl (by simp [cells]) (nlt rfl))) ?_
          obtain ⟨a30, ha30, hF⟩ := bindE hF
          refine ASL.x rfl rfl (hCallS hS [0, 1, 2, 3, 4, 5, 6] (F := [.cell b5 [(.int .i64 a11.1.letters), (.int .i64 a11.1.states), (.int .i64 a11.1.start), w6], .row 4 .nil (List.map TEdge.av ([])), .row 4 w6 (List.map TEdge.av a11.1.edges), .cell b4 [(.int .i64 0), (.int .i64 0), (.int .i64 0), .nil], .row 4 .nil (List.map TEdge.av ([])), .snap S]) rfl rfl rfl call_104 (spec_l1PickInt_ok ha30) rfl rfl ?_); rintro _ _ G32 ⟨rfl, rfl⟩ hS
          refine ASL.q (v := (.ptr b5 2)) rfl rfl (Light.quiet (opFieldAddr rfl fieldA_26_2 rfl rfl)) ?_
          refine ASL.n rfl rfl (hPut hS (j := 1) rfl rfl sizeA_3 rfl rfl rfl (nlt rfl) ?_); rintro G33 hS
          refine ASL.done ?_
          refine QBlock.nrm ?_
          refine QThen.nrm ?_
          exact ⟨a11.1.letters, a11.1.states, a30.1, a11.1.edges, a30.2.b, a30.2.i, a30.2.h, w6, ⟨rfl, rfl, trivial⟩, (hS.pick [5, 4, 3, 1, 0, 6] rfl rfl), hF⟩
        · skip
          refine AWP.seqR rfl ?_
          refine ASL.q (v := (.bool (decide (a13.1 = 3)))) rfl rfl (Light.quiet (opInt rfl rfl rfl rfl)) ?_
          refine ASL.q (v := (.bool (decide (a13.1 = 3)))) rfl rfl (Light.quiet (opAssign rfl rfl)) ?_
          refine ASL.done ?_
          refine AWP.ifP hF rfl (fun hc34 hF => ?_) (fun hc34 hF => ?_)
          · skip
            refine AWP.lastR rfl ?_
            refine ASL.q (v := (.ptr b5 3)) rfl rfl (Light.quiet (opFieldAddr rfl fieldA_26_3 rfl rfl)) ?_
            refine ASL.q (v := w6) rfl rfl (Light.quiet (kAt hS (j := 1) rfl rfl aggA_24 rfl rfl)) ?_
            refine ASL.q (v := (.agg [(.int .i64 0), (.int .i64 0), (.int .i64 0), (.bool false)])) rfl rfl (Light.quiet (opBuildZ (zs := [(.int .i64 0), (.int .i64 0), (.int .i64 0), (.bool false)]) rfl plan_73 zeroA_73 ⟨.inl rfl, .inl rfl, .inl rfl, .inl rfl, trivial⟩ rfl)) ?_
            refine ASL.q (v := (.list 4 (List.map TEdge.av [(TEdge.mk 0 0 0 false)]))) rfl rfl ((qLit (xs := [(.agg [(.int .i64 0), (.int .i64 0), (.int .i64 0), (.bool false)])]) rfl elemA_24 sizeA_73 zeroA_73 rfl rfl rfl rfl (by simp [cells, TEdge.av]) (nlt rfl))) ?_
            obtain ⟨z38, hz38, hF⟩ := bindE hF
            refine ASL.x rfl rfl (hApp (f := TEdge.av) (ws := [(TEdge.mk 0 0 0 false)]) hS (j := 3) rfl hz38 rfl elemA_24 rfl sizeA_73 bytesA_73 zeroA_73 rfl rfl rfl (fun _ => rfl) ?_); rintro v38 G35 hS
            refine ASL.q (v := (.ptr b5 3)) rfl rfl (Light.quiet (opFieldAddr rfl fieldA_26_3 rfl rfl)) ?_
            refine ASL.n rfl rfl (hPut hS (j := 1) rfl rfl sizeA_24 rfl rfl (hS.one (k := 3) rfl) (nlt rfl) ?_); rintro G37 hS
            refine ASL.done ?_
            refine QBlock.nrm ?_
            refine QThen.nrm ?_
            exact ⟨a11.1.letters, a11.1.states, a11.1.start, z38, a13.2.b, a13.2.i, a13.2.h, v38, ⟨rfl, rfl, trivial⟩, (hS.pick [5, 4, 3, 1, 0, 6] rfl rfl), hF⟩
          · skip
            refine AWP.seqR rfl ?_
            refine ASL.q (v := (.bool (decide (a13.1 = 4)))) rfl rfl (Light.quiet (opInt rfl rfl rfl rfl)) ?_
            refine ASL.q (v := (.bool (decide (a13.1 = 4)))) rfl rfl (Light.quiet (opAssign rfl rfl)) ?_
            refine ASL.done ?_
            refine AWP.ifP hF rfl (fun hc38 hF => ?_) (fun hc38 hF => ?_)
            · skip
              refine AWP.lastR rfl ?_
              refine ASL.q (v := (.ptr b5 3)) rfl rfl (Light.quiet (opFieldAddr rfl fieldA_26_3 rfl rfl)) ?_
              refine ASL.q (v := w6) rfl rfl (Light.quiet (kAt hS (j := 1) rfl rfl aggA_24 rfl rfl)) ?_
              refine ASL.q (v := (.ptr b5 1)) rfl rfl (Light.quiet (opFieldAddr rfl fieldA_26_1 rfl rfl)) ?_
              refine ASL.q (v := (.int .i64 a11.1.states)) rfl rfl (Light.quiet (kAt hS (j := 1) rfl rfl aggA_3 rfl rfl)) ?_
              refine ASL.q (v := (.agg [(.int .i64 a11.1.states), (.int .i64 0), (.int .i64 0), (.bool false)])) rfl rfl (Light.quiet (opBuildZ (zs := [(.int .i64 0), (.int .i64 0), (.int .i64 0), (.bool false)]) rfl plan_73 zeroA_73 ⟨.inl rfl, .inl rfl, .inl rfl, .inl rfl, trivial⟩ rfl)) ?_
              refine ASL.q (v := (.list 4 (List.map TEdge.av [(TEdge.mk a11.1.states 0 0 false)]))) rfl rfl ((qLit (xs := [(.agg [(.int .i64 a11.1.states), (.int .i64 0), (.int .i64 0), (.bool false)])]) rfl elemA_24 sizeA_73 zeroA_73 rfl rfl rfl rfl (by simp [cells, TEdge.av]) (nlt rfl))) ?_
              obtain ⟨z48, hz48, hF⟩ := bindE hF
              refine ASL.x rfl rfl (hApp (f := TEdge.av) (ws := [(TEdge.mk a11.1.states 0 0 false)]) hS (j := 3) rfl hz48 rfl elemA_24 rfl sizeA_73 bytesA_73 zeroA_73 rfl rfl rfl (fun _ => rfl) ?_); rintro v48 G39 hS
              refine ASL.q (v := (.ptr b5 3)) rfl rfl (Light.quiet (opFieldAddr rfl fieldA_26_3 rfl rfl)) ?_
              refine ASL.n rfl rfl (hPut hS (j := 1) rfl rfl sizeA_24 rfl rfl (hS.one (k := 3) rfl) (nlt rfl) ?_); rintro G41 hS
              refine ASL.done ?_
              refine QBlock.nrm ?_
              refine QThen.nrm ?_
              exact ⟨a11.1.letters, a11.1.states, a11.1.start, z48, a13.2.b, a13.2.i, a13.2.h, v48, ⟨rfl, rfl, trivial⟩, (hS.pick [5, 4, 3, 1, 0, 6] rfl rfl), hF⟩
            · skip
              refine AWP.skip ?_
              refine QBlock.nrm ?_
              refine QThen.nrm ?_
              exact ⟨a11.1.letters, a11.1.states, a11.1.start, a11.1.edges, a13.2.b, a13.2.i, a13.2.h, w6, ⟨rfl, rfl, trivial⟩, (hS.pick [5, 4, 3, 1, 0, 6] rfl rfl), hF⟩

set_option maxRecDepth 10000 in
theorem spec_l3DrawLetters_ok {p0 : Tl1Cur} {p1 : Int} {p2 : Int} {r : ((List Int) × Tl1Cur)} {bp0 : Nat} (hF : spec_l3DrawLetters p0 p1 p2 = some r) : HS Try.prog 62 [(.ptr bp0 0), (.int .i64 p1), (.int .i64 p2)] [.cell bp0 [(.list 1 (List.map (AV.int .u8) p0.b)), (.int .i64 p0.i), (.int .i64 p0.h)]] fun v L' => ∃ o0 : AV, v = o0 ∧ L' = [.row 1 o0 (List.map (AV.int .i64) r.1), .cell bp0 [(.list 1 (List.map (AV.int .u8) r.2.b)), (.int .i64 r.2.i), (.int .i64 r.2.h)]] := by
  intro H S hS
  refine HC.enter Try.func62 rfl Try.ntmps62 (by simp) ?_
  simp only [List.cons_append, List.nil_append] at hS
  unfold spec_l3DrawLetters at hF
  refine AWP.seqR rfl ?_
  have hS := hNil (s := 1) (f := (AV.int .i64)) hS
  refine ASL.q (v := .nil) rfl rfl (Light.quiet (opAssign rfl rfl)) ?_
  refine ASL.done ?_
  refine AWP.seqR rfl ?_
  refine ASL.x rfl rfl (hLit (f := (AV.int .i64)) (zs := []) hS rfl rfl elemA_27 sizeA_3 zeroA_3 rfl rfl rfl rfl (by simp [cells]) (nlt rfl) ?_); rintro v10 G3 hK hS
  refine ASL.q (v := v10) rfl rfl (Light.quiet (opAssign rfl rfl)) ?_
  refine ASL.done ?_
  refine AWP.seqR rfl ?_
  refine ASL.q (v := (.ptr bp0 0)) rfl rfl (Light.quiet (opMove rfl rfl)) ?_
  refine ASL.q (v := (.int .i64 p1)) rfl rfl (Light.quiet (opMove rfl rfl)) ?_
  refine ASL.q (v := (.int .i64 (W (p1 + 1)))) rfl rfl (Light.quiet (opInt rfl rfl rfl rfl)) ?_
  obtain ⟨a14, ha14, hF⟩ := bindE hF
  refine ASL.x rfl rfl (hCallS hS [2, 0, 1, 3] (F := [.row 1 v10 (List.map (AV.int .i64) ([])), .row 1 .nil (List.map (AV.int .i64) ([])), .snap S]) rfl rfl rfl call_55 (spec_l1Below_ok ha14) rfl rfl ?_); rintro _ _ G5 ⟨rfl, rfl⟩ hS
  refine ASL.q (v := (.int .i64 a14.1)) rfl rfl (Light.quiet (opAssign rfl rfl)) ?_
  refine ASL.done ?_
  refine AWP.seqM (fun e H => ∃ y6 : (List Int), ∃ y9 : (List Int), ∃ y10 : Int, ∃ y11 : Int, ∃ w7 : AV, E.Told e [(7, w7)] ∧ E.Sep H [.row 1 w7 (List.map (AV.int .i64) y6), .cell bp0 [(.list 1 (List.map (AV.int .u8) y9)), (.int .i64 y10), (.int .i64 y11)], .snap S] ∧ spec_l3DrawLetters.k0 y6 y9 y10 y11 = some r) ?_ ?_
  · rintro e0 G12 ⟨y6, y9, y10, y11, w7, hT, hS, hF⟩; refine AWP.only _ hT ?_; unfold spec_l3DrawLetters.k0 at hF
    refine AWP.seqR rfl ?_
    refine ASL.q (v := w7) rfl rfl (Light.quiet (opMove rfl rfl)) ?_
    refine ASL.q (v := w7) rfl rfl (Light.quiet (opAssign rfl rfl)) ?_
    refine ASL.done ?_
    refine AWP.ret ?_
    obtain rfl := someE hF
    exact QRet.sole (v := w7) ⟨rfl, trivial⟩ ⟨_, ⟨w7, rfl, rfl⟩, hS.pick [0, 1, 2] rfl rfl⟩
  · skip
    refine AWP.seqR rfl ?_
    refine ASL.q (v := (.int .i64 0)) rfl rfl (Light.quiet (opAssign rfl rfl)) ?_
    refine ASL.done ?_
    refine AWP.block ?_
    obtain ⟨o22, hL21, hR23⟩ := bindE hF
    refine AWP.loopF (ω := AV) hL21 (fun s w => [(0, (.ptr bp0 0)), (2, (.int .i64 p2)), (7, w), (8, (.int .i64 a14.1)), (9, (.int .i64 s.2.2.2.2))]) (fun s w => [.cell bp0 [(.list 1 (List.map (AV.int .u8) s.1)), (.int .i64 s.2.1), (.int .i64 s.2.2.1)], .row 1 w (List.map (AV.int .i64) s.2.2.2.1), .snap S]) v10 ⟨rfl, rfl, rfl, rfl, rfl, trivial⟩ (hS.pick [0, 1, 3] rfl rfl) ?_
    rintro ⟨y13, y14, y15, y16, x9_l0⟩ w17 G24 hS x19 hF hx20
    try dsimp only at hS ⊢
    have hF : spec_l3DrawLetters.b0 a14 p2 y13 y14 y15 y16 x9_l0 = some x19 := hF; unfold spec_l3DrawLetters.b0 at hF
    refine AWP.seq ?_
    refine AWP.seqR rfl ?_
    refine ASL.q (v := (.int .i64 x9_l0)) rfl rfl (Light.quiet (opMove rfl rfl)) ?_
    refine ASL.q (v := (.int .i64 a14.1)) rfl rfl (Light.quiet (opMove rfl rfl)) ?_
    refine ASL.q (v := (.bool (decide (x9_l0 < a14.1)))) rfl rfl (Light.quiet (opInt rfl rfl rfl rfl)) ?_
    refine ASL.done ?_
    refine AWP.ifP hF rfl (fun hc25 hF => ?_) (fun hc25 hF => ?_)
    · skip
      refine AWP.skip ?_
      refine QThen.nrm ?_
      refine AWP.seq ?_
      refine AWP.block ?_
      refine AWP.lastR rfl ?_
      refine ASL.q (v := w17) rfl rfl (Light.quiet (opMove rfl rfl)) ?_
      refine ASL.q (v := (.ptr bp0 0)) rfl rfl (Light.quiet (opMove rfl rfl)) ?_
      refine ASL.q (v := (.int .i64 p2)) rfl rfl (Light.quiet (opMove rfl rfl)) ?_
      obtain ⟨a23, ha23, hF⟩ := bindE hF
      refine ASL.x rfl rfl (hCallS hS [0, 1, 2] (F := [.row 1 w17 (List.map (AV.int .i64) y16), .snap S]) rfl rfl rfl call_55 (spec_l1Below_ok ha23) rfl rfl ?_); rintro _ _ G26 ⟨rfl, rfl⟩ hS
      refine ASL.q (v := (.list 1 (List.map (AV.int .i64) [a23.1]))) rfl rfl ((qLit (xs := [(.int .i64 a23.1)]) rfl elemA_27 sizeA_3 zeroA_3 rfl rfl rfl rfl (by simp [cells]) (nlt rfl))) ?_
      obtain ⟨z25, hz25, hF⟩ := bindE hF
      refine ASL.x rfl rfl (hApp (f := (AV.int .i64)) (ws := [a23.1]) hS (j := 1) rfl hz25 rfl elemA_27 rfl sizeA_3 bytesA_3 zeroA_3 rfl rfl rfl (fun _ => rfl) ?_); rintro v25 G27 hS
      refine ASL.q (v := v25) rfl rfl (Light.quiet (opAssign rfl rfl)) ?_
      refine ASL.done ?_
      refine QBlock.nrm ?_
      refine QThen.nrm ?_
      refine AWP.lastR rfl ?_
      refine ASL.q (v := (.int .i64 x9_l0)) rfl rfl (Light.quiet (opMove rfl rfl)) ?_
      refine ASL.q (v := (.int .i64 (W (x9_l0 + 1)))) rfl rfl (Light.quiet (opInt rfl rfl rfl rfl)) ?_
      refine ASL.q (v := (.int .i64 (W (x9_l0 + 1)))) rfl rfl (Light.quiet (opAssign rfl rfl)) ?_
      refine ASL.done ?_
      refine QThen.nrm ?_
      exact ⟨(a23.2.b, a23.2.i, a23.2.h, z25, (W (x9_l0 + 1))), v25, (someE hF).symm, ⟨rfl, rfl, rfl, rfl, rfl, trivial⟩, (hS.pick [0, 1, 2] rfl rfl)⟩
    · skip
      refine AWP.exit ?_
      refine QThen.ext ?_
      refine QThen.ext ?_
      refine QBlock.hit ?_
      obtain rfl := (hx20 _ (someE hF).symm)
      have hF := hR23
      refine QThen.nrm ?_
      exact ⟨y16, y13, y14, y15, w17, ⟨rfl, trivial⟩, (hS.pick [1, 0, 2] rfl rfl), hF⟩

set_option maxRecDepth 10000 in
theorem spec_l3Letters_ok {p0 : (List Int)} {p1 : Int} {r : Bool} (hF : spec_l3Letters p0 p1 = some r) : PC Try.prog 45 [(.list 1 (List.map (AV.int .i64) p0)), (.int .i64 p1)] fun v => v = (.bool r) := by
  refine PC.enter Try.func45 rfl Try.ntmps45 (by simp) ?_
  have hS := Sep.void; unfold spec_l3Letters at hF
  refine AWP.seqR rfl ?_
  refine ASL.q (v := (.bool false)) rfl rfl (Light.quiet (opAssign rfl rfl)) ?_
  refine ASL.done ?_
  refine AWP.seqM (fun e H => E.Told e [] ∧ E.Sep H [] ∧ spec_l3Letters.k0 = some r) ?_ ?_
  · rintro e0 G1 ⟨hT, hS, hF⟩; refine AWP.only _ hT ?_; unfold spec_l3Letters.k0 at hF
    refine AWP.seqR rfl ?_
    refine ASL.q (v := (.bool true)) rfl rfl (Light.quiet (opAssign rfl rfl)) ?_
    refine ASL.done ?_
    refine AWP.ret ?_
    obtain rfl := someE hF
    exact QRet.sole (v := (.bool true)) ⟨rfl, trivial⟩ rfl
  · skip
    refine AWP.seqR rfl ?_
    refine ASL.q (v := (.int .i64 0)) rfl rfl (Light.quiet (opAssign rfl rfl)) ?_
    refine ASL.done ?_
    refine AWP.block ?_
    obtain ⟨o5, hL4, hR6⟩ := bindE hF
    refine AWP.loopF (ω := Unit) hL4 (fun s w => [(0, (.list 1 (List.map (AV.int .i64) p0))), (1, (.int .i64 p1)), (5, (.int .i64 s))]) (fun s w => []) () ⟨rfl, rfl, rfl, trivial⟩ (hS.pick [] rfl rfl) ?_
    rintro x5_l0 _ G7 hS x2 hF hx3
    try dsimp only at hS ⊢
    have hF : spec_l3Letters.b0 p0 p1 x5_l0 = some x2 := hF; unfold spec_l3Letters.b0 at hF
    refine AWP.seq ?_
    refine AWP.seqR rfl ?_
    refine ASL.q (v := (.int .i64 x5_l0)) rfl rfl (Light.quiet (opMove rfl rfl)) ?_
    refine ASL.q (v := (.list 1 (List.map (AV.int .i64) p0))) rfl rfl (Light.quiet (opMove rfl rfl)) ?_
    refine ASL.q (v := (.int .i64 (p0.length : Int))) rfl rfl (Light.quiet (opLenMap (f := (AV.int .i64)) rfl rfl rfl lenT_27 rfl)) ?_
    refine ASL.q (v := (.bool (decide (x5_l0 < ((p0.length : Int)))))) rfl rfl (Light.quiet (opInt rfl rfl rfl rfl)) ?_
    refine ASL.done ?_
    refine AWP.ifP hF rfl (fun hc8 hF => ?_) (fun hc8 hF => ?_)
    · skip
      refine AWP.skip ?_
      refine QThen.nrm ?_
      refine AWP.seq ?_
      refine AWP.block ?_
      refine AWP.seqR rfl ?_
      refine ASL.q (v := (.list 1 (List.map (AV.int .i64) p0))) rfl rfl (Light.quiet (opMove rfl rfl)) ?_
      refine ASL.q (v := (.int .i64 x5_l0)) rfl rfl (Light.quiet (opMove rfl rfl)) ?_
      obtain ⟨a14, ha14, hF⟩ := bindE hF
      refine ASL.q (v := (.rptr [(.int .i64 a14)])) rfl rfl (Light.quiet (kIx (f := (AV.int .i64)) ha14 rfl rfl rfl elemA_27 sizeA_3 rfl)) ?_
      refine ASL.q (v := (.int .i64 a14)) rfl rfl (Light.quiet (opLoadR rfl aggA_3 rfl rfl)) ?_
      refine ASL.q (v := (.int .i64 p1)) rfl rfl (Light.quiet (opMove rfl rfl)) ?_
      refine ASL.q (v := (.int .i64 (W (p1 - 1)))) rfl rfl (Light.quiet (opInt rfl rfl rfl rfl)) ?_
      refine ASL.q (v := (.bool (spec_l1In a14 0 ((W (p1 - 1)))))) rfl rfl ((qCall rfl rfl call_41 (spec_l1In_ok a14 0 ((W (p1 - 1)))) rfl)) ?_
      refine ASL.q (v := (.bool (!(spec_l1In a14 0 ((W (p1 - 1))))))) rfl rfl (Light.quiet (opNot rfl rfl)) ?_
      refine ASL.done ?_
      refine AWP.ifB hF rfl (fun hc9 hF => ?_) (fun hc9 hF => ?_)
      · skip
        refine AWP.seqR rfl ?_
        refine ASL.q (v := (.bool false)) rfl rfl (Light.quiet (opAssign rfl rfl)) ?_
        refine ASL.done ?_
        refine AWP.ret ?_
        refine QBlock.ret ?_
        refine QThen.rt ?_
        refine QThen.rt ?_
        refine QBlock.ret ?_
        refine QThen.rt ?_
        obtain rfl := (hx3 _ (someE hF).symm)
        have hF := hR6
        have hF := sumR hF
        obtain rfl := someE hF
        exact QRet.sole (v := (.bool false)) ⟨rfl, trivial⟩ rfl
      · skip
        refine AWP.skip ?_
        refine QBlock.nrm ?_
        refine QThen.nrm ?_
        refine AWP.lastR rfl ?_
        refine ASL.q (v := (.int .i64 x5_l0)) rfl rfl (Light.quiet (opMove rfl rfl)) ?_
        refine ASL.q (v := (.int .i64 (W (x5_l0 + 1)))) rfl rfl (Light.quiet (opInt rfl rfl rfl rfl)) ?_
        refine ASL.q (v := (.int .i64 (W (x5_l0 + 1)))) rfl rfl (Light.quiet (opAssign rfl rfl)) ?_
        refine ASL.done ?_
        refine QThen.nrm ?_
        exact ⟨(W (x5_l0 + 1)), (), (someE hF).symm, ⟨rfl, rfl, rfl, trivial⟩, (hS.pick [] rfl rfl)⟩
    · skip
      refine AWP.exit ?_
      refine QThen.ext ?_
      refine QThen.ext ?_
      refine QBlock.hit ?_
      obtain rfl := (hx3 _ (someE hF).symm)
      have hF := hR6
      have hF := sumL hF
      refine QThen.nrm ?_
      exact ⟨trivial, (hS.pick [] rfl rfl), hF⟩

set_option maxRecDepth 10000 in
theorem spec_WordOk_ok {p0 : TWord} {p1 : Int} {r : Bool} (hF : spec_WordOk p0 p1 = some r) : PC Try.prog 11 [(TWord.av p0), (.int .i64 p1)] fun v => v = (.bool r) := by
  refine PC.enter Try.func11 rfl Try.ntmps11 (by simp) ?_
  have hS := Sep.void; unfold spec_WordOk at hF
  refine AWP.seqR rfl ?_
  refine ASL.q (v := (.rptr [(.list 1 (List.map (AV.int .i64) p0.stem)), (.list 1 (List.map (AV.int .i64) p0.loop))])) rfl rfl ((qBoxI (v := (TWord.av p0)) rfl rfl rfl rfl)) ?_
  refine ASL.q (v := (.bool false)) rfl rfl (Light.quiet (opAssign rfl rfl)) ?_
  refine ASL.done ?_
  refine AWP.seq ?_
  refine AWP.seqR rfl ?_
  refine ASL.q (v := (.int .i64 p1)) rfl rfl (Light.quiet (opMove rfl rfl)) ?_
  refine ASL.q (v := (.bool (spec_l1In p1 1 8))) rfl rfl ((qCall rfl rfl call_41 (spec_l1In_ok p1 1 8) rfl)) ?_
  refine ASL.q (v := (.bool (!(spec_l1In p1 1 8)))) rfl rfl (Light.quiet (opNot rfl rfl)) ?_
  obtain ⟨c8, hc8, hF⟩ := bndE hF
  refine ASL.q (v := (.bool c8)) rfl rfl ((Quiet.cast (Light.quiet (opMove rfl rfl)) (congrArg AV.bool hc8.symm))) ?_
  refine ASL.g (v := (.rptr [(.list 1 (List.map (AV.int .i64) p0.stem)), (.list 1 (List.map (AV.int .i64) p0.loop))])) (.bool c8) false rfl (wF _) rfl (fun hG => by have q0 := gN hG; subst q0; exact Light.quiet (opFieldAddrR rfl fieldA_29_0 rfl rfl)) ?_
  refine ASL.g (v := (.list 1 (List.map (AV.int .i64) p0.stem))) (.bool c8) false rfl (wF _) rfl (fun hG => by have q0 := gN hG; subst q0; exact Light.quiet (opLoadR rfl aggA_27 rfl rfl)) ?_
  refine ASL.g (v := (.int .i64 (p0.stem.length : Int))) (.bool c8) false rfl (wF _) rfl (fun hG => by have q0 := gN hG; subst q0; exact Light.quiet (opLenMap (f := (AV.int .i64)) rfl rfl rfl lenT_27 rfl)) ?_
  refine ASL.g (v := (.bool (decide (((p0.stem.length : Int)) > 40)))) (.bool c8) false rfl (wF _) rfl (fun hG => by have q0 := gN hG; subst q0; exact Light.quiet (opInt rfl rfl rfl rfl)) ?_
  refine ASL.q (v := (.bool (c8 || (decide (((p0.stem.length : Int)) > 40))))) rfl rfl (Light.quiet (opPick (b := c8) rfl rfl (by cases c8 <;> rfl))) ?_
  obtain ⟨c14, hc14, hF⟩ := bndE hF
  refine ASL.q (v := (.bool c14)) rfl rfl ((Quiet.cast (Light.quiet (opMove rfl rfl)) (congrArg AV.bool hc14.symm))) ?_
  refine ASL.g (v := (.rptr [(.list 1 (List.map (AV.int .i64) p0.loop))])) (.bool c14) false rfl (wF _) rfl (fun hG => by have q0 := gN hG; subst q0; exact Light.quiet (opFieldAddrR rfl fieldA_29_1 rfl rfl)) ?_
  refine ASL.g (v := (.list 1 (List.map (AV.int .i64) p0.loop))) (.bool c14) false rfl (wF _) rfl (fun hG => by have q0 := gN hG; subst q0; exact Light.quiet (opLoadR rfl aggA_27 rfl rfl)) ?_
  refine ASL.g (v := (.int .i64 (p0.loop.length : Int))) (.bool c14) false rfl (wF _) rfl (fun hG => by have q0 := gN hG; subst q0; exact Light.quiet (opLenMap (f := (AV.int .i64)) rfl rfl rfl lenT_27 rfl)) ?_
  refine ASL.g (v := (.bool (spec_l1In ((p0.loop.length : Int)) 1 40))) (.bool c14) false rfl (wF _) rfl (fun hG => by have q0 := gN hG; subst q0; exact (qCall rfl rfl call_41 (spec_l1In_ok ((p0.loop.length : Int)) 1 40) rfl)) ?_
  refine ASL.g (v := (.bool (!(spec_l1In ((p0.loop.length : Int)) 1 40)))) (.bool c14) false rfl (wF _) rfl (fun hG => by have q0 := gN hG; subst q0; exact Light.quiet (opNot rfl rfl)) ?_
  refine ASL.q (v := (.bool (c14 || (!(spec_l1In ((p0.loop.length : Int)) 1 40))))) rfl rfl (Light.quiet (opPick (b := c14) rfl rfl (by cases c14 <;> rfl))) ?_
  refine ASL.done ?_
  refine AWP.ifB hF rfl (fun hc1 hF => ?_) (fun hc1 hF => ?_)
  · skip
    refine AWP.seqR rfl ?_
    refine ASL.q (v := (.bool false)) rfl rfl (Light.quiet (opAssign rfl rfl)) ?_
    refine ASL.done ?_
    refine AWP.ret ?_
    refine QThen.rt ?_
    obtain rfl := someE hF
    exact QRet.sole (v := (.bool false)) ⟨rfl, trivial⟩ rfl
  · skip
    refine AWP.skip ?_
    refine QThen.nrm ?_
    refine AWP.seqR rfl ?_
    refine ASL.q (v := (.rptr [(.list 1 (List.map (AV.int .i64) p0.stem)), (.list 1 (List.map (AV.int .i64) p0.loop))])) rfl rfl (Light.quiet (opFieldAddrR rfl fieldA_29_0 rfl rfl)) ?_
    refine ASL.q (v := (.list 1 (List.map (AV.int .i64) p0.stem))) rfl rfl (Light.quiet (opLoadR rfl aggA_27 rfl rfl)) ?_
    refine ASL.q (v := (.int .i64 p1)) rfl rfl (Light.quiet (opMove rfl rfl)) ?_
    obtain ⟨a24, ha24, hF⟩ := bindE hF
    refine ASL.q (v := (.bool a24)) rfl rfl ((qCall rfl rfl call_45 (spec_l3Letters_ok ha24) rfl)) ?_
    refine ASL.q (v := (.bool a24)) rfl rfl (Light.quiet (opMove rfl rfl)) ?_
    refine ASL.g (v := (.rptr [(.list 1 (List.map (AV.int .i64) p0.loop))])) (.bool a24) true rfl (wT _) rfl (fun hG => by have q0 := hG; subst q0; exact Light.quiet (opFieldAddrR rfl fieldA_29_1 rfl rfl)) ?_
    refine ASL.g (v := (.list 1 (List.map (AV.int .i64) p0.loop))) (.bool a24) true rfl (wT _) rfl (fun hG => by have q0 := hG; subst q0; exact Light.quiet (opLoadR rfl aggA_27 rfl rfl)) ?_
    refine ASL.g (v := (.int .i64 p1)) (.bool a24) true rfl (wT _) rfl (fun hG => by have q0 := hG; subst q0; exact Light.quiet (opMove rfl rfl)) ?_
    obtain ⟨a29, ha29, hF⟩ := bindE hF
    refine ASL.g (v := (.bool a29)) (.bool a24) true rfl (wT _) rfl (fun hG => by have q0 := hG; subst q0; exact (qCall rfl rfl call_45 (spec_l3Letters_ok (whenE ha29)) rfl)) ?_
    refine ASL.q (v := (.bool (a24 && a29))) rfl rfl (Light.quiet (opPick (b := a24) rfl rfl (by cases a24 <;> rfl))) ?_
    refine ASL.q (v := (.bool (a24 && a29))) rfl rfl (Light.quiet (opAssign rfl rfl)) ?_
    refine ASL.done ?_
    refine AWP.ret ?_
    obtain rfl := someE hF
    exact QRet.sole (v := (.bool (a24 && a29))) ⟨rfl, trivial⟩ rfl

set_option maxRecDepth 10000 in
theorem spec_l3Right_ok {p0 : TWord} {r : Bool} (hF : spec_l3Right p0 = some r) : PC Try.prog 118 [(TWord.av p0)] fun v => v = (.bool r) := by
  refine PC.enter Try.func118 rfl Try.ntmps118 (by simp) ?_
  have hS := Sep.void; unfold spec_l3Right at hF
  refine AWP.seqR rfl ?_
  refine ASL.q (v := (.rptr [(.list 1 (List.map (AV.int .i64) p0.stem)), (.list 1 (List.map (AV.int .i64) p0.loop))])) rfl rfl ((qBoxI (v := (TWord.av p0)) rfl rfl rfl rfl)) ?_
  refine ASL.q (v := (.bool false)) rfl rfl (Light.quiet (opAssign rfl rfl)) ?_
  refine ASL.done ?_
  refine AWP.seqR rfl ?_
  refine ASL.q (v := (TWord.av p0)) rfl rfl (Light.quiet (opLoadRA rfl aggA_29 sizeA_29 rfl (nlt rfl) rfl)) ?_
  obtain ⟨a4, ha4, hF⟩ := bindE hF
  refine ASL.q (v := (.bool a4)) rfl rfl ((qCall rfl rfl call_11 (spec_WordOk_ok ha4) rfl)) ?_
  refine ASL.q (v := (.bool a4)) rfl rfl (Light.quiet (opAssign rfl rfl)) ?_
  refine ASL.done ?_
  refine AWP.ret ?_
  obtain rfl := someE hF
  exact QRet.sole (v := (.bool a4)) ⟨rfl, trivial⟩ rfl

set_option maxRecDepth 10000 in
theorem spec_l3Told_ok {p0 : TWord} {r : (TWord × Bool)} {vp0_Stem : AV} {vp0_Loop : AV} (hF : spec_l3Told p0 = some r) : HS Try.prog 119 [(.agg [vp0_Stem, vp0_Loop])] [.row 1 vp0_Stem (List.map (AV.int .i64) p0.stem), .row 1 vp0_Loop (List.map (AV.int .i64) p0.loop)] fun v L' => ∃ o0_Stem : AV, ∃ o0_Loop : AV, v = .tup [(.agg [o0_Stem, o0_Loop]), (.bool r.2)] ∧ L' = [.row 1 o0_Stem (List.map (AV.int .i64) r.1.stem), .row 1 o0_Loop (List.map (AV.int .i64) r.1.loop)] := by
  intro H S hS
  refine HC.enter Try.func119 rfl Try.ntmps119 (by simp) ?_
  simp only [List.cons_append, List.nil_append] at hS
  unfold spec_l3Told at hF
  refine AWP.seqR rfl ?_
  refine ASL.x rfl rfl (hBox hS rfl rfl rfl ?_); rintro b1 G3 hK hS
  have hS := hNil (s := 1) (f := (AV.int .i64)) hS
  have hS := hNil (s := 1) (f := (AV.int .i64)) hS
  refine ASL.x rfl rfl (hNewZ hS [.nil, .nil] rfl zeroA_29 ⟨.inl rfl, .inl rfl, trivial⟩ ?_); rintro b2 G5 hK hS
  refine ASL.q (v := (.bool false)) rfl rfl (Light.quiet (opAssign rfl rfl)) ?_
  refine ASL.done ?_
  refine AWP.seq ?_
  refine AWP.seqR rfl ?_
  refine ASL.q (v := (.agg [vp0_Stem, vp0_Loop])) rfl rfl (Light.quiet (kAtA hS (j := 3) rfl rfl aggA_29 sizeA_29 rfl (nlt rfl) rfl)) ?_
  obtain ⟨a5, ha5, hF⟩ := bindE hF
  refine ASL.q (v := (.bool a5)) rfl rfl ((qCallR hS rfl rfl call_118 (spec_l3Right_ok ha5) ⟨.aggL ⟨.row (k := 4) rfl, .row (k := 5) rfl, trivial⟩, trivial⟩ (by constructor))) ?_
  refine ASL.q (v := (.bool (!a5))) rfl rfl (Light.quiet (opNot rfl rfl)) ?_
  refine ASL.done ?_
  refine AWP.ifB hF rfl (fun hc9 hF => ?_) (fun hc9 hF => ?_)
  · skip
    refine AWP.seqR rfl ?_
    refine ASL.q (v := (.agg [.nil, .nil])) rfl rfl (Light.quiet (opBuildZ (zs := [.nil, .nil]) rfl plan_29 zeroA_29 ⟨.inl rfl, .inl rfl, trivial⟩ rfl)) ?_
    have hS := hNil (s := 1) (f := (AV.int .i64)) hS
    have hS := hNil (s := 1) (f := (AV.int .i64)) hS
    refine ASL.n rfl rfl (hPutA hS (j := 2) rfl rfl sizeA_29 rfl rfl rfl rfl (allC (hS.one (k := 1) rfl) (allC (hS.one (k := 0) rfl) rfl)) (nlt rfl) ?_); rintro G10 hS
    refine ASL.q (v := (.bool false)) rfl rfl (Light.quiet (opAssign rfl rfl)) ?_
    refine ASL.done ?_
    refine AWP.ret ?_
    refine QThen.rt ?_
    obtain rfl := someE hF
    exact QRet.many (vs := [(.agg [.nil, .nil]), (.bool false)]) ⟨resOne.at hS (k := 2) rfl rfl aggA_29 sizeA_29, rfl, trivial⟩ (by simp) ⟨_, ⟨.nil, .nil, rfl, rfl⟩, hS.pick [1, 0, 8] rfl rfl⟩
  · skip
    refine AWP.skip ?_
    refine QThen.nrm ?_
    refine AWP.seqR rfl ?_
    refine ASL.q (v := (.agg [vp0_Stem, vp0_Loop])) rfl rfl (Light.quiet (kAtA hS (j := 3) rfl rfl aggA_29 sizeA_29 rfl (nlt rfl) rfl)) ?_
    refine ASL.n rfl rfl (hPutA hS (j := 0) rfl rfl sizeA_29 rfl rfl rfl rfl (allC (hS.one (k := 4) rfl) (allC (hS.one (k := 5) rfl) rfl)) (nlt rfl) ?_); rintro G13 hS
    refine ASL.q (v := (.bool true)) rfl rfl (Light.quiet (opAssign rfl rfl)) ?_
    refine ASL.done ?_
    refine AWP.ret ?_
    obtain rfl := someE hF
    exact QRet.many (vs := [(.agg [vp0_Stem, vp0_Loop]), (.bool true)]) ⟨resOne.at hS (k := 0) rfl rfl aggA_29 sizeA_29, rfl, trivial⟩ (by simp) ⟨_, ⟨vp0_Stem, vp0_Loop, rfl, rfl⟩, hS.pick [4, 5, 6] rfl rfl⟩

set_option maxRecDepth 10000 in
theorem spec_WordPower_ok {p0 : TWord} {p1 : Int} {r : (TWord × Bool)} (hF : spec_WordPower p0 p1 = some r) : HS Try.prog 105 [(TWord.av p0), (.int .i64 p1)] [] fun v L' => ∃ o0_Stem : AV, ∃ o0_Loop : AV, v = .tup [(.agg [o0_Stem, o0_Loop]), (.bool r.2)] ∧ L' = [.row 1 o0_Stem (List.map (AV.int .i64) r.1.stem), .row 1 o0_Loop (List.map (AV.int .i64) r.1.loop)] := by
  intro H S hS
  refine HC.enter Try.func105 rfl Try.ntmps105 (by simp) ?_
  simp only [List.cons_append, List.nil_append] at hS
  unfold spec_WordPower at hF
  refine AWP.seqR rfl ?_
  refine ASL.q (v := (.rptr [(.list 1 (List.map (AV.int .i64) p0.stem)), (.list 1 (List.map (AV.int .i64) p0.loop))])) rfl rfl ((qBoxI (v := (TWord.av p0)) rfl rfl rfl rfl)) ?_
  have hS := hNil (s := 1) (f := (AV.int .i64)) hS
  have hS := hNil (s := 1) (f := (AV.int .i64)) hS
  refine ASL.x rfl rfl (hNewZ hS [.nil, .nil] rfl zeroA_29 ⟨.inl rfl, .inl rfl, trivial⟩ ?_); rintro b4 G1 hK hS
  refine ASL.q (v := (.bool false)) rfl rfl (Light.quiet (opAssign rfl rfl)) ?_
  refine ASL.done ?_
  refine AWP.seq ?_
  refine AWP.seqR rfl ?_
  refine ASL.q (v := (TWord.av p0)) rfl rfl (Light.quiet (opLoadRA rfl aggA_29 sizeA_29 rfl (nlt rfl) rfl)) ?_
  obtain ⟨a9, ha9, hF⟩ := bindE hF
  refine ASL.q (v := (.bool a9)) rfl rfl ((qCall rfl rfl call_118 (spec_l3Right_ok ha9) rfl)) ?_
  refine ASL.q (v := (.bool (!a9))) rfl rfl (Light.quiet (opNot rfl rfl)) ?_
  obtain ⟨c11, hc11, hF⟩ := bndE hF
  refine ASL.q (v := (.bool c11)) rfl rfl ((Quiet.cast (Light.quiet (opMove rfl rfl)) (congrArg AV.bool hc11.symm))) ?_
  refine ASL.g (v := (.int .i64 p1)) (.bool c11) false rfl (wF _) rfl (fun hG => by have q0 := gN hG; subst q0; exact Light.quiet (opMove rfl rfl)) ?_
  refine ASL.g (v := (.bool (spec_l1In p1 1 40))) (.bool c11) false rfl (wF _) rfl (fun hG => by have q0 := gN hG; subst q0; exact (qCall rfl rfl call_41 (spec_l1In_ok p1 1 40) rfl)) ?_
  refine ASL.g (v := (.bool (!(spec_l1In p1 1 40)))) (.bool c11) false rfl (wF _) rfl (fun hG => by have q0 := gN hG; subst q0; exact Light.quiet (opNot rfl rfl)) ?_
  refine ASL.q (v := (.bool (c11 || (!(spec_l1In p1 1 40))))) rfl rfl (Light.quiet (opPick (b := c11) rfl rfl (by cases c11 <;> rfl))) ?_
  refine ASL.done ?_
  refine AWP.ifB hF rfl (fun hc5 hF => ?_) (fun hc5 hF => ?_)
  · skip
    refine AWP.seqR rfl ?_
    refine ASL.q (v := (.agg [.nil, .nil])) rfl rfl (Light.quiet (opBuildZ (zs := [.nil, .nil]) rfl plan_29 zeroA_29 ⟨.inl rfl, .inl rfl, trivial⟩ rfl)) ?_
    have hS := hNil (s := 1) (f := (AV.int .i64)) hS
    have hS := hNil (s := 1) (f := (AV.int .i64)) hS
    refine ASL.n rfl rfl (hPutA hS (j := 2) rfl rfl sizeA_29 rfl rfl rfl rfl (allC (hS.one (k := 1) rfl) (allC (hS.one (k := 0) rfl) rfl)) (nlt rfl) ?_); rintro G6 hS
    refine ASL.q (v := (.bool false)) rfl rfl (Light.quiet (opAssign rfl rfl)) ?_
    refine ASL.done ?_
    refine AWP.ret ?_
    refine QThen.rt ?_
    obtain rfl := someE hF
    exact QRet.many (vs := [(.agg [.nil, .nil]), (.bool false)]) ⟨resOne.at hS (k := 2) rfl rfl aggA_29 sizeA_29, rfl, trivial⟩ (by simp) ⟨_, ⟨.nil, .nil, rfl, rfl⟩, hS.pick [1, 0, 5] rfl rfl⟩
  · skip
    refine AWP.skip ?_
    refine QThen.nrm ?_
    refine AWP.seqR rfl ?_
    refine ASL.x rfl rfl (hLit (f := (AV.int .i64)) (zs := []) hS rfl rfl elemA_27 sizeA_3 zeroA_3 rfl rfl rfl rfl (by simp [cells]) (nlt rfl) ?_); rintro v17 G9 hK hS
    refine ASL.q (v := (.rptr [(.list 1 (List.map (AV.int .i64) p0.stem)), (.list 1 (List.map (AV.int .i64) p0.loop))])) rfl rfl (Light.quiet (opFieldAddrR rfl fieldA_29_0 rfl rfl)) ?_
    refine ASL.q (v := (.list 1 (List.map (AV.int .i64) p0.stem))) rfl rfl (Light.quiet (opLoadR rfl aggA_27 rfl rfl)) ?_
    obtain ⟨z20, hz20, hF⟩ := bindE hF
    refine ASL.x rfl rfl (hApp (f := (AV.int .i64)) (ws := p0.stem) hS (j := 0) rfl hz20 rfl elemA_27 rfl sizeA_3 bytesA_3 zeroA_3 rfl rfl rfl (fun _ => rfl) ?_); rintro v20 G11 hS
    refine ASL.q (v := (.agg [v20, .nil])) rfl rfl (Light.quiet (opBuildZ (zs := [(.list 1 (List.map (AV.int .i64) [])), .nil]) rfl plan_29 zeroA_29 ⟨.inr ⟨_, rfl, rfl⟩, .inl rfl, trivial⟩ (putO (hS.one (k := 0) rfl) rfl rfl rfl))) ?_
    have hS := hNil (s := 1) (f := (AV.int .i64)) hS
    have hS := hNil (s := 1) (f := (AV.int .i64)) hS
    refine ASL.x rfl rfl (hNewZ hS [.nil, .nil] rfl zeroA_29 ⟨.inl rfl, .inl rfl, trivial⟩ ?_); rintro b6 G13 hK hS
    have hS := hNil (s := 1) (f := (AV.int .i64)) hS
    refine ASL.n rfl rfl (hPutA hS (j := 1) rfl rfl sizeA_29 rfl rfl rfl rfl (allC (hS.one (k := 4) rfl) (allC (hS.one (k := 0) rfl) rfl)) (nlt rfl) ?_); rintro G17 hS
    refine ASL.done ?_
    refine AWP.seqM (fun e H => ∃ y19 : (List Int), ∃ y22 : (List Int), ∃ w20 : AV, ∃ w23 : AV, E.Told e [(4, (.ptr b4 0)), (6, (.ptr b6 0))] ∧ E.Sep H [.row 1 .nil (List.map (AV.int .i64) ([])), .row 1 .nil (List.map (AV.int .i64) ([])), .cell b4 [.nil, .nil], .row 1 w20 (List.map (AV.int .i64) y19), .row 1 w23 (List.map (AV.int .i64) y22), .cell b6 [w20, w23], .snap S] ∧ spec_WordPower.k0 y19 y22 = some r) ?_ ?_
    · rintro e0 G31 ⟨y19, y22, w20, w23, hT, hS, hF⟩; refine AWP.only _ hT ?_; unfold spec_WordPower.k0 at hF
      refine AWP.seqR rfl ?_
      refine ASL.q (v := (.agg [w20, w23])) rfl rfl (Light.quiet (kAtA hS (j := 5) rfl rfl aggA_29 sizeA_29 rfl (nlt rfl) rfl)) ?_
      obtain ⟨a34, ha34, hF⟩ := bindE hF
      refine ASL.x rfl rfl (hCallS hS [3, 4, 0, 1, 2, 5, 6] (F := [.row 1 .nil (List.map (AV.int .i64) ([])), .row 1 .nil (List.map (AV.int .i64) ([])), .cell b4 [.nil, .nil], .cell b6 [w20, w23], .snap S]) rfl rfl rfl call_119 (spec_l3Told_ok ha34) rfl rfl ?_); rintro _ _ G29 ⟨w25, w27, rfl, rfl⟩ hS
      refine ASL.q (v := (.agg [w25, w27])) rfl rfl (Light.quiet (opExtract rfl rfl rfl)) ?_
      refine ASL.q (v := (.bool a34.2)) rfl rfl (Light.quiet (opExtract rfl rfl rfl)) ?_
      refine ASL.n rfl rfl (hPutA hS (j := 4) rfl rfl sizeA_29 rfl rfl rfl rfl (allC (hS.one (k := 0) rfl) (allC (hS.one (k := 1) rfl) rfl)) (nlt rfl) ?_); rintro G30 hS
      refine ASL.q (v := (.bool a34.2)) rfl rfl (Light.quiet (opAssign rfl rfl)) ?_
      refine ASL.done ?_
      refine AWP.ret ?_
      obtain rfl := someE hF
      exact QRet.many (vs := [(.agg [w25, w27]), (.bool a34.2)]) ⟨resOne.at hS (k := 4) rfl rfl aggA_29 sizeA_29, rfl, trivial⟩ (by simp) ⟨_, ⟨w25, w27, rfl, rfl⟩, hS.pick [0, 1, 6] rfl rfl⟩
    · skip
      refine AWP.seqR rfl ?_
      refine ASL.q (v := (.int .i64 0)) rfl rfl (Light.quiet (opAssign rfl rfl)) ?_
      refine ASL.done ?_
      refine AWP.block ?_
      obtain ⟨o41, hL40, hR42⟩ := bindE hF
      refine AWP.loopF (ω := (AV × AV)) hL40 (fun s w => [(1, (.int .i64 p1)), (2, (.rptr [(.list 1 (List.map (AV.int .i64) p0.stem)), (.list 1 (List.map (AV.int .i64) p0.loop))])), (4, (.ptr b4 0)), (6, (.ptr b6 0)), (7, (.int .i64 s.2.2))]) (fun s w => [.row 1 .nil (List.map (AV.int .i64) ([])), .row 1 .nil (List.map (AV.int .i64) ([])), .cell b4 [.nil, .nil], .row 1 w.1 (List.map (AV.int .i64) s.1), .row 1 w.2 (List.map (AV.int .i64) s.2.1), .cell b6 [w.1, w.2], .snap S]) (v20, .nil) ⟨rfl, rfl, rfl, rfl, rfl, trivial⟩ (hS.pick [7, 6, 5, 4, 0, 1, 8] rfl rfl) ?_
      rintro ⟨y32, y35, x7_l0⟩ ⟨w33, w36⟩ G43 hS x38 hF hx39
      try dsimp only at hS ⊢
      have hF : spec_WordPower.b0 p1 p0 y32 y35 x7_l0 = some x38 := hF; unfold spec_WordPower.b0 at hF
      refine AWP.seq ?_
      refine AWP.seqR rfl ?_
      refine ASL.q (v := (.int .i64 x7_l0)) rfl rfl (Light.quiet (opMove rfl rfl)) ?_
      refine ASL.q (v := (.int .i64 p1)) rfl rfl (Light.quiet (opMove rfl rfl)) ?_
      refine ASL.q (v := (.bool (decide (x7_l0 < p1)))) rfl rfl (Light.quiet (opInt rfl rfl rfl rfl)) ?_
      refine ASL.done ?_
      refine AWP.ifP hF rfl (fun hc44 hF => ?_) (fun hc44 hF => ?_)
      · skip
        refine AWP.skip ?_
        refine QThen.nrm ?_
        refine AWP.seq ?_
        refine AWP.block ?_
        refine AWP.lastR rfl ?_
        refine ASL.q (v := (.ptr b6 1)) rfl rfl (Light.quiet (opFieldAddr rfl fieldA_29_1 rfl rfl)) ?_
        refine ASL.q (v := w36) rfl rfl (Light.quiet (kAt hS (j := 5) rfl rfl aggA_27 rfl rfl)) ?_
        refine ASL.q (v := (.rptr [(.list 1 (List.map (AV.int .i64) p0.loop))])) rfl rfl (Light.quiet (opFieldAddrR rfl fieldA_29_1 rfl rfl)) ?_
        refine ASL.q (v := (.list 1 (List.map (AV.int .i64) p0.loop))) rfl rfl (Light.quiet (opLoadR rfl aggA_27 rfl rfl)) ?_
        obtain ⟨z31, hz31, hF⟩ := bindE hF
        refine ASL.x rfl rfl (hApp (f := (AV.int .i64)) (ws := p0.loop) hS (j := 4) rfl hz31 rfl elemA_27 rfl sizeA_3 bytesA_3 zeroA_3 rfl rfl rfl (fun _ => rfl) ?_); rintro v31 G45 hS
        refine ASL.q (v := (.ptr b6 1)) rfl rfl (Light.quiet (opFieldAddr rfl fieldA_29_1 rfl rfl)) ?_
        refine ASL.n rfl rfl (hPut hS (j := 5) rfl rfl sizeA_27 rfl rfl (hS.one (k := 4) rfl) (nlt rfl) ?_); rintro G47 hS
        refine ASL.done ?_
        refine QBlock.nrm ?_
        refine QThen.nrm ?_
        refine AWP.lastR rfl ?_
        refine ASL.q (v := (.int .i64 x7_l0)) rfl rfl (Light.quiet (opMove rfl rfl)) ?_
        refine ASL.q (v := (.int .i64 (W (x7_l0 + 1)))) rfl rfl (Light.quiet (opInt rfl rfl rfl rfl)) ?_
        refine ASL.q (v := (.int .i64 (W (x7_l0 + 1)))) rfl rfl (Light.quiet (opAssign rfl rfl)) ?_
        refine ASL.done ?_
        refine QThen.nrm ?_
        exact ⟨(y32, z31, (W (x7_l0 + 1))), (w33, v31), (someE hF).symm, ⟨rfl, rfl, rfl, rfl, rfl, trivial⟩, (hS.pick [0, 1, 2, 3, 4, 5, 6] rfl rfl)⟩
      · skip
        refine AWP.exit ?_
        refine QThen.ext ?_
        refine QThen.ext ?_
        refine QBlock.hit ?_
        obtain rfl := (hx39 _ (someE hF).symm)
        have hF := hR42
        refine QThen.nrm ?_
        exact ⟨y32, y35, w33, w36, ⟨rfl, rfl, trivial⟩, (hS.pick [0, 1, 2, 3, 4, 5, 6] rfl rfl), hF⟩

set_option maxRecDepth 10000 in
theorem spec_WordTurn_ok {p0 : TWord} {r : (TWord × Bool)} (hF : spec_WordTurn p0 = some r) : HS Try.prog 106 [(TWord.av p0)] [] fun v L' => ∃ o0_Stem : AV, ∃ o0_Loop : AV, v = .tup [(.agg [o0_Stem, o0_Loop]), (.bool r.2)] ∧ L' = [.row 1 o0_Stem (List.map (AV.int .i64) r.1.stem), .row 1 o0_Loop (List.map (AV.int .i64) r.1.loop)] := by
  intro H S hS
  refine HC.enter Try.func106 rfl Try.ntmps106 (by simp) ?_
  simp only [List.cons_append, List.nil_append] at hS
  unfold spec_WordTurn at hF
  refine AWP.seqR rfl ?_
  refine ASL.q (v := (.rptr [(.list 1 (List.map (AV.int .i64) p0.stem)), (.list 1 (List.map (AV.int .i64) p0.loop))])) rfl rfl ((qBoxI (v := (TWord.av p0)) rfl rfl rfl rfl)) ?_
  have hS := hNil (s := 1) (f := (AV.int .i64)) hS
  have hS := hNil (s := 1) (f := (AV.int .i64)) hS
  refine ASL.x rfl rfl (hNewZ hS [.nil, .nil] rfl zeroA_29 ⟨.inl rfl, .inl rfl, trivial⟩ ?_); rintro b2 G1 hK hS
  refine ASL.q (v := (.bool false)) rfl rfl (Light.quiet (opAssign rfl rfl)) ?_
  refine ASL.done ?_
  refine AWP.seq ?_
  refine AWP.seqR rfl ?_
  refine ASL.q (v := (TWord.av p0)) rfl rfl (Light.quiet (opLoadRA rfl aggA_29 sizeA_29 rfl (nlt rfl) rfl)) ?_
  obtain ⟨a5, ha5, hF⟩ := bindE hF
  refine ASL.q (v := (.bool a5)) rfl rfl ((qCall rfl rfl call_118 (spec_l3Right_ok ha5) rfl)) ?_
  refine ASL.q (v := (.bool (!a5))) rfl rfl (Light.quiet (opNot rfl rfl)) ?_
  refine ASL.done ?_
  refine AWP.ifB hF rfl (fun hc5 hF => ?_) (fun hc5 hF => ?_)
  · skip
    refine AWP.seqR rfl ?_
    refine ASL.q (v := (.agg [.nil, .nil])) rfl rfl (Light.quiet (opBuildZ (zs := [.nil, .nil]) rfl plan_29 zeroA_29 ⟨.inl rfl, .inl rfl, trivial⟩ rfl)) ?_
    have hS := hNil (s := 1) (f := (AV.int .i64)) hS
    have hS := hNil (s := 1) (f := (AV.int .i64)) hS
    refine ASL.n rfl rfl (hPutA hS (j := 2) rfl rfl sizeA_29 rfl rfl rfl rfl (allC (hS.one (k := 1) rfl) (allC (hS.one (k := 0) rfl) rfl)) (nlt rfl) ?_); rintro G6 hS
    refine ASL.q (v := (.bool false)) rfl rfl (Light.quiet (opAssign rfl rfl)) ?_
    refine ASL.done ?_
    refine AWP.ret ?_
    refine QThen.rt ?_
    obtain rfl := someE hF
    exact QRet.many (vs := [(.agg [.nil, .nil]), (.bool false)]) ⟨resOne.at hS (k := 2) rfl rfl aggA_29 sizeA_29, rfl, trivial⟩ (by simp) ⟨_, ⟨.nil, .nil, rfl, rfl⟩, hS.pick [1, 0, 5] rfl rfl⟩
  · skip
    refine AWP.skip ?_
    refine QThen.nrm ?_
    obtain ⟨a14, ha14, hF⟩ := bindE hF
    obtain ⟨a21, ha21, hF⟩ := bindE hF
    obtain ⟨a25, ha25, hF⟩ := bindE hF
    obtain ⟨z11, hz11, hF⟩ := bindE hF
    obtain ⟨z17, hz17, hF⟩ := bindE hF
    obtain ⟨z22, hz22, hF⟩ := bindE hF
    obtain ⟨z28, hz28, hF⟩ := bindE hF
    obtain ⟨a30, ha30, hF⟩ := bindE hF
    refine AWP.seqT (fun e H => ∃ w4609 : AV, ∃ w4611 : AV, E.Told e [(2, (.ptr b2 0)), (3, (.bool a30.2))] ∧ E.Sep H [.row 1 w4609 (List.map (AV.int .i64) a30.1.stem), .row 1 w4611 (List.map (AV.int .i64) a30.1.loop), .cell b2 [w4609, w4611], .row 1 .nil (List.map (AV.int .i64) ([])), .row 1 .nil (List.map (AV.int .i64) ([])), .snap S]) (.q 1 (.q 2 (.q 4 (.q 5 (.q 6 (.q 7 (.q 8 (.q 11 (.q 12 (.q 13 (.q 15 (.q 16 (.q 17 (.q 18 (.q 19 (.fork (.h 0 (.fork (.h 3 (.fork (.h 9 (.h 10 (.h 14 (.h 20 (.q 21 (.h 22 (.q 23 (.q 24 (.h 25 (.q 26 .fin)))))))))) (.h 10 (.h 9 (.h 14 (.h 20 (.q 21 (.h 22 (.q 23 (.q 24 (.h 25 (.q 26 .fin)))))))))))) (.h 10 (.h 3 (.h 9 (.h 14 (.h 20 (.q 21 (.h 22 (.q 23 (.q 24 (.h 25 (.q 26 .fin))))))))))))) (.h 10 (.h 0 (.h 3 (.h 9 (.h 14 (.h 20 (.q 21 (.h 22 (.q 23 (.q 24 (.h 25 (.q 26 .fin)))))))))))))))))))))))))))) mixed (by kernel_rfl) ?_ ?_
    · rintro e0 G5809 ⟨w4609, w4611, hT, hS⟩; refine AWP.only _ hT ?_
      refine AWP.ret ?_
      obtain rfl := someE hF
      exact QRet.many (vs := [(.agg [w4609, w4611]), (.bool a30.2)]) ⟨resOne.at hS (k := 2) rfl rfl aggA_29 sizeA_29, rfl, trivial⟩ (by simp) ⟨_, ⟨w4609, w4611, rfl, rfl⟩, hS.pick [0, 1, 5] rfl rfl⟩
    · skip
      refine ART.q0 rfl (v := (.rptr [(.list 1 (List.map (AV.int .i64) p0.stem)), (.list 1 (List.map (AV.int .i64) p0.loop))])) rfl rfl (Light.quiet (opFieldAddrR rfl fieldA_29_0 rfl rfl)) ?_
      refine ART.q0 rfl (v := (.list 1 (List.map (AV.int .i64) p0.stem))) rfl rfl (Light.quiet (opLoadR rfl aggA_27 rfl rfl)) ?_
      refine ART.q0 rfl (v := (.rptr [(.list 1 (List.map (AV.int .i64) p0.loop))])) rfl rfl (Light.quiet (opFieldAddrR rfl fieldA_29_1 rfl rfl)) ?_
      refine ART.q0 rfl (v := (.list 1 (List.map (AV.int .i64) p0.loop))) rfl rfl (Light.quiet (opLoadR rfl aggA_27 rfl rfl)) ?_
      refine ART.q0 rfl (v := (.rptr [(.int .i64 a14)])) rfl rfl (Light.quiet (kIx (f := (AV.int .i64)) ha14 rfl rfl rfl elemA_27 sizeA_3 rfl)) ?_
      refine ART.q0 rfl (v := (.int .i64 a14)) rfl rfl (Light.quiet (opLoadR rfl aggA_3 rfl rfl)) ?_
      refine ART.q0 rfl (v := (.list 1 (List.map (AV.int .i64) [a14]))) rfl rfl ((qLit (xs := [(.int .i64 a14)]) rfl elemA_27 sizeA_3 zeroA_3 rfl rfl rfl rfl (by simp [cells]) (nlt rfl))) ?_
      refine ART.q0 rfl (v := (.rptr [(.list 1 (List.map (AV.int .i64) p0.loop))])) rfl rfl (Light.quiet (opFieldAddrR rfl fieldA_29_1 rfl rfl)) ?_
      refine ART.q0 rfl (v := (.list 1 (List.map (AV.int .i64) p0.loop))) rfl rfl (Light.quiet (opLoadR rfl aggA_27 rfl rfl)) ?_
      refine ART.q0 rfl (v := (.list 1 (List.map (AV.int .i64) a21))) rfl rfl (Light.quiet (opCutL (f := (AV.int .i64)) ha21 rfl elemA_27 sizeA_3 rfl (.inr ⟨_, _, rfl, rfl⟩) (.inl ⟨rfl, rfl, rfl⟩))) ?_
      refine ART.q0 rfl (v := (.rptr [(.list 1 (List.map (AV.int .i64) p0.loop))])) rfl rfl (Light.quiet (opFieldAddrR rfl fieldA_29_1 rfl rfl)) ?_
      refine ART.q0 rfl (v := (.list 1 (List.map (AV.int .i64) p0.loop))) rfl rfl (Light.quiet (opLoadR rfl aggA_27 rfl rfl)) ?_
      refine ART.q0 rfl (v := (.rptr [(.int .i64 a25)])) rfl rfl (Light.quiet (kIx (f := (AV.int .i64)) ha25 rfl rfl rfl elemA_27 sizeA_3 rfl)) ?_
      refine ART.q0 rfl (v := (.int .i64 a25)) rfl rfl (Light.quiet (opLoadR rfl aggA_3 rfl rfl)) ?_
      refine ART.q0 rfl (v := (.list 1 (List.map (AV.int .i64) [a25]))) rfl rfl ((qLit (xs := [(.int .i64 a25)]) rfl elemA_27 sizeA_3 zeroA_3 rfl rfl rfl rfl (by simp [cells]) (nlt rfl))) ?_
      refine ART.fork ?_ ?_
      · skip
        refine ART.x rfl rfl rfl rfl (hLit (f := (AV.int .i64)) (zs := []) hS rfl rfl elemA_27 sizeA_3 zeroA_3 rfl rfl rfl rfl (by simp [cells]) (nlt rfl) ?_); rintro v8 G209 hK hS; refine ⟨hK, ?_⟩
        refine ART.fork ?_ ?_
        · skip
          refine ART.y rfl rfl rfl rfl rfl (hApp (f := (AV.int .i64)) (ws := p0.stem) hS (j := 0) rfl hz11 rfl elemA_27 rfl sizeA_3 bytesA_3 zeroA_3 rfl rfl rfl (fun _ => rfl) ?_); rintro v11 G809 hS
          refine ART.fork ?_ ?_
          · skip
            refine ART.y rfl rfl rfl rfl rfl (hApp (f := (AV.int .i64)) (ws := [a14]) hS (j := 0) rfl hz17 rfl elemA_27 rfl sizeA_3 bytesA_3 zeroA_3 rfl rfl rfl (fun _ => rfl) ?_); rintro v17 G2009 hS
            refine ART.x rfl rfl rfl rfl (hLit (f := (AV.int .i64)) (zs := []) hS rfl rfl elemA_27 sizeA_3 zeroA_3 rfl rfl rfl rfl (by simp [cells]) (nlt rfl) ?_); rintro v18 G2209 hK hS; refine ⟨hK, ?_⟩
            refine ART.y rfl rfl rfl rfl rfl (hApp (f := (AV.int .i64)) (ws := a21) hS (j := 0) rfl hz22 rfl elemA_27 rfl sizeA_3 bytesA_3 zeroA_3 rfl rfl rfl (fun _ => rfl) ?_); rintro v22 G3009 hS
            refine ART.y rfl rfl rfl rfl rfl (hApp (f := (AV.int .i64)) (ws := [a25]) hS (j := 0) rfl hz28 rfl elemA_27 rfl sizeA_3 bytesA_3 zeroA_3 rfl rfl rfl (fun _ => rfl) ?_); rintro v28 G4209 hS
            refine ART.q0 rfl (v := (.agg [v17, v28])) rfl rfl (Light.quiet (opBuildZ (zs := [(.list 1 (List.map (AV.int .i64) [])), (.list 1 (List.map (AV.int .i64) []))]) rfl plan_29 zeroA_29 ⟨.inr ⟨_, rfl, rfl⟩, .inr ⟨_, rfl, rfl⟩, trivial⟩ (putO (hS.one (k := 1) rfl) rfl rfl (putO (hS.one (k := 0) rfl) rfl rfl rfl)))) ?_
            refine ART.y rfl rfl rfl rfl rfl (hCallS hS [1, 0, 2, 3, 4, 5] (F := [.cell b2 [.nil, .nil], .row 1 .nil (List.map (AV.int .i64) ([])), .row 1 .nil (List.map (AV.int .i64) ([])), .snap S]) rfl rfl rfl call_119 (spec_l3Told_ok ha30) rfl rfl ?_); rintro _ _ G4613 ⟨w4609, w4611, rfl, rfl⟩ hS
            refine ART.q0 rfl (v := (.agg [w4609, w4611])) rfl rfl (Light.quiet (opExtract rfl rfl rfl)) ?_
            refine ART.q0 rfl (v := (.bool a30.2)) rfl rfl (Light.quiet (opExtract rfl rfl rfl)) ?_
            refine ART.n rfl rfl rfl rfl rfl (hPutA hS (j := 2) rfl rfl sizeA_29 rfl rfl rfl rfl (allC (hS.one (k := 0) rfl) (allC (hS.one (k := 1) rfl) rfl)) (nlt rfl) ?_); rintro G5209 hS
            refine ART.q0 rfl (v := (.bool a30.2)) rfl rfl (Light.quiet (opAssign rfl rfl)) ?_
            refine ART.done ?_
            exact ⟨w4609, w4611, ⟨rfl, rfl, trivial⟩, hS.pick [0, 1, 2, 3, 4, 5] rfl rfl⟩
          · skip
            refine ART.x rfl rfl rfl rfl (hLit (f := (AV.int .i64)) (zs := []) hS rfl rfl elemA_27 sizeA_3 zeroA_3 rfl rfl rfl rfl (by simp [cells]) (nlt rfl) ?_); rintro v18 G2209 hK hS; refine ⟨hK, ?_⟩
            refine ART.y rfl rfl rfl rfl rfl (hApp (f := (AV.int .i64)) (ws := [a14]) hS (j := 1) rfl hz17 rfl elemA_27 rfl sizeA_3 bytesA_3 zeroA_3 rfl rfl rfl (fun _ => rfl) ?_); rintro v17 G2009 hS
            refine ART.y rfl rfl rfl rfl rfl (hApp (f := (AV.int .i64)) (ws := a21) hS (j := 0) rfl hz22 rfl elemA_27 rfl sizeA_3 bytesA_3 zeroA_3 rfl rfl rfl (fun _ => rfl) ?_); rintro v22 G3009 hS
            refine ART.y rfl rfl rfl rfl rfl (hApp (f := (AV.int .i64)) (ws := [a25]) hS (j := 0) rfl hz28 rfl elemA_27 rfl sizeA_3 bytesA_3 zeroA_3 rfl rfl rfl (fun _ => rfl) ?_); rintro v28 G4209 hS
            refine ART.q0 rfl (v := (.agg [v17, v28])) rfl rfl (Light.quiet (opBuildZ (zs := [(.list 1 (List.map (AV.int .i64) [])), (.list 1 (List.map (AV.int .i64) []))]) rfl plan_29 zeroA_29 ⟨.inr ⟨_, rfl, rfl⟩, .inr ⟨_, rfl, rfl⟩, trivial⟩ (putO (hS.one (k := 1) rfl) rfl rfl (putO (hS.one (k := 0) rfl) rfl rfl rfl)))) ?_
            refine ART.y rfl rfl rfl rfl rfl (hCallS hS [1, 0, 2, 3, 4, 5] (F := [.cell b2 [.nil, .nil], .row 1 .nil (List.map (AV.int .i64) ([])), .row 1 .nil (List.map (AV.int .i64) ([])), .snap S]) rfl rfl rfl call_119 (spec_l3Told_ok ha30) rfl rfl ?_); rintro _ _ G4613 ⟨w4609, w4611, rfl, rfl⟩ hS
            refine ART.q0 rfl (v := (.agg [w4609, w4611])) rfl rfl (Light.quiet (opExtract rfl rfl rfl)) ?_
            refine ART.q0 rfl (v := (.bool a30.2)) rfl rfl (Light.quiet (opExtract rfl rfl rfl)) ?_
            refine ART.n rfl rfl rfl rfl rfl (hPutA hS (j := 2) rfl rfl sizeA_29 rfl rfl rfl rfl (allC (hS.one (k := 0) rfl) (allC (hS.one (k := 1) rfl) rfl)) (nlt rfl) ?_); rintro G5209 hS
            refine ART.q0 rfl (v := (.bool a30.2)) rfl rfl (Light.quiet (opAssign rfl rfl)) ?_
            refine ART.done ?_
            exact ⟨w4609, w4611, ⟨rfl, rfl, trivial⟩, hS.pick [0, 1, 2, 3, 4, 5] rfl rfl⟩
        · skip
          refine ART.x rfl rfl rfl rfl (hLit (f := (AV.int .i64)) (zs := []) hS rfl rfl elemA_27 sizeA_3 zeroA_3 rfl rfl rfl rfl (by simp [cells]) (nlt rfl) ?_); rintro v18 G2209 hK hS; refine ⟨hK, ?_⟩
          refine ART.y rfl rfl rfl rfl rfl (hApp (f := (AV.int .i64)) (ws := p0.stem) hS (j := 1) rfl hz11 rfl elemA_27 rfl sizeA_3 bytesA_3 zeroA_3 rfl rfl rfl (fun _ => rfl) ?_); rintro v11 G809 hS
          refine ART.y rfl rfl rfl rfl rfl (hApp (f := (AV.int .i64)) (ws := [a14]) hS (j := 1) rfl hz17 rfl elemA_27 rfl sizeA_3 bytesA_3 zeroA_3 rfl rfl rfl (fun _ => rfl) ?_); rintro v17 G2009 hS
          refine ART.y rfl rfl rfl rfl rfl (hApp (f := (AV.int .i64)) (ws := a21) hS (j := 0) rfl hz22 rfl elemA_27 rfl sizeA_3 bytesA_3 zeroA_3 rfl rfl rfl (fun _ => rfl) ?_); rintro v22 G3009 hS
          refine ART.y rfl rfl rfl rfl rfl (hApp (f := (AV.int .i64)) (ws := [a25]) hS (j := 0) rfl hz28 rfl elemA_27 rfl sizeA_3 bytesA_3 zeroA_3 rfl rfl rfl (fun _ => rfl) ?_); rintro v28 G4209 hS
          refine ART.q0 rfl (v := (.agg [v17, v28])) rfl rfl (Light.quiet (opBuildZ (zs := [(.list 1 (List.map (AV.int .i64) [])), (.list 1 (List.map (AV.int .i64) []))]) rfl plan_29 zeroA_29 ⟨.inr ⟨_, rfl, rfl⟩, .inr ⟨_, rfl, rfl⟩, trivial⟩ (putO (hS.one (k := 1) rfl) rfl rfl (putO (hS.one (k := 0) rfl) rfl rfl rfl)))) ?_
          refine ART.y rfl rfl rfl rfl rfl (hCallS hS [1, 0, 2, 3, 4, 5] (F := [.cell b2 [.nil, .nil], .row 1 .nil (List.map (AV.int .i64) ([])), .row 1 .nil (List.map (AV.int .i64) ([])), .snap S]) rfl rfl rfl call_119 (spec_l3Told_ok ha30) rfl rfl ?_); rintro _ _ G4613 ⟨w4609, w4611, rfl, rfl⟩ hS
          refine ART.q0 rfl (v := (.agg [w4609, w4611])) rfl rfl (Light.quiet (opExtract rfl rfl rfl)) ?_
          refine ART.q0 rfl (v := (.bool a30.2)) rfl rfl (Light.quiet (opExtract rfl rfl rfl)) ?_
          refine ART.n rfl rfl rfl rfl rfl (hPutA hS (j := 2) rfl rfl sizeA_29 rfl rfl rfl rfl (allC (hS.one (k := 0) rfl) (allC (hS.one (k := 1) rfl) rfl)) (nlt rfl) ?_); rintro G5209 hS
          refine ART.q0 rfl (v := (.bool a30.2)) rfl rfl (Light.quiet (opAssign rfl rfl)) ?_
          refine ART.done ?_
          exact ⟨w4609, w4611, ⟨rfl, rfl, trivial⟩, hS.pick [0, 1, 2, 3, 4, 5] rfl rfl⟩
      · skip
        refine ART.x rfl rfl rfl rfl (hLit (f := (AV.int .i64)) (zs := []) hS rfl rfl elemA_27 sizeA_3 zeroA_3 rfl rfl rfl rfl (by simp [cells]) (nlt rfl) ?_); rintro v18 G2209 hK hS; refine ⟨hK, ?_⟩
        refine ART.x rfl rfl rfl rfl (hLit (f := (AV.int .i64)) (zs := []) hS rfl rfl elemA_27 sizeA_3 zeroA_3 rfl rfl rfl rfl (by simp [cells]) (nlt rfl) ?_); rintro v8 G209 hK hS; refine ⟨hK, ?_⟩
        refine ART.y rfl rfl rfl rfl rfl (hApp (f := (AV.int .i64)) (ws := p0.stem) hS (j := 0) rfl hz11 rfl elemA_27 rfl sizeA_3 bytesA_3 zeroA_3 rfl rfl rfl (fun _ => rfl) ?_); rintro v11 G809 hS
        refine ART.y rfl rfl rfl rfl rfl (hApp (f := (AV.int .i64)) (ws := [a14]) hS (j := 0) rfl hz17 rfl elemA_27 rfl sizeA_3 bytesA_3 zeroA_3 rfl rfl rfl (fun _ => rfl) ?_); rintro v17 G2009 hS
        refine ART.y rfl rfl rfl rfl rfl (hApp (f := (AV.int .i64)) (ws := a21) hS (j := 1) rfl hz22 rfl elemA_27 rfl sizeA_3 bytesA_3 zeroA_3 rfl rfl rfl (fun _ => rfl) ?_); rintro v22 G3009 hS
        refine ART.y rfl rfl rfl rfl rfl (hApp (f := (AV.int .i64)) (ws := [a25]) hS (j := 1) rfl hz28 rfl elemA_27 rfl sizeA_3 bytesA_3 zeroA_3 rfl rfl rfl (fun _ => rfl) ?_); rintro v28 G4209 hS
        refine ART.q0 rfl (v := (.agg [v17, v28])) rfl rfl (Light.quiet (opBuildZ (zs := [(.list 1 (List.map (AV.int .i64) [])), (.list 1 (List.map (AV.int .i64) []))]) rfl plan_29 zeroA_29 ⟨.inr ⟨_, rfl, rfl⟩, .inr ⟨_, rfl, rfl⟩, trivial⟩ (putO (hS.one (k := 0) rfl) rfl rfl (putO (hS.one (k := 1) rfl) rfl rfl rfl)))) ?_
        refine ART.y rfl rfl rfl rfl rfl (hCallS hS [0, 1, 2, 3, 4, 5] (F := [.cell b2 [.nil, .nil], .row 1 .nil (List.map (AV.int .i64) ([])), .row 1 .nil (List.map (AV.int .i64) ([])), .snap S]) rfl rfl rfl call_119 (spec_l3Told_ok ha30) rfl rfl ?_); rintro _ _ G4613 ⟨w4609, w4611, rfl, rfl⟩ hS
        refine ART.q0 rfl (v := (.agg [w4609, w4611])) rfl rfl (Light.quiet (opExtract rfl rfl rfl)) ?_
        refine ART.q0 rfl (v := (.bool a30.2)) rfl rfl (Light.quiet (opExtract rfl rfl rfl)) ?_
        refine ART.n rfl rfl rfl rfl rfl (hPutA hS (j := 2) rfl rfl sizeA_29 rfl rfl rfl rfl (allC (hS.one (k := 0) rfl) (allC (hS.one (k := 1) rfl) rfl)) (nlt rfl) ?_); rintro G5209 hS
        refine ART.q0 rfl (v := (.bool a30.2)) rfl rfl (Light.quiet (opAssign rfl rfl)) ?_
        refine ART.done ?_
        exact ⟨w4609, w4611, ⟨rfl, rfl, trivial⟩, hS.pick [0, 1, 2, 3, 4, 5] rfl rfl⟩

set_option maxRecDepth 10000 in
theorem spec_l3DrawRight_ok {p0 : Tl1Cur} {p1 : Int} {r : (TWord × Tl1Cur)} {bp0 : Nat} (hF : spec_l3DrawRight p0 p1 = some r) : HS Try.prog 82 [(.ptr bp0 0), (.int .i64 p1)] [.cell bp0 [(.list 1 (List.map (AV.int .u8) p0.b)), (.int .i64 p0.i), (.int .i64 p0.h)]] fun v L' => ∃ o0_Stem : AV, ∃ o0_Loop : AV, v = (.agg [o0_Stem, o0_Loop]) ∧ L' = [.row 1 o0_Stem (List.map (AV.int .i64) r.1.stem), .row 1 o0_Loop (List.map (AV.int .i64) r.1.loop), .cell bp0 [(.list 1 (List.map (AV.int .u8) r.2.b)), (.int .i64 r.2.i), (.int .i64 r.2.h)]] := by
  intro H S hS
  refine HC.enter Try.func82 rfl Try.ntmps82 (by simp) ?_
  simp only [List.cons_append, List.nil_append] at hS
  unfold spec_l3DrawRight at hF
  refine AWP.seqR rfl ?_
  have hS := hNil (s := 1) (f := (AV.int .i64)) hS
  have hS := hNil (s := 1) (f := (AV.int .i64)) hS
  refine ASL.x rfl rfl (hNewZ hS [.nil, .nil] rfl zeroA_29 ⟨.inl rfl, .inl rfl, trivial⟩ ?_); rintro b4 G2 hK hS
  refine ASL.done ?_
  refine AWP.seqR rfl ?_
  refine ASL.q (v := (.ptr bp0 0)) rfl rfl (Light.quiet (opMove rfl rfl)) ?_
  refine ASL.q (v := (.int .i64 p1)) rfl rfl (Light.quiet (opMove rfl rfl)) ?_
  obtain ⟨a8, ha8, hF⟩ := bindE hF
  refine ASL.x rfl rfl (hCallS hS [3, 0, 1, 2, 4] (F := [.cell b4 [.nil, .nil], .row 1 .nil (List.map (AV.int .i64) ([])), .row 1 .nil (List.map (AV.int .i64) ([])), .snap S]) rfl rfl rfl call_62 (spec_l3DrawLetters_ok ha8) rfl rfl ?_); rintro w6 _ G8 ⟨_, rfl, rfl⟩ hS
  refine ASL.q (v := (.ptr bp0 0)) rfl rfl (Light.quiet (opMove rfl rfl)) ?_
  refine ASL.q (v := (.int .i64 p1)) rfl rfl (Light.quiet (opMove rfl rfl)) ?_
  obtain ⟨a11, ha11, hF⟩ := bindE hF
  refine ASL.x rfl rfl (hCallS hS [1, 0, 2, 3, 4, 5] (F := [.row 1 w6 (List.map (AV.int .i64) a8.1), .cell b4 [.nil, .nil], .row 1 .nil (List.map (AV.int .i64) ([])), .row 1 .nil (List.map (AV.int .i64) ([])), .snap S]) rfl rfl rfl call_62 (spec_l3DrawLetters_ok ha11) rfl rfl ?_); rintro w9 _ G11 ⟨_, rfl, rfl⟩ hS
  refine ASL.q (v := (.ptr bp0 0)) rfl rfl (Light.quiet (opMove rfl rfl)) ?_
  refine ASL.q (v := (.int .i64 p1)) rfl rfl (Light.quiet (opMove rfl rfl)) ?_
  obtain ⟨a14, ha14, hF⟩ := bindE hF
  refine ASL.x rfl rfl (hCallS hS [1, 0, 2, 3, 4, 5, 6] (F := [.row 1 w9 (List.map (AV.int .i64) a11.1), .row 1 w6 (List.map (AV.int .i64) a8.1), .cell b4 [.nil, .nil], .row 1 .nil (List.map (AV.int .i64) ([])), .row 1 .nil (List.map (AV.int .i64) ([])), .snap S]) rfl rfl rfl call_55 (spec_l1Below_ok ha14) rfl rfl ?_); rintro _ _ G12 ⟨rfl, rfl⟩ hS
  refine ASL.q (v := (.list 1 (List.map (AV.int .i64) [a14.1]))) rfl rfl ((qLit (xs := [(.int .i64 a14.1)]) rfl elemA_27 sizeA_3 zeroA_3 rfl rfl rfl rfl (by simp [cells]) (nlt rfl))) ?_
  obtain ⟨z16, hz16, hF⟩ := bindE hF
  refine ASL.x rfl rfl (hApp (f := (AV.int .i64)) (ws := [a14.1]) hS (j := 1) rfl hz16 rfl elemA_27 rfl sizeA_3 bytesA_3 zeroA_3 rfl rfl rfl (fun _ => rfl) ?_); rintro v16 G13 hS
  refine ASL.q (v := (.agg [w6, v16])) rfl rfl (Light.quiet (opBuildZ (zs := [(.list 1 (List.map (AV.int .i64) [])), (.list 1 (List.map (AV.int .i64) []))]) rfl plan_29 zeroA_29 ⟨.inr ⟨_, rfl, rfl⟩, .inr ⟨_, rfl, rfl⟩, trivial⟩ (putO (hS.one (k := 2) rfl) rfl rfl (putO (hS.one (k := 1) rfl) rfl rfl rfl)))) ?_
  have hS := hNil (s := 1) (f := (AV.int .i64)) hS
  have hS := hNil (s := 1) (f := (AV.int .i64)) hS
  refine ASL.x rfl rfl (hNewZ hS [.nil, .nil] rfl zeroA_29 ⟨.inl rfl, .inl rfl, trivial⟩ ?_); rintro b5 G15 hK hS
  refine ASL.n rfl rfl (hPutA hS (j := 0) rfl rfl sizeA_29 rfl rfl rfl rfl (allC (hS.one (k := 5) rfl) (allC (hS.one (k := 4) rfl) rfl)) (nlt rfl) ?_); rintro G19 hS
  refine ASL.done ?_
  refine AWP.seqM (fun e H => ∃ y20 : (List Int), ∃ y21 : Int, ∃ y22 : Int, ∃ y23 : (List Int), ∃ y26 : (List Int), ∃ w24 : AV, ∃ w27 : AV, E.Told e [(0, (.ptr bp0 0)), (4, (.ptr b4 0)), (5, (.ptr b5 0))] ∧ E.Sep H [.cell bp0 [(.list 1 (List.map (AV.int .u8) y20)), (.int .i64 y21), (.int .i64 y22)], .row 1 .nil (List.map (AV.int .i64) ([])), .row 1 .nil (List.map (AV.int .i64) ([])), .cell b4 [.nil, .nil], .row 1 w24 (List.map (AV.int .i64) y23), .row 1 w27 (List.map (AV.int .i64) y26), .cell b5 [w24, w27], .snap S] ∧ spec_l3DrawRight.k0 y20 y21 y22 y23 y26 = some r) ?_ ?_
  · rintro e0 G39 ⟨y20, y21, y22, y23, y26, w24, w27, hT, hS, hF⟩; refine AWP.only _ hT ?_; unfold spec_l3DrawRight.k0 at hF
    refine AWP.seq ?_
    refine AWP.seqR rfl ?_
    refine ASL.q (v := (.ptr bp0 0)) rfl rfl (Light.quiet (opMove rfl rfl)) ?_
    obtain ⟨a26, ha26, hF⟩ := bindE hF
    refine ASL.x rfl rfl (hCallS hS [0, 1, 2, 3, 4, 5, 6, 7] (F := [.row 1 .nil (List.map (AV.int .i64) ([])), .row 1 .nil (List.map (AV.int .i64) ([])), .cell b4 [.nil, .nil], .row 1 w24 (List.map (AV.int .i64) y23), .row 1 w27 (List.map (AV.int .i64) y26), .cell b5 [w24, w27], .snap S]) rfl rfl rfl call_61 (spec_l1Once_ok ha26) rfl rfl ?_); rintro _ _ G29 ⟨rfl, rfl⟩ hS
    refine ASL.done ?_
    refine AWP.ifB hF rfl (fun hc30 hF => ?_) (fun hc30 hF => ?_)
    · skip
      refine AWP.lastR rfl ?_
      refine ASL.q (v := (.agg [w24, w27])) rfl rfl (Light.quiet (kAtA hS (j := 6) rfl rfl aggA_29 sizeA_29 rfl (nlt rfl) rfl)) ?_
      obtain ⟨a29, ha29, hF⟩ := bindE hF
      refine ASL.x rfl rfl (hCallSR hS rfl rfl call_106 (spec_WordTurn_ok ha29) ⟨.aggL ⟨.row (k := 4) rfl, .row (k := 5) rfl, trivial⟩, trivial⟩ (by rintro _ _ G ⟨w31, w33, rfl, rfl⟩ hG; exact ⟨(Scal.tup (ScalC.cons (Scal.agg (ScalC.cons (hG.scR (k := 0) rfl) (ScalC.cons (hG.scR (k := 1) rfl) ScalC.nil))) (ScalC.cons (by constructor) ScalC.nil))), ⟨(Scal.ints _ _), (Scal.ints _ _), trivial⟩⟩) ?_); rintro _ _ G35 ⟨w31, w33, rfl, rfl⟩ hK hS
      refine ASL.q (v := (.tup [(.agg [w31, w33]), (.bool a29.2)])) rfl rfl (Light.quiet (opMove rfl rfl)) ?_
      refine ASL.q (v := (.agg [w31, w33])) rfl rfl (Light.quiet (opExtract rfl rfl rfl)) ?_
      refine ASL.q (v := (.bool a29.2)) rfl rfl (Light.quiet (opExtract rfl rfl rfl)) ?_
      refine ASL.n rfl rfl (hPutA hS (j := 8) rfl rfl sizeA_29 rfl rfl rfl rfl (allC (hS.one (k := 0) rfl) (allC (hS.one (k := 1) rfl) rfl)) (nlt rfl) ?_); rintro G36 hS
      refine ASL.done ?_
      refine QThen.nrm ?_
      refine AWP.seqR rfl ?_
      refine ASL.q (v := (.agg [w31, w33])) rfl rfl (Light.quiet (kAtA hS (j := 8) rfl rfl aggA_29 sizeA_29 rfl (nlt rfl) rfl)) ?_
      refine ASL.n rfl rfl (hPutA hS (j := 5) rfl rfl sizeA_29 rfl rfl rfl rfl (allC (hS.one (k := 0) rfl) (allC (hS.one (k := 1) rfl) rfl)) (nlt rfl) ?_); rintro G37 hS
      refine ASL.done ?_
      refine AWP.ret ?_
      obtain rfl := someE hF
      exact QRet.sole (v := (.agg [w31, w33])) ⟨resOne.at hS (k := 5) rfl rfl aggA_29 sizeA_29, trivial⟩ ⟨_, ⟨w31, w33, rfl, rfl⟩, hS.pick [0, 1, 2, 9] rfl rfl⟩
    · skip
      refine AWP.skip ?_
      refine QThen.nrm ?_
      refine AWP.seqR rfl ?_
      refine ASL.q (v := (.agg [w24, w27])) rfl rfl (Light.quiet (kAtA hS (j := 6) rfl rfl aggA_29 sizeA_29 rfl (nlt rfl) rfl)) ?_
      refine ASL.n rfl rfl (hPutA hS (j := 3) rfl rfl sizeA_29 rfl rfl rfl rfl (allC (hS.one (k := 4) rfl) (allC (hS.one (k := 5) rfl) rfl)) (nlt rfl) ?_); rintro G38 hS
      refine ASL.done ?_
      refine AWP.ret ?_
      obtain rfl := someE hF
      exact QRet.sole (v := (.agg [w24, w27])) ⟨resOne.at hS (k := 3) rfl rfl aggA_29 sizeA_29, trivial⟩ ⟨_, ⟨w24, w27, rfl, rfl⟩, hS.pick [4, 5, 0, 7] rfl rfl⟩
  · skip
    refine AWP.seqR rfl ?_
    refine ASL.q (v := (.ptr bp0 0)) rfl rfl (Light.quiet (opMove rfl rfl)) ?_
    obtain ⟨a19, ha19, hF⟩ := bindE hF
    refine ASL.x rfl rfl (hCallS hS [3, 0, 1, 2, 4, 5, 6, 7, 8, 9] (F := [.cell b5 [w6, v16], .row 1 .nil (List.map (AV.int .i64) ([])), .row 1 .nil (List.map (AV.int .i64) ([])), .row 1 v16 (List.map (AV.int .i64) z16), .row 1 w6 (List.map (AV.int .i64) a8.1), .cell b4 [.nil, .nil], .row 1 .nil (List.map (AV.int .i64) ([])), .row 1 .nil (List.map (AV.int .i64) ([])), .snap S]) rfl rfl rfl call_61 (spec_l1Once_ok ha19) rfl rfl ?_); rintro _ _ G40 ⟨rfl, rfl⟩ hS
    refine ASL.done ?_
    refine AWP.ifB hF rfl (fun hc41 hF => ?_) (fun hc41 hF => ?_)
    · skip
      refine AWP.lastR rfl ?_
      refine ASL.q (v := (.agg [w6, v16])) rfl rfl (Light.quiet (kAtA hS (j := 1) rfl rfl aggA_29 sizeA_29 rfl (nlt rfl) rfl)) ?_
      obtain ⟨a22, ha22, hF⟩ := bindE hF
      refine ASL.x rfl rfl (hCallSR hS rfl rfl call_105 (spec_WordPower_ok ha22) ⟨.aggL ⟨.row (k := 5) rfl, .row (k := 4) rfl, trivial⟩, .same _, trivial⟩ (by rintro _ _ G ⟨w42, w44, rfl, rfl⟩ hG; exact ⟨(Scal.tup (ScalC.cons (Scal.agg (ScalC.cons (hG.scR (k := 0) rfl) (ScalC.cons (hG.scR (k := 1) rfl) ScalC.nil))) (ScalC.cons (by constructor) ScalC.nil))), ⟨(Scal.ints _ _), (Scal.ints _ _), trivial⟩⟩) ?_); rintro _ _ G46 ⟨w42, w44, rfl, rfl⟩ hK hS
      refine ASL.q (v := (.tup [(.agg [w42, w44]), (.bool a22.2)])) rfl rfl (Light.quiet (opMove rfl rfl)) ?_
      refine ASL.q (v := (.agg [w42, w44])) rfl rfl (Light.quiet (opExtract rfl rfl rfl)) ?_
      refine ASL.q (v := (.bool a22.2)) rfl rfl (Light.quiet (opExtract rfl rfl rfl)) ?_
      refine ASL.n rfl rfl (hPutA hS (j := 3) rfl rfl sizeA_29 rfl rfl rfl rfl (allC (hS.one (k := 0) rfl) (allC (hS.one (k := 1) rfl) rfl)) (nlt rfl) ?_); rintro G47 hS
      refine ASL.done ?_
      refine QThen.nrm ?_
      exact ⟨a19.2.b, a19.2.i, a19.2.h, a22.1.stem, a22.1.loop, w42, w44, ⟨rfl, rfl, rfl, trivial⟩, (hS.pick [2, 10, 9, 8, 0, 1, 3, 11] rfl rfl), hF⟩
    · skip
      refine AWP.skip ?_
      refine QThen.nrm ?_
      exact ⟨a19.2.b, a19.2.i, a19.2.h, a8.1, z16, w6, v16, ⟨rfl, rfl, rfl, trivial⟩, (hS.pick [0, 8, 7, 6, 5, 4, 1, 9] rfl rfl), hF⟩

set_option maxRecDepth 10000 in
theorem spec_l3DrawWord_ok {p0 : Tl1Cur} {r : (TWord × Tl1Cur)} {bp0 : Nat} (hF : spec_l3DrawWord p0 = some r) : HS Try.prog 81 [(.ptr bp0 0)] [.cell bp0 [(.list 1 (List.map (AV.int .u8) p0.b)), (.int .i64 p0.i), (.int .i64 p0.h)]] fun v L' => ∃ o0_Stem : AV, ∃ o0_Loop : AV, v = (.agg [o0_Stem, o0_Loop]) ∧ L' = [.row 1 o0_Stem (List.map (AV.int .i64) r.1.stem), .row 1 o0_Loop (List.map (AV.int .i64) r.1.loop), .cell bp0 [(.list 1 (List.map (AV.int .u8) r.2.b)), (.int .i64 r.2.i), (.int .i64 r.2.h)]] := by
  intro H S hS
  refine HC.enter Try.func81 rfl Try.ntmps81 (by simp) ?_
  simp only [List.cons_append, List.nil_append] at hS
  unfold spec_l3DrawWord at hF
  refine AWP.seqR rfl ?_
  have hS := hNil (s := 1) (f := (AV.int .i64)) hS
  have hS := hNil (s := 1) (f := (AV.int .i64)) hS
  refine ASL.x rfl rfl (hNewZ hS [.nil, .nil] rfl zeroA_29 ⟨.inl rfl, .inl rfl, trivial⟩ ?_); rintro b2 G2 hK hS
  refine ASL.done ?_
  refine AWP.seqR rfl ?_
  refine ASL.q (v := (.ptr bp0 0)) rfl rfl (Light.quiet (opMove rfl rfl)) ?_
  refine ASL.q (v := (.ptr bp0 0)) rfl rfl (Light.quiet (opMove rfl rfl)) ?_
  refine ASL.q (v := (.list 1 (List.map (AV.int .i64) [1, 2, 2, 3, 8]))) rfl rfl ((qLit (xs := [(.int .i64 1), (.int .i64 2), (.int .i64 2), (.int .i64 3), (.int .i64 8)]) rfl elemA_27 sizeA_3 zeroA_3 rfl rfl rfl rfl (by simp [cells]) (nlt rfl))) ?_
  obtain ⟨a7, ha7, hF⟩ := bindE hF
  refine ASL.x rfl rfl (hCallS hS [3, 0, 1, 2, 4] (F := [.cell b2 [.nil, .nil], .row 1 .nil (List.map (AV.int .i64) ([])), .row 1 .nil (List.map (AV.int .i64) ([])), .snap S]) rfl rfl rfl call_104 (spec_l1PickInt_ok ha7) rfl rfl ?_); rintro _ _ G6 ⟨rfl, rfl⟩ hS
  obtain ⟨a8, ha8, hF⟩ := bindE hF
  refine ASL.x rfl rfl (hCallS hS [0, 1, 2, 3, 4] (F := [.cell b2 [.nil, .nil], .row 1 .nil (List.map (AV.int .i64) ([])), .row 1 .nil (List.map (AV.int .i64) ([])), .snap S]) rfl rfl rfl call_82 (spec_l3DrawRight_ok ha8) rfl rfl ?_); rintro _ _ G11 ⟨w7, w9, rfl, rfl⟩ hS
  have hS := hNil (s := 1) (f := (AV.int .i64)) hS
  have hS := hNil (s := 1) (f := (AV.int .i64)) hS
  refine ASL.x rfl rfl (hNewZ hS [.nil, .nil] rfl zeroA_29 ⟨.inl rfl, .inl rfl, trivial⟩ ?_); rintro b3 G12 hK hS
  refine ASL.n rfl rfl (hPutA hS (j := 0) rfl rfl sizeA_29 rfl rfl rfl rfl (allC (hS.one (k := 3) rfl) (allC (hS.one (k := 4) rfl) rfl)) (nlt rfl) ?_); rintro G16 hS
  refine ASL.done ?_
  refine AWP.seqM (fun e H => ∃ y17 : (List Int), ∃ y20 : (List Int), ∃ y23 : (List Int), ∃ y24 : Int, ∃ y25 : Int, ∃ w18 : AV, ∃ w21 : AV, E.Told e [(2, (.ptr b2 0)), (3, (.ptr b3 0))] ∧ E.Sep H [.row 1 .nil (List.map (AV.int .i64) ([])), .row 1 .nil (List.map (AV.int .i64) ([])), .cell b2 [.nil, .nil], .row 1 w18 (List.map (AV.int .i64) y17), .row 1 w21 (List.map (AV.int .i64) y20), .cell b3 [w18, w21], .cell bp0 [(.list 1 (List.map (AV.int .u8) y23)), (.int .i64 y24), (.int .i64 y25)], .snap S] ∧ spec_l3DrawWord.k0 y17 y20 y23 y24 y25 = some r) ?_ ?_
  · rintro e0 G27 ⟨y17, y20, y23, y24, y25, w18, w21, hT, hS, hF⟩; refine AWP.only _ hT ?_; unfold spec_l3DrawWord.k0 at hF
    refine AWP.seqR rfl ?_
    refine ASL.q (v := (.agg [w18, w21])) rfl rfl (Light.quiet (kAtA hS (j := 5) rfl rfl aggA_29 sizeA_29 rfl (nlt rfl) rfl)) ?_
    refine ASL.n rfl rfl (hPutA hS (j := 2) rfl rfl sizeA_29 rfl rfl rfl rfl (allC (hS.one (k := 3) rfl) (allC (hS.one (k := 4) rfl) rfl)) (nlt rfl) ?_); rintro G26 hS
    refine ASL.done ?_
    refine AWP.ret ?_
    obtain rfl := someE hF
    exact QRet.sole (v := (.agg [w18, w21])) ⟨resOne.at hS (k := 2) rfl rfl aggA_29 sizeA_29, trivial⟩ ⟨_, ⟨w18, w21, rfl, rfl⟩, hS.pick [3, 4, 6, 7] rfl rfl⟩
  · skip
    refine AWP.seqR rfl ?_
    refine ASL.q (v := (.ptr bp0 0)) rfl rfl (Light.quiet (opMove rfl rfl)) ?_
    obtain ⟨a10, ha10, hF⟩ := bindE hF
    refine ASL.x rfl rfl (hCallS hS [5, 0, 1, 2, 3, 4, 6, 7, 8, 9] (F := [.cell b3 [w7, w9], .row 1 .nil (List.map (AV.int .i64) ([])), .row 1 .nil (List.map (AV.int .i64) ([])), .row 1 w7 (List.map (AV.int .i64) a8.1.stem), .row 1 w9 (List.map (AV.int .i64) a8.1.loop), .cell b2 [.nil, .nil], .row 1 .nil (List.map (AV.int .i64) ([])), .row 1 .nil (List.map (AV.int .i64) ([])), .snap S]) rfl rfl rfl call_55 (spec_l1Below_ok ha10) rfl rfl ?_); rintro _ _ G28 ⟨rfl, rfl⟩ hS
    refine ASL.done ?_
    refine AWP.block ?_
    refine AWP.seqR rfl ?_
    refine ASL.q (v := (.bool (decide (a10.1 = 0)))) rfl rfl (Light.quiet (opInt rfl rfl rfl rfl)) ?_
    refine ASL.q (v := (.bool (decide (a10.1 = 0)))) rfl rfl (Light.quiet (opAssign rfl rfl)) ?_
    refine ASL.done ?_
    refine AWP.ifP hF rfl (fun hc29 hF => ?_) (fun hc29 hF => ?_)
    · skip
      refine AWP.lastR rfl ?_
      refine ASL.q (v := (.ptr b3 1)) rfl rfl (Light.quiet (opFieldAddr rfl fieldA_29_1 rfl rfl)) ?_
      have hS := hNil (s := 1) (f := (AV.int .i64)) hS
      refine ASL.n rfl rfl (hPut hS (j := 2) rfl rfl sizeA_27 rfl rfl (hS.one (k := 0) rfl) (nlt rfl) ?_); rintro G30 hS
      refine ASL.done ?_
      refine QBlock.nrm ?_
      refine QThen.nrm ?_
      exact ⟨a8.1.stem, [], a10.2.b, a10.2.i, a10.2.h, w7, .nil, ⟨rfl, rfl, trivial⟩, (hS.pick [9, 8, 7, 5, 0, 2, 1, 10] rfl rfl), hF⟩
    · skip
      refine AWP.seqR rfl ?_
      refine ASL.q (v := (.bool (decide (a10.1 = 1)))) rfl rfl (Light.quiet (opInt rfl rfl rfl rfl)) ?_
      refine ASL.q (v := (.bool (decide (a10.1 = 1)))) rfl rfl (Light.quiet (opAssign rfl rfl)) ?_
      refine ASL.done ?_
      refine AWP.ifP hF rfl (fun hc32 hF => ?_) (fun hc32 hF => ?_)
      · skip
        refine AWP.lastD [(0, false), (1, false), (2, false), (3, false), (4, true), (5, false), (6, true), (7, false), (8, true)] mixed (by kernel_rfl) rfl ?_
        refine ARL.q0 (v := (.ptr b3 0)) rfl rfl (Light.quiet (opFieldAddr rfl fieldA_29_0 rfl rfl)) ?_
        refine ARL.q (v := w7) rfl rfl (hS.aliveC (k := 1) rfl) (Light.quiet (kAt hS (j := 1) rfl rfl aggA_27 rfl rfl)) ?_
        refine ARL.q0 (v := (.ptr bp0 0)) rfl rfl (Light.quiet (opMove rfl rfl)) ?_
        refine ARL.q0 (v := (.list 1 (List.map (AV.int .i64) [(-1), 7, 8]))) rfl rfl ((qLit (xs := [(.int .i64 (-1)), (.int .i64 7), (.int .i64 8)]) rfl elemA_27 sizeA_3 zeroA_3 rfl rfl rfl rfl (by simp [cells]) (nlt rfl))) ?_
        obtain ⟨a20, ha20, hF⟩ := bindE hF
        refine ARL.yK (fs := [.cell b3 [w7, w9], .row 1 .nil (List.map (AV.int .i64) ([])), .row 1 .nil (List.map (AV.int .i64) ([])), .row 1 w7 (List.map (AV.int .i64) a8.1.stem), .row 1 w9 (List.map (AV.int .i64) a8.1.loop), .cell b2 [.nil, .nil], .row 1 .nil (List.map (AV.int .i64) ([])), .row 1 .nil (List.map (AV.int .i64) ([])), .snap S]) rfl rfl rfl ⟨.inr (by simp), .inr (by simp), .inr (inF (r := .cell b3 [w7, w9]) (k := 0) rfl), .inr (by simp), trivial⟩ (hCallSB hS [0, 1, 2, 3, 4, 5, 6, 7, 8, 9] (F := [.cell b3 [w7, w9], .row 1 .nil (List.map (AV.int .i64) ([])), .row 1 .nil (List.map (AV.int .i64) ([])), .row 1 w7 (List.map (AV.int .i64) a8.1.stem), .row 1 w9 (List.map (AV.int .i64) a8.1.loop), .cell b2 [.nil, .nil], .row 1 .nil (List.map (AV.int .i64) ([])), .row 1 .nil (List.map (AV.int .i64) ([])), .snap S]) rfl rfl rfl call_104 (spec_l1PickInt_ok ha20) rfl rfl ?_); rintro _ _ G33 ⟨rfl, rfl⟩ hB hS; refine ⟨hB, ?_⟩
        refine ARL.q0 (v := (.list 1 (List.map (AV.int .i64) [a20.1]))) rfl rfl ((qLit (xs := [(.int .i64 a20.1)]) rfl elemA_27 sizeA_3 zeroA_3 rfl rfl rfl rfl (by simp [cells]) (nlt rfl))) ?_
        obtain ⟨z22, hz22, hF⟩ := bindE hF
        refine ARL.y rfl rfl rfl rfl (hApp (f := (AV.int .i64)) (ws := [a20.1]) hS (j := 4) rfl hz22 rfl elemA_27 rfl sizeA_3 bytesA_3 zeroA_3 rfl rfl rfl (fun _ => rfl) ?_); rintro v22 G34 hS
        refine ARL.q0 (v := (.ptr b3 0)) rfl rfl (Light.quiet (opFieldAddr rfl fieldA_29_0 rfl rfl)) ?_
        refine ARL.n rfl rfl rfl rfl (hPut hS (j := 1) rfl rfl sizeA_27 rfl rfl (hS.one (k := 4) rfl) (nlt rfl) ?_); rintro G36 hS
        refine ARL.done ?_
        refine QBlock.nrm ?_
        refine QThen.nrm ?_
        exact ⟨z22, a8.1.loop, a20.2.b, a20.2.i, a20.2.h, v22, w9, ⟨rfl, rfl, trivial⟩, (hS.pick [8, 7, 6, 4, 5, 1, 0, 9] rfl rfl), hF⟩
      · skip
        refine AWP.seqR rfl ?_
        refine ASL.q (v := (.bool (decide (a10.1 = 2)))) rfl rfl (Light.quiet (opInt rfl rfl rfl rfl)) ?_
        refine ASL.q (v := (.bool (decide (a10.1 = 2)))) rfl rfl (Light.quiet (opAssign rfl rfl)) ?_
        refine ASL.done ?_
        refine AWP.ifP hF rfl (fun hc37 hF => ?_) (fun hc37 hF => ?_)
        · skip
          refine AWP.lastR rfl ?_
          refine ASL.q (v := (.ptr bp0 0)) rfl rfl (Light.quiet (opMove rfl rfl)) ?_
          obtain ⟨a27, ha27, hF⟩ := bindE hF
          refine ASL.x rfl rfl (hCallS hS [0, 1, 2, 3, 4, 5, 6, 7, 8, 9] (F := [.cell b3 [w7, w9], .row 1 .nil (List.map (AV.int .i64) ([])), .row 1 .nil (List.map (AV.int .i64) ([])), .row 1 w7 (List.map (AV.int .i64) a8.1.stem), .row 1 w9 (List.map (AV.int .i64) a8.1.loop), .cell b2 [.nil, .nil], .row 1 .nil (List.map (AV.int .i64) ([])), .row 1 .nil (List.map (AV.int .i64) ([])), .snap S]) rfl rfl rfl call_55 (spec_l1Below_ok ha27) rfl rfl ?_); rintro _ _ G38 ⟨rfl, rfl⟩ hS
          refine ASL.q (v := (.int .i64 (W (40 + a27.1)))) rfl rfl (Light.quiet (opInt rfl rfl rfl rfl)) ?_
          obtain ⟨z29, hz29, hF⟩ := bindE hF
          refine ASL.x rfl rfl (hMk (f := (AV.int .i64)) hS hz29 (by decide) rfl elemA_27 sizeA_3 bytesA_3 zeroA_3 rfl rfl (by decide) rfl rfl ?_); rintro v29 G39 hK hS
          refine ASL.q (v := (.ptr b3 0)) rfl rfl (Light.quiet (opFieldAddr rfl fieldA_29_0 rfl rfl)) ?_
          refine ASL.n rfl rfl (hPut hS (j := 2) rfl rfl sizeA_27 rfl rfl (hS.one (k := 0) rfl) (nlt rfl) ?_); rintro G41 hS
          refine ASL.done ?_
          refine QBlock.nrm ?_
          refine QThen.nrm ?_
          exact ⟨z29, a8.1.loop, a27.2.b, a27.2.i, a27.2.h, v29, w9, ⟨rfl, rfl, trivial⟩, (hS.pick [9, 8, 7, 0, 6, 2, 1, 10] rfl rfl), hF⟩
        · skip
          refine AWP.seqR rfl ?_
          refine ASL.q (v := (.bool (decide (a10.1 = 3)))) rfl rfl (Light.quiet (opInt rfl rfl rfl rfl)) ?_
          refine ASL.q (v := (.bool (decide (a10.1 = 3)))) rfl rfl (Light.quiet (opAssign rfl rfl)) ?_
          refine ASL.done ?_
          refine AWP.ifP hF rfl (fun hc42 hF => ?_) (fun hc42 hF => ?_)
          · skip
            refine AWP.lastR rfl ?_
            refine ASL.q (v := (.ptr bp0 0)) rfl rfl (Light.quiet (opMove rfl rfl)) ?_
            obtain ⟨a34, ha34, hF⟩ := bindE hF
            refine ASL.x rfl rfl (hCallS hS [0, 1, 2, 3, 4, 5, 6, 7, 8, 9] (F := [.cell b3 [w7, w9], .row 1 .nil (List.map (AV.int .i64) ([])), .row 1 .nil (List.map (AV.int .i64) ([])), .row 1 w7 (List.map (AV.int .i64) a8.1.stem), .row 1 w9 (List.map (AV.int .i64) a8.1.loop), .cell b2 [.nil, .nil], .row 1 .nil (List.map (AV.int .i64) ([])), .row 1 .nil (List.map (AV.int .i64) ([])), .snap S]) rfl rfl rfl call_55 (spec_l1Below_ok ha34) rfl rfl ?_); rintro _ _ G43 ⟨rfl, rfl⟩ hS
            refine ASL.q (v := (.int .i64 (W (40 + a34.1)))) rfl rfl (Light.quiet (opInt rfl rfl rfl rfl)) ?_
            obtain ⟨z36, hz36, hF⟩ := bindE hF
            refine ASL.x rfl rfl (hMk (f := (AV.int .i64)) hS hz36 (by decide) rfl elemA_27 sizeA_3 bytesA_3 zeroA_3 rfl rfl (by decide) rfl rfl ?_); rintro v36 G44 hK hS
            refine ASL.q (v := (.ptr b3 1)) rfl rfl (Light.quiet (opFieldAddr rfl fieldA_29_1 rfl rfl)) ?_
            refine ASL.n rfl rfl (hPut hS (j := 2) rfl rfl sizeA_27 rfl rfl (hS.one (k := 0) rfl) (nlt rfl) ?_); rintro G46 hS
            refine ASL.done ?_
            refine QBlock.nrm ?_
            refine QThen.nrm ?_
            exact ⟨a8.1.stem, z36, a34.2.b, a34.2.i, a34.2.h, w7, v36, ⟨rfl, rfl, trivial⟩, (hS.pick [9, 8, 7, 5, 0, 2, 1, 10] rfl rfl), hF⟩
          · skip
            refine AWP.skip ?_
            refine QBlock.nrm ?_
            refine QThen.nrm ?_
            exact ⟨a8.1.stem, a8.1.loop, a10.2.b, a10.2.i, a10.2.h, w7, w9, ⟨rfl, rfl, trivial⟩, (hS.pick [8, 7, 6, 4, 5, 1, 0, 9] rfl rfl), hF⟩

set_option maxRecDepth 10000 in
theorem spec_GenOf_ok {p0 : TAuto} {r : TGen} (hF : spec_GenOf p0 = some r) : PC Try.prog 54 [(TAuto.av p0)] fun v => v = (TGen.av r) := by
  refine PC.enter Try.func54 rfl Try.ntmps54 (by simp) ?_
  have hS := Sep.void; unfold spec_GenOf at hF
  refine AWP.seqR rfl ?_
  refine ASL.q (v := (.rptr [(.int .i64 p0.letters), (.int .i64 p0.states), (.int .i64 p0.start), (.list 4 (List.map TEdge.av p0.edges))])) rfl rfl ((qBoxI (v := (TAuto.av p0)) rfl rfl rfl rfl)) ?_
  refine ASL.x rfl rfl (hNewZ hS [(.int .i64 0), (.int .i64 0), (.int .i64 0), (.int .i64 0), (.list 4 (List.map TGEdge.av []))] rfl zeroA_81 ⟨.inl rfl, .inl rfl, .inl rfl, .inl rfl, .inr ⟨_, rfl, rfl⟩, trivial⟩ ?_); rintro b2 G1 hK hS
  refine ASL.done ?_
  refine AWP.seq ?_
  refine AWP.seqR rfl ?_
  refine ASL.q (v := (TAuto.av p0)) rfl rfl (Light.quiet (opLoadRA rfl aggA_26 sizeA_26 rfl (nlt rfl) rfl)) ?_
  obtain ⟨a8, ha8, hF⟩ := bindE hF
  refine ASL.q (v := (.bool a8)) rfl rfl ((qCall rfl rfl call_10 (spec_AutoOk_ok ha8) rfl)) ?_
  refine ASL.q (v := (.bool (!a8))) rfl rfl (Light.quiet (opNot rfl rfl)) ?_
  refine ASL.done ?_
  refine AWP.ifB hF rfl (fun hc3 hF => ?_) (fun hc3 hF => ?_)
  · skip
    refine AWP.seqR rfl ?_
    refine ASL.q (v := (.agg [(.int .i64 0), (.int .i64 0), (.int .i64 0), (.int .i64 0), (.list 4 (List.map TGEdge.av []))])) rfl rfl (Light.quiet (opBuildZ (zs := [(.int .i64 0), (.int .i64 0), (.int .i64 0), (.int .i64 0), (.list 4 (List.map TGEdge.av []))]) rfl plan_81 zeroA_81 ⟨.inl rfl, .inl rfl, .inl rfl, .inl rfl, .inr ⟨_, rfl, rfl⟩, trivial⟩ rfl)) ?_
    refine ASL.n rfl rfl (hPutA hS (j := 0) rfl rfl sizeA_81 rfl rfl rfl rfl rfl (nlt rfl) ?_); rintro G4 hS
    refine ASL.done ?_
    refine AWP.ret ?_
    refine QThen.rt ?_
    obtain rfl := someE hF
    exact QRet.sole (v := (.agg [(.int .i64 0), (.int .i64 0), (.int .i64 0), (.int .i64 0), (.list 4 (List.map TGEdge.av []))])) ⟨resOne.at hS (k := 0) rfl rfl aggA_81 sizeA_81, trivial⟩ rfl
  · skip
    refine AWP.skip ?_
    refine QThen.nrm ?_
    refine AWP.seqR rfl ?_
    refine ASL.q (v := (.rptr [(.int .i64 p0.letters), (.int .i64 p0.states), (.int .i64 p0.start), (.list 4 (List.map TEdge.av p0.edges))])) rfl rfl (Light.quiet (opFieldAddrR rfl fieldA_26_0 rfl rfl)) ?_
    refine ASL.q (v := (.int .i64 p0.letters)) rfl rfl (Light.quiet (opLoadR rfl aggA_3 rfl rfl)) ?_
    refine ASL.q (v := (.rptr [(.int .i64 p0.states), (.int .i64 p0.start), (.list 4 (List.map TEdge.av p0.edges))])) rfl rfl (Light.quiet (opFieldAddrR rfl fieldA_26_1 rfl rfl)) ?_
    refine ASL.q (v := (.int .i64 p0.states)) rfl rfl (Light.quiet (opLoadR rfl aggA_3 rfl rfl)) ?_
    refine ASL.q (v := (.rptr [(.int .i64 p0.start), (.list 4 (List.map TEdge.av p0.edges))])) rfl rfl (Light.quiet (opFieldAddrR rfl fieldA_26_2 rfl rfl)) ?_
    refine ASL.q (v := (.int .i64 p0.start)) rfl rfl (Light.quiet (opLoadR rfl aggA_3 rfl rfl)) ?_
    refine ASL.q (v := (.agg [(.int .i64 p0.letters), (.int .i64 p0.states), (.int .i64 p0.start), (.int .i64 1), .nil])) rfl rfl (Light.quiet (opBuildZ (zs := [(.int .i64 0), (.int .i64 0), (.int .i64 0), (.int .i64 0), .nil]) rfl plan_81 zeroA_81 ⟨.inl rfl, .inl rfl, .inl rfl, .inl rfl, .inl rfl, trivial⟩ rfl)) ?_
    have hS := hNil (s := 4) (f := TGEdge.av) hS
    refine ASL.x rfl rfl (hNewZ hS [(.int .i64 0), (.int .i64 0), (.int .i64 0), (.int .i64 0), .nil] rfl zeroA_81 ⟨.inl rfl, .inl rfl, .inl rfl, .inl rfl, .inl rfl, trivial⟩ ?_); rintro b3 G5 hK hS
    have hS := hNil (s := 4) (f := TGEdge.av) hS
    refine ASL.n rfl rfl (hPutA hS (j := 1) rfl rfl sizeA_81 rfl rfl rfl rfl (allC rfl (allC rfl (allC rfl (allC rfl (allC (hS.one (k := 0) rfl) rfl))))) (nlt rfl) ?_); rintro G8 hS
    refine ASL.done ?_
    refine AWP.seqM (fun e H => ∃ y10 : Int, ∃ y11 : Int, ∃ y12 : Int, ∃ y13 : Int, ∃ y14 : (List TGEdge), ∃ w15 : AV, E.Told e [(2, (.ptr b2 0)), (3, (.ptr b3 0))] ∧ E.Sep H [.cell b2 [(.int .i64 0), (.int .i64 0), (.int .i64 0), (.int .i64 0), (.list 4 (List.map TGEdge.av []))], .row 4 w15 (List.map TGEdge.av y14), .cell b3 [(.int .i64 y10), (.int .i64 y11), (.int .i64 y12), (.int .i64 y13), w15]] ∧ spec_GenOf.k0 y10 y11 y12 y13 y14 = some r) ?_ ?_
    · rintro e0 G19 ⟨y10, y11, y12, y13, y14, w15, hT, hS, hF⟩; refine AWP.only _ hT ?_; unfold spec_GenOf.k0 at hF
      refine AWP.seqR rfl ?_
      refine ASL.q (v := (.agg [(.int .i64 y10), (.int .i64 y11), (.int .i64 y12), (.int .i64 y13), w15])) rfl rfl (Light.quiet (kAtA hS (j := 2) rfl rfl aggA_81 sizeA_81 rfl (nlt rfl) rfl)) ?_
      refine ASL.n rfl rfl (hPutA hS (j := 0) rfl rfl sizeA_81 rfl rfl rfl rfl (allC rfl (allC rfl (allC rfl (allC rfl (allC (hS.one (k := 1) rfl) rfl))))) (nlt rfl) ?_); rintro G17 hS
      refine ASL.done ?_
      refine AWP.frz (L' := [.cell b2 [(.int .i64 y10), (.int .i64 y11), (.int .i64 y12), (.int .i64 y13), (.list 4 (List.map TGEdge.av y14))], .cell b3 [(.int .i64 y10), (.int .i64 y11), (.int .i64 y12), (.int .i64 y13), (.list 4 (List.map TGEdge.av y14))]]) hS (k := 1) rfl [(2, (.ptr b2 0)), (3, (.ptr b3 0))] ⟨.inl rfl, .inl rfl, trivial⟩ ⟨⟨_, rfl, ⟨.inl rfl, .inl rfl, .inl rfl, .inl rfl, .inr ⟨rfl, rfl⟩, trivial⟩⟩, ⟨_, rfl, ⟨.inl rfl, .inl rfl, .inl rfl, .inl rfl, .inr ⟨rfl, rfl⟩, trivial⟩⟩, trivial⟩ (fun G18 hS => ?_)
      refine AWP.ret ?_
      obtain rfl := someE hF
      exact QRet.sole (v := (.agg [(.int .i64 y10), (.int .i64 y11), (.int .i64 y12), (.int .i64 y13), (.list 4 (List.map TGEdge.av y14))])) ⟨resOne.at hS (k := 0) rfl rfl aggA_81 sizeA_81, trivial⟩ rfl
    · skip
      refine AWP.seqR rfl ?_
      refine ASL.q (v := (.int .i64 0)) rfl rfl (Light.quiet (opAssign rfl rfl)) ?_
      refine ASL.done ?_
      refine AWP.block ?_
      obtain ⟨o30, hL29, hR31⟩ := bindE hF
      refine AWP.loopF (ω := AV) hL29 (fun s w => [(1, (.rptr [(.int .i64 p0.letters), (.int .i64 p0.states), (.int .i64 p0.start), (.list 4 (List.map TEdge.av p0.edges))])), (2, (.ptr b2 0)), (3, (.ptr b3 0)), (4, (.int .i64 s.2.2.2.2.2))]) (fun s w => [.cell b2 [(.int .i64 0), (.int .i64 0), (.int .i64 0), (.int .i64 0), (.list 4 (List.map TGEdge.av []))], .row 4 w (List.map TGEdge.av s.2.2.2.2.1), .cell b3 [(.int .i64 s.1), (.int .i64 s.2.1), (.int .i64 s.2.2.1), (.int .i64 s.2.2.2.1), w]]) .nil ⟨rfl, rfl, rfl, rfl, trivial⟩ (hS.pick [3, 0, 1] rfl rfl) ?_
      rintro ⟨y20, y21, y22, y23, y24, x4_l0⟩ w25 G32 hS x27 hF hx28
      try dsimp only at hS ⊢
      have hF : spec_GenOf.b0 p0 y20 y21 y22 y23 y24 x4_l0 = some x27 := hF; unfold spec_GenOf.b0 at hF
      refine AWP.seq ?_
      refine AWP.seqR rfl ?_
      refine ASL.q (v := (.int .i64 x4_l0)) rfl rfl (Light.quiet (opMove rfl rfl)) ?_
      refine ASL.q (v := (.rptr [(.list 4 (List.map TEdge.av p0.edges))])) rfl rfl (Light.quiet (opFieldAddrR rfl fieldA_26_3 rfl rfl)) ?_
      refine ASL.q (v := (.list 4 (List.map TEdge.av p0.edges))) rfl rfl (Light.quiet (opLoadR rfl aggA_24 rfl rfl)) ?_
      refine ASL.q (v := (.int .i64 (p0.edges.length : Int))) rfl rfl (Light.quiet (opLenMap (f := TEdge.av) rfl rfl rfl lenT_24 rfl)) ?_
      refine ASL.q (v := (.bool (decide (x4_l0 < ((p0.edges.length : Int)))))) rfl rfl (Light.quiet (opInt rfl rfl rfl rfl)) ?_
      refine ASL.done ?_
      refine AWP.ifP hF rfl (fun hc33 hF => ?_) (fun hc33 hF => ?_)
      · skip
        refine AWP.skip ?_
        refine QThen.nrm ?_
        refine AWP.seq ?_
        refine AWP.block ?_
        refine AWP.seqR rfl ?_
        refine ASL.q (v := (.rptr [(.list 4 (List.map TEdge.av p0.edges))])) rfl rfl (Light.quiet (opFieldAddrR rfl fieldA_26_3 rfl rfl)) ?_
        refine ASL.q (v := (.list 4 (List.map TEdge.av p0.edges))) rfl rfl (Light.quiet (opLoadR rfl aggA_24 rfl rfl)) ?_
        refine ASL.q (v := (.int .i64 x4_l0)) rfl rfl (Light.quiet (opMove rfl rfl)) ?_
        obtain ⟨a28, ha28, hF⟩ := bindE hF
        refine ASL.q (v := (.rptr [(.int .i64 a28.from_), (.int .i64 a28.letter), (.int .i64 a28.to_), (.bool a28.good)])) rfl rfl (Light.quiet (kIx (f := TEdge.av) ha28 rfl rfl rfl elemA_24 sizeA_73 rfl)) ?_
        refine ASL.q (v := (TEdge.av a28)) rfl rfl (Light.quiet (opLoadRA rfl aggA_73 sizeA_73 rfl (nlt rfl) rfl)) ?_
        refine ASL.x rfl rfl (hNewZ hS [(.int .i64 0), (.int .i64 0), (.int .i64 0), (.bool false)] rfl zeroA_73 ⟨.inl rfl, .inl rfl, .inl rfl, .inl rfl, trivial⟩ ?_); rintro b5 G34 hK hS
        refine ASL.n rfl rfl (hPutA hS (j := 0) rfl rfl sizeA_73 rfl rfl rfl rfl rfl (nlt rfl) ?_); rintro G36 hS
        refine ASL.done ?_
        refine AWP.seqR rfl ?_
        refine ASL.q (v := (.int .i64 0)) rfl rfl (Light.quiet (opAssign rfl rfl)) ?_
        refine ASL.done ?_
        refine AWP.seqM (fun e H => ∃ x6_2 : Int, E.Told e [(1, (.rptr [(.int .i64 p0.letters), (.int .i64 p0.states), (.int .i64 p0.start), (.list 4 (List.map TEdge.av p0.edges))])), (2, (.ptr b2 0)), (3, (.ptr b3 0)), (4, (.int .i64 x4_l0)), (5, (.ptr b5 0)), (6, (.int .i64 x6_2))] ∧ E.Sep H [.cell b2 [(.int .i64 0), (.int .i64 0), (.int .i64 0), (.int .i64 0), (.list 4 (List.map TGEdge.av []))], .row 4 w25 (List.map TGEdge.av y24), .cell b3 [(.int .i64 y20), (.int .i64 y21), (.int .i64 y22), (.int .i64 y23), w25], .cell b5 [(.int .i64 a28.from_), (.int .i64 a28.letter), (.int .i64 a28.to_), (.bool a28.good)]] ∧ spec_GenOf.k1 y24 a28 y20 y21 y22 y23 x4_l0 x6_2 = some x27) ?_ ?_
        · rintro e0 G40 ⟨x6_2, hT, hS, hF⟩; refine AWP.only _ hT ?_; unfold spec_GenOf.k1 at hF
          refine AWP.lastR rfl ?_
          refine ASL.q (v := (.ptr b3 4)) rfl rfl (Light.quiet (opFieldAddr rfl fieldA_81_4 rfl rfl)) ?_
          refine ASL.q (v := w25) rfl rfl (Light.quiet (kAt hS (j := 2) rfl rfl aggA_79 rfl rfl)) ?_
          refine ASL.q (v := (.ptr b5 0)) rfl rfl (Light.quiet (opFieldAddr rfl fieldA_73_0 rfl rfl)) ?_
          refine ASL.q (v := (.int .i64 a28.from_)) rfl rfl (Light.quiet (kAt hS (j := 3) rfl rfl aggA_3 rfl rfl)) ?_
          refine ASL.q (v := (.ptr b5 1)) rfl rfl (Light.quiet (opFieldAddr rfl fieldA_73_1 rfl rfl)) ?_
          refine ASL.q (v := (.int .i64 a28.letter)) rfl rfl (Light.quiet (kAt hS (j := 3) rfl rfl aggA_3 rfl rfl)) ?_
          refine ASL.q (v := (.ptr b5 2)) rfl rfl (Light.quiet (opFieldAddr rfl fieldA_73_2 rfl rfl)) ?_
          refine ASL.q (v := (.int .i64 a28.to_)) rfl rfl (Light.quiet (kAt hS (j := 3) rfl rfl aggA_3 rfl rfl)) ?_
          refine ASL.q (v := (.int .i64 x6_2)) rfl rfl (Light.quiet (opMove rfl rfl)) ?_
          refine ASL.q (v := (.agg [(.int .i64 a28.from_), (.int .i64 a28.letter), (.int .i64 a28.to_), (.int .i64 x6_2)])) rfl rfl (Light.quiet (opBuildZ (zs := [(.int .i64 0), (.int .i64 0), (.int .i64 0), (.int .i64 0)]) rfl plan_115 zeroA_115 ⟨.inl rfl, .inl rfl, .inl rfl, .inl rfl, trivial⟩ rfl)) ?_
          refine ASL.q (v := (.list 4 (List.map TGEdge.av [(TGEdge.mk a28.from_ a28.letter a28.to_ x6_2)]))) rfl rfl ((qLit (xs := [(.agg [(.int .i64 a28.from_), (.int .i64 a28.letter), (.int .i64 a28.to_), (.int .i64 x6_2)])]) rfl elemA_79 sizeA_115 zeroA_115 rfl rfl rfl rfl (by simp [cells, TGEdge.av]) (nlt rfl))) ?_
          obtain ⟨z43, hz43, hF⟩ := bindE hF
          refine ASL.x rfl rfl (hApp (f := TGEdge.av) (ws := [(TGEdge.mk a28.from_ a28.letter a28.to_ x6_2)]) hS (j := 1) rfl hz43 rfl elemA_79 rfl sizeA_115 bytesA_115 zeroA_115 rfl rfl rfl (fun _ => rfl) ?_); rintro v43 G37 hS
          refine ASL.q (v := (.ptr b3 4)) rfl rfl (Light.quiet (opFieldAddr rfl fieldA_81_4 rfl rfl)) ?_
          refine ASL.n rfl rfl (hPut hS (j := 2) rfl rfl sizeA_79 rfl rfl (hS.one (k := 1) rfl) (nlt rfl) ?_); rintro G39 hS
          refine ASL.done ?_
          refine QBlock.nrm ?_
          refine QThen.nrm ?_
          refine AWP.lastR rfl ?_
          refine ASL.q (v := (.int .i64 x4_l0)) rfl rfl (Light.quiet (opMove rfl rfl)) ?_
          refine ASL.q (v := (.int .i64 (W (x4_l0 + 1)))) rfl rfl (Light.quiet (opInt rfl rfl rfl rfl)) ?_
          refine ASL.q (v := (.int .i64 (W (x4_l0 + 1)))) rfl rfl (Light.quiet (opAssign rfl rfl)) ?_
          refine ASL.done ?_
          refine QThen.nrm ?_
          exact ⟨(y20, y21, y22, y23, z43, (W (x4_l0 + 1))), v43, (someE hF).symm, ⟨rfl, rfl, rfl, rfl, trivial⟩, (hS.pick [0, 1, 2] rfl rfl)⟩
        · skip
          refine AWP.seqR rfl ?_
          refine ASL.q (v := (.ptr b5 3)) rfl rfl (Light.quiet (opFieldAddr rfl fieldA_73_3 rfl rfl)) ?_
          refine ASL.q (v := (.bool a28.good)) rfl rfl (Light.quiet (kAt hS (j := 0) rfl rfl aggA_4 rfl rfl)) ?_
          refine ASL.done ?_
          refine AWP.ifB hF rfl (fun hc41 hF => ?_) (fun hc41 hF => ?_)
          · skip
            refine AWP.lastR rfl ?_
            refine ASL.q (v := (.int .i64 1)) rfl rfl (Light.quiet (opAssign rfl rfl)) ?_
            refine ASL.done ?_
            refine QThen.nrm ?_
            exact ⟨1, ⟨rfl, rfl, rfl, rfl, rfl, rfl, trivial⟩, (hS.pick [1, 2, 3, 0] rfl rfl), hF⟩
          · skip
            refine AWP.skip ?_
            refine QThen.nrm ?_
            exact ⟨0, ⟨rfl, rfl, rfl, rfl, rfl, rfl, trivial⟩, (hS.pick [1, 2, 3, 0] rfl rfl), hF⟩
      · skip
        refine AWP.exit ?_
        refine QThen.ext ?_
        refine QThen.ext ?_
        refine QBlock.hit ?_
        obtain rfl := (hx28 _ (someE hF).symm)
        have hF := hR31
        refine QThen.nrm ?_
        exact ⟨y20, y21, y22, y23, y24, w25, ⟨rfl, rfl, trivial⟩, (hS.pick [0, 1, 2] rfl rfl), hF⟩

set_option maxRecDepth 10000 in
theorem spec_l5Less_ok (p0 : TGEdge) (p1 : TGEdge) : PC Try.prog 113 [(TGEdge.av p0), (TGEdge.av p1)] fun v => v = (.bool (spec_l5Less p0 p1)) := by
  generalize hF : spec_l5Less p0 p1 = r
  refine PC.enter Try.func113 rfl Try.ntmps113 (by simp) ?_
  have hS := Sep.void; unfold spec_l5Less at hF
  refine AWP.seqR rfl ?_
  refine ASL.q (v := (.rptr [(.int .i64 p0.from_), (.int .i64 p0.letter), (.int .i64 p0.to_), (.int .i64 p0.marks)])) rfl rfl ((qBoxI (v := (TGEdge.av p0)) rfl rfl rfl rfl)) ?_
  refine ASL.q (v := (.rptr [(.int .i64 p1.from_), (.int .i64 p1.letter), (.int .i64 p1.to_), (.int .i64 p1.marks)])) rfl rfl ((qBoxI (v := (TGEdge.av p1)) rfl rfl rfl rfl)) ?_
  refine ASL.q (v := (.bool false)) rfl rfl (Light.quiet (opAssign rfl rfl)) ?_
  refine ASL.done ?_
  refine AWP.seqR rfl ?_
  refine ASL.q (v := (.rptr [(.int .i64 p0.from_), (.int .i64 p0.letter), (.int .i64 p0.to_), (.int .i64 p0.marks)])) rfl rfl (Light.quiet (opFieldAddrR rfl fieldA_115_0 rfl rfl)) ?_
  refine ASL.q (v := (.int .i64 p0.from_)) rfl rfl (Light.quiet (opLoadR rfl aggA_3 rfl rfl)) ?_
  refine ASL.q (v := (.rptr [(.int .i64 p0.letter), (.int .i64 p0.to_), (.int .i64 p0.marks)])) rfl rfl (Light.quiet (opFieldAddrR rfl fieldA_115_1 rfl rfl)) ?_
  refine ASL.q (v := (.int .i64 p0.letter)) rfl rfl (Light.quiet (opLoadR rfl aggA_3 rfl rfl)) ?_
  refine ASL.q (v := (.rptr [(.int .i64 p0.to_), (.int .i64 p0.marks)])) rfl rfl (Light.quiet (opFieldAddrR rfl fieldA_115_2 rfl rfl)) ?_
  refine ASL.q (v := (.int .i64 p0.to_)) rfl rfl (Light.quiet (opLoadR rfl aggA_3 rfl rfl)) ?_
  refine ASL.q (v := (.agg [(.int .i64 p0.from_), (.int .i64 p0.letter), (.int .i64 p0.to_), (.bool false)])) rfl rfl (Light.quiet (opBuildZ (zs := [(.int .i64 0), (.int .i64 0), (.int .i64 0), (.bool false)]) rfl plan_73 zeroA_73 ⟨.inl rfl, .inl rfl, .inl rfl, .inl rfl, trivial⟩ rfl)) ?_
  refine ASL.q (v := (.rptr [(.int .i64 p1.from_), (.int .i64 p1.letter), (.int .i64 p1.to_), (.int .i64 p1.marks)])) rfl rfl (Light.quiet (opFieldAddrR rfl fieldA_115_0 rfl rfl)) ?_
  refine ASL.q (v := (.int .i64 p1.from_)) rfl rfl (Light.quiet (opLoadR rfl aggA_3 rfl rfl)) ?_
  refine ASL.q (v := (.rptr [(.int .i64 p1.letter), (.int .i64 p1.to_), (.int .i64 p1.marks)])) rfl rfl (Light.quiet (opFieldAddrR rfl fieldA_115_1 rfl rfl)) ?_
  refine ASL.q (v := (.int .i64 p1.letter)) rfl rfl (Light.quiet (opLoadR rfl aggA_3 rfl rfl)) ?_
  refine ASL.q (v := (.rptr [(.int .i64 p1.to_), (.int .i64 p1.marks)])) rfl rfl (Light.quiet (opFieldAddrR rfl fieldA_115_2 rfl rfl)) ?_
  refine ASL.q (v := (.int .i64 p1.to_)) rfl rfl (Light.quiet (opLoadR rfl aggA_3 rfl rfl)) ?_
  refine ASL.q (v := (.agg [(.int .i64 p1.from_), (.int .i64 p1.letter), (.int .i64 p1.to_), (.bool false)])) rfl rfl (Light.quiet (opBuildZ (zs := [(.int .i64 0), (.int .i64 0), (.int .i64 0), (.bool false)]) rfl plan_73 zeroA_73 ⟨.inl rfl, .inl rfl, .inl rfl, .inl rfl, trivial⟩ rfl)) ?_
  refine ASL.q (v := (.bool (spec_l4Less ((TEdge.mk p0.from_ p0.letter p0.to_ false)) ((TEdge.mk p1.from_ p1.letter p1.to_ false))))) rfl rfl ((qCall rfl rfl call_44 (spec_l4Less_ok ((TEdge.mk p0.from_ p0.letter p0.to_ false)) ((TEdge.mk p1.from_ p1.letter p1.to_ false))) rfl)) ?_
  refine ASL.q (v := (.bool (spec_l4Less ((TEdge.mk p0.from_ p0.letter p0.to_ false)) ((TEdge.mk p1.from_ p1.letter p1.to_ false))))) rfl rfl (Light.quiet (opAssign rfl rfl)) ?_
  refine ASL.done ?_
  refine AWP.ret ?_
  obtain rfl := hF
  exact QRet.sole (v := (.bool (spec_l4Less ((TEdge.mk p0.from_ p0.letter p0.to_ false)) ((TEdge.mk p1.from_ p1.letter p1.to_ false))))) ⟨rfl, trivial⟩ rfl

set_option maxRecDepth 10000 in
theorem spec_GenOk_ok {p0 : TGen} {r : Bool} (hF : spec_GenOk p0 = some r) : PC Try.prog 88 [(TGen.av p0)] fun v => v = (.bool r) := by
  refine PC.enter Try.func88 rfl Try.ntmps88 (by simp) ?_
  have hS := Sep.void; unfold spec_GenOk at hF
  refine AWP.seqR rfl ?_
  refine ASL.q (v := (.rptr [(.int .i64 p0.letters), (.int .i64 p0.states), (.int .i64 p0.start), (.int .i64 p0.sets), (.list 4 (List.map TGEdge.av p0.edges))])) rfl rfl ((qBoxI (v := (TGen.av p0)) rfl rfl rfl rfl)) ?_
  refine ASL.q (v := (.bool false)) rfl rfl (Light.quiet (opAssign rfl rfl)) ?_
  refine ASL.done ?_
  refine AWP.seq ?_
  refine AWP.seqD [(0, false), (1, false), (2, false), (3, false), (4, false), (5, false), (6, false), (7, false), (8, false), (9, false), (10, false), (11, false), (12, false), (13, false), (14, false), (15, false), (16, false), (17, false), (18, false), (19, false), (20, false), (21, false), (22, false), (23, false), (24, false), (25, false), (26, false), (27, false), (28, false), (29, false), (30, false), (31, false)] mixed (by kernel_rfl) rfl ?_
  refine ARL.q0 (v := (.rptr [(.int .i64 p0.letters), (.int .i64 p0.states), (.int .i64 p0.start), (.int .i64 p0.sets), (.list 4 (List.map TGEdge.av p0.edges))])) rfl rfl (Light.quiet (opFieldAddrR rfl fieldA_81_0 rfl rfl)) ?_
  refine ARL.q0 (v := (.int .i64 p0.letters)) rfl rfl (Light.quiet (opLoadR rfl aggA_3 rfl rfl)) ?_
  refine ARL.q0 (v := (.bool (spec_l1In p0.letters 1 8))) rfl rfl ((qCall rfl rfl call_41 (spec_l1In_ok p0.letters 1 8) rfl)) ?_
  refine ARL.q0 (v := (.bool (!(spec_l1In p0.letters 1 8)))) rfl rfl (Light.quiet (opNot rfl rfl)) ?_
  obtain ⟨c9, hc9, hF⟩ := bndE hF
  refine ARL.q0 (v := (.bool c9)) rfl rfl ((Quiet.cast (Light.quiet (opMove rfl rfl)) (congrArg AV.bool hc9.symm))) ?_
  refine ARL.g (v := (.rptr [(.int .i64 p0.states), (.int .i64 p0.start), (.int .i64 p0.sets), (.list 4 (List.map TGEdge.av p0.edges))])) (.bool c9) false rfl (wF _) rfl noneAlive (fun hG => by have q0 := gN hG; subst q0; exact Light.quiet (opFieldAddrR rfl fieldA_81_1 rfl rfl)) ?_
  refine ARL.g (v := (.int .i64 p0.states)) (.bool c9) false rfl (wF _) rfl noneAlive (fun hG => by have q0 := gN hG; subst q0; exact Light.quiet (opLoadR rfl aggA_3 rfl rfl)) ?_
  refine ARL.g (v := (.bool (spec_l1In p0.states 0 31))) (.bool c9) false rfl (wF _) rfl noneAlive (fun hG => by have q0 := gN hG; subst q0; exact (qCall rfl rfl call_41 (spec_l1In_ok p0.states 0 31) rfl)) ?_
  refine ARL.g (v := (.bool (!(spec_l1In p0.states 0 31)))) (.bool c9) false rfl (wF _) rfl noneAlive (fun hG => by have q0 := gN hG; subst q0; exact Light.quiet (opNot rfl rfl)) ?_
  refine ARL.q0 (v := (.bool (c9 || (!(spec_l1In p0.states 0 31))))) rfl rfl (Light.quiet (opPick (b := c9) rfl rfl (by cases c9 <;> rfl))) ?_
  obtain ⟨c15, hc15, hF⟩ := bndE hF
  refine ARL.q0 (v := (.bool c15)) rfl rfl ((Quiet.cast (Light.quiet (opMove rfl rfl)) (congrArg AV.bool hc15.symm))) ?_
  refine ARL.g (v := (.rptr [(.int .i64 p0.start), (.int .i64 p0.sets), (.list 4 (List.map TGEdge.av p0.edges))])) (.bool c15) false rfl (wF _) rfl noneAlive (fun hG => by have q0 := gN hG; subst q0; exact Light.quiet (opFieldAddrR rfl fieldA_81_2 rfl rfl)) ?_
  refine ARL.g (v := (.int .i64 p0.start)) (.bool c15) false rfl (wF _) rfl noneAlive (fun hG => by have q0 := gN hG; subst q0; exact Light.quiet (opLoadR rfl aggA_3 rfl rfl)) ?_
  refine ARL.g (v := (.rptr [(.int .i64 p0.states), (.int .i64 p0.start), (.int .i64 p0.sets), (.list 4 (List.map TGEdge.av p0.edges))])) (.bool c15) false rfl (wF _) rfl noneAlive (fun hG => by have q0 := gN hG; subst q0; exact Light.quiet (opFieldAddrR rfl fieldA_81_1 rfl rfl)) ?_
  refine ARL.g (v := (.int .i64 p0.states)) (.bool c15) false rfl (wF _) rfl noneAlive (fun hG => by have q0 := gN hG; subst q0; exact Light.quiet (opLoadR rfl aggA_3 rfl rfl)) ?_
  obtain ⟨u1, hu1, hF⟩ := bindE hF
  refine ARL.g (v := (.int .i64 (shl .i64 1 p0.states))) (.bool c15) false rfl (wF _) rfl noneAlive (fun hG => by have q0 := gN hG; subst q0; exact Light.quiet (opShl rfl rfl rfl (of_decide_eq_true (chkE (whenE hu1))) rfl)) ?_
  refine ARL.g (v := (.int .i64 (W (((shl .i64 1 p0.states)) - 1)))) (.bool c15) false rfl (wF _) rfl noneAlive (fun hG => by have q0 := gN hG; subst q0; exact Light.quiet (opInt rfl rfl rfl rfl)) ?_
  refine ARL.g (v := (.bool (spec_SetIn p0.start ((W (((shl .i64 1 p0.states)) - 1)))))) (.bool c15) false rfl (wF _) rfl noneAlive (fun hG => by have q0 := gN hG; subst q0; exact (qCall rfl rfl call_42 (spec_SetIn_ok p0.start ((W (((shl .i64 1 p0.states)) - 1)))) rfl)) ?_
  refine ARL.g (v := (.bool (!(spec_SetIn p0.start ((W (((shl .i64 1 p0.states)) - 1))))))) (.bool c15) false rfl (wF _) rfl noneAlive (fun hG => by have q0 := gN hG; subst q0; exact Light.quiet (opNot rfl rfl)) ?_
  refine ARL.q0 (v := (.bool (c15 || (!(spec_SetIn p0.start ((W (((shl .i64 1 p0.states)) - 1)))))))) rfl rfl (Light.quiet (opPick (b := c15) rfl rfl (by cases c15 <;> rfl))) ?_
  obtain ⟨c25, hc25, hF⟩ := bndE hF
  refine ARL.q0 (v := (.bool c25)) rfl rfl ((Quiet.cast (Light.quiet (opMove rfl rfl)) (congrArg AV.bool hc25.symm))) ?_
  refine ARL.g (v := (.rptr [(.int .i64 p0.sets), (.list 4 (List.map TGEdge.av p0.edges))])) (.bool c25) false rfl (wF _) rfl noneAlive (fun hG => by have q0 := gN hG; subst q0; exact Light.quiet (opFieldAddrR rfl fieldA_81_3 rfl rfl)) ?_
  refine ARL.g (v := (.int .i64 p0.sets)) (.bool c25) false rfl (wF _) rfl noneAlive (fun hG => by have q0 := gN hG; subst q0; exact Light.quiet (opLoadR rfl aggA_3 rfl rfl)) ?_
  refine ARL.g (v := (.bool (spec_l1In p0.sets 0 4))) (.bool c25) false rfl (wF _) rfl noneAlive (fun hG => by have q0 := gN hG; subst q0; exact (qCall rfl rfl call_41 (spec_l1In_ok p0.sets 0 4) rfl)) ?_
  refine ARL.g (v := (.bool (!(spec_l1In p0.sets 0 4)))) (.bool c25) false rfl (wF _) rfl noneAlive (fun hG => by have q0 := gN hG; subst q0; exact Light.quiet (opNot rfl rfl)) ?_
  refine ARL.q0 (v := (.bool (c25 || (!(spec_l1In p0.sets 0 4))))) rfl rfl (Light.quiet (opPick (b := c25) rfl rfl (by cases c25 <;> rfl))) ?_
  obtain ⟨c31, hc31, hF⟩ := bndE hF
  refine ARL.q0 (v := (.bool c31)) rfl rfl ((Quiet.cast (Light.quiet (opMove rfl rfl)) (congrArg AV.bool hc31.symm))) ?_
  refine ARL.g (v := (.rptr [(.list 4 (List.map TGEdge.av p0.edges))])) (.bool c31) false rfl (wF _) rfl noneAlive (fun hG => by have q0 := gN hG; subst q0; exact Light.quiet (opFieldAddrR rfl fieldA_81_4 rfl rfl)) ?_
  refine ARL.g (v := (.list 4 (List.map TGEdge.av p0.edges))) (.bool c31) false rfl (wF _) rfl noneAlive (fun hG => by have q0 := gN hG; subst q0; exact Light.quiet (opLoadR rfl aggA_79 rfl rfl)) ?_
  refine ARL.g (v := (.int .i64 (p0.edges.length : Int))) (.bool c31) false rfl (wF _) rfl noneAlive (fun hG => by have q0 := gN hG; subst q0; exact Light.quiet (opLenMap (f := TGEdge.av) rfl rfl rfl lenT_79 rfl)) ?_
  refine ARL.g (v := (.bool (decide (((p0.edges.length : Int)) > 2000)))) (.bool c31) false rfl (wF _) rfl noneAlive (fun hG => by have q0 := gN hG; subst q0; exact Light.quiet (opInt rfl rfl rfl rfl)) ?_
  refine ARL.q0 (v := (.bool (c31 || (decide (((p0.edges.length : Int)) > 2000))))) rfl rfl (Light.quiet (opPick (b := c31) rfl rfl (by cases c31 <;> rfl))) ?_
  refine ARL.done ?_
  refine AWP.ifB hF rfl (fun hc2 hF => ?_) (fun hc2 hF => ?_)
  · skip
    refine AWP.seqR rfl ?_
    refine ASL.q (v := (.bool false)) rfl rfl (Light.quiet (opAssign rfl rfl)) ?_
    refine ASL.done ?_
    refine AWP.ret ?_
    refine QThen.rt ?_
    obtain rfl := someE hF
    exact QRet.sole (v := (.bool false)) ⟨rfl, trivial⟩ rfl
  · skip
    refine AWP.skip ?_
    refine QThen.nrm ?_
    refine AWP.seqM (fun e H => E.Told e [] ∧ E.Sep H [] ∧ spec_GenOk.k0 = some r) ?_ ?_
    · rintro e0 G3 ⟨hT, hS, hF⟩; refine AWP.only _ hT ?_; unfold spec_GenOk.k0 at hF
      refine AWP.seqR rfl ?_
      refine ASL.q (v := (.bool true)) rfl rfl (Light.quiet (opAssign rfl rfl)) ?_
      refine ASL.done ?_
      refine AWP.ret ?_
      obtain rfl := someE hF
      exact QRet.sole (v := (.bool true)) ⟨rfl, trivial⟩ rfl
    · skip
      refine AWP.seqR rfl ?_
      refine ASL.q (v := (.int .i64 0)) rfl rfl (Light.quiet (opAssign rfl rfl)) ?_
      refine ASL.done ?_
      refine AWP.block ?_
      obtain ⟨o7, hL6, hR8⟩ := bindE hF
      refine AWP.loopF (ω := Unit) hL6 (fun s w => [(1, (.rptr [(.int .i64 p0.letters), (.int .i64 p0.states), (.int .i64 p0.start), (.int .i64 p0.sets), (.list 4 (List.map TGEdge.av p0.edges))])), (3, (.int .i64 s))]) (fun s w => []) () ⟨rfl, rfl, trivial⟩ (hS.pick [] rfl rfl) ?_
      rintro x3_l0 _ G9 hS x4 hF hx5
      try dsimp only at hS ⊢
      have hF : spec_GenOk.b0 p0 x3_l0 = some x4 := hF; unfold spec_GenOk.b0 at hF
      refine AWP.seq ?_
      refine AWP.seqR rfl ?_
      refine ASL.q (v := (.int .i64 x3_l0)) rfl rfl (Light.quiet (opMove rfl rfl)) ?_
      refine ASL.q (v := (.rptr [(.list 4 (List.map TGEdge.av p0.edges))])) rfl rfl (Light.quiet (opFieldAddrR rfl fieldA_81_4 rfl rfl)) ?_
      refine ASL.q (v := (.list 4 (List.map TGEdge.av p0.edges))) rfl rfl (Light.quiet (opLoadR rfl aggA_79 rfl rfl)) ?_
      refine ASL.q (v := (.int .i64 (p0.edges.length : Int))) rfl rfl (Light.quiet (opLenMap (f := TGEdge.av) rfl rfl rfl lenT_79 rfl)) ?_
      refine ASL.q (v := (.bool (decide (x3_l0 < ((p0.edges.length : Int)))))) rfl rfl (Light.quiet (opInt rfl rfl rfl rfl)) ?_
      refine ASL.done ?_
      refine AWP.ifP hF rfl (fun hc10 hF => ?_) (fun hc10 hF => ?_)
      · skip
        refine AWP.skip ?_
        refine QThen.nrm ?_
        refine AWP.seq ?_
        refine AWP.block ?_
        refine AWP.seqR rfl ?_
        refine ASL.q (v := (.rptr [(.list 4 (List.map TGEdge.av p0.edges))])) rfl rfl (Light.quiet (opFieldAddrR rfl fieldA_81_4 rfl rfl)) ?_
        refine ASL.q (v := (.list 4 (List.map TGEdge.av p0.edges))) rfl rfl (Light.quiet (opLoadR rfl aggA_79 rfl rfl)) ?_
        refine ASL.q (v := (.int .i64 x3_l0)) rfl rfl (Light.quiet (opMove rfl rfl)) ?_
        obtain ⟨a47, ha47, hF⟩ := bindE hF
        refine ASL.q (v := (.rptr [(.int .i64 a47.from_), (.int .i64 a47.letter), (.int .i64 a47.to_), (.int .i64 a47.marks)])) rfl rfl (Light.quiet (kIx (f := TGEdge.av) ha47 rfl rfl rfl elemA_79 sizeA_115 rfl)) ?_
        refine ASL.q (v := (TGEdge.av a47)) rfl rfl (Light.quiet (opLoadRA rfl aggA_115 sizeA_115 rfl (nlt rfl) rfl)) ?_
        refine ASL.x rfl rfl (hNewZ hS [(.int .i64 0), (.int .i64 0), (.int .i64 0), (.int .i64 0)] rfl zeroA_115 ⟨.inl rfl, .inl rfl, .inl rfl, .inl rfl, trivial⟩ ?_); rintro b4 G11 hK hS
        refine ASL.n rfl rfl (hPutA hS (j := 0) rfl rfl sizeA_115 rfl rfl rfl rfl rfl (nlt rfl) ?_); rintro G13 hS
        refine ASL.done ?_
        refine AWP.seqD [(0, false), (1, false), (2, false), (3, false), (4, false), (5, false), (6, false), (7, false), (8, false), (9, false), (10, false), (11, false), (12, false), (13, false), (14, false), (15, false), (16, false), (17, false), (18, false), (19, false), (20, false), (21, false), (22, false), (23, false), (24, false), (25, false), (26, false), (27, false), (28, false), (29, false), (30, false), (31, false), (32, false), (33, false), (34, false), (35, false), (36, false), (37, false), (38, false), (39, false), (40, false), (41, false), (42, false), (43, false), (44, false), (45, false), (46, false), (47, false)] mixed (by kernel_rfl) rfl ?_
        refine ARL.q0 (v := (.ptr b4 0)) rfl rfl (Light.quiet (opFieldAddr rfl fieldA_115_0 rfl rfl)) ?_
        refine ARL.q (v := (.int .i64 a47.from_)) rfl rfl (hS.aliveC (k := 0) rfl) (Light.quiet (kAt hS (j := 0) rfl rfl aggA_3 rfl rfl)) ?_
        refine ARL.q0 (v := (.rptr [(.int .i64 p0.states), (.int .i64 p0.start), (.int .i64 p0.sets), (.list 4 (List.map TGEdge.av p0.edges))])) rfl rfl (Light.quiet (opFieldAddrR rfl fieldA_81_1 rfl rfl)) ?_
        refine ARL.q0 (v := (.int .i64 p0.states)) rfl rfl (Light.quiet (opLoadR rfl aggA_3 rfl rfl)) ?_
        refine ARL.q0 (v := (.bool (spec_l4State a47.from_ p0.states))) rfl rfl ((qCall rfl rfl call_43 (spec_l4State_ok a47.from_ p0.states) rfl)) ?_
        refine ARL.q0 (v := (.bool (!(spec_l4State a47.from_ p0.states)))) rfl rfl (Light.quiet (opNot rfl rfl)) ?_
        obtain ⟨c55, hc55, hF⟩ := bndE hF
        refine ARL.q0 (v := (.bool c55)) rfl rfl ((Quiet.cast (Light.quiet (opMove rfl rfl)) (congrArg AV.bool hc55.symm))) ?_
        refine ARL.g (v := (.ptr b4 2)) (.bool c55) false rfl (wF _) rfl noneAlive (fun hG => by have q0 := gN hG; subst q0; exact Light.quiet (opFieldAddr rfl fieldA_115_2 rfl rfl)) ?_
        refine ARL.g (v := (.int .i64 a47.to_)) (.bool c55) false rfl (wF _) rfl (hS.aliveC (k := 0) rfl) (fun hG => by have q0 := gN hG; subst q0; exact Light.quiet (kAt hS (j := 0) rfl rfl aggA_3 rfl rfl)) ?_
        refine ARL.g (v := (.rptr [(.int .i64 p0.states), (.int .i64 p0.start), (.int .i64 p0.sets), (.list 4 (List.map TGEdge.av p0.edges))])) (.bool c55) false rfl (wF _) rfl noneAlive (fun hG => by have q0 := gN hG; subst q0; exact Light.quiet (opFieldAddrR rfl fieldA_81_1 rfl rfl)) ?_
        refine ARL.g (v := (.int .i64 p0.states)) (.bool c55) false rfl (wF _) rfl noneAlive (fun hG => by have q0 := gN hG; subst q0; exact Light.quiet (opLoadR rfl aggA_3 rfl rfl)) ?_
        refine ARL.g (v := (.bool (spec_l4State a47.to_ p0.states))) (.bool c55) false rfl (wF _) rfl noneAlive (fun hG => by have q0 := gN hG; subst q0; exact (qCall rfl rfl call_43 (spec_l4State_ok a47.to_ p0.states) rfl)) ?_
        refine ARL.g (v := (.bool (!(spec_l4State a47.to_ p0.states)))) (.bool c55) false rfl (wF _) rfl noneAlive (fun hG => by have q0 := gN hG; subst q0; exact Light.quiet (opNot rfl rfl)) ?_
        refine ARL.q0 (v := (.bool (c55 || (!(spec_l4State a47.to_ p0.states))))) rfl rfl (Light.quiet (opPick (b := c55) rfl rfl (by cases c55 <;> rfl))) ?_
        obtain ⟨c63, hc63, hF⟩ := bndE hF
        refine ARL.q0 (v := (.bool c63)) rfl rfl ((Quiet.cast (Light.quiet (opMove rfl rfl)) (congrArg AV.bool hc63.symm))) ?_
        refine ARL.g (v := (.ptr b4 1)) (.bool c63) false rfl (wF _) rfl noneAlive (fun hG => by have q0 := gN hG; subst q0; exact Light.quiet (opFieldAddr rfl fieldA_115_1 rfl rfl)) ?_
        refine ARL.g (v := (.int .i64 a47.letter)) (.bool c63) false rfl (wF _) rfl (hS.aliveC (k := 0) rfl) (fun hG => by have q0 := gN hG; subst q0; exact Light.quiet (kAt hS (j := 0) rfl rfl aggA_3 rfl rfl)) ?_
        refine ARL.g (v := (.rptr [(.int .i64 p0.letters), (.int .i64 p0.states), (.int .i64 p0.start), (.int .i64 p0.sets), (.list 4 (List.map TGEdge.av p0.edges))])) (.bool c63) false rfl (wF _) rfl noneAlive (fun hG => by have q0 := gN hG; subst q0; exact Light.quiet (opFieldAddrR rfl fieldA_81_0 rfl rfl)) ?_
        refine ARL.g (v := (.int .i64 p0.letters)) (.bool c63) false rfl (wF _) rfl noneAlive (fun hG => by have q0 := gN hG; subst q0; exact Light.quiet (opLoadR rfl aggA_3 rfl rfl)) ?_
        refine ARL.g (v := (.int .i64 (W (p0.letters - 1)))) (.bool c63) false rfl (wF _) rfl noneAlive (fun hG => by have q0 := gN hG; subst q0; exact Light.quiet (opInt rfl rfl rfl rfl)) ?_
        refine ARL.g (v := (.bool (spec_l1In a47.letter 0 ((W (p0.letters - 1)))))) (.bool c63) false rfl (wF _) rfl noneAlive (fun hG => by have q0 := gN hG; subst q0; exact (qCall rfl rfl call_41 (spec_l1In_ok a47.letter 0 ((W (p0.letters - 1)))) rfl)) ?_
        refine ARL.g (v := (.bool (!(spec_l1In a47.letter 0 ((W (p0.letters - 1))))))) (.bool c63) false rfl (wF _) rfl noneAlive (fun hG => by have q0 := gN hG; subst q0; exact Light.quiet (opNot rfl rfl)) ?_
        refine ARL.q0 (v := (.bool (c63 || (!(spec_l1In a47.letter 0 ((W (p0.letters - 1)))))))) rfl rfl (Light.quiet (opPick (b := c63) rfl rfl (by cases c63 <;> rfl))) ?_
        obtain ⟨c72, hc72, hF⟩ := bndE hF
        refine ARL.q0 (v := (.bool c72)) rfl rfl ((Quiet.cast (Light.quiet (opMove rfl rfl)) (congrArg AV.bool hc72.symm))) ?_
        refine ARL.g (v := (.ptr b4 3)) (.bool c72) false rfl (wF _) rfl noneAlive (fun hG => by have q0 := gN hG; subst q0; exact Light.quiet (opFieldAddr rfl fieldA_115_3 rfl rfl)) ?_
        refine ARL.g (v := (.int .i64 a47.marks)) (.bool c72) false rfl (wF _) rfl (hS.aliveC (k := 0) rfl) (fun hG => by have q0 := gN hG; subst q0; exact Light.quiet (kAt hS (j := 0) rfl rfl aggA_3 rfl rfl)) ?_
        refine ARL.g (v := (.rptr [(.int .i64 p0.sets), (.list 4 (List.map TGEdge.av p0.edges))])) (.bool c72) false rfl (wF _) rfl noneAlive (fun hG => by have q0 := gN hG; subst q0; exact Light.quiet (opFieldAddrR rfl fieldA_81_3 rfl rfl)) ?_
        refine ARL.g (v := (.int .i64 p0.sets)) (.bool c72) false rfl (wF _) rfl noneAlive (fun hG => by have q0 := gN hG; subst q0; exact Light.quiet (opLoadR rfl aggA_3 rfl rfl)) ?_
        obtain ⟨u14, hu14, hF⟩ := bindE hF
        refine ARL.g (v := (.int .i64 (shl .i64 1 p0.sets))) (.bool c72) false rfl (wF _) rfl noneAlive (fun hG => by have q0 := gN hG; subst q0; exact Light.quiet (opShl rfl rfl rfl (of_decide_eq_true (chkE (whenE hu14))) rfl)) ?_
        refine ARL.g (v := (.int .i64 (W (((shl .i64 1 p0.sets)) - 1)))) (.bool c72) false rfl (wF _) rfl noneAlive (fun hG => by have q0 := gN hG; subst q0; exact Light.quiet (opInt rfl rfl rfl rfl)) ?_
        refine ARL.g (v := (.bool (spec_SetIn a47.marks ((W (((shl .i64 1 p0.sets)) - 1)))))) (.bool c72) false rfl (wF _) rfl noneAlive (fun hG => by have q0 := gN hG; subst q0; exact (qCall rfl rfl call_42 (spec_SetIn_ok a47.marks ((W (((shl .i64 1 p0.sets)) - 1)))) rfl)) ?_
        refine ARL.g (v := (.bool (!(spec_SetIn a47.marks ((W (((shl .i64 1 p0.sets)) - 1))))))) (.bool c72) false rfl (wF _) rfl noneAlive (fun hG => by have q0 := gN hG; subst q0; exact Light.quiet (opNot rfl rfl)) ?_
        refine ARL.q0 (v := (.bool (c72 || (!(spec_SetIn a47.marks ((W (((shl .i64 1 p0.sets)) - 1)))))))) rfl rfl (Light.quiet (opPick (b := c72) rfl rfl (by cases c72 <;> rfl))) ?_
        obtain ⟨c82, hc82, hF⟩ := bndE hF
        refine ARL.q0 (v := (.bool c82)) rfl rfl ((Quiet.cast (Light.quiet (opMove rfl rfl)) (congrArg AV.bool hc82.symm))) ?_
        refine ARL.g (v := (.int .i64 x3_l0)) (.bool c82) false rfl (wF _) rfl noneAlive (fun hG => by have q0 := gN hG; subst q0; exact Light.quiet (opMove rfl rfl)) ?_
        refine ARL.g (v := (.bool (decide (x3_l0 > 0)))) (.bool c82) false rfl (wF _) rfl noneAlive (fun hG => by have q0 := gN hG; subst q0; exact Light.quiet (opInt rfl rfl rfl rfl)) ?_
        obtain ⟨c85, hc85, hF⟩ := bndE hF
        refine ARL.g (v := (.bool c85)) (.bool c82) false rfl (wF _) rfl noneAlive (fun hG => by have q0 := gN hG; subst q0; exact (Quiet.cast (Light.quiet (opMove rfl rfl)) (congrArg AV.bool hc85.symm))) ?_
        refine ARL.g (v := (.rptr [(.list 4 (List.map TGEdge.av p0.edges))])) (bif (!c82) then (.bool c85) else .tup []) true rfl (wGT _ _) rfl noneAlive (fun hG => by have q0 := gN (gA1 hG); have q1 := gA2 hG; subst q0; subst q1; exact Light.quiet (opFieldAddrR rfl fieldA_81_4 rfl rfl)) ?_
        refine ARL.g (v := (.list 4 (List.map TGEdge.av p0.edges))) (bif (!c82) then (.bool c85) else .tup []) true rfl (wGT _ _) rfl noneAlive (fun hG => by have q0 := gN (gA1 hG); have q1 := gA2 hG; subst q0; subst q1; exact Light.quiet (opLoadR rfl aggA_79 rfl rfl)) ?_
        refine ARL.g (v := (.int .i64 x3_l0)) (bif (!c82) then (.bool c85) else .tup []) true rfl (wGT _ _) rfl noneAlive (fun hG => by have q0 := gN (gA1 hG); have q1 := gA2 hG; subst q0; subst q1; exact Light.quiet (opMove rfl rfl)) ?_
        refine ARL.g (v := (.int .i64 (W (x3_l0 - 1)))) (bif (!c82) then (.bool c85) else .tup []) true rfl (wGT _ _) rfl noneAlive (fun hG => by have q0 := gN (gA1 hG); have q1 := gA2 hG; subst q0; subst q1; exact Light.quiet (opInt rfl rfl rfl rfl)) ?_
        obtain ⟨a90, ha90, hF⟩ := bindE hF
        refine ARL.g (v := (.rptr [(.int .i64 a90.from_), (.int .i64 a90.letter), (.int .i64 a90.to_), (.int .i64 a90.marks)])) (bif (!c82) then (.bool c85) else .tup []) true rfl (wGT _ _) rfl noneAlive (fun hG => by have q0 := gN (gA1 hG); have q1 := gA2 hG; subst q0; subst q1; exact Light.quiet (kIx (f := TGEdge.av) (whenE ha90) rfl rfl rfl elemA_79 sizeA_115 rfl)) ?_
        refine ARL.g (v := (TGEdge.av a90)) (bif (!c82) then (.bool c85) else .tup []) true rfl (wGT _ _) rfl noneAlive (fun hG => by have q0 := gN (gA1 hG); have q1 := gA2 hG; subst q0; subst q1; exact Light.quiet (opLoadRA rfl aggA_115 sizeA_115 rfl (nlt rfl) rfl)) ?_
        refine ARL.g (v := (TGEdge.av a47)) (bif (!c82) then (.bool c85) else .tup []) true rfl (wGT _ _) rfl (hS.aliveC (k := 0) rfl) (fun hG => by have q0 := gN (gA1 hG); have q1 := gA2 hG; subst q0; subst q1; exact Light.quiet (kAtA hS (j := 0) rfl rfl aggA_115 sizeA_115 rfl (nlt rfl) rfl)) ?_
        refine ARL.g (v := (.bool (spec_l5Less a90 a47))) (bif (!c82) then (.bool c85) else .tup []) true rfl (wGT _ _) rfl noneAlive (fun hG => by have q0 := gN (gA1 hG); have q1 := gA2 hG; subst q0; subst q1; exact (qCall rfl rfl call_113 (spec_l5Less_ok a90 a47) rfl)) ?_
        refine ARL.g (v := (.bool (!(spec_l5Less a90 a47)))) (bif (!c82) then (.bool c85) else .tup []) true rfl (wGT _ _) rfl noneAlive (fun hG => by have q0 := gN (gA1 hG); have q1 := gA2 hG; subst q0; subst q1; exact Light.quiet (opNot rfl rfl)) ?_
        refine ARL.g (v := (.bool (c85 && (!(spec_l5Less a90 a47))))) (.bool c82) false rfl (wF _) rfl noneAlive (fun hG => by have q0 := gN hG; subst q0; exact Light.quiet (opPick (b := c85) rfl rfl (by cases c85 <;> rfl))) ?_
        refine ARL.q0 (v := (.bool (c82 || (c85 && (!(spec_l5Less a90 a47)))))) rfl rfl (Light.quiet (opPick (b := c82) rfl rfl (by cases c82 <;> rfl))) ?_
        refine ARL.done ?_
        refine AWP.ifB hF rfl (fun hc15 hF => ?_) (fun hc15 hF => ?_)
        · skip
          refine AWP.seqR rfl ?_
          refine ASL.q (v := (.bool false)) rfl rfl (Light.quiet (opAssign rfl rfl)) ?_
          refine ASL.done ?_
          refine AWP.ret ?_
          refine QBlock.ret ?_
          refine QThen.rt ?_
          refine QThen.rt ?_
          refine QBlock.ret ?_
          refine QThen.rt ?_
          obtain rfl := (hx5 _ (someE hF).symm)
          have hF := hR8
          have hF := sumR hF
          obtain rfl := someE hF
          exact QRet.sole (v := (.bool false)) ⟨rfl, trivial⟩ rfl
        · skip
          refine AWP.skip ?_
          refine QBlock.nrm ?_
          refine QThen.nrm ?_
          refine AWP.lastR rfl ?_
          refine ASL.q (v := (.int .i64 x3_l0)) rfl rfl (Light.quiet (opMove rfl rfl)) ?_
          refine ASL.q (v := (.int .i64 (W (x3_l0 + 1)))) rfl rfl (Light.quiet (opInt rfl rfl rfl rfl)) ?_
          refine ASL.q (v := (.int .i64 (W (x3_l0 + 1)))) rfl rfl (Light.quiet (opAssign rfl rfl)) ?_
          refine ASL.done ?_
          refine QThen.nrm ?_
          exact ⟨(W (x3_l0 + 1)), (), (someE hF).symm, ⟨rfl, rfl, trivial⟩, (hS.pick [] rfl rfl)⟩
      · skip
        refine AWP.exit ?_
        refine QThen.ext ?_
        refine QThen.ext ?_
        refine QBlock.hit ?_
        obtain rfl := (hx5 _ (someE hF).symm)
        have hF := hR8
        have hF := sumL hF
        refine QThen.nrm ?_
        exact ⟨trivial, (hS.pick [] rfl rfl), hF⟩

set_option maxRecDepth 10000 in
theorem spec_l1Bit_ok {p0 : Int} {r : Int} (hF : spec_l1Bit p0 = some r) : PC Try.prog 116 [(.int .i64 p0)] fun v => v = (.int .i64 r) := by
  refine PC.enter Try.func116 rfl Try.ntmps116 (by simp) ?_
  have hS := Sep.void; unfold spec_l1Bit at hF
  refine AWP.seqR rfl ?_
  refine ASL.q (v := (.int .i64 0)) rfl rfl (Light.quiet (opAssign rfl rfl)) ?_
  refine ASL.done ?_
  refine AWP.seqR rfl ?_
  refine ASL.q (v := (.int .i64 p0)) rfl rfl (Light.quiet (opMove rfl rfl)) ?_
  refine ASL.q (v := (.int .i64 (bAnd .i64 p0 31))) rfl rfl (Light.quiet (opInt rfl rfl rfl rfl)) ?_
  obtain ⟨u1, hu1, hF⟩ := bindE hF
  refine ASL.q (v := (.int .i64 (shl .i64 1 ((bAnd .i64 p0 31))))) rfl rfl (Light.quiet (opShl rfl rfl rfl (of_decide_eq_true (chkE hu1)) rfl)) ?_
  refine ASL.q (v := (.int .i64 (shl .i64 1 ((bAnd .i64 p0 31))))) rfl rfl (Light.quiet (opAssign rfl rfl)) ?_
  refine ASL.done ?_
  refine AWP.ret ?_
  obtain rfl := someE hF
  exact QRet.sole (v := (.int .i64 (shl .i64 1 ((bAnd .i64 p0 31))))) ⟨rfl, trivial⟩ rfl

end Go.Proofs.Ytcmbbpdepobnlaa
