/- Each of these functions of the program comes to just what its plain function says: FnRankSteps. -/
import Derived.Test.YtllpbgcajgbfbaaDRankSteps
import Derived.Test.YtllpbgcajgbfbaaFa
import Derived.Test.YtllpbgcajgbfbaaG1
namespace Go.Proofs.Ytllpbgcajgbfbaa
open Go Go.RowKit E
set_option linter.unusedVariables false
set_option maxRecDepth 10000 in
theorem laws_big_ok (p0 : (List Int)) : PC Try.prog 15 [(.list 1 (List.map (AV.int .u8) p0))] fun v => v = (.bool (laws_big p0)) := by
  generalize hF : laws_big p0 = r
  refine PC.enter Try.func15 rfl Try.ntmps15 (by simp) ?_
  have hS := Sep.void; unfold laws_big at hF
  refine AWP.seqR rfl ?_
  refine ASL.q (v := (.bool false)) rfl rfl (Light.quiet (opAssign rfl rfl)) ?_
  refine ASL.done ?_
  refine AWP.seqR rfl ?_
  refine ASL.q (v := (.list 1 (List.map (AV.int .u8) p0))) rfl rfl (Light.quiet (opMove rfl rfl)) ?_
  refine ASL.q (v := (.int .i64 (p0.length : Int))) rfl rfl (Light.quiet (opLenMap (f := (AV.int .u8)) rfl rfl rfl lenT_40 rfl)) ?_
  refine ASL.q (v := (.bool (decide (((p0.length : Int)) > 1048576)))) rfl rfl (Light.quiet (opInt rfl rfl rfl rfl)) ?_
  refine ASL.q (v := (.bool (decide (((p0.length : Int)) > 1048576)))) rfl rfl (Light.quiet (opAssign rfl rfl)) ?_
  refine ASL.done ?_
  refine AWP.ret ?_
  obtain rfl := hF
  exact QRet.sole (v := (.bool (decide (((p0.length : Int)) > 1048576)))) ⟨rfl, trivial⟩ rfl

set_option maxRecDepth 10000 in
theorem spec_l1New_ok {p0 : (List Int)} {r : Tl1Cur} (hF : spec_l1New p0 = some r) : HS Try.prog 39 [(.list 1 (List.map (AV.int .u8) p0))] [] fun v L' => ∃ o0 : Nat, v = (.ptr o0 0) ∧ L' = [.cell o0 [(.list 1 (List.map (AV.int .u8) r.b)), (.int .i64 r.i), (.int .i64 r.h)]] := by
  intro H S hS
  refine HC.enter Try.func39 rfl Try.ntmps39 (by simp) ?_
  simp only [List.cons_append, List.nil_append] at hS
  unfold spec_l1New at hF
  refine AWP.seqR rfl ?_
  refine ASL.q (v := .nilptr) rfl rfl (Light.quiet (opAssign rfl rfl)) ?_
  refine ASL.done ?_
  refine AWP.seqR rfl ?_
  refine ASL.q (v := (.list 1 (List.map (AV.int .u8) p0))) rfl rfl (Light.quiet (opMove rfl rfl)) ?_
  refine ASL.q (v := (.int .i64 (p0.length : Int))) rfl rfl (Light.quiet (opLenMap (f := (AV.int .u8)) rfl rfl rfl lenT_40 rfl)) ?_
  refine ASL.q (v := (.int .i64 (W (10277 + ((p0.length : Int)))))) rfl rfl (Light.quiet (opInt rfl rfl rfl rfl)) ?_
  refine ASL.q (v := (.int .i64 (W (10277 + ((p0.length : Int)))))) rfl rfl (Light.quiet (opAssign rfl rfl)) ?_
  refine ASL.done ?_
  refine AWP.seqM (fun e H => ∃ x3_1 : Int, E.Told e [(0, (.list 1 (List.map (AV.int .u8) p0))), (3, (.int .i64 x3_1))] ∧ E.Sep H [.snap S] ∧ spec_l1New.k0 p0 x3_1 = some r) ?_ ?_
  · rintro e0 G3 ⟨x3_1, hT, hS, hF⟩; refine AWP.only _ hT ?_; unfold spec_l1New.k0 at hF
    refine AWP.seqR rfl ?_
    refine ASL.q (v := (.list 1 (List.map (AV.int .u8) p0))) rfl rfl (Light.quiet (opMove rfl rfl)) ?_
    refine ASL.q (v := (.int .i64 x3_1)) rfl rfl (Light.quiet (opMove rfl rfl)) ?_
    refine ASL.q (v := (.agg [(.list 1 (List.map (AV.int .u8) p0)), (.int .i64 0), (.int .i64 x3_1)])) rfl rfl (Light.quiet (opBuildZ (zs := [(.list 1 (List.map (AV.int .u8) [])), (.int .i64 0), (.int .i64 0)]) rfl plan_79 zeroA_79 ⟨.inr ⟨_, rfl, rfl⟩, .inl rfl, .inl rfl, trivial⟩ rfl)) ?_
    refine ASL.x rfl rfl (hBox hS rfl rfl rfl ?_); rintro b31 G1 hK hS
    refine ASL.q (v := (.ptr b31 0)) rfl rfl (Light.quiet (opAssign rfl rfl)) ?_
    refine ASL.done ?_
    refine AWP.ret ?_
    obtain rfl := someE hF
    exact QRet.sole (v := (.ptr b31 0)) ⟨rfl, trivial⟩ ⟨_, ⟨b31, rfl, rfl⟩, hS.pick [0, 1] rfl rfl⟩
  · skip
    refine AWP.seqR rfl ?_
    refine ASL.q (v := (.int .i64 0)) rfl rfl (Light.quiet (opAssign rfl rfl)) ?_
    refine ASL.done ?_
    refine AWP.block ?_
    obtain ⟨o7, hL6, hR8⟩ := bindE hF
    refine AWP.loopF (ω := Unit) hL6 (fun s w => [(0, (.list 1 (List.map (AV.int .u8) p0))), (3, (.int .i64 s.1)), (4, (.int .i64 s.2))]) (fun s w => [.snap S]) () ⟨rfl, rfl, rfl, trivial⟩ (hS.pick [0] rfl rfl) ?_
    rintro ⟨x3_l0, x4_l0⟩ _ G9 hS x4 hF hx5
    try dsimp only at hS ⊢
    have hF : spec_l1New.b0 p0 x3_l0 x4_l0 = some x4 := hF; unfold spec_l1New.b0 at hF
    refine AWP.seq ?_
    refine AWP.seqR rfl ?_
    refine ASL.q (v := (.int .i64 x4_l0)) rfl rfl (Light.quiet (opMove rfl rfl)) ?_
    refine ASL.q (v := (.list 1 (List.map (AV.int .u8) p0))) rfl rfl (Light.quiet (opMove rfl rfl)) ?_
    refine ASL.q (v := (.int .i64 (p0.length : Int))) rfl rfl (Light.quiet (opLenMap (f := (AV.int .u8)) rfl rfl rfl lenT_40 rfl)) ?_
    refine ASL.q (v := (.bool (decide (x4_l0 < ((p0.length : Int)))))) rfl rfl (Light.quiet (opInt rfl rfl rfl rfl)) ?_
    obtain ⟨c12, hc12, hF⟩ := bndE hF
    refine ASL.q (v := (.bool c12)) rfl rfl ((Quiet.cast (Light.quiet (opMove rfl rfl)) (congrArg AV.bool hc12.symm))) ?_
    refine ASL.g (v := (.int .i64 x4_l0)) (.bool c12) true rfl (wT _) rfl (fun hG => by have q0 := hG; subst q0; exact Light.quiet (opMove rfl rfl)) ?_
    refine ASL.g (v := (.bool (decide (x4_l0 < 4000)))) (.bool c12) true rfl (wT _) rfl (fun hG => by have q0 := hG; subst q0; exact Light.quiet (opInt rfl rfl rfl rfl)) ?_
    refine ASL.q (v := (.bool (c12 && (decide (x4_l0 < 4000))))) rfl rfl (Light.quiet (opPick (b := c12) rfl rfl (by cases c12 <;> rfl))) ?_
    refine ASL.done ?_
    refine AWP.ifB hF rfl (fun hc10 hF => ?_) (fun hc10 hF => ?_)
    · skip
      refine AWP.skip ?_
      refine QThen.nrm ?_
      refine AWP.seq ?_
      refine AWP.block ?_
      refine AWP.lastR rfl ?_
      refine ASL.q (v := (.int .i64 x3_l0)) rfl rfl (Light.quiet (opMove rfl rfl)) ?_
      refine ASL.q (v := (.int .i64 (W (x3_l0 * 131)))) rfl rfl (Light.quiet (opInt rfl rfl rfl rfl)) ?_
      refine ASL.q (v := (.list 1 (List.map (AV.int .u8) p0))) rfl rfl (Light.quiet (opMove rfl rfl)) ?_
      refine ASL.q (v := (.int .i64 x4_l0)) rfl rfl (Light.quiet (opMove rfl rfl)) ?_
      obtain ⟨a22, ha22, hF⟩ := bindE hF
      refine ASL.q (v := (.rptr [(.int .u8 a22)])) rfl rfl (Light.quiet (kIx (f := (AV.int .u8)) ha22 rfl rfl rfl elemA_40 sizeA_5 rfl)) ?_
      refine ASL.q (v := (.int .u8 a22)) rfl rfl (Light.quiet (opLoadR rfl aggA_5 rfl rfl)) ?_
      refine ASL.q (v := (.int .i64 (IntKind.i64.wrap a22))) rfl rfl (Light.quiet (opConv rfl rfl und_5 und_3 rfl)) ?_
      refine ASL.q (v := (.int .i64 (W (((W (x3_l0 * 131))) + ((IntKind.i64.wrap a22)))))) rfl rfl (Light.quiet (opInt rfl rfl rfl rfl)) ?_
      refine ASL.q (v := (.int .i64 (W (((W (((W (x3_l0 * 131))) + ((IntKind.i64.wrap a22))))) + 7)))) rfl rfl (Light.quiet (opInt rfl rfl rfl rfl)) ?_
      refine ASL.q (v := (.int .i64 (bAnd .i64 ((W (((W (((W (x3_l0 * 131))) + ((IntKind.i64.wrap a22))))) + 7))) 1073741823))) rfl rfl (Light.quiet (opInt rfl rfl rfl rfl)) ?_
      refine ASL.q (v := (.int .i64 (bAnd .i64 ((W (((W (((W (x3_l0 * 131))) + ((IntKind.i64.wrap a22))))) + 7))) 1073741823))) rfl rfl (Light.quiet (opAssign rfl rfl)) ?_
      refine ASL.done ?_
      refine QBlock.nrm ?_
      refine QThen.nrm ?_
      refine AWP.lastR rfl ?_
      refine ASL.q (v := (.int .i64 x4_l0)) rfl rfl (Light.quiet (opMove rfl rfl)) ?_
      refine ASL.q (v := (.int .i64 (W (x4_l0 + 1)))) rfl rfl (Light.quiet (opInt rfl rfl rfl rfl)) ?_
      refine ASL.q (v := (.int .i64 (W (x4_l0 + 1)))) rfl rfl (Light.quiet (opAssign rfl rfl)) ?_
      refine ASL.done ?_
      refine QThen.nrm ?_
      exact ⟨((bAnd .i64 ((W (((W (((W (x3_l0 * 131))) + ((IntKind.i64.wrap a22))))) + 7))) 1073741823), (W (x4_l0 + 1))), (), (someE hF).symm, ⟨rfl, rfl, rfl, trivial⟩, (hS.pick [0] rfl rfl)⟩
    · skip
      refine AWP.exit ?_
      refine QThen.ext ?_
      refine QThen.ext ?_
      refine QBlock.hit ?_
      obtain rfl := (hx5 _ (someE hF).symm)
      have hF := hR8
      refine QThen.nrm ?_
      exact ⟨x3_l0, ⟨rfl, rfl, trivial⟩, (hS.pick [0] rfl rfl), hF⟩

set_option maxRecDepth 10000 in
theorem spec_l1Byte_ok {p0 : Tl1Cur} {r : (Int × Tl1Cur)} {bp0 : Nat} (hF : spec_l1Byte p0 = some r) : HS Try.prog 62 [(.ptr bp0 0)] [.cell bp0 [(.list 1 (List.map (AV.int .u8) p0.b)), (.int .i64 p0.i), (.int .i64 p0.h)]] fun v L' => v = (.int .i64 r.1) ∧ L' = [.cell bp0 [(.list 1 (List.map (AV.int .u8) r.2.b)), (.int .i64 r.2.i), (.int .i64 r.2.h)]] := by
  intro H S hS
  refine HC.enter Try.func62 rfl Try.ntmps62 (by simp) ?_
  simp only [List.cons_append, List.nil_append] at hS
  unfold spec_l1Byte at hF
  refine AWP.seqR rfl ?_
  refine ASL.q (v := (.int .i64 0)) rfl rfl (Light.quiet (opAssign rfl rfl)) ?_
  refine ASL.done ?_
  refine AWP.seqR rfl ?_
  refine ASL.q (v := (.ptr bp0 0)) rfl rfl (Light.quiet (opMove rfl rfl)) ?_
  refine ASL.q (v := (.ptr bp0 0)) rfl rfl (Light.quiet (opMove rfl rfl)) ?_
  refine ASL.q (v := (.ptr bp0 0)) rfl rfl (Light.quiet (opNil rfl rfl rfl)) ?_
  refine ASL.q (v := (.ptr bp0 2)) rfl rfl (Light.quiet (opFieldAddr rfl fieldA_79_2 rfl rfl)) ?_
  refine ASL.q (v := (.int .i64 p0.h)) rfl rfl (Light.quiet (kAt hS (j := 0) rfl rfl aggA_3 rfl rfl)) ?_
  refine ASL.q (v := (.int .i64 (W (p0.h * 6364136223846793005)))) rfl rfl (Light.quiet (opInt rfl rfl rfl rfl)) ?_
  refine ASL.q (v := (.int .i64 (W (((W (p0.h * 6364136223846793005))) + 1442695040888963407)))) rfl rfl (Light.quiet (opInt rfl rfl rfl rfl)) ?_
  refine ASL.q (v := (.ptr bp0 0)) rfl rfl (Light.quiet (opNil rfl rfl rfl)) ?_
  refine ASL.q (v := (.ptr bp0 2)) rfl rfl (Light.quiet (opFieldAddr rfl fieldA_79_2 rfl rfl)) ?_
  refine ASL.n rfl rfl (hPut hS (j := 0) rfl rfl sizeA_3 rfl rfl rfl (nlt rfl) ?_); rintro G2 hS
  refine ASL.done ?_
  refine AWP.seqD [(0, false), (1, false), (2, false), (3, false), (4, false), (5, false), (6, false), (7, false), (8, false), (9, false), (10, false), (11, false), (12, false)] mixed (by kernel_rfl) rfl ?_
  refine ARL.q0 (v := (.ptr bp0 0)) rfl rfl (Light.quiet (opMove rfl rfl)) ?_
  refine ARL.q0 (v := (.ptr bp0 0)) rfl rfl (Light.quiet (opNil rfl rfl rfl)) ?_
  refine ARL.q0 (v := (.ptr bp0 2)) rfl rfl (Light.quiet (opFieldAddr rfl fieldA_79_2 rfl rfl)) ?_
  refine ARL.q (v := (.int .i64 (W (((W (p0.h * 6364136223846793005))) + 1442695040888963407)))) rfl rfl (hS.aliveC (k := 0) rfl) (Light.quiet (kAt hS (j := 0) rfl rfl aggA_3 rfl rfl)) ?_
  refine ARL.q0 (v := (.int .i64 (shr .i64 ((W (((W (p0.h * 6364136223846793005))) + 1442695040888963407))) 33))) rfl rfl (Light.quiet (opShr rfl rfl rfl (by decide) rfl)) ?_
  refine ARL.q0 (v := (.ptr bp0 0)) rfl rfl (Light.quiet (opMove rfl rfl)) ?_
  refine ARL.q0 (v := (.ptr bp0 0)) rfl rfl (Light.quiet (opNil rfl rfl rfl)) ?_
  refine ARL.q0 (v := (.ptr bp0 2)) rfl rfl (Light.quiet (opFieldAddr rfl fieldA_79_2 rfl rfl)) ?_
  refine ARL.q (v := (.int .i64 (W (((W (p0.h * 6364136223846793005))) + 1442695040888963407)))) rfl rfl (hS.aliveC (k := 0) rfl) (Light.quiet (kAt hS (j := 0) rfl rfl aggA_3 rfl rfl)) ?_
  refine ARL.q0 (v := (.int .i64 (shr .i64 ((W (((W (p0.h * 6364136223846793005))) + 1442695040888963407))) 45))) rfl rfl (Light.quiet (opShr rfl rfl rfl (by decide) rfl)) ?_
  refine ARL.q0 (v := (.int .i64 (bXor .i64 ((shr .i64 ((W (((W (p0.h * 6364136223846793005))) + 1442695040888963407))) 33)) ((shr .i64 ((W (((W (p0.h * 6364136223846793005))) + 1442695040888963407))) 45))))) rfl rfl (Light.quiet (opInt rfl rfl rfl rfl)) ?_
  refine ARL.q0 (v := (.int .i64 (bAnd .i64 ((bXor .i64 ((shr .i64 ((W (((W (p0.h * 6364136223846793005))) + 1442695040888963407))) 33)) ((shr .i64 ((W (((W (p0.h * 6364136223846793005))) + 1442695040888963407))) 45)))) 255))) rfl rfl (Light.quiet (opInt rfl rfl rfl rfl)) ?_
  refine ARL.q0 (v := (.int .i64 (bAnd .i64 ((bXor .i64 ((shr .i64 ((W (((W (p0.h * 6364136223846793005))) + 1442695040888963407))) 33)) ((shr .i64 ((W (((W (p0.h * 6364136223846793005))) + 1442695040888963407))) 45)))) 255))) rfl rfl (Light.quiet (opAssign rfl rfl)) ?_
  refine ARL.done ?_
  refine AWP.seq ?_
  refine AWP.seqD [(0, false), (1, false), (2, false), (3, false), (4, false), (5, false), (6, false), (7, false), (8, false), (9, false)] mixed (by kernel_rfl) rfl ?_
  refine ARL.q0 (v := (.ptr bp0 0)) rfl rfl (Light.quiet (opMove rfl rfl)) ?_
  refine ARL.q0 (v := (.ptr bp0 0)) rfl rfl (Light.quiet (opNil rfl rfl rfl)) ?_
  refine ARL.q0 (v := (.ptr bp0 1)) rfl rfl (Light.quiet (opFieldAddr rfl fieldA_79_1 rfl rfl)) ?_
  refine ARL.q (v := (.int .i64 p0.i)) rfl rfl (hS.aliveC (k := 0) rfl) (Light.quiet (kAt hS (j := 0) rfl rfl aggA_3 rfl rfl)) ?_
  refine ARL.q0 (v := (.ptr bp0 0)) rfl rfl (Light.quiet (opMove rfl rfl)) ?_
  refine ARL.q0 (v := (.ptr bp0 0)) rfl rfl (Light.quiet (opNil rfl rfl rfl)) ?_
  refine ARL.q0 (v := (.ptr bp0 0)) rfl rfl (Light.quiet (opFieldAddr rfl fieldA_79_0 rfl rfl)) ?_
  refine ARL.q (v := (.list 1 (List.map (AV.int .u8) p0.b))) rfl rfl (hS.aliveC (k := 0) rfl) (Light.quiet (kAt hS (j := 0) rfl rfl aggA_40 rfl rfl)) ?_
  refine ARL.q0 (v := (.int .i64 (p0.b.length : Int))) rfl rfl (Light.quiet (opLenMap (f := (AV.int .u8)) rfl rfl rfl lenT_40 rfl)) ?_
  refine ARL.q0 (v := (.bool (decide (p0.i < ((p0.b.length : Int)))))) rfl rfl (Light.quiet (opInt rfl rfl rfl rfl)) ?_
  refine ARL.done ?_
  refine AWP.ifP hF rfl (fun hc3 hF => ?_) (fun hc3 hF => ?_)
  · skip
    refine AWP.seqD [(0, false), (1, false), (2, false), (3, false), (4, false), (5, false), (6, false), (7, false), (8, false), (9, false), (10, false), (11, false), (12, false), (13, false), (14, false)] mixed (by kernel_rfl) rfl ?_
    refine ARL.q0 (v := (.int .i64 (bAnd .i64 ((bXor .i64 ((shr .i64 ((W (((W (p0.h * 6364136223846793005))) + 1442695040888963407))) 33)) ((shr .i64 ((W (((W (p0.h * 6364136223846793005))) + 1442695040888963407))) 45)))) 255))) rfl rfl (Light.quiet (opMove rfl rfl)) ?_
    refine ARL.q0 (v := (.ptr bp0 0)) rfl rfl (Light.quiet (opMove rfl rfl)) ?_
    refine ARL.q0 (v := (.ptr bp0 0)) rfl rfl (Light.quiet (opNil rfl rfl rfl)) ?_
    refine ARL.q0 (v := (.ptr bp0 0)) rfl rfl (Light.quiet (opFieldAddr rfl fieldA_79_0 rfl rfl)) ?_
    refine ARL.q (v := (.list 1 (List.map (AV.int .u8) p0.b))) rfl rfl (hS.aliveC (k := 0) rfl) (Light.quiet (kAt hS (j := 0) rfl rfl aggA_40 rfl rfl)) ?_
    refine ARL.q0 (v := (.ptr bp0 0)) rfl rfl (Light.quiet (opMove rfl rfl)) ?_
    refine ARL.q0 (v := (.ptr bp0 0)) rfl rfl (Light.quiet (opNil rfl rfl rfl)) ?_
    refine ARL.q0 (v := (.ptr bp0 1)) rfl rfl (Light.quiet (opFieldAddr rfl fieldA_79_1 rfl rfl)) ?_
    refine ARL.q (v := (.int .i64 p0.i)) rfl rfl (hS.aliveC (k := 0) rfl) (Light.quiet (kAt hS (j := 0) rfl rfl aggA_3 rfl rfl)) ?_
    obtain ⟨a44, ha44, hF⟩ := bindE hF
    refine ARL.q0 (v := (.rptr [(.int .u8 a44)])) rfl rfl (Light.quiet (kIx (f := (AV.int .u8)) ha44 rfl rfl rfl elemA_40 sizeA_5 rfl)) ?_
    refine ARL.q0 (v := (.int .u8 a44)) rfl rfl (Light.quiet (opLoadR rfl aggA_5 rfl rfl)) ?_
    refine ARL.q0 (v := (.int .i64 (IntKind.i64.wrap a44))) rfl rfl (Light.quiet (opConv rfl rfl und_5 und_3 rfl)) ?_
    refine ARL.q0 (v := (.int .i64 (W (((bAnd .i64 ((bXor .i64 ((shr .i64 ((W (((W (p0.h * 6364136223846793005))) + 1442695040888963407))) 33)) ((shr .i64 ((W (((W (p0.h * 6364136223846793005))) + 1442695040888963407))) 45)))) 255)) + ((IntKind.i64.wrap a44)))))) rfl rfl (Light.quiet (opInt rfl rfl rfl rfl)) ?_
    refine ARL.q0 (v := (.int .i64 (bAnd .i64 ((W (((bAnd .i64 ((bXor .i64 ((shr .i64 ((W (((W (p0.h * 6364136223846793005))) + 1442695040888963407))) 33)) ((shr .i64 ((W (((W (p0.h * 6364136223846793005))) + 1442695040888963407))) 45)))) 255)) + ((IntKind.i64.wrap a44))))) 255))) rfl rfl (Light.quiet (opInt rfl rfl rfl rfl)) ?_
    refine ARL.q0 (v := (.int .i64 (bAnd .i64 ((W (((bAnd .i64 ((bXor .i64 ((shr .i64 ((W (((W (p0.h * 6364136223846793005))) + 1442695040888963407))) 33)) ((shr .i64 ((W (((W (p0.h * 6364136223846793005))) + 1442695040888963407))) 45)))) 255)) + ((IntKind.i64.wrap a44))))) 255))) rfl rfl (Light.quiet (opAssign rfl rfl)) ?_
    refine ARL.done ?_
    refine AWP.lastR rfl ?_
    refine ASL.q (v := (.ptr bp0 0)) rfl rfl (Light.quiet (opMove rfl rfl)) ?_
    refine ASL.q (v := (.ptr bp0 0)) rfl rfl (Light.quiet (opMove rfl rfl)) ?_
    refine ASL.q (v := (.ptr bp0 0)) rfl rfl (Light.quiet (opNil rfl rfl rfl)) ?_
    refine ASL.q (v := (.ptr bp0 1)) rfl rfl (Light.quiet (opFieldAddr rfl fieldA_79_1 rfl rfl)) ?_
    refine ASL.q (v := (.int .i64 p0.i)) rfl rfl (Light.quiet (kAt hS (j := 0) rfl rfl aggA_3 rfl rfl)) ?_
    refine ASL.q (v := (.int .i64 (W (p0.i + 1)))) rfl rfl (Light.quiet (opInt rfl rfl rfl rfl)) ?_
    refine ASL.q (v := (.ptr bp0 0)) rfl rfl (Light.quiet (opNil rfl rfl rfl)) ?_
    refine ASL.q (v := (.ptr bp0 1)) rfl rfl (Light.quiet (opFieldAddr rfl fieldA_79_1 rfl rfl)) ?_
    refine ASL.n rfl rfl (hPut hS (j := 0) rfl rfl sizeA_3 rfl rfl rfl (nlt rfl) ?_); rintro G4 hS
    refine ASL.done ?_
    refine QThen.nrm ?_
    refine AWP.seqR rfl ?_
    refine ASL.q (v := (.int .i64 (bAnd .i64 ((W (((bAnd .i64 ((bXor .i64 ((shr .i64 ((W (((W (p0.h * 6364136223846793005))) + 1442695040888963407))) 33)) ((shr .i64 ((W (((W (p0.h * 6364136223846793005))) + 1442695040888963407))) 45)))) 255)) + ((IntKind.i64.wrap a44))))) 255))) rfl rfl (Light.quiet (opMove rfl rfl)) ?_
    refine ASL.q (v := (.int .i64 (bAnd .i64 ((W (((bAnd .i64 ((bXor .i64 ((shr .i64 ((W (((W (p0.h * 6364136223846793005))) + 1442695040888963407))) 33)) ((shr .i64 ((W (((W (p0.h * 6364136223846793005))) + 1442695040888963407))) 45)))) 255)) + ((IntKind.i64.wrap a44))))) 255))) rfl rfl (Light.quiet (opAssign rfl rfl)) ?_
    refine ASL.done ?_
    refine AWP.ret ?_
    obtain rfl := someE hF
    exact QRet.sole (v := (.int .i64 (bAnd .i64 ((W (((bAnd .i64 ((bXor .i64 ((shr .i64 ((W (((W (p0.h * 6364136223846793005))) + 1442695040888963407))) 33)) ((shr .i64 ((W (((W (p0.h * 6364136223846793005))) + 1442695040888963407))) 45)))) 255)) + ((IntKind.i64.wrap a44))))) 255))) ⟨rfl, trivial⟩ ⟨_, ⟨rfl, rfl⟩, hS.pick [0, 1] rfl rfl⟩
  · skip
    refine AWP.skip ?_
    refine QThen.nrm ?_
    refine AWP.seqR rfl ?_
    refine ASL.q (v := (.int .i64 (bAnd .i64 ((bXor .i64 ((shr .i64 ((W (((W (p0.h * 6364136223846793005))) + 1442695040888963407))) 33)) ((shr .i64 ((W (((W (p0.h * 6364136223846793005))) + 1442695040888963407))) 45)))) 255))) rfl rfl (Light.quiet (opMove rfl rfl)) ?_
    refine ASL.q (v := (.int .i64 (bAnd .i64 ((bXor .i64 ((shr .i64 ((W (((W (p0.h * 6364136223846793005))) + 1442695040888963407))) 33)) ((shr .i64 ((W (((W (p0.h * 6364136223846793005))) + 1442695040888963407))) 45)))) 255))) rfl rfl (Light.quiet (opAssign rfl rfl)) ?_
    refine ASL.done ?_
    refine AWP.ret ?_
    obtain rfl := someE hF
    exact QRet.sole (v := (.int .i64 (bAnd .i64 ((bXor .i64 ((shr .i64 ((W (((W (p0.h * 6364136223846793005))) + 1442695040888963407))) 33)) ((shr .i64 ((W (((W (p0.h * 6364136223846793005))) + 1442695040888963407))) 45)))) 255))) ⟨rfl, trivial⟩ ⟨_, ⟨rfl, rfl⟩, hS.pick [0, 1] rfl rfl⟩

set_option maxRecDepth 10000 in
theorem spec_l1Below_ok {p0 : Tl1Cur} {p1 : Int} {r : (Int × Tl1Cur)} {bp0 : Nat} (hF : spec_l1Below p0 p1 = some r) : HS Try.prog 42 [(.ptr bp0 0), (.int .i64 p1)] [.cell bp0 [(.list 1 (List.map (AV.int .u8) p0.b)), (.int .i64 p0.i), (.int .i64 p0.h)]] fun v L' => v = (.int .i64 r.1) ∧ L' = [.cell bp0 [(.list 1 (List.map (AV.int .u8) r.2.b)), (.int .i64 r.2.i), (.int .i64 r.2.h)]] := by
  intro H S hS
  refine HC.enter Try.func42 rfl Try.ntmps42 (by simp) ?_
  simp only [List.cons_append, List.nil_append] at hS
  unfold spec_l1Below at hF
  refine AWP.seqR rfl ?_
  refine ASL.q (v := (.int .i64 0)) rfl rfl (Light.quiet (opAssign rfl rfl)) ?_
  refine ASL.done ?_
  refine AWP.seq ?_
  refine AWP.seqR rfl ?_
  refine ASL.q (v := (.int .i64 p1)) rfl rfl (Light.quiet (opMove rfl rfl)) ?_
  refine ASL.q (v := (.bool (decide (p1 ≤ 0)))) rfl rfl (Light.quiet (opInt rfl rfl rfl rfl)) ?_
  refine ASL.done ?_
  refine AWP.ifP hF rfl (fun hc2 hF => ?_) (fun hc2 hF => ?_)
  · skip
    refine AWP.seqR rfl ?_
    refine ASL.q (v := (.int .i64 0)) rfl rfl (Light.quiet (opAssign rfl rfl)) ?_
    refine ASL.done ?_
    refine AWP.ret ?_
    refine QThen.rt ?_
    obtain rfl := someE hF
    exact QRet.sole (v := (.int .i64 0)) ⟨rfl, trivial⟩ ⟨_, ⟨rfl, rfl⟩, hS.pick [0, 1] rfl rfl⟩
  · skip
    refine AWP.skip ?_
    refine QThen.nrm ?_
    refine AWP.seq ?_
    refine AWP.seqR rfl ?_
    refine ASL.q (v := (.int .i64 p1)) rfl rfl (Light.quiet (opMove rfl rfl)) ?_
    refine ASL.q (v := (.bool (decide (p1 ≤ 256)))) rfl rfl (Light.quiet (opInt rfl rfl rfl rfl)) ?_
    refine ASL.done ?_
    refine AWP.ifP hF rfl (fun hc3 hF => ?_) (fun hc3 hF => ?_)
    · skip
      refine AWP.seqR rfl ?_
      refine ASL.q (v := (.ptr bp0 0)) rfl rfl (Light.quiet (opMove rfl rfl)) ?_
      obtain ⟨a14, ha14, hF⟩ := bindE hF
      refine ASL.x rfl rfl (hCallS hS [0, 1] (F := [.snap S]) rfl rfl rfl call_62 (spec_l1Byte_ok ha14) rfl rfl ?_); rintro _ _ G4 ⟨rfl, rfl⟩ hS
      refine ASL.q (v := (.int .i64 p1)) rfl rfl (Light.quiet (opMove rfl rfl)) ?_
      obtain ⟨u5, hu5, hF⟩ := bindE hF
      refine ASL.q (v := (.int .i64 (Int.tmod a14.1 p1))) rfl rfl (Light.quiet (opRem rfl rfl rfl (of_decide_eq_true (chkE hu5)) rfl)) ?_
      refine ASL.q (v := (.int .i64 (Int.tmod a14.1 p1))) rfl rfl (Light.quiet (opAssign rfl rfl)) ?_
      refine ASL.done ?_
      refine AWP.ret ?_
      refine QThen.rt ?_
      obtain rfl := someE hF
      exact QRet.sole (v := (.int .i64 (Int.tmod a14.1 p1))) ⟨rfl, trivial⟩ ⟨_, ⟨rfl, rfl⟩, hS.pick [0, 1] rfl rfl⟩
    · skip
      refine AWP.skip ?_
      refine QThen.nrm ?_
      refine AWP.seqR rfl ?_
      refine ASL.q (v := (.ptr bp0 0)) rfl rfl (Light.quiet (opMove rfl rfl)) ?_
      obtain ⟨a18, ha18, hF⟩ := bindE hF
      refine ASL.x rfl rfl (hCallS hS [0, 1] (F := [.snap S]) rfl rfl rfl call_62 (spec_l1Byte_ok ha18) rfl rfl ?_); rintro _ _ G6 ⟨rfl, rfl⟩ hS
      refine ASL.q (v := (.int .i64 a18.1)) rfl rfl (Light.quiet (opAssign rfl rfl)) ?_
      refine ASL.done ?_
      refine AWP.seqR rfl ?_
      refine ASL.q (v := (.ptr bp0 0)) rfl rfl (Light.quiet (opMove rfl rfl)) ?_
      obtain ⟨a20, ha20, hF⟩ := bindE hF
      refine ASL.x rfl rfl (hCallS hS [0, 1] (F := [.snap S]) rfl rfl rfl call_62 (spec_l1Byte_ok ha20) rfl rfl ?_); rintro _ _ G7 ⟨rfl, rfl⟩ hS
      refine ASL.q (v := (.int .i64 a20.1)) rfl rfl (Light.quiet (opAssign rfl rfl)) ?_
      refine ASL.done ?_
      refine AWP.seqR rfl ?_
      refine ASL.q (v := (.ptr bp0 0)) rfl rfl (Light.quiet (opMove rfl rfl)) ?_
      obtain ⟨a22, ha22, hF⟩ := bindE hF
      refine ASL.x rfl rfl (hCallS hS [0, 1] (F := [.snap S]) rfl rfl rfl call_62 (spec_l1Byte_ok ha22) rfl rfl ?_); rintro _ _ G8 ⟨rfl, rfl⟩ hS
      refine ASL.q (v := (.int .i64 a22.1)) rfl rfl (Light.quiet (opAssign rfl rfl)) ?_
      refine ASL.done ?_
      refine AWP.seqR rfl ?_
      refine ASL.q (v := (.ptr bp0 0)) rfl rfl (Light.quiet (opMove rfl rfl)) ?_
      obtain ⟨a24, ha24, hF⟩ := bindE hF
      refine ASL.x rfl rfl (hCallS hS [0, 1] (F := [.snap S]) rfl rfl rfl call_62 (spec_l1Byte_ok ha24) rfl rfl ?_); rintro _ _ G9 ⟨rfl, rfl⟩ hS
      refine ASL.q (v := (.int .i64 a24.1)) rfl rfl (Light.quiet (opAssign rfl rfl)) ?_
      refine ASL.done ?_
      refine AWP.seqR rfl ?_
      refine ASL.q (v := (.int .i64 a18.1)) rfl rfl (Light.quiet (opMove rfl rfl)) ?_
      refine ASL.q (v := (.int .i64 (W (a18.1 * 16777216)))) rfl rfl (Light.quiet (opInt rfl rfl rfl rfl)) ?_
      refine ASL.q (v := (.int .i64 a20.1)) rfl rfl (Light.quiet (opMove rfl rfl)) ?_
      refine ASL.q (v := (.int .i64 (W (a20.1 * 65536)))) rfl rfl (Light.quiet (opInt rfl rfl rfl rfl)) ?_
      refine ASL.q (v := (.int .i64 (W (((W (a18.1 * 16777216))) + ((W (a20.1 * 65536))))))) rfl rfl (Light.quiet (opInt rfl rfl rfl rfl)) ?_
      refine ASL.q (v := (.int .i64 a22.1)) rfl rfl (Light.quiet (opMove rfl rfl)) ?_
      refine ASL.q (v := (.int .i64 (W (a22.1 * 256)))) rfl rfl (Light.quiet (opInt rfl rfl rfl rfl)) ?_
      refine ASL.q (v := (.int .i64 (W (((W (((W (a18.1 * 16777216))) + ((W (a20.1 * 65536)))))) + ((W (a22.1 * 256))))))) rfl rfl (Light.quiet (opInt rfl rfl rfl rfl)) ?_
      refine ASL.q (v := (.int .i64 a24.1)) rfl rfl (Light.quiet (opMove rfl rfl)) ?_
      refine ASL.q (v := (.int .i64 (W (((W (((W (((W (a18.1 * 16777216))) + ((W (a20.1 * 65536)))))) + ((W (a22.1 * 256)))))) + a24.1)))) rfl rfl (Light.quiet (opInt rfl rfl rfl rfl)) ?_
      refine ASL.q (v := (.int .i64 p1)) rfl rfl (Light.quiet (opMove rfl rfl)) ?_
      obtain ⟨u10, hu10, hF⟩ := bindE hF
      refine ASL.q (v := (.int .i64 (Int.tmod ((W (((W (((W (((W (a18.1 * 16777216))) + ((W (a20.1 * 65536)))))) + ((W (a22.1 * 256)))))) + a24.1))) p1))) rfl rfl (Light.quiet (opRem rfl rfl rfl (of_decide_eq_true (chkE hu10)) rfl)) ?_
      refine ASL.q (v := (.int .i64 (Int.tmod ((W (((W (((W (((W (a18.1 * 16777216))) + ((W (a20.1 * 65536)))))) + ((W (a22.1 * 256)))))) + a24.1))) p1))) rfl rfl (Light.quiet (opAssign rfl rfl)) ?_
      refine ASL.done ?_
      refine AWP.ret ?_
      obtain rfl := someE hF
      exact QRet.sole (v := (.int .i64 (Int.tmod ((W (((W (((W (((W (a18.1 * 16777216))) + ((W (a20.1 * 65536)))))) + ((W (a22.1 * 256)))))) + a24.1))) p1))) ⟨rfl, trivial⟩ ⟨_, ⟨rfl, rfl⟩, hS.pick [0, 1] rfl rfl⟩

set_option maxRecDepth 10000 in
theorem spec_l1Once_ok {p0 : Tl1Cur} {p1 : Int} {r : (Bool × Tl1Cur)} {bp0 : Nat} (hF : spec_l1Once p0 p1 = some r) : HS Try.prog 59 [(.ptr bp0 0), (.int .i64 p1)] [.cell bp0 [(.list 1 (List.map (AV.int .u8) p0.b)), (.int .i64 p0.i), (.int .i64 p0.h)]] fun v L' => v = (.bool r.1) ∧ L' = [.cell bp0 [(.list 1 (List.map (AV.int .u8) r.2.b)), (.int .i64 r.2.i), (.int .i64 r.2.h)]] := by
  intro H S hS
  refine HC.enter Try.func59 rfl Try.ntmps59 (by simp) ?_
  simp only [List.cons_append, List.nil_append] at hS
  unfold spec_l1Once at hF
  refine AWP.seqR rfl ?_
  refine ASL.q (v := (.bool false)) rfl rfl (Light.quiet (opAssign rfl rfl)) ?_
  refine ASL.done ?_
  refine AWP.seqR rfl ?_
  refine ASL.q (v := (.ptr bp0 0)) rfl rfl (Light.quiet (opMove rfl rfl)) ?_
  refine ASL.q (v := (.int .i64 p1)) rfl rfl (Light.quiet (opMove rfl rfl)) ?_
  obtain ⟨a7, ha7, hF⟩ := bindE hF
  refine ASL.x rfl rfl (hCallS hS [0, 1] (F := [.snap S]) rfl rfl rfl call_42 (spec_l1Below_ok ha7) rfl rfl ?_); rintro _ _ G2 ⟨rfl, rfl⟩ hS
  refine ASL.q (v := (.bool (decide (a7.1 = 0)))) rfl rfl (Light.quiet (opInt rfl rfl rfl rfl)) ?_
  refine ASL.q (v := (.bool (decide (a7.1 = 0)))) rfl rfl (Light.quiet (opAssign rfl rfl)) ?_
  refine ASL.done ?_
  refine AWP.ret ?_
  obtain rfl := someE hF
  exact QRet.sole (v := (.bool (decide (a7.1 = 0)))) ⟨rfl, trivial⟩ ⟨_, ⟨rfl, rfl⟩, hS.pick [0, 1] rfl rfl⟩

set_option maxRecDepth 10000 in
theorem spec_l4DrawEdges_ok {p0 : Tl1Cur} {p1 : Int} {p2 : Int} {p3 : Int} {r : ((List TEdge) × Tl1Cur)} {bp0 : Nat} (hF : spec_l4DrawEdges p0 p1 p2 p3 = some r) : HS Try.prog 75 [(.ptr bp0 0), (.int .i64 p1), (.int .i64 p2), (.int .i64 p3)] [.cell bp0 [(.list 1 (List.map (AV.int .u8) p0.b)), (.int .i64 p0.i), (.int .i64 p0.h)]] fun v L' => ∃ o0 : AV, v = o0 ∧ L' = [.row 4 o0 (List.map TEdge.av r.1), .cell bp0 [(.list 1 (List.map (AV.int .u8) r.2.b)), (.int .i64 r.2.i), (.int .i64 r.2.h)]] := by
  intro H S hS
  refine HC.enter Try.func75 rfl Try.ntmps75 (by simp) ?_
  simp only [List.cons_append, List.nil_append] at hS
  unfold spec_l4DrawEdges at hF
  refine AWP.seqR rfl ?_
  have hS := hNil (s := 4) (f := TEdge.av) hS
  refine ASL.q (v := .nil) rfl rfl (Light.quiet (opAssign rfl rfl)) ?_
  refine ASL.done ?_
  refine AWP.seqR rfl ?_
  refine ASL.x rfl rfl (hLit (f := TEdge.av) (zs := []) hS rfl rfl elemA_31 sizeA_73 zeroA_73 rfl rfl rfl rfl (by simp [cells, TEdge.av]) (nlt rfl) ?_); rintro v11 G3 hK hS
  refine ASL.q (v := v11) rfl rfl (Light.quiet (opAssign rfl rfl)) ?_
  refine ASL.done ?_
  refine AWP.seqM (fun e H => ∃ y5 : (List TEdge), ∃ y8 : (List Int), ∃ y9 : Int, ∃ y10 : Int, ∃ w6 : AV, E.Told e [(9, w6)] ∧ E.Sep H [.row 4 w6 (List.map TEdge.av y5), .cell bp0 [(.list 1 (List.map (AV.int .u8) y8)), (.int .i64 y9), (.int .i64 y10)], .snap S] ∧ spec_l4DrawEdges.k0 y5 y8 y9 y10 = some r) ?_ ?_
  · rintro e0 G11 ⟨y5, y8, y9, y10, w6, hT, hS, hF⟩; refine AWP.only _ hT ?_; unfold spec_l4DrawEdges.k0 at hF
    refine AWP.seqR rfl ?_
    refine ASL.q (v := w6) rfl rfl (Light.quiet (opMove rfl rfl)) ?_
    refine ASL.q (v := w6) rfl rfl (Light.quiet (opAssign rfl rfl)) ?_
    refine ASL.done ?_
    refine AWP.ret ?_
    obtain rfl := someE hF
    exact QRet.sole (v := w6) ⟨rfl, trivial⟩ ⟨_, ⟨w6, rfl, rfl⟩, hS.pick [0, 1, 2] rfl rfl⟩
  · skip
    refine AWP.seqR rfl ?_
    refine ASL.q (v := (.int .i64 0)) rfl rfl (Light.quiet (opAssign rfl rfl)) ?_
    refine ASL.done ?_
    refine AWP.block ?_
    obtain ⟨o21, hL20, hR22⟩ := bindE hF
    refine AWP.loopF (ω := AV) hL20 (fun s w => [(0, (.ptr bp0 0)), (1, (.int .i64 p1)), (2, (.int .i64 p2)), (3, (.int .i64 p3)), (9, w), (10, (.int .i64 s.2.2.2.2))]) (fun s w => [.cell bp0 [(.list 1 (List.map (AV.int .u8) s.1)), (.int .i64 s.2.1), (.int .i64 s.2.2.1)], .row 4 w (List.map TEdge.av s.2.2.2.1), .snap S]) v11 ⟨rfl, rfl, rfl, rfl, rfl, rfl, trivial⟩ (hS.pick [2, 0, 3] rfl rfl) ?_
    rintro ⟨y12, y13, y14, y15, x10_l0⟩ w16 G23 hS x18 hF hx19
    try dsimp only at hS ⊢
    have hF : spec_l4DrawEdges.b0 p3 p2 p1 y12 y13 y14 y15 x10_l0 = some x18 := hF; unfold spec_l4DrawEdges.b0 at hF
    refine AWP.seq ?_
    refine AWP.seqR rfl ?_
    refine ASL.q (v := (.int .i64 x10_l0)) rfl rfl (Light.quiet (opMove rfl rfl)) ?_
    refine ASL.q (v := (.int .i64 p3)) rfl rfl (Light.quiet (opMove rfl rfl)) ?_
    refine ASL.q (v := (.bool (decide (x10_l0 < p3)))) rfl rfl (Light.quiet (opInt rfl rfl rfl rfl)) ?_
    refine ASL.done ?_
    refine AWP.ifP hF rfl (fun hc24 hF => ?_) (fun hc24 hF => ?_)
    · skip
      refine AWP.skip ?_
      refine QThen.nrm ?_
      refine AWP.seq ?_
      refine AWP.block ?_
      refine AWP.lastR rfl ?_
      refine ASL.q (v := w16) rfl rfl (Light.quiet (opMove rfl rfl)) ?_
      refine ASL.q (v := (.ptr bp0 0)) rfl rfl (Light.quiet (opMove rfl rfl)) ?_
      refine ASL.q (v := (.int .i64 p2)) rfl rfl (Light.quiet (opMove rfl rfl)) ?_
      obtain ⟨a20, ha20, hF⟩ := bindE hF
      refine ASL.x rfl rfl (hCallS hS [0, 1, 2] (F := [.row 4 w16 (List.map TEdge.av y15), .snap S]) rfl rfl rfl call_42 (spec_l1Below_ok ha20) rfl rfl ?_); rintro _ _ G25 ⟨rfl, rfl⟩ hS
      refine ASL.q (v := (.ptr bp0 0)) rfl rfl (Light.quiet (opMove rfl rfl)) ?_
      refine ASL.q (v := (.int .i64 p1)) rfl rfl (Light.quiet (opMove rfl rfl)) ?_
      obtain ⟨a23, ha23, hF⟩ := bindE hF
      refine ASL.x rfl rfl (hCallS hS [0, 1, 2] (F := [.row 4 w16 (List.map TEdge.av y15), .snap S]) rfl rfl rfl call_42 (spec_l1Below_ok ha23) rfl rfl ?_); rintro _ _ G26 ⟨rfl, rfl⟩ hS
      refine ASL.q (v := (.ptr bp0 0)) rfl rfl (Light.quiet (opMove rfl rfl)) ?_
      refine ASL.q (v := (.int .i64 p2)) rfl rfl (Light.quiet (opMove rfl rfl)) ?_
      obtain ⟨a26, ha26, hF⟩ := bindE hF
      refine ASL.x rfl rfl (hCallS hS [0, 1, 2] (F := [.row 4 w16 (List.map TEdge.av y15), .snap S]) rfl rfl rfl call_42 (spec_l1Below_ok ha26) rfl rfl ?_); rintro _ _ G27 ⟨rfl, rfl⟩ hS
      refine ASL.q (v := (.ptr bp0 0)) rfl rfl (Light.quiet (opMove rfl rfl)) ?_
      obtain ⟨a28, ha28, hF⟩ := bindE hF
      refine ASL.x rfl rfl (hCallS hS [0, 1, 2] (F := [.row 4 w16 (List.map TEdge.av y15), .snap S]) rfl rfl rfl call_59 (spec_l1Once_ok ha28) rfl rfl ?_); rintro _ _ G28 ⟨rfl, rfl⟩ hS
      refine ASL.q (v := (.agg [(.int .i64 a20.1), (.int .i64 a23.1), (.int .i64 a26.1), (.bool a28.1)])) rfl rfl (Light.quiet (opBuildZ (zs := [(.int .i64 0), (.int .i64 0), (.int .i64 0), (.bool false)]) rfl plan_73 zeroA_73 ⟨.inl rfl, .inl rfl, .inl rfl, .inl rfl, trivial⟩ rfl)) ?_
      refine ASL.q (v := (.list 4 (List.map TEdge.av [(TEdge.mk a20.1 a23.1 a26.1 a28.1)]))) rfl rfl ((qLit (xs := [(.agg [(.int .i64 a20.1), (.int .i64 a23.1), (.int .i64 a26.1), (.bool a28.1)])]) rfl elemA_31 sizeA_73 zeroA_73 rfl rfl rfl rfl (by simp [cells, TEdge.av]) (nlt rfl))) ?_
      obtain ⟨z31, hz31, hF⟩ := bindE hF
      refine ASL.x rfl rfl (hApp (f := TEdge.av) (ws := [(TEdge.mk a20.1 a23.1 a26.1 a28.1)]) hS (j := 1) rfl hz31 rfl elemA_31 rfl sizeA_73 bytesA_73 zeroA_73 rfl rfl rfl (fun _ => rfl) ?_); rintro v31 G29 hS
      refine ASL.q (v := v31) rfl rfl (Light.quiet (opAssign rfl rfl)) ?_
      refine ASL.done ?_
      refine QBlock.nrm ?_
      refine QThen.nrm ?_
      refine AWP.lastR rfl ?_
      refine ASL.q (v := (.int .i64 x10_l0)) rfl rfl (Light.quiet (opMove rfl rfl)) ?_
      refine ASL.q (v := (.int .i64 (W (x10_l0 + 1)))) rfl rfl (Light.quiet (opInt rfl rfl rfl rfl)) ?_
      refine ASL.q (v := (.int .i64 (W (x10_l0 + 1)))) rfl rfl (Light.quiet (opAssign rfl rfl)) ?_
      refine ASL.done ?_
      refine QThen.nrm ?_
      exact ⟨(a28.2.b, a28.2.i, a28.2.h, z31, (W (x10_l0 + 1))), v31, (someE hF).symm, ⟨rfl, rfl, rfl, rfl, rfl, rfl, trivial⟩, (hS.pick [0, 1, 2] rfl rfl)⟩
    · skip
      refine AWP.exit ?_
      refine QThen.ext ?_
      refine QThen.ext ?_
      refine QBlock.hit ?_
      obtain rfl := (hx19 _ (someE hF).symm)
      have hF := hR22
      refine QThen.nrm ?_
      exact ⟨y15, y12, y13, y14, w16, ⟨rfl, trivial⟩, (hS.pick [1, 0, 2] rfl rfl), hF⟩

set_option maxRecDepth 10000 in
theorem spec_l1In_ok (p0 : Int) (p1 : Int) (p2 : Int) : PC Try.prog 45 [(.int .i64 p0), (.int .i64 p1), (.int .i64 p2)] fun v => v = (.bool (spec_l1In p0 p1 p2)) := by
  generalize hF : spec_l1In p0 p1 p2 = r
  refine PC.enter Try.func45 rfl Try.ntmps45 (by simp) ?_
  have hS := Sep.void; unfold spec_l1In at hF
  refine AWP.seqR rfl ?_
  refine ASL.q (v := (.bool false)) rfl rfl (Light.quiet (opAssign rfl rfl)) ?_
  refine ASL.done ?_
  refine AWP.seqR rfl ?_
  refine ASL.q (v := (.int .i64 p0)) rfl rfl (Light.quiet (opMove rfl rfl)) ?_
  refine ASL.q (v := (.int .i64 p1)) rfl rfl (Light.quiet (opMove rfl rfl)) ?_
  refine ASL.q (v := (.bool (decide (p0 ≥ p1)))) rfl rfl (Light.quiet (opInt rfl rfl rfl rfl)) ?_
  obtain ⟨c10, hc10, hF⟩ := bndE hF
  refine ASL.q (v := (.bool c10)) rfl rfl ((Quiet.cast (Light.quiet (opMove rfl rfl)) (congrArg AV.bool hc10.symm))) ?_
  refine ASL.g (v := (.int .i64 p0)) (.bool c10) true rfl (wT _) rfl (fun hG => by have q0 := hG; subst q0; exact Light.quiet (opMove rfl rfl)) ?_
  refine ASL.g (v := (.int .i64 p2)) (.bool c10) true rfl (wT _) rfl (fun hG => by have q0 := hG; subst q0; exact Light.quiet (opMove rfl rfl)) ?_
  refine ASL.g (v := (.bool (decide (p0 ≤ p2)))) (.bool c10) true rfl (wT _) rfl (fun hG => by have q0 := hG; subst q0; exact Light.quiet (opInt rfl rfl rfl rfl)) ?_
  refine ASL.q (v := (.bool (c10 && (decide (p0 ≤ p2))))) rfl rfl (Light.quiet (opPick (b := c10) rfl rfl (by cases c10 <;> rfl))) ?_
  refine ASL.q (v := (.bool (c10 && (decide (p0 ≤ p2))))) rfl rfl (Light.quiet (opAssign rfl rfl)) ?_
  refine ASL.done ?_
  refine AWP.ret ?_
  obtain rfl := hF
  exact QRet.sole (v := (.bool (c10 && (decide (p0 ≤ p2))))) ⟨rfl, trivial⟩ rfl

set_option maxRecDepth 10000 in
theorem spec_SetOk_ok (p0 : Int) : PC Try.prog 77 [(.int .i64 p0)] fun v => v = (.bool (spec_SetOk p0)) := by
  generalize hF : spec_SetOk p0 = r
  refine PC.enter Try.func77 rfl Try.ntmps77 (by simp) ?_
  have hS := Sep.void; unfold spec_SetOk at hF
  refine AWP.seqR rfl ?_
  refine ASL.q (v := (.bool false)) rfl rfl (Light.quiet (opAssign rfl rfl)) ?_
  refine ASL.done ?_
  refine AWP.seqR rfl ?_
  refine ASL.q (v := (.int .i64 p0)) rfl rfl (Light.quiet (opMove rfl rfl)) ?_
  refine ASL.q (v := (.bool (spec_l1In p0 0 2147483647))) rfl rfl ((qCall rfl rfl call_45 (spec_l1In_ok p0 0 2147483647) rfl)) ?_
  refine ASL.q (v := (.bool (spec_l1In p0 0 2147483647))) rfl rfl (Light.quiet (opAssign rfl rfl)) ?_
  refine ASL.done ?_
  refine AWP.ret ?_
  obtain rfl := hF
  exact QRet.sole (v := (.bool (spec_l1In p0 0 2147483647))) ⟨rfl, trivial⟩ rfl

set_option maxRecDepth 10000 in
theorem spec_SetIn_ok (p0 : Int) (p1 : Int) : PC Try.prog 69 [(.int .i64 p0), (.int .i64 p1)] fun v => v = (.bool (spec_SetIn p0 p1)) := by
  generalize hF : spec_SetIn p0 p1 = r
  refine PC.enter Try.func69 rfl Try.ntmps69 (by simp) ?_
  have hS := Sep.void; unfold spec_SetIn at hF
  refine AWP.seqR rfl ?_
  refine ASL.q (v := (.bool false)) rfl rfl (Light.quiet (opAssign rfl rfl)) ?_
  refine ASL.done ?_
  refine AWP.seqR rfl ?_
  refine ASL.q (v := (.int .i64 p0)) rfl rfl (Light.quiet (opMove rfl rfl)) ?_
  refine ASL.q (v := (.bool (spec_SetOk p0))) rfl rfl ((qCall rfl rfl call_77 (spec_SetOk_ok p0) rfl)) ?_
  obtain ⟨c7, hc7, hF⟩ := bndE hF
  refine ASL.q (v := (.bool c7)) rfl rfl ((Quiet.cast (Light.quiet (opMove rfl rfl)) (congrArg AV.bool hc7.symm))) ?_
  refine ASL.g (v := (.int .i64 p1)) (.bool c7) true rfl (wT _) rfl (fun hG => by have q0 := hG; subst q0; exact Light.quiet (opMove rfl rfl)) ?_
  refine ASL.g (v := (.bool (spec_SetOk p1))) (.bool c7) true rfl (wT _) rfl (fun hG => by have q0 := hG; subst q0; exact (qCall rfl rfl call_77 (spec_SetOk_ok p1) rfl)) ?_
  refine ASL.q (v := (.bool (c7 && (spec_SetOk p1)))) rfl rfl (Light.quiet (opPick (b := c7) rfl rfl (by cases c7 <;> rfl))) ?_
  obtain ⟨c11, hc11, hF⟩ := bndE hF
  refine ASL.q (v := (.bool c11)) rfl rfl ((Quiet.cast (Light.quiet (opMove rfl rfl)) (congrArg AV.bool hc11.symm))) ?_
  refine ASL.g (v := (.int .i64 p0)) (.bool c11) true rfl (wT _) rfl (fun hG => by have q0 := hG; subst q0; exact Light.quiet (opMove rfl rfl)) ?_
  refine ASL.g (v := (.int .i64 p1)) (.bool c11) true rfl (wT _) rfl (fun hG => by have q0 := hG; subst q0; exact Light.quiet (opMove rfl rfl)) ?_
  refine ASL.g (v := (.int .i64 (bAnd .i64 p0 p1))) (.bool c11) true rfl (wT _) rfl (fun hG => by have q0 := hG; subst q0; exact Light.quiet (opInt rfl rfl rfl rfl)) ?_
  refine ASL.g (v := (.int .i64 p0)) (.bool c11) true rfl (wT _) rfl (fun hG => by have q0 := hG; subst q0; exact Light.quiet (opMove rfl rfl)) ?_
  refine ASL.g (v := (.bool (decide (((bAnd .i64 p0 p1)) = p0)))) (.bool c11) true rfl (wT _) rfl (fun hG => by have q0 := hG; subst q0; exact Light.quiet (opInt rfl rfl rfl rfl)) ?_
  refine ASL.q (v := (.bool (c11 && (decide (((bAnd .i64 p0 p1)) = p0))))) rfl rfl (Light.quiet (opPick (b := c11) rfl rfl (by cases c11 <;> rfl))) ?_
  refine ASL.q (v := (.bool (c11 && (decide (((bAnd .i64 p0 p1)) = p0))))) rfl rfl (Light.quiet (opAssign rfl rfl)) ?_
  refine ASL.done ?_
  refine AWP.ret ?_
  obtain rfl := hF
  exact QRet.sole (v := (.bool (c11 && (decide (((bAnd .i64 p0 p1)) = p0))))) ⟨rfl, trivial⟩ rfl

set_option maxRecDepth 10000 in
theorem spec_l4State_ok (p0 : Int) (p1 : Int) : PC Try.prog 70 [(.int .i64 p0), (.int .i64 p1)] fun v => v = (.bool (spec_l4State p0 p1)) := by
  generalize hF : spec_l4State p0 p1 = r
  refine PC.enter Try.func70 rfl Try.ntmps70 (by simp) ?_
  have hS := Sep.void; unfold spec_l4State at hF
  refine AWP.seqR rfl ?_
  refine ASL.q (v := (.bool false)) rfl rfl (Light.quiet (opAssign rfl rfl)) ?_
  refine ASL.done ?_
  refine AWP.seqR rfl ?_
  refine ASL.q (v := (.int .i64 p0)) rfl rfl (Light.quiet (opMove rfl rfl)) ?_
  refine ASL.q (v := (.int .i64 p1)) rfl rfl (Light.quiet (opMove rfl rfl)) ?_
  refine ASL.q (v := (.int .i64 (W (p1 - 1)))) rfl rfl (Light.quiet (opInt rfl rfl rfl rfl)) ?_
  refine ASL.q (v := (.bool (spec_l1In p0 0 ((W (p1 - 1)))))) rfl rfl ((qCall rfl rfl call_45 (spec_l1In_ok p0 0 ((W (p1 - 1)))) rfl)) ?_
  refine ASL.q (v := (.bool (spec_l1In p0 0 ((W (p1 - 1)))))) rfl rfl (Light.quiet (opAssign rfl rfl)) ?_
  refine ASL.done ?_
  refine AWP.ret ?_
  obtain rfl := hF
  exact QRet.sole (v := (.bool (spec_l1In p0 0 ((W (p1 - 1)))))) ⟨rfl, trivial⟩ rfl

set_option maxRecDepth 10000 in
theorem spec_l4Less_ok (p0 : TEdge) (p1 : TEdge) : PC Try.prog 71 [(TEdge.av p0), (TEdge.av p1)] fun v => v = (.bool (spec_l4Less p0 p1)) := by
  generalize hF : spec_l4Less p0 p1 = r
  refine PC.enter Try.func71 rfl Try.ntmps71 (by simp) ?_
  have hS := Sep.void; unfold spec_l4Less at hF
  refine AWP.seqR rfl ?_
  refine ASL.q (v := (.rptr [(.int .i64 p0.from_), (.int .i64 p0.letter), (.int .i64 p0.to_), (.bool p0.good)])) rfl rfl ((qBoxI (v := (TEdge.av p0)) rfl rfl rfl rfl)) ?_
  refine ASL.q (v := (.rptr [(.int .i64 p1.from_), (.int .i64 p1.letter), (.int .i64 p1.to_), (.bool p1.good)])) rfl rfl ((qBoxI (v := (TEdge.av p1)) rfl rfl rfl rfl)) ?_
  refine ASL.q (v := (.bool false)) rfl rfl (Light.quiet (opAssign rfl rfl)) ?_
  refine ASL.done ?_
  refine AWP.seq ?_
  refine AWP.seqR rfl ?_
  refine ASL.q (v := (.rptr [(.int .i64 p0.from_), (.int .i64 p0.letter), (.int .i64 p0.to_), (.bool p0.good)])) rfl rfl (Light.quiet (opFieldAddrR rfl fieldA_73_0 rfl rfl)) ?_
  refine ASL.q (v := (.int .i64 p0.from_)) rfl rfl (Light.quiet (opLoadR rfl aggA_3 rfl rfl)) ?_
  refine ASL.q (v := (.rptr [(.int .i64 p1.from_), (.int .i64 p1.letter), (.int .i64 p1.to_), (.bool p1.good)])) rfl rfl (Light.quiet (opFieldAddrR rfl fieldA_73_0 rfl rfl)) ?_
  refine ASL.q (v := (.int .i64 p1.from_)) rfl rfl (Light.quiet (opLoadR rfl aggA_3 rfl rfl)) ?_
  refine ASL.q (v := (.bool (decide (p0.from_ ≠ p1.from_)))) rfl rfl (Light.quiet (opInt rfl rfl rfl rfl)) ?_
  refine ASL.done ?_
  refine AWP.ifP hF rfl (fun hc1 hF => ?_) (fun hc1 hF => ?_)
  · skip
    refine AWP.seqR rfl ?_
    refine ASL.q (v := (.rptr [(.int .i64 p0.from_), (.int .i64 p0.letter), (.int .i64 p0.to_), (.bool p0.good)])) rfl rfl (Light.quiet (opFieldAddrR rfl fieldA_73_0 rfl rfl)) ?_
    refine ASL.q (v := (.int .i64 p0.from_)) rfl rfl (Light.quiet (opLoadR rfl aggA_3 rfl rfl)) ?_
    refine ASL.q (v := (.rptr [(.int .i64 p1.from_), (.int .i64 p1.letter), (.int .i64 p1.to_), (.bool p1.good)])) rfl rfl (Light.quiet (opFieldAddrR rfl fieldA_73_0 rfl rfl)) ?_
    refine ASL.q (v := (.int .i64 p1.from_)) rfl rfl (Light.quiet (opLoadR rfl aggA_3 rfl rfl)) ?_
    refine ASL.q (v := (.bool (decide (p0.from_ < p1.from_)))) rfl rfl (Light.quiet (opInt rfl rfl rfl rfl)) ?_
    refine ASL.q (v := (.bool (decide (p0.from_ < p1.from_)))) rfl rfl (Light.quiet (opAssign rfl rfl)) ?_
    refine ASL.done ?_
    refine AWP.ret ?_
    refine QThen.rt ?_
    obtain rfl := hF
    exact QRet.sole (v := (.bool (decide (p0.from_ < p1.from_)))) ⟨rfl, trivial⟩ rfl
  · skip
    refine AWP.skip ?_
    refine QThen.nrm ?_
    refine AWP.seq ?_
    refine AWP.seqR rfl ?_
    refine ASL.q (v := (.rptr [(.int .i64 p0.letter), (.int .i64 p0.to_), (.bool p0.good)])) rfl rfl (Light.quiet (opFieldAddrR rfl fieldA_73_1 rfl rfl)) ?_
    refine ASL.q (v := (.int .i64 p0.letter)) rfl rfl (Light.quiet (opLoadR rfl aggA_3 rfl rfl)) ?_
    refine ASL.q (v := (.rptr [(.int .i64 p1.letter), (.int .i64 p1.to_), (.bool p1.good)])) rfl rfl (Light.quiet (opFieldAddrR rfl fieldA_73_1 rfl rfl)) ?_
    refine ASL.q (v := (.int .i64 p1.letter)) rfl rfl (Light.quiet (opLoadR rfl aggA_3 rfl rfl)) ?_
    refine ASL.q (v := (.bool (decide (p0.letter ≠ p1.letter)))) rfl rfl (Light.quiet (opInt rfl rfl rfl rfl)) ?_
    refine ASL.done ?_
    refine AWP.ifP hF rfl (fun hc2 hF => ?_) (fun hc2 hF => ?_)
    · skip
      refine AWP.seqR rfl ?_
      refine ASL.q (v := (.rptr [(.int .i64 p0.letter), (.int .i64 p0.to_), (.bool p0.good)])) rfl rfl (Light.quiet (opFieldAddrR rfl fieldA_73_1 rfl rfl)) ?_
      refine ASL.q (v := (.int .i64 p0.letter)) rfl rfl (Light.quiet (opLoadR rfl aggA_3 rfl rfl)) ?_
      refine ASL.q (v := (.rptr [(.int .i64 p1.letter), (.int .i64 p1.to_), (.bool p1.good)])) rfl rfl (Light.quiet (opFieldAddrR rfl fieldA_73_1 rfl rfl)) ?_
      refine ASL.q (v := (.int .i64 p1.letter)) rfl rfl (Light.quiet (opLoadR rfl aggA_3 rfl rfl)) ?_
      refine ASL.q (v := (.bool (decide (p0.letter < p1.letter)))) rfl rfl (Light.quiet (opInt rfl rfl rfl rfl)) ?_
      refine ASL.q (v := (.bool (decide (p0.letter < p1.letter)))) rfl rfl (Light.quiet (opAssign rfl rfl)) ?_
      refine ASL.done ?_
      refine AWP.ret ?_
      refine QThen.rt ?_
      obtain rfl := hF
      exact QRet.sole (v := (.bool (decide (p0.letter < p1.letter)))) ⟨rfl, trivial⟩ rfl
    · skip
      refine AWP.skip ?_
      refine QThen.nrm ?_
      refine AWP.seqR rfl ?_
      refine ASL.q (v := (.rptr [(.int .i64 p0.to_), (.bool p0.good)])) rfl rfl (Light.quiet (opFieldAddrR rfl fieldA_73_2 rfl rfl)) ?_
      refine ASL.q (v := (.int .i64 p0.to_)) rfl rfl (Light.quiet (opLoadR rfl aggA_3 rfl rfl)) ?_
      refine ASL.q (v := (.rptr [(.int .i64 p1.to_), (.bool p1.good)])) rfl rfl (Light.quiet (opFieldAddrR rfl fieldA_73_2 rfl rfl)) ?_
      refine ASL.q (v := (.int .i64 p1.to_)) rfl rfl (Light.quiet (opLoadR rfl aggA_3 rfl rfl)) ?_
      refine ASL.q (v := (.bool (decide (p0.to_ < p1.to_)))) rfl rfl (Light.quiet (opInt rfl rfl rfl rfl)) ?_
      refine ASL.q (v := (.bool (decide (p0.to_ < p1.to_)))) rfl rfl (Light.quiet (opAssign rfl rfl)) ?_
      refine ASL.done ?_
      refine AWP.ret ?_
      obtain rfl := hF
      exact QRet.sole (v := (.bool (decide (p0.to_ < p1.to_)))) ⟨rfl, trivial⟩ rfl

set_option maxRecDepth 10000 in
theorem spec_AutoOk_ok {p0 : TAuto} {r : Bool} (hF : spec_AutoOk p0 = some r) : PC Try.prog 51 [(TAuto.av p0)] fun v => v = (.bool r) := by
  refine PC.enter Try.func51 rfl Try.ntmps51 (by simp) ?_
  have hS := Sep.void; unfold spec_AutoOk at hF
  refine AWP.seqR rfl ?_
  refine ASL.q (v := (.rptr [(.int .i64 p0.letters), (.int .i64 p0.states), (.int .i64 p0.start), (.list 4 (List.map TEdge.av p0.edges))])) rfl rfl ((qBoxI (v := (TAuto.av p0)) rfl rfl rfl rfl)) ?_
  refine ASL.q (v := (.bool false)) rfl rfl (Light.quiet (opAssign rfl rfl)) ?_
  refine ASL.done ?_
  refine AWP.seq ?_
  refine AWP.seqD [(0, false), (1, false), (2, false), (3, false), (4, false), (5, false), (6, false), (7, false), (8, false), (9, false), (10, false), (11, false), (12, false), (13, false), (14, false), (15, false), (16, false), (17, false), (18, false), (19, false), (20, false), (21, false), (22, false), (23, false), (24, false), (25, false)] mixed (by kernel_rfl) rfl ?_
  refine ARL.q0 (v := (.rptr [(.int .i64 p0.letters), (.int .i64 p0.states), (.int .i64 p0.start), (.list 4 (List.map TEdge.av p0.edges))])) rfl rfl (Light.quiet (opFieldAddrR rfl fieldA_33_0 rfl rfl)) ?_
  refine ARL.q0 (v := (.int .i64 p0.letters)) rfl rfl (Light.quiet (opLoadR rfl aggA_3 rfl rfl)) ?_
  refine ARL.q0 (v := (.bool (spec_l1In p0.letters 1 8))) rfl rfl ((qCall rfl rfl call_45 (spec_l1In_ok p0.letters 1 8) rfl)) ?_
  refine ARL.q0 (v := (.bool (!(spec_l1In p0.letters 1 8)))) rfl rfl (Light.quiet (opNot rfl rfl)) ?_
  obtain ⟨c9, hc9, hF⟩ := bndE hF
  refine ARL.q0 (v := (.bool c9)) rfl rfl ((Quiet.cast (Light.quiet (opMove rfl rfl)) (congrArg AV.bool hc9.symm))) ?_
  refine ARL.g (v := (.rptr [(.int .i64 p0.states), (.int .i64 p0.start), (.list 4 (List.map TEdge.av p0.edges))])) (.bool c9) false rfl (wF _) rfl noneAlive (fun hG => by have q0 := gN hG; subst q0; exact Light.quiet (opFieldAddrR rfl fieldA_33_1 rfl rfl)) ?_
  refine ARL.g (v := (.int .i64 p0.states)) (.bool c9) false rfl (wF _) rfl noneAlive (fun hG => by have q0 := gN hG; subst q0; exact Light.quiet (opLoadR rfl aggA_3 rfl rfl)) ?_
  refine ARL.g (v := (.bool (spec_l1In p0.states 0 31))) (.bool c9) false rfl (wF _) rfl noneAlive (fun hG => by have q0 := gN hG; subst q0; exact (qCall rfl rfl call_45 (spec_l1In_ok p0.states 0 31) rfl)) ?_
  refine ARL.g (v := (.bool (!(spec_l1In p0.states 0 31)))) (.bool c9) false rfl (wF _) rfl noneAlive (fun hG => by have q0 := gN hG; subst q0; exact Light.quiet (opNot rfl rfl)) ?_
  refine ARL.q0 (v := (.bool (c9 || (!(spec_l1In p0.states 0 31))))) rfl rfl (Light.quiet (opPick (b := c9) rfl rfl (by cases c9 <;> rfl))) ?_
  obtain ⟨c15, hc15, hF⟩ := bndE hF
  refine ARL.q0 (v := (.bool c15)) rfl rfl ((Quiet.cast (Light.quiet (opMove rfl rfl)) (congrArg AV.bool hc15.symm))) ?_
  refine ARL.g (v := (.rptr [(.int .i64 p0.start), (.list 4 (List.map TEdge.av p0.edges))])) (.bool c15) false rfl (wF _) rfl noneAlive (fun hG => by have q0 := gN hG; subst q0; exact Light.quiet (opFieldAddrR rfl fieldA_33_2 rfl rfl)) ?_
  refine ARL.g (v := (.int .i64 p0.start)) (.bool c15) false rfl (wF _) rfl noneAlive (fun hG => by have q0 := gN hG; subst q0; exact Light.quiet (opLoadR rfl aggA_3 rfl rfl)) ?_
  refine ARL.g (v := (.rptr [(.int .i64 p0.states), (.int .i64 p0.start), (.list 4 (List.map TEdge.av p0.edges))])) (.bool c15) false rfl (wF _) rfl noneAlive (fun hG => by have q0 := gN hG; subst q0; exact Light.quiet (opFieldAddrR rfl fieldA_33_1 rfl rfl)) ?_
  refine ARL.g (v := (.int .i64 p0.states)) (.bool c15) false rfl (wF _) rfl noneAlive (fun hG => by have q0 := gN hG; subst q0; exact Light.quiet (opLoadR rfl aggA_3 rfl rfl)) ?_
  obtain ⟨u1, hu1, hF⟩ := bindE hF
  refine ARL.g (v := (.int .i64 (shl .i64 1 p0.states))) (.bool c15) false rfl (wF _) rfl noneAlive (fun hG => by have q0 := gN hG; subst q0; exact Light.quiet (opShl rfl rfl rfl (of_decide_eq_true (chkE (whenE hu1))) rfl)) ?_
  refine ARL.g (v := (.int .i64 (W (((shl .i64 1 p0.states)) - 1)))) (.bool c15) false rfl (wF _) rfl noneAlive (fun hG => by have q0 := gN hG; subst q0; exact Light.quiet (opInt rfl rfl rfl rfl)) ?_
  refine ARL.g (v := (.bool (spec_SetIn p0.start ((W (((shl .i64 1 p0.states)) - 1)))))) (.bool c15) false rfl (wF _) rfl noneAlive (fun hG => by have q0 := gN hG; subst q0; exact (qCall rfl rfl call_69 (spec_SetIn_ok p0.start ((W (((shl .i64 1 p0.states)) - 1)))) rfl)) ?_
  refine ARL.g (v := (.bool (!(spec_SetIn p0.start ((W (((shl .i64 1 p0.states)) - 1))))))) (.bool c15) false rfl (wF _) rfl noneAlive (fun hG => by have q0 := gN hG; subst q0; exact Light.quiet (opNot rfl rfl)) ?_
  refine ARL.q0 (v := (.bool (c15 || (!(spec_SetIn p0.start ((W (((shl .i64 1 p0.states)) - 1)))))))) rfl rfl (Light.quiet (opPick (b := c15) rfl rfl (by cases c15 <;> rfl))) ?_
  obtain ⟨c25, hc25, hF⟩ := bndE hF
  refine ARL.q0 (v := (.bool c25)) rfl rfl ((Quiet.cast (Light.quiet (opMove rfl rfl)) (congrArg AV.bool hc25.symm))) ?_
  refine ARL.g (v := (.rptr [(.list 4 (List.map TEdge.av p0.edges))])) (.bool c25) false rfl (wF _) rfl noneAlive (fun hG => by have q0 := gN hG; subst q0; exact Light.quiet (opFieldAddrR rfl fieldA_33_3 rfl rfl)) ?_
  refine ARL.g (v := (.list 4 (List.map TEdge.av p0.edges))) (.bool c25) false rfl (wF _) rfl noneAlive (fun hG => by have q0 := gN hG; subst q0; exact Light.quiet (opLoadR rfl aggA_31 rfl rfl)) ?_
  refine ARL.g (v := (.int .i64 (p0.edges.length : Int))) (.bool c25) false rfl (wF _) rfl noneAlive (fun hG => by have q0 := gN hG; subst q0; exact Light.quiet (opLenMap (f := TEdge.av) rfl rfl rfl lenT_31 rfl)) ?_
  refine ARL.g (v := (.bool (decide (((p0.edges.length : Int)) > 2000)))) (.bool c25) false rfl (wF _) rfl noneAlive (fun hG => by have q0 := gN hG; subst q0; exact Light.quiet (opInt rfl rfl rfl rfl)) ?_
  refine ARL.q0 (v := (.bool (c25 || (decide (((p0.edges.length : Int)) > 2000))))) rfl rfl (Light.quiet (opPick (b := c25) rfl rfl (by cases c25 <;> rfl))) ?_
  refine ARL.done ?_
  refine AWP.ifB hF rfl (fun hc2 hF => ?_) (fun hc2 hF => ?_)
  · skip
    refine AWP.seqR rfl ?_
    refine ASL.q (v := (.bool false)) rfl rfl (Light.quiet (opAssign rfl rfl)) ?_
    refine ASL.done ?_
    refine AWP.ret ?_
    refine QThen.rt ?_
    obtain rfl := someE hF
    exact QRet.sole (v := (.bool false)) ⟨rfl, trivial⟩ rfl
  · skip
    refine AWP.skip ?_
    refine QThen.nrm ?_
    refine AWP.seqM (fun e H => E.Told e [] ∧ E.Sep H [] ∧ spec_AutoOk.k0 = some r) ?_ ?_
    · rintro e0 G3 ⟨hT, hS, hF⟩; refine AWP.only _ hT ?_; unfold spec_AutoOk.k0 at hF
      refine AWP.seqR rfl ?_
      refine ASL.q (v := (.bool true)) rfl rfl (Light.quiet (opAssign rfl rfl)) ?_
      refine ASL.done ?_
      refine AWP.ret ?_
      obtain rfl := someE hF
      exact QRet.sole (v := (.bool true)) ⟨rfl, trivial⟩ rfl
    · skip
      refine AWP.seqR rfl ?_
      refine ASL.q (v := (.int .i64 0)) rfl rfl (Light.quiet (opAssign rfl rfl)) ?_
      refine ASL.done ?_
      refine AWP.block ?_
      obtain ⟨o7, hL6, hR8⟩ := bindE hF
      refine AWP.loopF (ω := Unit) hL6 (fun s w => [(1, (.rptr [(.int .i64 p0.letters), (.int .i64 p0.states), (.int .i64 p0.start), (.list 4 (List.map TEdge.av p0.edges))])), (3, (.int .i64 s))]) (fun s w => []) () ⟨rfl, rfl, trivial⟩ (hS.pick [] rfl rfl) ?_
      rintro x3_l0 _ G9 hS x4 hF hx5
      try dsimp only at hS ⊢
      have hF : spec_AutoOk.b0 p0 x3_l0 = some x4 := hF; unfold spec_AutoOk.b0 at hF
      refine AWP.seq ?_
      refine AWP.seqR rfl ?_
      refine ASL.q (v := (.int .i64 x3_l0)) rfl rfl (Light.quiet (opMove rfl rfl)) ?_
      refine ASL.q (v := (.rptr [(.list 4 (List.map TEdge.av p0.edges))])) rfl rfl (Light.quiet (opFieldAddrR rfl fieldA_33_3 rfl rfl)) ?_
      refine ASL.q (v := (.list 4 (List.map TEdge.av p0.edges))) rfl rfl (Light.quiet (opLoadR rfl aggA_31 rfl rfl)) ?_
      refine ASL.q (v := (.int .i64 (p0.edges.length : Int))) rfl rfl (Light.quiet (opLenMap (f := TEdge.av) rfl rfl rfl lenT_31 rfl)) ?_
      refine ASL.q (v := (.bool (decide (x3_l0 < ((p0.edges.length : Int)))))) rfl rfl (Light.quiet (opInt rfl rfl rfl rfl)) ?_
      refine ASL.done ?_
      refine AWP.ifP hF rfl (fun hc10 hF => ?_) (fun hc10 hF => ?_)
      · skip
        refine AWP.skip ?_
        refine QThen.nrm ?_
        refine AWP.seq ?_
        refine AWP.block ?_
        refine AWP.seqR rfl ?_
        refine ASL.q (v := (.rptr [(.list 4 (List.map TEdge.av p0.edges))])) rfl rfl (Light.quiet (opFieldAddrR rfl fieldA_33_3 rfl rfl)) ?_
        refine ASL.q (v := (.list 4 (List.map TEdge.av p0.edges))) rfl rfl (Light.quiet (opLoadR rfl aggA_31 rfl rfl)) ?_
        refine ASL.q (v := (.int .i64 x3_l0)) rfl rfl (Light.quiet (opMove rfl rfl)) ?_
        obtain ⟨a41, ha41, hF⟩ := bindE hF
        refine ASL.q (v := (.rptr [(.int .i64 a41.from_), (.int .i64 a41.letter), (.int .i64 a41.to_), (.bool a41.good)])) rfl rfl (Light.quiet (kIx (f := TEdge.av) ha41 rfl rfl rfl elemA_31 sizeA_73 rfl)) ?_
        refine ASL.q (v := (TEdge.av a41)) rfl rfl (Light.quiet (opLoadRA rfl aggA_73 sizeA_73 rfl (nlt rfl) rfl)) ?_
        refine ASL.x rfl rfl (hNewZ hS [(.int .i64 0), (.int .i64 0), (.int .i64 0), (.bool false)] rfl zeroA_73 ⟨.inl rfl, .inl rfl, .inl rfl, .inl rfl, trivial⟩ ?_); rintro b4 G11 hK hS
        refine ASL.n rfl rfl (hPutA hS (j := 0) rfl rfl sizeA_73 rfl rfl rfl rfl rfl (nlt rfl) ?_); rintro G13 hS
        refine ASL.done ?_
        refine AWP.seqD [(0, false), (1, false), (2, false), (3, false), (4, false), (5, false), (6, false), (7, false), (8, false), (9, false), (10, false), (11, false), (12, false), (13, false), (14, false), (15, false), (16, false), (17, false), (18, false), (19, false), (20, false), (21, false), (22, false), (23, false), (24, false), (25, false), (26, false), (27, false), (28, false), (29, false), (30, false), (31, false), (32, false), (33, false), (34, false), (35, false), (36, false), (37, false)] mixed (by kernel_rfl) rfl ?_
        refine ARL.q0 (v := (.ptr b4 0)) rfl rfl (Light.quiet (opFieldAddr rfl fieldA_73_0 rfl rfl)) ?_
        refine ARL.q (v := (.int .i64 a41.from_)) rfl rfl (hS.aliveC (k := 0) rfl) (Light.quiet (kAt hS (j := 0) rfl rfl aggA_3 rfl rfl)) ?_
        refine ARL.q0 (v := (.rptr [(.int .i64 p0.states), (.int .i64 p0.start), (.list 4 (List.map TEdge.av p0.edges))])) rfl rfl (Light.quiet (opFieldAddrR rfl fieldA_33_1 rfl rfl)) ?_
        refine ARL.q0 (v := (.int .i64 p0.states)) rfl rfl (Light.quiet (opLoadR rfl aggA_3 rfl rfl)) ?_
        refine ARL.q0 (v := (.bool (spec_l4State a41.from_ p0.states))) rfl rfl ((qCall rfl rfl call_70 (spec_l4State_ok a41.from_ p0.states) rfl)) ?_
        refine ARL.q0 (v := (.bool (!(spec_l4State a41.from_ p0.states)))) rfl rfl (Light.quiet (opNot rfl rfl)) ?_
        obtain ⟨c49, hc49, hF⟩ := bndE hF
        refine ARL.q0 (v := (.bool c49)) rfl rfl ((Quiet.cast (Light.quiet (opMove rfl rfl)) (congrArg AV.bool hc49.symm))) ?_
        refine ARL.g (v := (.ptr b4 2)) (.bool c49) false rfl (wF _) rfl noneAlive (fun hG => by have q0 := gN hG; subst q0; exact Light.quiet (opFieldAddr rfl fieldA_73_2 rfl rfl)) ?_
        refine ARL.g (v := (.int .i64 a41.to_)) (.bool c49) false rfl (wF _) rfl (hS.aliveC (k := 0) rfl) (fun hG => by have q0 := gN hG; subst q0; exact Light.quiet (kAt hS (j := 0) rfl rfl aggA_3 rfl rfl)) ?_
        refine ARL.g (v := (.rptr [(.int .i64 p0.states), (.int .i64 p0.start), (.list 4 (List.map TEdge.av p0.edges))])) (.bool c49) false rfl (wF _) rfl noneAlive (fun hG => by have q0 := gN hG; subst q0; exact Light.quiet (opFieldAddrR rfl fieldA_33_1 rfl rfl)) ?_
        refine ARL.g (v := (.int .i64 p0.states)) (.bool c49) false rfl (wF _) rfl noneAlive (fun hG => by have q0 := gN hG; subst q0; exact Light.quiet (opLoadR rfl aggA_3 rfl rfl)) ?_
        refine ARL.g (v := (.bool (spec_l4State a41.to_ p0.states))) (.bool c49) false rfl (wF _) rfl noneAlive (fun hG => by have q0 := gN hG; subst q0; exact (qCall rfl rfl call_70 (spec_l4State_ok a41.to_ p0.states) rfl)) ?_
        refine ARL.g (v := (.bool (!(spec_l4State a41.to_ p0.states)))) (.bool c49) false rfl (wF _) rfl noneAlive (fun hG => by have q0 := gN hG; subst q0; exact Light.quiet (opNot rfl rfl)) ?_
        refine ARL.q0 (v := (.bool (c49 || (!(spec_l4State a41.to_ p0.states))))) rfl rfl (Light.quiet (opPick (b := c49) rfl rfl (by cases c49 <;> rfl))) ?_
        obtain ⟨c57, hc57, hF⟩ := bndE hF
        refine ARL.q0 (v := (.bool c57)) rfl rfl ((Quiet.cast (Light.quiet (opMove rfl rfl)) (congrArg AV.bool hc57.symm))) ?_
        refine ARL.g (v := (.ptr b4 1)) (.bool c57) false rfl (wF _) rfl noneAlive (fun hG => by have q0 := gN hG; subst q0; exact Light.quiet (opFieldAddr rfl fieldA_73_1 rfl rfl)) ?_
        refine ARL.g (v := (.int .i64 a41.letter)) (.bool c57) false rfl (wF _) rfl (hS.aliveC (k := 0) rfl) (fun hG => by have q0 := gN hG; subst q0; exact Light.quiet (kAt hS (j := 0) rfl rfl aggA_3 rfl rfl)) ?_
        refine ARL.g (v := (.rptr [(.int .i64 p0.letters), (.int .i64 p0.states), (.int .i64 p0.start), (.list 4 (List.map TEdge.av p0.edges))])) (.bool c57) false rfl (wF _) rfl noneAlive (fun hG => by have q0 := gN hG; subst q0; exact Light.quiet (opFieldAddrR rfl fieldA_33_0 rfl rfl)) ?_
        refine ARL.g (v := (.int .i64 p0.letters)) (.bool c57) false rfl (wF _) rfl noneAlive (fun hG => by have q0 := gN hG; subst q0; exact Light.quiet (opLoadR rfl aggA_3 rfl rfl)) ?_
        refine ARL.g (v := (.int .i64 (W (p0.letters - 1)))) (.bool c57) false rfl (wF _) rfl noneAlive (fun hG => by have q0 := gN hG; subst q0; exact Light.quiet (opInt rfl rfl rfl rfl)) ?_
        refine ARL.g (v := (.bool (spec_l1In a41.letter 0 ((W (p0.letters - 1)))))) (.bool c57) false rfl (wF _) rfl noneAlive (fun hG => by have q0 := gN hG; subst q0; exact (qCall rfl rfl call_45 (spec_l1In_ok a41.letter 0 ((W (p0.letters - 1)))) rfl)) ?_
        refine ARL.g (v := (.bool (!(spec_l1In a41.letter 0 ((W (p0.letters - 1))))))) (.bool c57) false rfl (wF _) rfl noneAlive (fun hG => by have q0 := gN hG; subst q0; exact Light.quiet (opNot rfl rfl)) ?_
        refine ARL.q0 (v := (.bool (c57 || (!(spec_l1In a41.letter 0 ((W (p0.letters - 1)))))))) rfl rfl (Light.quiet (opPick (b := c57) rfl rfl (by cases c57 <;> rfl))) ?_
        obtain ⟨c66, hc66, hF⟩ := bndE hF
        refine ARL.q0 (v := (.bool c66)) rfl rfl ((Quiet.cast (Light.quiet (opMove rfl rfl)) (congrArg AV.bool hc66.symm))) ?_
        refine ARL.g (v := (.int .i64 x3_l0)) (.bool c66) false rfl (wF _) rfl noneAlive (fun hG => by have q0 := gN hG; subst q0; exact Light.quiet (opMove rfl rfl)) ?_
        refine ARL.g (v := (.bool (decide (x3_l0 > 0)))) (.bool c66) false rfl (wF _) rfl noneAlive (fun hG => by have q0 := gN hG; subst q0; exact Light.quiet (opInt rfl rfl rfl rfl)) ?_
        obtain ⟨c69, hc69, hF⟩ := bndE hF
        refine ARL.g (v := (.bool c69)) (.bool c66) false rfl (wF _) rfl noneAlive (fun hG => by have q0 := gN hG; subst q0; exact (Quiet.cast (Light.quiet (opMove rfl rfl)) (congrArg AV.bool hc69.symm))) ?_
        refine ARL.g (v := (.rptr [(.list 4 (List.map TEdge.av p0.edges))])) (bif (!c66) then (.bool c69) else .tup []) true rfl (wGT _ _) rfl noneAlive (fun hG => by have q0 := gN (gA1 hG); have q1 := gA2 hG; subst q0; subst q1; exact Light.quiet (opFieldAddrR rfl fieldA_33_3 rfl rfl)) ?_
        refine ARL.g (v := (.list 4 (List.map TEdge.av p0.edges))) (bif (!c66) then (.bool c69) else .tup []) true rfl (wGT _ _) rfl noneAlive (fun hG => by have q0 := gN (gA1 hG); have q1 := gA2 hG; subst q0; subst q1; exact Light.quiet (opLoadR rfl aggA_31 rfl rfl)) ?_
        refine ARL.g (v := (.int .i64 x3_l0)) (bif (!c66) then (.bool c69) else .tup []) true rfl (wGT _ _) rfl noneAlive (fun hG => by have q0 := gN (gA1 hG); have q1 := gA2 hG; subst q0; subst q1; exact Light.quiet (opMove rfl rfl)) ?_
        refine ARL.g (v := (.int .i64 (W (x3_l0 - 1)))) (bif (!c66) then (.bool c69) else .tup []) true rfl (wGT _ _) rfl noneAlive (fun hG => by have q0 := gN (gA1 hG); have q1 := gA2 hG; subst q0; subst q1; exact Light.quiet (opInt rfl rfl rfl rfl)) ?_
        obtain ⟨a74, ha74, hF⟩ := bindE hF
        refine ARL.g (v := (.rptr [(.int .i64 a74.from_), (.int .i64 a74.letter), (.int .i64 a74.to_), (.bool a74.good)])) (bif (!c66) then (.bool c69) else .tup []) true rfl (wGT _ _) rfl noneAlive (fun hG => by have q0 := gN (gA1 hG); have q1 := gA2 hG; subst q0; subst q1; exact Light.quiet (kIx (f := TEdge.av) (whenE ha74) rfl rfl rfl elemA_31 sizeA_73 rfl)) ?_
        refine ARL.g (v := (TEdge.av a74)) (bif (!c66) then (.bool c69) else .tup []) true rfl (wGT _ _) rfl noneAlive (fun hG => by have q0 := gN (gA1 hG); have q1 := gA2 hG; subst q0; subst q1; exact Light.quiet (opLoadRA rfl aggA_73 sizeA_73 rfl (nlt rfl) rfl)) ?_
        refine ARL.g (v := (TEdge.av a41)) (bif (!c66) then (.bool c69) else .tup []) true rfl (wGT _ _) rfl (hS.aliveC (k := 0) rfl) (fun hG => by have q0 := gN (gA1 hG); have q1 := gA2 hG; subst q0; subst q1; exact Light.quiet (kAtA hS (j := 0) rfl rfl aggA_73 sizeA_73 rfl (nlt rfl) rfl)) ?_
        refine ARL.g (v := (.bool (spec_l4Less a74 a41))) (bif (!c66) then (.bool c69) else .tup []) true rfl (wGT _ _) rfl noneAlive (fun hG => by have q0 := gN (gA1 hG); have q1 := gA2 hG; subst q0; subst q1; exact (qCall rfl rfl call_71 (spec_l4Less_ok a74 a41) rfl)) ?_
        refine ARL.g (v := (.bool (!(spec_l4Less a74 a41)))) (bif (!c66) then (.bool c69) else .tup []) true rfl (wGT _ _) rfl noneAlive (fun hG => by have q0 := gN (gA1 hG); have q1 := gA2 hG; subst q0; subst q1; exact Light.quiet (opNot rfl rfl)) ?_
        refine ARL.g (v := (.bool (c69 && (!(spec_l4Less a74 a41))))) (.bool c66) false rfl (wF _) rfl noneAlive (fun hG => by have q0 := gN hG; subst q0; exact Light.quiet (opPick (b := c69) rfl rfl (by cases c69 <;> rfl))) ?_
        refine ARL.q0 (v := (.bool (c66 || (c69 && (!(spec_l4Less a74 a41)))))) rfl rfl (Light.quiet (opPick (b := c66) rfl rfl (by cases c66 <;> rfl))) ?_
        refine ARL.done ?_
        refine AWP.ifB hF rfl (fun hc14 hF => ?_) (fun hc14 hF => ?_)
        · skip
          refine AWP.seqR rfl ?_
          refine ASL.q (v := (.bool false)) rfl rfl (Light.quiet (opAssign rfl rfl)) ?_
          refine ASL.done ?_
          refine AWP.ret ?_
          refine QBlock.ret ?_
          refine QThen.rt ?_
          refine QThen.rt ?_
          refine QBlock.ret ?_
          refine QThen.rt ?_
          obtain rfl := (hx5 _ (someE hF).symm)
          have hF := hR8
          have hF := sumR hF
          obtain rfl := someE hF
          exact QRet.sole (v := (.bool false)) ⟨rfl, trivial⟩ rfl
        · skip
          refine AWP.skip ?_
          refine QBlock.nrm ?_
          refine QThen.nrm ?_
          refine AWP.lastR rfl ?_
          refine ASL.q (v := (.int .i64 x3_l0)) rfl rfl (Light.quiet (opMove rfl rfl)) ?_
          refine ASL.q (v := (.int .i64 (W (x3_l0 + 1)))) rfl rfl (Light.quiet (opInt rfl rfl rfl rfl)) ?_
          refine ASL.q (v := (.int .i64 (W (x3_l0 + 1)))) rfl rfl (Light.quiet (opAssign rfl rfl)) ?_
          refine ASL.done ?_
          refine QThen.nrm ?_
          exact ⟨(W (x3_l0 + 1)), (), (someE hF).symm, ⟨rfl, rfl, trivial⟩, (hS.pick [] rfl rfl)⟩
      · skip
        refine AWP.exit ?_
        refine QThen.ext ?_
        refine QThen.ext ?_
        refine QBlock.hit ?_
        obtain rfl := (hx5 _ (someE hF).symm)
        have hF := hR8
        have hF := sumL hF
        refine QThen.nrm ?_
        exact ⟨trivial, (hS.pick [] rfl rfl), hF⟩

set_option maxRecDepth 10000 in
theorem spec_l1Max_ok (p0 : Int) (p1 : Int) : PC Try.prog 61 [(.int .i64 p0), (.int .i64 p1)] fun v => v = (.int .i64 (spec_l1Max p0 p1)) := by
  generalize hF : spec_l1Max p0 p1 = r
  refine PC.enter Try.func61 rfl Try.ntmps61 (by simp) ?_
  have hS := Sep.void; unfold spec_l1Max at hF
  refine AWP.seqR rfl ?_
  refine ASL.q (v := (.int .i64 0)) rfl rfl (Light.quiet (opAssign rfl rfl)) ?_
  refine ASL.done ?_
  refine AWP.seq ?_
  refine AWP.seqR rfl ?_
  refine ASL.q (v := (.int .i64 p0)) rfl rfl (Light.quiet (opMove rfl rfl)) ?_
  refine ASL.q (v := (.int .i64 p1)) rfl rfl (Light.quiet (opMove rfl rfl)) ?_
  refine ASL.q (v := (.bool (decide (p0 > p1)))) rfl rfl (Light.quiet (opInt rfl rfl rfl rfl)) ?_
  refine ASL.done ?_
  refine AWP.ifP hF rfl (fun hc1 hF => ?_) (fun hc1 hF => ?_)
  · skip
    refine AWP.seqR rfl ?_
    refine ASL.q (v := (.int .i64 p0)) rfl rfl (Light.quiet (opMove rfl rfl)) ?_
    refine ASL.q (v := (.int .i64 p0)) rfl rfl (Light.quiet (opAssign rfl rfl)) ?_
    refine ASL.done ?_
    refine AWP.ret ?_
    refine QThen.rt ?_
    obtain rfl := hF
    exact QRet.sole (v := (.int .i64 p0)) ⟨rfl, trivial⟩ rfl
  · skip
    refine AWP.skip ?_
    refine QThen.nrm ?_
    refine AWP.seqR rfl ?_
    refine ASL.q (v := (.int .i64 p1)) rfl rfl (Light.quiet (opMove rfl rfl)) ?_
    refine ASL.q (v := (.int .i64 p1)) rfl rfl (Light.quiet (opAssign rfl rfl)) ?_
    refine ASL.done ?_
    refine AWP.ret ?_
    obtain rfl := hF
    exact QRet.sole (v := (.int .i64 p1)) ⟨rfl, trivial⟩ rfl

set_option maxRecDepth 10000 in
theorem spec_AutoMake_ok {p0 : Int} {p1 : Int} {p2 : Int} {p3 : (List TEdge)} {r : (TAuto × Bool)} (hF : spec_AutoMake p0 p1 p2 p3 = some r) : HS Try.prog 74 [(.int .i64 p0), (.int .i64 p1), (.int .i64 p2), (.list 4 (List.map TEdge.av p3))] [] fun v L' => ∃ o0_Edges : AV, v = .tup [(.agg [(.int .i64 r.1.letters), (.int .i64 r.1.states), (.int .i64 r.1.start), o0_Edges]), (.bool r.2)] ∧ L' = [.row 4 o0_Edges (List.map TEdge.av r.1.edges)] := by
  intro H S hS
  refine HC.enter Try.func74 rfl Try.ntmps74 (by simp) ?_
  simp only [List.cons_append, List.nil_append] at hS
  unfold spec_AutoMake at hF
  refine AWP.seqR rfl ?_
  have hS := hNil (s := 4) (f := TEdge.av) hS
  refine ASL.x rfl rfl (hNewZ hS [(.int .i64 0), (.int .i64 0), (.int .i64 0), .nil] rfl zeroA_33 ⟨.inl rfl, .inl rfl, .inl rfl, .inl rfl, trivial⟩ ?_); rintro b8 G1 hK hS
  refine ASL.q (v := (.bool false)) rfl rfl (Light.quiet (opAssign rfl rfl)) ?_
  refine ASL.done ?_
  refine AWP.seqR rfl ?_
  refine ASL.q (v := (.int .i64 p0)) rfl rfl (Light.quiet (opMove rfl rfl)) ?_
  refine ASL.q (v := (.int .i64 p1)) rfl rfl (Light.quiet (opMove rfl rfl)) ?_
  refine ASL.q (v := (.int .i64 p2)) rfl rfl (Light.quiet (opMove rfl rfl)) ?_
  refine ASL.q (v := (.agg [(.int .i64 p0), (.int .i64 p1), (.int .i64 p2), .nil])) rfl rfl (Light.quiet (opBuildZ (zs := [(.int .i64 0), (.int .i64 0), (.int .i64 0), .nil]) rfl plan_33 zeroA_33 ⟨.inl rfl, .inl rfl, .inl rfl, .inl rfl, trivial⟩ rfl)) ?_
  have hS := hNil (s := 4) (f := TEdge.av) hS
  refine ASL.x rfl rfl (hNewZ hS [(.int .i64 0), (.int .i64 0), (.int .i64 0), .nil] rfl zeroA_33 ⟨.inl rfl, .inl rfl, .inl rfl, .inl rfl, trivial⟩ ?_); rintro b10 G4 hK hS
  have hS := hNil (s := 4) (f := TEdge.av) hS
  refine ASL.n rfl rfl (hPutA hS (j := 1) rfl rfl sizeA_33 rfl rfl rfl rfl (allC rfl (allC rfl (allC rfl (allC (hS.one (k := 0) rfl) rfl)))) (nlt rfl) ?_); rintro G7 hS
  refine ASL.done ?_
  refine AWP.seq ?_
  refine AWP.seqR rfl ?_
  refine ASL.q (v := (.agg [(.int .i64 p0), (.int .i64 p1), (.int .i64 p2), .nil])) rfl rfl (Light.quiet (kAtA hS (j := 1) rfl rfl aggA_33 sizeA_33 rfl (nlt rfl) rfl)) ?_
  obtain ⟨a22, ha22, hF⟩ := bindE hF
  refine ASL.q (v := (.bool a22)) rfl rfl ((qCallR hS rfl rfl call_51 (spec_AutoOk_ok ha22) ⟨.aggL ⟨.same _, .same _, .same _, .row (k := 0) rfl, trivial⟩, trivial⟩ (by constructor))) ?_
  refine ASL.q (v := (.bool (!a22))) rfl rfl (Light.quiet (opNot rfl rfl)) ?_
  obtain ⟨c24, hc24, hF⟩ := bndE hF
  refine ASL.q (v := (.bool c24)) rfl rfl ((Quiet.cast (Light.quiet (opMove rfl rfl)) (congrArg AV.bool hc24.symm))) ?_
  refine ASL.g (v := (.list 4 (List.map TEdge.av p3))) (.bool c24) false rfl (wF _) rfl (fun hG => by have q0 := gN hG; subst q0; exact Light.quiet (opMove rfl rfl)) ?_
  refine ASL.g (v := (.int .i64 (p3.length : Int))) (.bool c24) false rfl (wF _) rfl (fun hG => by have q0 := gN hG; subst q0; exact Light.quiet (opLenMap (f := TEdge.av) rfl rfl rfl lenT_31 rfl)) ?_
  refine ASL.g (v := (.bool (decide (((p3.length : Int)) > 2000)))) (.bool c24) false rfl (wF _) rfl (fun hG => by have q0 := gN hG; subst q0; exact Light.quiet (opInt rfl rfl rfl rfl)) ?_
  refine ASL.q (v := (.bool (c24 || (decide (((p3.length : Int)) > 2000))))) rfl rfl (Light.quiet (opPick (b := c24) rfl rfl (by cases c24 <;> rfl))) ?_
  refine ASL.done ?_
  refine AWP.ifB hF rfl (fun hc9 hF => ?_) (fun hc9 hF => ?_)
  · skip
    refine AWP.seqR rfl ?_
    refine ASL.q (v := (.agg [(.int .i64 0), (.int .i64 0), (.int .i64 0), .nil])) rfl rfl (Light.quiet (opBuildZ (zs := [(.int .i64 0), (.int .i64 0), (.int .i64 0), .nil]) rfl plan_33 zeroA_33 ⟨.inl rfl, .inl rfl, .inl rfl, .inl rfl, trivial⟩ rfl)) ?_
    have hS := hNil (s := 4) (f := TEdge.av) hS
    refine ASL.n rfl rfl (hPutA hS (j := 4) rfl rfl sizeA_33 rfl rfl rfl rfl (allC rfl (allC rfl (allC rfl (allC (hS.one (k := 0) rfl) rfl)))) (nlt rfl) ?_); rintro G10 hS
    refine ASL.q (v := (.bool false)) rfl rfl (Light.quiet (opAssign rfl rfl)) ?_
    refine ASL.done ?_
    refine AWP.ret ?_
    refine QThen.rt ?_
    obtain rfl := someE hF
    exact QRet.many (vs := [(.agg [(.int .i64 0), (.int .i64 0), (.int .i64 0), .nil]), (.bool false)]) ⟨resOne.at hS (k := 4) rfl rfl aggA_33 sizeA_33, rfl, trivial⟩ (by simp) ⟨_, ⟨.nil, rfl, rfl⟩, hS.pick [0, 6] rfl rfl⟩
  · skip
    refine AWP.skip ?_
    refine QThen.nrm ?_
    refine AWP.seqR rfl ?_
    refine ASL.q (v := (.int .i64 p1)) rfl rfl (Light.quiet (opMove rfl rfl)) ?_
    refine ASL.q (v := (.int .i64 p0)) rfl rfl (Light.quiet (opMove rfl rfl)) ?_
    refine ASL.q (v := (.int .i64 (W (p1 * p0)))) rfl rfl (Light.quiet (opInt rfl rfl rfl rfl)) ?_
    refine ASL.q (v := (.int .i64 p1)) rfl rfl (Light.quiet (opMove rfl rfl)) ?_
    refine ASL.q (v := (.int .i64 (W (((W (p1 * p0))) * p1)))) rfl rfl (Light.quiet (opInt rfl rfl rfl rfl)) ?_
    obtain ⟨z35, hz35, hF⟩ := bindE hF
    refine ASL.x rfl rfl (hMk (f := (AV.int .i64)) hS hz35 (by decide) rfl elemA_26 sizeA_3 bytesA_3 zeroA_3 rfl rfl (by decide) rfl rfl ?_); rintro v35 G12 hK hS
    refine ASL.q (v := v35) rfl rfl (Light.quiet (opAssign rfl rfl)) ?_
    refine ASL.done ?_
    refine AWP.seqM (fun e H => ∃ y14 : Int, ∃ y15 : Int, ∃ y16 : Int, ∃ y17 : (List TEdge), ∃ y20 : (List Int), ∃ w18 : AV, E.Told e [(0, (.int .i64 p0)), (1, (.int .i64 p1)), (8, (.ptr b8 0)), (10, (.ptr b10 0)), (11, v35)] ∧ E.Sep H [.row 4 w18 (List.map TEdge.av y17), .cell b8 [(.int .i64 y14), (.int .i64 y15), (.int .i64 y16), w18], .row 4 .nil (List.map TEdge.av ([])), .cell b10 [(.int .i64 p0), (.int .i64 p1), (.int .i64 p2), .nil], .row 1 v35 (List.map (AV.int .i64) y20), .snap S] ∧ spec_AutoMake.k0 p1 p0 p2 y14 y15 y16 y17 y20 = some r) ?_ ?_
    · rintro e0 G51 ⟨y14, y15, y16, y17, y20, w18, hT, hS, hF⟩; refine AWP.only _ hT ?_; unfold spec_AutoMake.k0 at hF
      refine AWP.seqM (fun e H => ∃ y21 : Int, ∃ y22 : Int, ∃ y23 : Int, ∃ y24 : (List TEdge), ∃ w25 : AV, E.Told e [(8, (.ptr b8 0)), (10, (.ptr b10 0))] ∧ E.Sep H [.row 4 w18 (List.map TEdge.av y17), .cell b8 [(.int .i64 y14), (.int .i64 y15), (.int .i64 y16), w18], .row 4 w25 (List.map TEdge.av y24), .cell b10 [(.int .i64 y21), (.int .i64 y22), (.int .i64 y23), w25], .snap S] ∧ spec_AutoMake.k1 y21 y22 y23 y24 = some r) ?_ ?_
      · rintro e0 G28 ⟨y21, y22, y23, y24, w25, hT, hS, hF⟩; refine AWP.only _ hT ?_; unfold spec_AutoMake.k1 at hF
        refine AWP.seqR rfl ?_
        refine ASL.q (v := (.agg [(.int .i64 y21), (.int .i64 y22), (.int .i64 y23), w25])) rfl rfl (Light.quiet (kAtA hS (j := 3) rfl rfl aggA_33 sizeA_33 rfl (nlt rfl) rfl)) ?_
        refine ASL.n rfl rfl (hPutA hS (j := 1) rfl rfl sizeA_33 rfl rfl rfl rfl (allC rfl (allC rfl (allC rfl (allC (hS.one (k := 2) rfl) rfl)))) (nlt rfl) ?_); rintro G27 hS
        refine ASL.q (v := (.bool true)) rfl rfl (Light.quiet (opAssign rfl rfl)) ?_
        refine ASL.done ?_
        refine AWP.ret ?_
        obtain rfl := someE hF
        exact QRet.many (vs := [(.agg [(.int .i64 y21), (.int .i64 y22), (.int .i64 y23), w25]), (.bool true)]) ⟨resOne.at hS (k := 1) rfl rfl aggA_33 sizeA_33, rfl, trivial⟩ (by simp) ⟨_, ⟨w25, rfl, rfl⟩, hS.pick [2, 4] rfl rfl⟩
      · skip
        refine AWP.seqR rfl ?_
        refine ASL.q (v := (.int .i64 0)) rfl rfl (Light.quiet (opAssign rfl rfl)) ?_
        refine ASL.done ?_
        refine AWP.block ?_
        obtain ⟨o38, hL37, hR39⟩ := bindE hF
        refine AWP.loopF (ω := AV) hL37 (fun s w => [(0, (.int .i64 p0)), (1, (.int .i64 p1)), (8, (.ptr b8 0)), (10, (.ptr b10 0)), (11, v35), (16, (.int .i64 s.2.2.2.2))]) (fun s w => [.row 4 w18 (List.map TEdge.av y17), .cell b8 [(.int .i64 y14), (.int .i64 y15), (.int .i64 y16), w18], .row 4 w (List.map TEdge.av s.2.2.2.1), .cell b10 [(.int .i64 s.1), (.int .i64 s.2.1), (.int .i64 s.2.2.1), w], .row 1 v35 (List.map (AV.int .i64) y20), .snap S]) .nil ⟨rfl, rfl, rfl, rfl, rfl, rfl, trivial⟩ (hS.pick [0, 1, 2, 3, 4, 5] rfl rfl) ?_
        rintro ⟨y29, y30, y31, y32, x16_l0⟩ w33 G40 hS x35 hF hx36
        try dsimp only at hS ⊢
        have hF : spec_AutoMake.b0 y20 p1 p0 y29 y30 y31 y32 x16_l0 = some x35 := hF; unfold spec_AutoMake.b0 at hF
        refine AWP.seq ?_
        refine AWP.seqR rfl ?_
        refine ASL.q (v := (.int .i64 x16_l0)) rfl rfl (Light.quiet (opMove rfl rfl)) ?_
        refine ASL.q (v := v35) rfl rfl (Light.quiet (opMove rfl rfl)) ?_
        refine ASL.q (v := (.int .i64 (y20.length : Int))) rfl rfl (Light.quiet (kLen hS (j := 4) rfl rfl rfl rfl lenT_26 rfl)) ?_
        refine ASL.q (v := (.bool (decide (x16_l0 < ((y20.length : Int)))))) rfl rfl (Light.quiet (opInt rfl rfl rfl rfl)) ?_
        refine ASL.done ?_
        refine AWP.ifP hF rfl (fun hc41 hF => ?_) (fun hc41 hF => ?_)
        · skip
          refine AWP.skip ?_
          refine QThen.nrm ?_
          refine AWP.seq ?_
          refine AWP.block ?_
          refine AWP.seqR rfl ?_
          refine ASL.q (v := v35) rfl rfl (Light.quiet (opMove rfl rfl)) ?_
          refine ASL.q (v := (.int .i64 x16_l0)) rfl rfl (Light.quiet (opMove rfl rfl)) ?_
          obtain ⟨a98, ha98, hF⟩ := bindE hF
          refine ASL.q (v := (ptrTo v35 x16_l0.toNat 1)) rfl rfl (Light.quiet (kIxOx hS (j := 4) rfl ha98 rfl rfl rfl elemA_26 sizeA_3)) ?_
          refine ASL.q (v := (.int .i64 a98)) rfl rfl (Light.quiet (kLd (f := (AV.int .i64)) hS (j := 4) rfl ha98 rfl aggA_3 rfl (fun _ => rfl))) ?_
          refine ASL.q (v := (.bool (decide (a98 > 0)))) rfl rfl (Light.quiet (opInt rfl rfl rfl rfl)) ?_
          refine ASL.done ?_
          refine AWP.ifP hF rfl (fun hc42 hF => ?_) (fun hc42 hF => ?_)
          · skip
            refine AWP.lastD [(0, false), (1, false), (2, false), (3, false), (4, false), (5, false), (6, false), (7, false), (8, false), (9, false), (10, false), (11, false), (12, false), (13, false), (14, false), (15, false), (16, false), (17, false), (18, false), (19, false), (20, false), (21, false), (22, true), (23, false), (24, true)] mixed (by kernel_rfl) rfl ?_
            refine ARL.q0 (v := (.ptr b10 3)) rfl rfl (Light.quiet (opFieldAddr rfl fieldA_33_3 rfl rfl)) ?_
            refine ARL.q (v := w33) rfl rfl (hS.aliveC (k := 3) rfl) (Light.quiet (kAt hS (j := 3) rfl rfl aggA_31 rfl rfl)) ?_
            refine ARL.q0 (v := (.int .i64 x16_l0)) rfl rfl (Light.quiet (opMove rfl rfl)) ?_
            refine ARL.q0 (v := (.int .i64 p1)) rfl rfl (Light.quiet (opMove rfl rfl)) ?_
            obtain ⟨u43, hu43, hF⟩ := bindE hF
            refine ARL.q0 (v := (.int .i64 (quo .i64 x16_l0 p1))) rfl rfl (Light.quiet (opQuo rfl rfl rfl (of_decide_eq_true (chkE hu43)) rfl)) ?_
            refine ARL.q0 (v := (.int .i64 p0)) rfl rfl (Light.quiet (opMove rfl rfl)) ?_
            obtain ⟨u44, hu44, hF⟩ := bindE hF
            refine ARL.q0 (v := (.int .i64 (quo .i64 ((quo .i64 x16_l0 p1)) p0))) rfl rfl (Light.quiet (opQuo rfl rfl rfl (of_decide_eq_true (chkE hu44)) rfl)) ?_
            refine ARL.q0 (v := (.int .i64 x16_l0)) rfl rfl (Light.quiet (opMove rfl rfl)) ?_
            refine ARL.q0 (v := (.int .i64 p1)) rfl rfl (Light.quiet (opMove rfl rfl)) ?_
            obtain ⟨u45, hu45, hF⟩ := bindE hF
            refine ARL.q0 (v := (.int .i64 (quo .i64 x16_l0 p1))) rfl rfl (Light.quiet (opQuo rfl rfl rfl (of_decide_eq_true (chkE hu45)) rfl)) ?_
            refine ARL.q0 (v := (.int .i64 p0)) rfl rfl (Light.quiet (opMove rfl rfl)) ?_
            obtain ⟨u46, hu46, hF⟩ := bindE hF
            refine ARL.q0 (v := (.int .i64 (Int.tmod ((quo .i64 x16_l0 p1)) p0))) rfl rfl (Light.quiet (opRem rfl rfl rfl (of_decide_eq_true (chkE hu46)) rfl)) ?_
            refine ARL.q0 (v := (.int .i64 x16_l0)) rfl rfl (Light.quiet (opMove rfl rfl)) ?_
            refine ARL.q0 (v := (.int .i64 p1)) rfl rfl (Light.quiet (opMove rfl rfl)) ?_
            obtain ⟨u47, hu47, hF⟩ := bindE hF
            refine ARL.q0 (v := (.int .i64 (Int.tmod x16_l0 p1))) rfl rfl (Light.quiet (opRem rfl rfl rfl (of_decide_eq_true (chkE hu47)) rfl)) ?_
            refine ARL.q0 (v := v35) rfl rfl (Light.quiet (opMove rfl rfl)) ?_
            refine ARL.q0 (v := (.int .i64 x16_l0)) rfl rfl (Light.quiet (opMove rfl rfl)) ?_
            obtain ⟨a118, ha118, hF⟩ := bindE hF
            refine ARL.q0 (v := (ptrTo v35 x16_l0.toNat 1)) rfl rfl (Light.quiet (kIxOx hS (j := 4) rfl ha118 rfl rfl rfl elemA_26 sizeA_3)) ?_
            refine ARL.q (v := (.int .i64 a118)) rfl rfl (hS.aliveR (k := 4) rfl) (Light.quiet (kLd (f := (AV.int .i64)) hS (j := 4) rfl ha118 rfl aggA_3 rfl (fun _ => rfl))) ?_
            refine ARL.q0 (v := (.bool (decide (a118 = 2)))) rfl rfl (Light.quiet (opInt rfl rfl rfl rfl)) ?_
            refine ARL.q0 (v := (.agg [(.int .i64 (quo .i64 ((quo .i64 x16_l0 p1)) p0)), (.int .i64 (Int.tmod ((quo .i64 x16_l0 p1)) p0)), (.int .i64 (Int.tmod x16_l0 p1)), (.bool (decide (a118 = 2)))])) rfl rfl (Light.quiet (opBuildZ (zs := [(.int .i64 0), (.int .i64 0), (.int .i64 0), (.bool false)]) rfl plan_73 zeroA_73 ⟨.inl rfl, .inl rfl, .inl rfl, .inl rfl, trivial⟩ rfl)) ?_
            refine ARL.q0 (v := (.list 4 (List.map TEdge.av [(TEdge.mk ((quo .i64 ((quo .i64 x16_l0 p1)) p0)) ((Int.tmod ((quo .i64 x16_l0 p1)) p0)) ((Int.tmod x16_l0 p1)) ((decide (a118 = 2))))]))) rfl rfl ((qLit (xs := [(.agg [(.int .i64 (quo .i64 ((quo .i64 x16_l0 p1)) p0)), (.int .i64 (Int.tmod ((quo .i64 x16_l0 p1)) p0)), (.int .i64 (Int.tmod x16_l0 p1)), (.bool (decide (a118 = 2)))])]) rfl elemA_31 sizeA_73 zeroA_73 rfl rfl rfl rfl (by simp [cells, TEdge.av]) (nlt rfl))) ?_
            obtain ⟨z123, hz123, hF⟩ := bindE hF
            refine ARL.y rfl rfl rfl rfl (hApp (f := TEdge.av) (ws := [(TEdge.mk ((quo .i64 ((quo .i64 x16_l0 p1)) p0)) ((Int.tmod ((quo .i64 x16_l0 p1)) p0)) ((Int.tmod x16_l0 p1)) ((decide (a118 = 2))))]) hS (j := 2) rfl hz123 rfl elemA_31 rfl sizeA_73 bytesA_73 zeroA_73 rfl rfl rfl (fun _ => rfl) ?_); rintro v123 G48 hS
            refine ARL.q0 (v := (.ptr b10 3)) rfl rfl (Light.quiet (opFieldAddr rfl fieldA_33_3 rfl rfl)) ?_
            refine ARL.n rfl rfl rfl rfl (hPut hS (j := 3) rfl rfl sizeA_31 rfl rfl (hS.one (k := 2) rfl) (nlt rfl) ?_); rintro G50 hS
            refine ARL.done ?_
            refine QBlock.nrm ?_
            refine QThen.nrm ?_
            refine AWP.lastR rfl ?_
            refine ASL.q (v := (.int .i64 x16_l0)) rfl rfl (Light.quiet (opMove rfl rfl)) ?_
            refine ASL.q (v := (.int .i64 (W (x16_l0 + 1)))) rfl rfl (Light.quiet (opInt rfl rfl rfl rfl)) ?_
            refine ASL.q (v := (.int .i64 (W (x16_l0 + 1)))) rfl rfl (Light.quiet (opAssign rfl rfl)) ?_
            refine ASL.done ?_
            refine QThen.nrm ?_
            exact ⟨(y29, y30, y31, z123, (W (x16_l0 + 1))), v123, (someE hF).symm, ⟨rfl, rfl, rfl, rfl, rfl, rfl, trivial⟩, (hS.pick [0, 1, 2, 3, 4, 5] rfl rfl)⟩
          · skip
            refine AWP.skip ?_
            refine QBlock.nrm ?_
            refine QThen.nrm ?_
            refine AWP.lastR rfl ?_
            refine ASL.q (v := (.int .i64 x16_l0)) rfl rfl (Light.quiet (opMove rfl rfl)) ?_
            refine ASL.q (v := (.int .i64 (W (x16_l0 + 1)))) rfl rfl (Light.quiet (opInt rfl rfl rfl rfl)) ?_
            refine ASL.q (v := (.int .i64 (W (x16_l0 + 1)))) rfl rfl (Light.quiet (opAssign rfl rfl)) ?_
            refine ASL.done ?_
            refine QThen.nrm ?_
            exact ⟨(y29, y30, y31, y32, (W (x16_l0 + 1))), w33, (someE hF).symm, ⟨rfl, rfl, rfl, rfl, rfl, rfl, trivial⟩, (hS.pick [0, 1, 2, 3, 4, 5] rfl rfl)⟩
        · skip
          refine AWP.exit ?_
          refine QThen.ext ?_
          refine QThen.ext ?_
          refine QBlock.hit ?_
          obtain rfl := (hx36 _ (someE hF).symm)
          have hF := hR39
          refine QThen.nrm ?_
          exact ⟨y29, y30, y31, y32, w33, ⟨rfl, rfl, trivial⟩, (hS.pick [0, 1, 2, 3, 5] rfl rfl), hF⟩
    · skip
      refine AWP.seqR rfl ?_
      refine ASL.q (v := (.int .i64 0)) rfl rfl (Light.quiet (opAssign rfl rfl)) ?_
      refine ASL.done ?_
      refine AWP.block ?_
      obtain ⟨o62, hL61, hR63⟩ := bindE hF
      refine AWP.loopF (ω := AV) hL61 (fun s w => [(0, (.int .i64 p0)), (1, (.int .i64 p1)), (3, (.list 4 (List.map TEdge.av p3))), (8, (.ptr b8 0)), (10, (.ptr b10 0)), (11, v35), (12, (.int .i64 s.2.2.2.2.2))]) (fun s w => [.row 4 w (List.map TEdge.av s.2.2.2.1), .cell b8 [(.int .i64 s.1), (.int .i64 s.2.1), (.int .i64 s.2.2.1), w], .row 4 .nil (List.map TEdge.av ([])), .cell b10 [(.int .i64 p0), (.int .i64 p1), (.int .i64 p2), .nil], .row 1 v35 (List.map (AV.int .i64) s.2.2.2.2.1), .snap S]) .nil ⟨rfl, rfl, rfl, rfl, rfl, rfl, rfl, trivial⟩ (hS.pick [5, 4, 1, 2, 0, 6] rfl rfl) ?_
      rintro ⟨y52, y53, y54, y55, y58, x12_l1⟩ w56 G64 hS x59 hF hx60
      try dsimp only at hS ⊢
      have hF : spec_AutoMake.b1 p3 p1 p0 y52 y53 y54 y55 y58 x12_l1 = some x59 := hF; unfold spec_AutoMake.b1 at hF
      refine AWP.seq ?_
      refine AWP.seqR rfl ?_
      refine ASL.q (v := (.int .i64 x12_l1)) rfl rfl (Light.quiet (opMove rfl rfl)) ?_
      refine ASL.q (v := (.list 4 (List.map TEdge.av p3))) rfl rfl (Light.quiet (opMove rfl rfl)) ?_
      refine ASL.q (v := (.int .i64 (p3.length : Int))) rfl rfl (Light.quiet (opLenMap (f := TEdge.av) rfl rfl rfl lenT_31 rfl)) ?_
      refine ASL.q (v := (.bool (decide (x12_l1 < ((p3.length : Int)))))) rfl rfl (Light.quiet (opInt rfl rfl rfl rfl)) ?_
      refine ASL.done ?_
      refine AWP.ifP hF rfl (fun hc65 hF => ?_) (fun hc65 hF => ?_)
      · skip
        refine AWP.skip ?_
        refine QThen.nrm ?_
        refine AWP.seq ?_
        refine AWP.block ?_
        refine AWP.seqR rfl ?_
        refine ASL.q (v := (.list 4 (List.map TEdge.av p3))) rfl rfl (Light.quiet (opMove rfl rfl)) ?_
        refine ASL.q (v := (.int .i64 x12_l1)) rfl rfl (Light.quiet (opMove rfl rfl)) ?_
        obtain ⟨a44, ha44, hF⟩ := bindE hF
        refine ASL.q (v := (.rptr [(.int .i64 a44.from_), (.int .i64 a44.letter), (.int .i64 a44.to_), (.bool a44.good)])) rfl rfl (Light.quiet (kIx (f := TEdge.av) ha44 rfl rfl rfl elemA_31 sizeA_73 rfl)) ?_
        refine ASL.q (v := (TEdge.av a44)) rfl rfl (Light.quiet (opLoadRA rfl aggA_73 sizeA_73 rfl (nlt rfl) rfl)) ?_
        refine ASL.x rfl rfl (hNewZ hS [(.int .i64 0), (.int .i64 0), (.int .i64 0), (.bool false)] rfl zeroA_73 ⟨.inl rfl, .inl rfl, .inl rfl, .inl rfl, trivial⟩ ?_); rintro b13 G66 hK hS
        refine ASL.n rfl rfl (hPutA hS (j := 0) rfl rfl sizeA_73 rfl rfl rfl rfl rfl (nlt rfl) ?_); rintro G68 hS
        refine ASL.done ?_
        refine AWP.seq ?_
        refine AWP.seqR rfl ?_
        refine ASL.q (v := (.ptr b13 0)) rfl rfl (Light.quiet (opFieldAddr rfl fieldA_73_0 rfl rfl)) ?_
        refine ASL.q (v := (.int .i64 a44.from_)) rfl rfl (Light.quiet (kAt hS (j := 0) rfl rfl aggA_3 rfl rfl)) ?_
        refine ASL.q (v := (.int .i64 p1)) rfl rfl (Light.quiet (opMove rfl rfl)) ?_
        refine ASL.q (v := (.bool (spec_l4State a44.from_ p1))) rfl rfl ((qCall rfl rfl call_70 (spec_l4State_ok a44.from_ p1) rfl)) ?_
        refine ASL.q (v := (.bool (!(spec_l4State a44.from_ p1)))) rfl rfl (Light.quiet (opNot rfl rfl)) ?_
        obtain ⟨c51, hc51, hF⟩ := bndE hF
        refine ASL.q (v := (.bool c51)) rfl rfl ((Quiet.cast (Light.quiet (opMove rfl rfl)) (congrArg AV.bool hc51.symm))) ?_
        refine ASL.g (v := (.ptr b13 2)) (.bool c51) false rfl (wF _) rfl (fun hG => by have q0 := gN hG; subst q0; exact Light.quiet (opFieldAddr rfl fieldA_73_2 rfl rfl)) ?_
        refine ASL.g (v := (.int .i64 a44.to_)) (.bool c51) false rfl (wF _) rfl (fun hG => by have q0 := gN hG; subst q0; exact Light.quiet (kAt hS (j := 0) rfl rfl aggA_3 rfl rfl)) ?_
        refine ASL.g (v := (.int .i64 p1)) (.bool c51) false rfl (wF _) rfl (fun hG => by have q0 := gN hG; subst q0; exact Light.quiet (opMove rfl rfl)) ?_
        refine ASL.g (v := (.bool (spec_l4State a44.to_ p1))) (.bool c51) false rfl (wF _) rfl (fun hG => by have q0 := gN hG; subst q0; exact (qCall rfl rfl call_70 (spec_l4State_ok a44.to_ p1) rfl)) ?_
        refine ASL.g (v := (.bool (!(spec_l4State a44.to_ p1)))) (.bool c51) false rfl (wF _) rfl (fun hG => by have q0 := gN hG; subst q0; exact Light.quiet (opNot rfl rfl)) ?_
        refine ASL.q (v := (.bool (c51 || (!(spec_l4State a44.to_ p1))))) rfl rfl (Light.quiet (opPick (b := c51) rfl rfl (by cases c51 <;> rfl))) ?_
        obtain ⟨c58, hc58, hF⟩ := bndE hF
        refine ASL.q (v := (.bool c58)) rfl rfl ((Quiet.cast (Light.quiet (opMove rfl rfl)) (congrArg AV.bool hc58.symm))) ?_
        refine ASL.g (v := (.ptr b13 1)) (.bool c58) false rfl (wF _) rfl (fun hG => by have q0 := gN hG; subst q0; exact Light.quiet (opFieldAddr rfl fieldA_73_1 rfl rfl)) ?_
        refine ASL.g (v := (.int .i64 a44.letter)) (.bool c58) false rfl (wF _) rfl (fun hG => by have q0 := gN hG; subst q0; exact Light.quiet (kAt hS (j := 0) rfl rfl aggA_3 rfl rfl)) ?_
        refine ASL.g (v := (.int .i64 p0)) (.bool c58) false rfl (wF _) rfl (fun hG => by have q0 := gN hG; subst q0; exact Light.quiet (opMove rfl rfl)) ?_
        refine ASL.g (v := (.int .i64 (W (p0 - 1)))) (.bool c58) false rfl (wF _) rfl (fun hG => by have q0 := gN hG; subst q0; exact Light.quiet (opInt rfl rfl rfl rfl)) ?_
        refine ASL.g (v := (.bool (spec_l1In a44.letter 0 ((W (p0 - 1)))))) (.bool c58) false rfl (wF _) rfl (fun hG => by have q0 := gN hG; subst q0; exact (qCall rfl rfl call_45 (spec_l1In_ok a44.letter 0 ((W (p0 - 1)))) rfl)) ?_
        refine ASL.g (v := (.bool (!(spec_l1In a44.letter 0 ((W (p0 - 1))))))) (.bool c58) false rfl (wF _) rfl (fun hG => by have q0 := gN hG; subst q0; exact Light.quiet (opNot rfl rfl)) ?_
        refine ASL.q (v := (.bool (c58 || (!(spec_l1In a44.letter 0 ((W (p0 - 1)))))))) rfl rfl (Light.quiet (opPick (b := c58) rfl rfl (by cases c58 <;> rfl))) ?_
        refine ASL.done ?_
        refine AWP.ifB hF rfl (fun hc69 hF => ?_) (fun hc69 hF => ?_)
        · skip
          refine AWP.seqR rfl ?_
          refine ASL.q (v := (.agg [(.int .i64 0), (.int .i64 0), (.int .i64 0), .nil])) rfl rfl (Light.quiet (opBuildZ (zs := [(.int .i64 0), (.int .i64 0), (.int .i64 0), .nil]) rfl plan_33 zeroA_33 ⟨.inl rfl, .inl rfl, .inl rfl, .inl rfl, trivial⟩ rfl)) ?_
          have hS := hNil (s := 4) (f := TEdge.av) hS
          refine ASL.n rfl rfl (hPutA hS (j := 3) rfl rfl sizeA_33 rfl rfl rfl rfl (allC rfl (allC rfl (allC rfl (allC (hS.one (k := 0) rfl) rfl)))) (nlt rfl) ?_); rintro G70 hS
          refine ASL.q (v := (.bool false)) rfl rfl (Light.quiet (opAssign rfl rfl)) ?_
          refine ASL.done ?_
          refine AWP.ret ?_
          refine QThen.rt ?_
          refine QBlock.ret ?_
          refine QThen.rt ?_
          refine QThen.rt ?_
          refine QBlock.ret ?_
          refine QThen.rt ?_
          obtain rfl := (hx60 _ (someE hF).symm)
          have hF := hR63
          have hF := sumR hF
          obtain rfl := someE hF
          exact QRet.many (vs := [(.agg [(.int .i64 0), (.int .i64 0), (.int .i64 0), .nil]), (.bool false)]) ⟨resOne.at hS (k := 3) rfl rfl aggA_33 sizeA_33, rfl, trivial⟩ (by simp) ⟨_, ⟨.nil, rfl, rfl⟩, hS.pick [0, 7] rfl rfl⟩
        · skip
          refine AWP.skip ?_
          refine QThen.nrm ?_
          refine AWP.seqR rfl ?_
          refine ASL.q (v := (.ptr b13 0)) rfl rfl (Light.quiet (opFieldAddr rfl fieldA_73_0 rfl rfl)) ?_
          refine ASL.q (v := (.int .i64 a44.from_)) rfl rfl (Light.quiet (kAt hS (j := 0) rfl rfl aggA_3 rfl rfl)) ?_
          refine ASL.q (v := (.int .i64 p0)) rfl rfl (Light.quiet (opMove rfl rfl)) ?_
          refine ASL.q (v := (.int .i64 (W (a44.from_ * p0)))) rfl rfl (Light.quiet (opInt rfl rfl rfl rfl)) ?_
          refine ASL.q (v := (.ptr b13 1)) rfl rfl (Light.quiet (opFieldAddr rfl fieldA_73_1 rfl rfl)) ?_
          refine ASL.q (v := (.int .i64 a44.letter)) rfl rfl (Light.quiet (kAt hS (j := 0) rfl rfl aggA_3 rfl rfl)) ?_
          refine ASL.q (v := (.int .i64 (W (((W (a44.from_ * p0))) + a44.letter)))) rfl rfl (Light.quiet (opInt rfl rfl rfl rfl)) ?_
          refine ASL.q (v := (.int .i64 p1)) rfl rfl (Light.quiet (opMove rfl rfl)) ?_
          refine ASL.q (v := (.int .i64 (W (((W (((W (a44.from_ * p0))) + a44.letter))) * p1)))) rfl rfl (Light.quiet (opInt rfl rfl rfl rfl)) ?_
          refine ASL.q (v := (.ptr b13 2)) rfl rfl (Light.quiet (opFieldAddr rfl fieldA_73_2 rfl rfl)) ?_
          refine ASL.q (v := (.int .i64 a44.to_)) rfl rfl (Light.quiet (kAt hS (j := 0) rfl rfl aggA_3 rfl rfl)) ?_
          refine ASL.q (v := (.int .i64 (W (((W (((W (((W (a44.from_ * p0))) + a44.letter))) * p1))) + a44.to_)))) rfl rfl (Light.quiet (opInt rfl rfl rfl rfl)) ?_
          refine ASL.q (v := (.int .i64 (W (((W (((W (((W (a44.from_ * p0))) + a44.letter))) * p1))) + a44.to_)))) rfl rfl (Light.quiet (opAssign rfl rfl)) ?_
          refine ASL.done ?_
          refine AWP.seqR rfl ?_
          refine ASL.q (v := (.int .i64 1)) rfl rfl (Light.quiet (opAssign rfl rfl)) ?_
          refine ASL.done ?_
          refine AWP.seqM (fun e H => ∃ x15_3 : Int, E.Told e [(0, (.int .i64 p0)), (1, (.int .i64 p1)), (3, (.list 4 (List.map TEdge.av p3))), (8, (.ptr b8 0)), (10, (.ptr b10 0)), (11, v35), (12, (.int .i64 x12_l1)), (14, (.int .i64 (W (((W (((W (((W (a44.from_ * p0))) + a44.letter))) * p1))) + a44.to_)))), (15, (.int .i64 x15_3))] ∧ E.Sep H [.row 4 w56 (List.map TEdge.av y55), .cell b8 [(.int .i64 y52), (.int .i64 y53), (.int .i64 y54), w56], .row 4 .nil (List.map TEdge.av ([])), .cell b10 [(.int .i64 p0), (.int .i64 p1), (.int .i64 p2), .nil], .row 1 v35 (List.map (AV.int .i64) y58), .snap S] ∧ spec_AutoMake.k2 y58 a44 p0 p1 y52 y53 y54 y55 x12_l1 x15_3 = some x59) ?_ ?_
          · rintro e0 G73 ⟨x15_3, hT, hS, hF⟩; refine AWP.only _ hT ?_; unfold spec_AutoMake.k2 at hF
            refine AWP.lastR rfl ?_
            refine ASL.q (v := v35) rfl rfl (Light.quiet (opMove rfl rfl)) ?_
            refine ASL.q (v := (.int .i64 (W (((W (((W (((W (a44.from_ * p0))) + a44.letter))) * p1))) + a44.to_)))) rfl rfl (Light.quiet (opMove rfl rfl)) ?_
            refine ASL.q (v := v35) rfl rfl (Light.quiet (opMove rfl rfl)) ?_
            refine ASL.q (v := (.int .i64 (W (((W (((W (((W (a44.from_ * p0))) + a44.letter))) * p1))) + a44.to_)))) rfl rfl (Light.quiet (opMove rfl rfl)) ?_
            obtain ⟨a85, ha85, hF⟩ := bindE hF
            refine ASL.q (v := (ptrTo v35 ((W (((W (((W (((W (a44.from_ * p0))) + a44.letter))) * p1))) + a44.to_))).toNat 1)) rfl rfl (Light.quiet (kIxOx hS (j := 4) rfl ha85 rfl rfl rfl elemA_26 sizeA_3)) ?_
            refine ASL.q (v := (.int .i64 a85)) rfl rfl (Light.quiet (kLd (f := (AV.int .i64)) hS (j := 4) rfl ha85 rfl aggA_3 rfl (fun _ => rfl))) ?_
            refine ASL.q (v := (.int .i64 x15_3)) rfl rfl (Light.quiet (opMove rfl rfl)) ?_
            refine ASL.q (v := (.int .i64 (spec_l1Max a85 x15_3))) rfl rfl ((qCall rfl rfl call_61 (spec_l1Max_ok a85 x15_3) rfl)) ?_
            obtain ⟨m89, hm89, hF⟩ := bindE hF
            refine ASL.q (v := (ptrTo v35 m89 1)) rfl rfl (Light.quiet (kIxO hS (j := 4) rfl hm89 rfl rfl rfl elemA_26 sizeA_3)) ?_
            refine ASL.n rfl rfl (hSt (f := (AV.int .i64)) (a := (spec_l1Max a85 x15_3)) hS (j := 4) rfl hm89 rfl sizeA_3 rfl rfl ⟨rfl, rfl, rfl⟩ ?_); rintro G72 hS
            refine ASL.done ?_
            refine QBlock.nrm ?_
            refine QThen.nrm ?_
            refine AWP.lastR rfl ?_
            refine ASL.q (v := (.int .i64 x12_l1)) rfl rfl (Light.quiet (opMove rfl rfl)) ?_
            refine ASL.q (v := (.int .i64 (W (x12_l1 + 1)))) rfl rfl (Light.quiet (opInt rfl rfl rfl rfl)) ?_
            refine ASL.q (v := (.int .i64 (W (x12_l1 + 1)))) rfl rfl (Light.quiet (opAssign rfl rfl)) ?_
            refine ASL.done ?_
            refine QThen.nrm ?_
            exact ⟨(y52, y53, y54, y55, (y58.set m89 ((spec_l1Max a85 x15_3))), (W (x12_l1 + 1))), w56, (someE hF).symm, ⟨rfl, rfl, rfl, rfl, rfl, rfl, rfl, trivial⟩, (hS.pick [0, 1, 2, 3, 4, 5] rfl rfl)⟩
          · skip
            refine AWP.seqR rfl ?_
            refine ASL.q (v := (.ptr b13 3)) rfl rfl (Light.quiet (opFieldAddr rfl fieldA_73_3 rfl rfl)) ?_
            refine ASL.q (v := (.bool a44.good)) rfl rfl (Light.quiet (kAt hS (j := 0) rfl rfl aggA_4 rfl rfl)) ?_
            refine ASL.done ?_
            refine AWP.ifB hF rfl (fun hc74 hF => ?_) (fun hc74 hF => ?_)
            · skip
              refine AWP.lastR rfl ?_
              refine ASL.q (v := (.int .i64 2)) rfl rfl (Light.quiet (opAssign rfl rfl)) ?_
              refine ASL.done ?_
              refine QThen.nrm ?_
              exact ⟨2, ⟨rfl, rfl, rfl, rfl, rfl, rfl, rfl, rfl, rfl, trivial⟩, (hS.pick [1, 2, 3, 4, 5, 6] rfl rfl), hF⟩
            · skip
              refine AWP.skip ?_
              refine QThen.nrm ?_
              exact ⟨1, ⟨rfl, rfl, rfl, rfl, rfl, rfl, rfl, rfl, rfl, trivial⟩, (hS.pick [1, 2, 3, 4, 5, 6] rfl rfl), hF⟩
      · skip
        refine AWP.exit ?_
        refine QThen.ext ?_
        refine QThen.ext ?_
        refine QBlock.hit ?_
        obtain rfl := (hx60 _ (someE hF).symm)
        have hF := hR63
        have hF := sumL hF
        refine QThen.nrm ?_
        exact ⟨y52, y53, y54, y55, y58, w56, ⟨rfl, rfl, rfl, rfl, rfl, trivial⟩, (hS.pick [0, 1, 2, 3, 4, 5] rfl rfl), hF⟩

set_option maxRecDepth 10000 in
theorem spec_l4DrawRight_ok {p0 : Tl1Cur} {p1 : Int} {p2 : Int} {r : (TAuto × Tl1Cur)} {bp0 : Nat} (hF : spec_l4DrawRight p0 p1 p2 = some r) : HS Try.prog 58 [(.ptr bp0 0), (.int .i64 p1), (.int .i64 p2)] [.cell bp0 [(.list 1 (List.map (AV.int .u8) p0.b)), (.int .i64 p0.i), (.int .i64 p0.h)]] fun v L' => ∃ o0_Edges : AV, v = (.agg [(.int .i64 r.1.letters), (.int .i64 r.1.states), (.int .i64 r.1.start), o0_Edges]) ∧ L' = [.row 4 o0_Edges (List.map TEdge.av r.1.edges), .cell bp0 [(.list 1 (List.map (AV.int .u8) r.2.b)), (.int .i64 r.2.i), (.int .i64 r.2.h)]] := by
  intro H S hS
  refine HC.enter Try.func58 rfl Try.ntmps58 (by simp) ?_
  simp only [List.cons_append, List.nil_append] at hS
  unfold spec_l4DrawRight at hF
  refine AWP.seqR rfl ?_
  have hS := hNil (s := 4) (f := TEdge.av) hS
  refine ASL.x rfl rfl (hNewZ hS [(.int .i64 0), (.int .i64 0), (.int .i64 0), .nil] rfl zeroA_33 ⟨.inl rfl, .inl rfl, .inl rfl, .inl rfl, trivial⟩ ?_); rintro b6 G2 hK hS
  refine ASL.done ?_
  refine AWP.seqR rfl ?_
  refine ASL.q (v := (.ptr bp0 0)) rfl rfl (Light.quiet (opMove rfl rfl)) ?_
  refine ASL.q (v := (.int .i64 p2)) rfl rfl (Light.quiet (opMove rfl rfl)) ?_
  obtain ⟨a12, ha12, hF⟩ := bindE hF
  refine ASL.x rfl rfl (hCallS hS [2, 0, 1, 3] (F := [.cell b6 [(.int .i64 0), (.int .i64 0), (.int .i64 0), .nil], .row 4 .nil (List.map TEdge.av ([])), .snap S]) rfl rfl rfl call_42 (spec_l1Below_ok ha12) rfl rfl ?_); rintro _ _ G5 ⟨rfl, rfl⟩ hS
  refine ASL.q (v := (.int .i64 (W (1 + a12.1)))) rfl rfl (Light.quiet (opInt rfl rfl rfl rfl)) ?_
  refine ASL.q (v := (.int .i64 (W (1 + a12.1)))) rfl rfl (Light.quiet (opAssign rfl rfl)) ?_
  refine ASL.done ?_
  refine AWP.seqR rfl ?_
  refine ASL.q (v := (.int .i64 p1)) rfl rfl (Light.quiet (opMove rfl rfl)) ?_
  refine ASL.q (v := (.int .i64 (W (1 + a12.1)))) rfl rfl (Light.quiet (opMove rfl rfl)) ?_
  refine ASL.q (v := (.ptr bp0 0)) rfl rfl (Light.quiet (opMove rfl rfl)) ?_
  refine ASL.q (v := (.int .i64 (W (1 + a12.1)))) rfl rfl (Light.quiet (opMove rfl rfl)) ?_
  obtain ⟨u6, hu6, hF⟩ := bindE hF
  refine ASL.q (v := (.int .i64 (shl .i64 1 ((W (1 + a12.1)))))) rfl rfl (Light.quiet (opShl rfl rfl rfl (of_decide_eq_true (chkE hu6)) rfl)) ?_
  obtain ⟨a20, ha20, hF⟩ := bindE hF
  refine ASL.x rfl rfl (hCallS hS [0, 1, 2, 3] (F := [.cell b6 [(.int .i64 0), (.int .i64 0), (.int .i64 0), .nil], .row 4 .nil (List.map TEdge.av ([])), .snap S]) rfl rfl rfl call_42 (spec_l1Below_ok ha20) rfl rfl ?_); rintro _ _ G7 ⟨rfl, rfl⟩ hS
  refine ASL.q (v := (.int .i64 (bOr .i64 1 a20.1))) rfl rfl (Light.quiet (opInt rfl rfl rfl rfl)) ?_
  refine ASL.q (v := (.ptr bp0 0)) rfl rfl (Light.quiet (opMove rfl rfl)) ?_
  refine ASL.q (v := (.int .i64 p1)) rfl rfl (Light.quiet (opMove rfl rfl)) ?_
  refine ASL.q (v := (.int .i64 (W (1 + a12.1)))) rfl rfl (Light.quiet (opMove rfl rfl)) ?_
  refine ASL.q (v := (.ptr bp0 0)) rfl rfl (Light.quiet (opMove rfl rfl)) ?_
  refine ASL.q (v := (.int .i64 (W (1 + a12.1)))) rfl rfl (Light.quiet (opMove rfl rfl)) ?_
  refine ASL.q (v := (.int .i64 (W (2 * ((W (1 + a12.1))))))) rfl rfl (Light.quiet (opInt rfl rfl rfl rfl)) ?_
  refine ASL.q (v := (.int .i64 p1)) rfl rfl (Light.quiet (opMove rfl rfl)) ?_
  refine ASL.q (v := (.int .i64 (W (((W (2 * ((W (1 + a12.1)))))) * p1)))) rfl rfl (Light.quiet (opInt rfl rfl rfl rfl)) ?_
  obtain ⟨a30, ha30, hF⟩ := bindE hF
  refine ASL.x rfl rfl (hCallS hS [0, 1, 2, 3] (F := [.cell b6 [(.int .i64 0), (.int .i64 0), (.int .i64 0), .nil], .row 4 .nil (List.map TEdge.av ([])), .snap S]) rfl rfl rfl call_42 (spec_l1Below_ok ha30) rfl rfl ?_); rintro _ _ G8 ⟨rfl, rfl⟩ hS
  refine ASL.q (v := (.int .i64 (W (1 + a30.1)))) rfl rfl (Light.quiet (opInt rfl rfl rfl rfl)) ?_
  obtain ⟨a32, ha32, hF⟩ := bindE hF
  refine ASL.x rfl rfl (hCallS hS [0, 1, 2, 3] (F := [.cell b6 [(.int .i64 0), (.int .i64 0), (.int .i64 0), .nil], .row 4 .nil (List.map TEdge.av ([])), .snap S]) rfl rfl rfl call_75 (spec_l4DrawEdges_ok ha32) rfl rfl ?_); rintro w9 _ G11 ⟨_, rfl, rfl⟩ hS
  obtain ⟨a33, ha33, hF⟩ := bindE hF
  refine ASL.x rfl rfl (hCallSR hS rfl rfl call_74 (spec_AutoMake_ok ha33) ⟨.same _, .same _, .same _, .row (k := 0) rfl, trivial⟩ (by rintro _ _ G ⟨w12, rfl, rfl⟩ hG; exact ⟨(Scal.tup (ScalC.cons (Scal.agg (ScalC.cons (by constructor) (ScalC.cons (by constructor) (ScalC.cons (by constructor) (ScalC.cons (hG.scR (k := 0) rfl) ScalC.nil))))) (ScalC.cons (by constructor) ScalC.nil))), ⟨(Scal.row (fun _ => by simp only [TEdge.av, cells, List.mem_cons, List.not_mem_nil, or_false]; rintro c hc; rcases hc with rfl | rfl | rfl | rfl <;> constructor)), trivial⟩⟩) ?_); rintro _ _ G14 ⟨w12, rfl, rfl⟩ hK hS
  refine ASL.q (v := (.tup [(.agg [(.int .i64 a33.1.letters), (.int .i64 a33.1.states), (.int .i64 a33.1.start), w12]), (.bool a33.2)])) rfl rfl (Light.quiet (opMove rfl rfl)) ?_
  refine ASL.q (v := (.agg [(.int .i64 a33.1.letters), (.int .i64 a33.1.states), (.int .i64 a33.1.start), w12])) rfl rfl (Light.quiet (opExtract rfl rfl rfl)) ?_
  refine ASL.q (v := (.bool a33.2)) rfl rfl (Light.quiet (opExtract rfl rfl rfl)) ?_
  have hS := hNil (s := 4) (f := TEdge.av) hS
  refine ASL.x rfl rfl (hNewZ hS [(.int .i64 0), (.int .i64 0), (.int .i64 0), .nil] rfl zeroA_33 ⟨.inl rfl, .inl rfl, .inl rfl, .inl rfl, trivial⟩ ?_); rintro b8 G15 hK hS
  refine ASL.n rfl rfl (hPutA hS (j := 0) rfl rfl sizeA_33 rfl rfl rfl rfl (allC rfl (allC rfl (allC rfl (allC (hS.one (k := 2) rfl) rfl)))) (nlt rfl) ?_); rintro G18 hS
  refine ASL.q (v := (.bool a33.2)) rfl rfl (Light.quiet (opAssign rfl rfl)) ?_
  refine ASL.done ?_
  refine AWP.seqR rfl ?_
  refine ASL.q (v := (.agg [(.int .i64 a33.1.letters), (.int .i64 a33.1.states), (.int .i64 a33.1.start), w12])) rfl rfl (Light.quiet (kAtA hS (j := 0) rfl rfl aggA_33 sizeA_33 rfl (nlt rfl) rfl)) ?_
  refine ASL.n rfl rfl (hPutA hS (j := 5) rfl rfl sizeA_33 rfl rfl rfl rfl (allC rfl (allC rfl (allC rfl (allC (hS.one (k := 2) rfl) rfl)))) (nlt rfl) ?_); rintro G19 hS
  refine ASL.done ?_
  refine AWP.ret ?_
  obtain rfl := someE hF
  exact QRet.sole (v := (.agg [(.int .i64 a33.1.letters), (.int .i64 a33.1.states), (.int .i64 a33.1.start), w12])) ⟨resOne.at hS (k := 5) rfl rfl aggA_33 sizeA_33, trivial⟩ ⟨_, ⟨w12, rfl, rfl⟩, hS.pick [2, 4, 7] rfl rfl⟩

set_option maxRecDepth 10000 in
theorem spec_l1PickInt_ok {p0 : Tl1Cur} {p1 : (List Int)} {r : (Int × Tl1Cur)} {bp0 : Nat} (hF : spec_l1PickInt p0 p1 = some r) : HS Try.prog 76 [(.ptr bp0 0), (.list 1 (List.map (AV.int .i64) p1))] [.cell bp0 [(.list 1 (List.map (AV.int .u8) p0.b)), (.int .i64 p0.i), (.int .i64 p0.h)]] fun v L' => v = (.int .i64 r.1) ∧ L' = [.cell bp0 [(.list 1 (List.map (AV.int .u8) r.2.b)), (.int .i64 r.2.i), (.int .i64 r.2.h)]] := by
  intro H S hS
  refine HC.enter Try.func76 rfl Try.ntmps76 (by simp) ?_
  simp only [List.cons_append, List.nil_append] at hS
  unfold spec_l1PickInt at hF
  refine AWP.seqR rfl ?_
  refine ASL.q (v := (.int .i64 0)) rfl rfl (Light.quiet (opAssign rfl rfl)) ?_
  refine ASL.done ?_
  refine AWP.seqR rfl ?_
  refine ASL.q (v := (.list 1 (List.map (AV.int .i64) p1))) rfl rfl (Light.quiet (opMove rfl rfl)) ?_
  refine ASL.q (v := (.ptr bp0 0)) rfl rfl (Light.quiet (opMove rfl rfl)) ?_
  refine ASL.q (v := (.list 1 (List.map (AV.int .i64) p1))) rfl rfl (Light.quiet (opMove rfl rfl)) ?_
  refine ASL.q (v := (.int .i64 (p1.length : Int))) rfl rfl (Light.quiet (opLenMap (f := (AV.int .i64)) rfl rfl rfl lenT_26 rfl)) ?_
  obtain ⟨a9, ha9, hF⟩ := bindE hF
  refine ASL.x rfl rfl (hCallS hS [0, 1] (F := [.snap S]) rfl rfl rfl call_42 (spec_l1Below_ok ha9) rfl rfl ?_); rintro _ _ G2 ⟨rfl, rfl⟩ hS
  obtain ⟨a10, ha10, hF⟩ := bindE hF
  refine ASL.q (v := (.rptr [(.int .i64 a10)])) rfl rfl (Light.quiet (kIx (f := (AV.int .i64)) ha10 rfl rfl rfl elemA_26 sizeA_3 rfl)) ?_
  refine ASL.q (v := (.int .i64 a10)) rfl rfl (Light.quiet (opLoadR rfl aggA_3 rfl rfl)) ?_
  refine ASL.q (v := (.int .i64 a10)) rfl rfl (Light.quiet (opAssign rfl rfl)) ?_
  refine ASL.done ?_
  refine AWP.ret ?_
  obtain rfl := someE hF
  exact QRet.sole (v := (.int .i64 a10)) ⟨rfl, trivial⟩ ⟨_, ⟨rfl, rfl⟩, hS.pick [0, 1] rfl rfl⟩

set_option maxRecDepth 10000 in
theorem spec_l4DrawAuto_ok {p0 : Tl1Cur} {p1 : Int} {r : (TAuto × Tl1Cur)} {bp0 : Nat} (hF : spec_l4DrawAuto p0 p1 = some r) : HS Try.prog 60 [(.ptr bp0 0), (.int .i64 p1)] [.cell bp0 [(.list 1 (List.map (AV.int .u8) p0.b)), (.int .i64 p0.i), (.int .i64 p0.h)]] fun v L' => ∃ o0_Edges : AV, v = (.agg [(.int .i64 r.1.letters), (.int .i64 r.1.states), (.int .i64 r.1.start), o0_Edges]) ∧ L' = [.row 4 o0_Edges (List.map TEdge.av r.1.edges), .cell bp0 [(.list 1 (List.map (AV.int .u8) r.2.b)), (.int .i64 r.2.i), (.int .i64 r.2.h)]] := by
  intro H S hS
  refine HC.enter Try.func60 rfl Try.ntmps60 (by simp) ?_
  simp only [List.cons_append, List.nil_append] at hS
  unfold spec_l4DrawAuto at hF
  refine AWP.seqR rfl ?_
  have hS := hNil (s := 4) (f := TEdge.av) hS
  refine ASL.x rfl rfl (hNewZ hS [(.int .i64 0), (.int .i64 0), (.int .i64 0), .nil] rfl zeroA_33 ⟨.inl rfl, .inl rfl, .inl rfl, .inl rfl, trivial⟩ ?_); rintro b4 G2 hK hS
  refine ASL.done ?_
  refine AWP.seqR rfl ?_
  refine ASL.q (v := (.ptr bp0 0)) rfl rfl (Light.quiet (opMove rfl rfl)) ?_
  refine ASL.q (v := (.ptr bp0 0)) rfl rfl (Light.quiet (opMove rfl rfl)) ?_
  refine ASL.q (v := (.list 1 (List.map (AV.int .i64) [1, 2, 2, 2, 3, 4]))) rfl rfl ((qLit (xs := [(.int .i64 1), (.int .i64 2), (.int .i64 2), (.int .i64 2), (.int .i64 3), (.int .i64 4)]) rfl elemA_26 sizeA_3 zeroA_3 rfl rfl rfl rfl (by simp [cells]) (nlt rfl))) ?_
  obtain ⟨a9, ha9, hF⟩ := bindE hF
  refine ASL.x rfl rfl (hCallS hS [2, 0, 1, 3] (F := [.cell b4 [(.int .i64 0), (.int .i64 0), (.int .i64 0), .nil], .row 4 .nil (List.map TEdge.av ([])), .snap S]) rfl rfl rfl call_76 (spec_l1PickInt_ok ha9) rfl rfl ?_); rintro _ _ G5 ⟨rfl, rfl⟩ hS
  refine ASL.q (v := (.int .i64 p1)) rfl rfl (Light.quiet (opMove rfl rfl)) ?_
  obtain ⟨a11, ha11, hF⟩ := bindE hF
  refine ASL.x rfl rfl (hCallS hS [0, 1, 2, 3] (F := [.cell b4 [(.int .i64 0), (.int .i64 0), (.int .i64 0), .nil], .row 4 .nil (List.map TEdge.av ([])), .snap S]) rfl rfl rfl call_58 (spec_l4DrawRight_ok ha11) rfl rfl ?_); rintro _ _ G8 ⟨w6, rfl, rfl⟩ hS
  have hS := hNil (s := 4) (f := TEdge.av) hS
  refine ASL.x rfl rfl (hNewZ hS [(.int .i64 0), (.int .i64 0), (.int .i64 0), .nil] rfl zeroA_33 ⟨.inl rfl, .inl rfl, .inl rfl, .inl rfl, trivial⟩ ?_); rintro b5 G9 hK hS
  refine ASL.n rfl rfl (hPutA hS (j := 0) rfl rfl sizeA_33 rfl rfl rfl rfl (allC rfl (allC rfl (allC rfl (allC (hS.one (k := 2) rfl) rfl)))) (nlt rfl) ?_); rintro G12 hS
  refine ASL.done ?_
  refine AWP.seqM (fun e H => ∃ y13 : Int, ∃ y14 : Int, ∃ y15 : Int, ∃ y16 : (List TEdge), ∃ y19 : (List Int), ∃ y20 : Int, ∃ y21 : Int, ∃ w17 : AV, E.Told e [(4, (.ptr b4 0)), (5, (.ptr b5 0))] ∧ E.Sep H [.row 4 .nil (List.map TEdge.av ([])), .cell b4 [(.int .i64 0), (.int .i64 0), (.int .i64 0), .nil], .row 4 w17 (List.map TEdge.av y16), .cell b5 [(.int .i64 y13), (.int .i64 y14), (.int .i64 y15), w17], .cell bp0 [(.list 1 (List.map (AV.int .u8) y19)), (.int .i64 y20), (.int .i64 y21)], .snap S] ∧ spec_l4DrawAuto.k0 y13 y14 y15 y16 y19 y20 y21 = some r) ?_ ?_
  · rintro e0 G23 ⟨y13, y14, y15, y16, y19, y20, y21, w17, hT, hS, hF⟩; refine AWP.only _ hT ?_; unfold spec_l4DrawAuto.k0 at hF
    refine AWP.seqR rfl ?_
    refine ASL.q (v := (.agg [(.int .i64 y13), (.int .i64 y14), (.int .i64 y15), w17])) rfl rfl (Light.quiet (kAtA hS (j := 3) rfl rfl aggA_33 sizeA_33 rfl (nlt rfl) rfl)) ?_
    refine ASL.n rfl rfl (hPutA hS (j := 1) rfl rfl sizeA_33 rfl rfl rfl rfl (allC rfl (allC rfl (allC rfl (allC (hS.one (k := 2) rfl) rfl)))) (nlt rfl) ?_); rintro G22 hS
    refine ASL.done ?_
    refine AWP.ret ?_
    obtain rfl := someE hF
    exact QRet.sole (v := (.agg [(.int .i64 y13), (.int .i64 y14), (.int .i64 y15), w17])) ⟨resOne.at hS (k := 1) rfl rfl aggA_33 sizeA_33, trivial⟩ ⟨_, ⟨w17, rfl, rfl⟩, hS.pick [2, 4, 5] rfl rfl⟩
  · skip
    refine AWP.seqR rfl ?_
    refine ASL.q (v := (.ptr bp0 0)) rfl rfl (Light.quiet (opMove rfl rfl)) ?_
    obtain ⟨a13, ha13, hF⟩ := bindE hF
    refine ASL.x rfl rfl (hCallS hS [3, 0, 1, 2, 4, 5, 6] (F := [.cell b5 [(.int .i64 a11.1.letters), (.int .i64 a11.1.states), (.int .i64 a11.1.start), w6], .row 4 .nil (List.map TEdge.av ([])), .row 4 w6 (List.map TEdge.av a11.1.edges), .cell b4 [(.int .i64 0), (.int .i64 0), (.int .i64 0), .nil], .row 4 .nil (List.map TEdge.av ([])), .snap S]) rfl rfl rfl call_42 (spec_l1Below_ok ha13) rfl rfl ?_); rintro _ _ G24 ⟨rfl, rfl⟩ hS
    refine ASL.done ?_
    refine AWP.block ?_
    refine AWP.seqR rfl ?_
    refine ASL.q (v := (.bool (decide (a13.1 = 0)))) rfl rfl (Light.quiet (opInt rfl rfl rfl rfl)) ?_
    refine ASL.q (v := (.bool (decide (a13.1 = 0)))) rfl rfl (Light.quiet (opAssign rfl rfl)) ?_
    refine ASL.done ?_
    refine AWP.ifP hF rfl (fun hc25 hF => ?_) (fun hc25 hF => ?_)
    · skip
      refine AWP.lastR rfl ?_
      refine ASL.q (v := (.ptr bp0 0)) rfl rfl (Light.quiet (opMove rfl rfl)) ?_
      refine ASL.q (v := (.list 1 (List.map (AV.int .i64) [0, 8, 9]))) rfl rfl ((qLit (xs := [(.int .i64 0), (.int .i64 8), (.int .i64 9)]) rfl elemA_26 sizeA_3 zeroA_3 rfl rfl rfl rfl (by simp [cells]) (nlt rfl))) ?_
      obtain ⟨a18, ha18, hF⟩ := bindE hF
      refine ASL.x rfl rfl (hCallS hS [0, 1, 2, 3, 4, 5, 6] (F := [.cell b5 [(.int .i64 a11.1.letters), (.int .i64 a11.1.states), (.int .i64 a11.1.start), w6], .row 4 .nil (List.map TEdge.av ([])), .row 4 w6 (List.map TEdge.av a11.1.edges), .cell b4 [(.int .i64 0), (.int .i64 0), (.int .i64 0), .nil], .row 4 .nil (List.map TEdge.av ([])), .snap S]) rfl rfl rfl call_76 (spec_l1PickInt_ok ha18) rfl rfl ?_); rintro _ _ G26 ⟨rfl, rfl⟩ hS
      refine ASL.q (v := (.ptr b5 0)) rfl rfl (Light.quiet (opFieldAddr rfl fieldA_33_0 rfl rfl)) ?_
      refine ASL.n rfl rfl (hPut hS (j := 1) rfl rfl sizeA_3 rfl rfl rfl (nlt rfl) ?_); rintro G27 hS
      refine ASL.done ?_
      refine QBlock.nrm ?_
      refine QThen.nrm ?_
      exact ⟨a18.1, a11.1.states, a11.1.start, a11.1.edges, a18.2.b, a18.2.i, a18.2.h, w6, ⟨rfl, rfl, trivial⟩, (hS.pick [5, 4, 3, 1, 0, 6] rfl rfl), hF⟩
    · skip
      refine AWP.seqR rfl ?_
      refine ASL.q (v := (.bool (decide (a13.1 = 1)))) rfl rfl (Light.quiet (opInt rfl rfl rfl rfl)) ?_
      refine ASL.q (v := (.bool (decide (a13.1 = 1)))) rfl rfl (Light.quiet (opAssign rfl rfl)) ?_
      refine ASL.done ?_
      refine AWP.ifP hF rfl (fun hc28 hF => ?_) (fun hc28 hF => ?_)
      · skip
        refine AWP.lastR rfl ?_
        refine ASL.q (v := (.ptr bp0 0)) rfl rfl (Light.quiet (opMove rfl rfl)) ?_
        refine ASL.q (v := (.list 1 (List.map (AV.int .i64) [0, (-1), 31, 32]))) rfl rfl ((qLit (xs := [(.int .i64 0), (.int .i64 (-1)), (.int .i64 31), (.int .i64 32)]) rfl elemA_26 sizeA_3 zeroA_3 rfl rfl rfl rfl (by simp [cells]) (nlt rfl))) ?_
        obtain ⟨a24, ha24, hF⟩ := bindE hF
        refine ASL.x rfl rfl (hCallS hS [0, 1, 2, 3, 4, 5, 6] (F := [.cell b5 [(.int .i64 a11.1.letters), (.int .i64 a11.1.states), (.int .i64 a11.1.start), w6], .row 4 .nil (List.map TEdge.av ([])), .row 4 w6 (List.map TEdge.av a11.1.edges), .cell b4 [(.int .i64 0), (.int .i64 0), (.int .i64 0), .nil], .row 4 .nil (List.map TEdge.av ([])), .snap S]) rfl rfl rfl call_76 (spec_l1PickInt_ok ha24) rfl rfl ?_); rintro _ _ G29 ⟨rfl, rfl⟩ hS
        refine ASL.q (v := (.ptr b5 1)) rfl rfl (Light.quiet (opFieldAddr rfl fieldA_33_1 rfl rfl)) ?_
        refine ASL.n rfl rfl (hPut hS (j := 1) rfl rfl sizeA_3 rfl rfl rfl (nlt rfl) ?_); rintro G30 hS
        refine ASL.done ?_
        refine QBlock.nrm ?_
        refine QThen.nrm ?_
        exact ⟨a11.1.letters, a24.1, a11.1.start, a11.1.edges, a24.2.b, a24.2.i, a24.2.h, w6, ⟨rfl, rfl, trivial⟩, (hS.pick [5, 4, 3, 1, 0, 6] rfl rfl), hF⟩
      · skip
        refine AWP.seqR rfl ?_
        refine ASL.q (v := (.bool (decide (a13.1 = 2)))) rfl rfl (Light.quiet (opInt rfl rfl rfl rfl)) ?_
        refine ASL.q (v := (.bool (decide (a13.1 = 2)))) rfl rfl (Light.quiet (opAssign rfl rfl)) ?_
        refine ASL.done ?_
        refine AWP.ifP hF rfl (fun hc31 hF => ?_) (fun hc31 hF => ?_)
        · skip
          refine AWP.lastR rfl ?_
          refine ASL.q (v := (.ptr bp0 0)) rfl rfl (Light.quiet (opMove rfl rfl)) ?_
          refine ASL.q (v := (.list 1 (List.map (AV.int .i64) [(-1), 0, 1048576]))) rfl rfl ((qLit (xs := [(.int .i64 (-1)), (.int .i64 0), (.int .i64 1048576)]) rfl elemA_26 sizeA_3 zeroA_3 rfl rfl rfl rfl (by simp [cells]) (nlt rfl))) ?_
          obtain ⟨a30, ha30, hF⟩ := bindE hF
          refine ASL.x rfl rfl (hCallS hS [0, 1, 2, 3, 4, 5, 6] (F := [.cell b5 [(.int .i64 a11.1.letters), (.int .i64 a11.1.states), (.int .i64 a11.1.start), w6], .row 4 .nil (List.map TEdge.av ([])), .row 4 w6 (List.map TEdge.av a11.1.edges), .cell b4 [(.int .i64 0), (.int .i64 0), (.int .i64 0), .nil], .row 4 .nil (List.map TEdge.av ([])), .snap S]) rfl rfl rfl call_76 (spec_l1PickInt_ok ha30) rfl rfl ?_); rintro _ _ G32 ⟨rfl, rfl⟩ hS
          refine ASL.q (v := (.ptr b5 2)) rfl rfl (Light.quiet (opFieldAddr rfl fieldA_33_2 rfl rfl)) ?_
          refine ASL.n rfl rfl (hPut hS (j := 1) rfl rfl sizeA_3 rfl rfl rfl (nlt rfl) ?_); rintro G33 hS
          refine ASL.done ?_
          refine QBlock.nrm ?_
          refine QThen.nrm ?_
          exact ⟨a11.1.letters, a11.1.states, a30.1, a11.1.edges, a30.2.b, a30.2.i, a30.2.h, w6, ⟨rfl, rfl, trivial⟩, (hS.pick [5, 4, 3, 1, 0, 6] rfl rfl), hF⟩
        · skip
          refine AWP.seqR rfl ?_
          refine ASL.q (v := (.bool (decide (a13.1 = 3)))) rfl rfl (Light.quiet (opInt rfl rfl rfl rfl)) ?_
          refine ASL.q (v := (.bool (decide (a13.1 = 3)))) rfl rfl (Light.quiet (opAssign rfl rfl)) ?_
          refine ASL.done ?_
          refine AWP.ifP hF rfl (fun hc34 hF => ?_) (fun hc34 hF => ?_)
          · skip
            refine AWP.lastR rfl ?_
            refine ASL.q (v := (.ptr b5 3)) rfl rfl (Light.quiet (opFieldAddr rfl fieldA_33_3 rfl rfl)) ?_
            refine ASL.q (v := w6) rfl rfl (Light.quiet (kAt hS (j := 1) rfl rfl aggA_31 rfl rfl)) ?_
            refine ASL.q (v := (.agg [(.int .i64 0), (.int .i64 0), (.int .i64 0), (.bool false)])) rfl rfl (Light.quiet (opBuildZ (zs := [(.int .i64 0), (.int .i64 0), (.int .i64 0), (.bool false)]) rfl plan_73 zeroA_73 ⟨.inl rfl, .inl rfl, .inl rfl, .inl rfl, trivial⟩ rfl)) ?_
            refine ASL.q (v := (.list 4 (List.map TEdge.av [(TEdge.mk 0 0 0 false)]))) rfl rfl ((qLit (xs := [(.agg [(.int .i64 0), (.int .i64 0), (.int .i64 0), (.bool false)])]) rfl elemA_31 sizeA_73 zeroA_73 rfl rfl rfl rfl (by simp [cells, TEdge.av]) (nlt rfl))) ?_
            obtain ⟨z38, hz38, hF⟩ := bindE hF
            refine ASL.x rfl rfl (hApp (f := TEdge.av) (ws := [(TEdge.mk 0 0 0 false)]) hS (j := 3) rfl hz38 rfl elemA_31 rfl sizeA_73 bytesA_73 zeroA_73 rfl rfl rfl (fun _ => rfl) ?_); rintro v38 G35 hS
            refine ASL.q (v := (.ptr b5 3)) rfl rfl (Light.quiet (opFieldAddr rfl fieldA_33_3 rfl rfl)) ?_
            refine ASL.n rfl rfl (hPut hS (j := 1) rfl rfl sizeA_31 rfl rfl (hS.one (k := 3) rfl) (nlt rfl) ?_); rintro G37 hS
            refine ASL.done ?_
            refine QBlock.nrm ?_
            refine QThen.nrm ?_
            exact ⟨a11.1.letters, a11.1.states, a11.1.start, z38, a13.2.b, a13.2.i, a13.2.h, v38, ⟨rfl, rfl, trivial⟩, (hS.pick [5, 4, 3, 1, 0, 6] rfl rfl), hF⟩
          · skip
            refine AWP.seqR rfl ?_
            refine ASL.q (v := (.bool (decide (a13.1 = 4)))) rfl rfl (Light.quiet (opInt rfl rfl rfl rfl)) ?_
            refine ASL.q (v := (.bool (decide (a13.1 = 4)))) rfl rfl (Light.quiet (opAssign rfl rfl)) ?_
            refine ASL.done ?_
            refine AWP.ifP hF rfl (fun hc38 hF => ?_) (fun hc38 hF => ?_)
            · skip
              refine AWP.lastR rfl ?_
              refine ASL.q (v := (.ptr b5 3)) rfl rfl (Light.quiet (opFieldAddr rfl fieldA_33_3 rfl rfl)) ?_
              refine ASL.q (v := w6) rfl rfl (Light.quiet (kAt hS (j := 1) rfl rfl aggA_31 rfl rfl)) ?_
              refine ASL.q (v := (.ptr b5 1)) rfl rfl (Light.quiet (opFieldAddr rfl fieldA_33_1 rfl rfl)) ?_
              refine ASL.q (v := (.int .i64 a11.1.states)) rfl rfl (Light.quiet (kAt hS (j := 1) rfl rfl aggA_3 rfl rfl)) ?_
              refine ASL.q (v := (.agg [(.int .i64 a11.1.states), (.int .i64 0), (.int .i64 0), (.bool false)])) rfl rfl (Light.quiet (opBuildZ (zs := [(.int .i64 0), (.int .i64 0), (.int .i64 0), (.bool false)]) rfl plan_73 zeroA_73 ⟨.inl rfl, .inl rfl, .inl rfl, .inl rfl, trivial⟩ rfl)) ?_
              refine ASL.q (v := (.list 4 (List.map TEdge.av [(TEdge.mk a11.1.states 0 0 false)]))) rfl rfl ((qLit (xs := [(.agg [(.int .i64 a11.1.states), (.int .i64 0), (.int .i64 0), (.bool false)])]) rfl elemA_31 sizeA_73 zeroA_73 rfl rfl rfl rfl (by simp [cells, TEdge.av]) (nlt rfl))) ?_
              obtain ⟨z48, hz48, hF⟩ := bindE hF
              refine ASL.x rfl rfl (hApp (f := TEdge.av) (ws := [(TEdge.mk a11.1.states 0 0 false)]) hS (j := 3) rfl hz48 rfl elemA_31 rfl sizeA_73 bytesA_73 zeroA_73 rfl rfl rfl (fun _ => rfl) ?_); rintro v48 G39 hS
              refine ASL.q (v := (.ptr b5 3)) rfl rfl (Light.quiet (opFieldAddr rfl fieldA_33_3 rfl rfl)) ?_
              refine ASL.n rfl rfl (hPut hS (j := 1) rfl rfl sizeA_31 rfl rfl (hS.one (k := 3) rfl) (nlt rfl) ?_); rintro G41 hS
              refine ASL.done ?_
              refine QBlock.nrm ?_
              refine QThen.nrm ?_
              exact ⟨a11.1.letters, a11.1.states, a11.1.start, z48, a13.2.b, a13.2.i, a13.2.h, v48, ⟨rfl, rfl, trivial⟩, (hS.pick [5, 4, 3, 1, 0, 6] rfl rfl), hF⟩
            · skip
              refine AWP.skip ?_
              refine QBlock.nrm ?_
              refine QThen.nrm ?_
              exact ⟨a11.1.letters, a11.1.states, a11.1.start, a11.1.edges, a13.2.b, a13.2.i, a13.2.h, w6, ⟨rfl, rfl, trivial⟩, (hS.pick [5, 4, 3, 1, 0, 6] rfl rfl), hF⟩

set_option maxRecDepth 10000 in
theorem spec_l13DrawAuto_ok {p0 : Tl1Cur} {r : (TAuto × Tl1Cur)} {bp0 : Nat} (hF : spec_l13DrawAuto p0 = some r) : HS Try.prog 40 [(.ptr bp0 0)] [.cell bp0 [(.list 1 (List.map (AV.int .u8) p0.b)), (.int .i64 p0.i), (.int .i64 p0.h)]] fun v L' => v = (TAuto.av r.1) ∧ L' = [.cell bp0 [(.list 1 (List.map (AV.int .u8) r.2.b)), (.int .i64 r.2.i), (.int .i64 r.2.h)]] := by
  intro H S hS
  refine HC.enter Try.func40 rfl Try.ntmps40 (by simp) ?_
  simp only [List.cons_append, List.nil_append] at hS
  unfold spec_l13DrawAuto at hF
  refine AWP.seqR rfl ?_
  refine ASL.x rfl rfl (hNewZ hS [(.int .i64 0), (.int .i64 0), (.int .i64 0), (.list 4 (List.map TEdge.av []))] rfl zeroA_33 ⟨.inl rfl, .inl rfl, .inl rfl, .inr ⟨_, rfl, rfl⟩, trivial⟩ ?_); rintro b2 G2 hK hS
  refine ASL.done ?_
  refine AWP.seqR rfl ?_
  refine ASL.q (v := (.ptr bp0 0)) rfl rfl (Light.quiet (opMove rfl rfl)) ?_
  obtain ⟨a5, ha5, hF⟩ := bindE hF
  refine ASL.x rfl rfl (hCallS hS [1, 0, 2] (F := [.cell b2 [(.int .i64 0), (.int .i64 0), (.int .i64 0), (.list 4 (List.map TEdge.av []))], .snap S]) rfl rfl rfl call_58 (spec_l4DrawRight_ok ha5) rfl rfl ?_); rintro _ _ G6 ⟨w4, rfl, rfl⟩ hS
  refine ASL.x rfl rfl (hNewZ hS [(.int .i64 0), (.int .i64 0), (.int .i64 0), (.list 4 (List.map TEdge.av []))] rfl zeroA_33 ⟨.inl rfl, .inl rfl, .inl rfl, .inr ⟨_, rfl, rfl⟩, trivial⟩ ?_); rintro b3 G7 hK hS
  refine ASL.n rfl rfl (hPutA hS (j := 0) rfl rfl sizeA_33 rfl rfl rfl rfl (allC rfl (allC rfl (allC rfl (allC (hS.one (k := 1) rfl) rfl)))) (nlt rfl) ?_); rintro G9 hS
  refine ASL.done ?_
  refine AWP.seq ?_
  refine AWP.seqR rfl ?_
  refine ASL.q (v := (.ptr bp0 0)) rfl rfl (Light.quiet (opMove rfl rfl)) ?_
  obtain ⟨a7, ha7, hF⟩ := bindE hF
  refine ASL.x rfl rfl (hCallS hS [2, 0, 1, 3, 4] (F := [.cell b3 [(.int .i64 a5.1.letters), (.int .i64 a5.1.states), (.int .i64 a5.1.start), w4], .row 4 w4 (List.map TEdge.av a5.1.edges), .cell b2 [(.int .i64 0), (.int .i64 0), (.int .i64 0), (.list 4 (List.map TEdge.av []))], .snap S]) rfl rfl rfl call_59 (spec_l1Once_ok ha7) rfl rfl ?_); rintro _ _ G10 ⟨rfl, rfl⟩ hS
  refine ASL.done ?_
  refine AWP.ifB hF rfl (fun hc11 hF => ?_) (fun hc11 hF => ?_)
  · skip
    refine AWP.lastR rfl ?_
    refine ASL.q (v := (.ptr bp0 0)) rfl rfl (Light.quiet (opMove rfl rfl)) ?_
    obtain ⟨a9, ha9, hF⟩ := bindE hF
    refine ASL.x rfl rfl (hCallS hS [0, 1, 2, 3, 4] (F := [.cell b3 [(.int .i64 a5.1.letters), (.int .i64 a5.1.states), (.int .i64 a5.1.start), w4], .row 4 w4 (List.map TEdge.av a5.1.edges), .cell b2 [(.int .i64 0), (.int .i64 0), (.int .i64 0), (.list 4 (List.map TEdge.av []))], .snap S]) rfl rfl rfl call_60 (spec_l4DrawAuto_ok ha9) rfl rfl ?_); rintro _ _ G14 ⟨w12, rfl, rfl⟩ hS
    refine ASL.n rfl rfl (hPutA hS (j := 2) rfl rfl sizeA_33 rfl rfl rfl rfl (allC rfl (allC rfl (allC rfl (allC (hS.one (k := 0) rfl) rfl)))) (nlt rfl) ?_); rintro G15 hS
    refine ASL.done ?_
    refine QThen.nrm ?_
    refine AWP.seqR rfl ?_
    refine ASL.q (v := (.agg [(.int .i64 a9.1.letters), (.int .i64 a9.1.states), (.int .i64 a9.1.start), w12])) rfl rfl (Light.quiet (kAtA hS (j := 2) rfl rfl aggA_33 sizeA_33 rfl (nlt rfl) rfl)) ?_
    refine ASL.n rfl rfl (hPutA hS (j := 4) rfl rfl sizeA_33 rfl rfl rfl rfl (allC rfl (allC rfl (allC rfl (allC (hS.one (k := 0) rfl) rfl)))) (nlt rfl) ?_); rintro G16 hS
    refine ASL.done ?_
    refine AWP.frz (L' := [.cell bp0 [(.list 1 (List.map (AV.int .u8) a9.2.b)), (.int .i64 a9.2.i), (.int .i64 a9.2.h)], .cell b3 [(.int .i64 a9.1.letters), (.int .i64 a9.1.states), (.int .i64 a9.1.start), (.list 4 (List.map TEdge.av a9.1.edges))], .row 4 w4 (List.map TEdge.av a5.1.edges), .cell b2 [(.int .i64 a9.1.letters), (.int .i64 a9.1.states), (.int .i64 a9.1.start), (.list 4 (List.map TEdge.av a9.1.edges))], .snap S]) hS (k := 0) rfl [(2, (.ptr b2 0))] ⟨.inl rfl, trivial⟩ ⟨⟨_, rfl, ⟨.inl rfl, .inl rfl, .inl rfl, trivial⟩⟩, ⟨_, rfl, ⟨.inl rfl, .inl rfl, .inl rfl, .inr ⟨rfl, rfl⟩, trivial⟩⟩, rfl, ⟨_, rfl, ⟨.inl rfl, .inl rfl, .inl rfl, .inr ⟨rfl, rfl⟩, trivial⟩⟩, rfl, trivial⟩ (fun G17 hS => ?_)
    refine AWP.ret ?_
    obtain rfl := someE hF
    exact QRet.sole (v := (TAuto.av a9.1)) ⟨resOne.at hS (k := 3) rfl rfl aggA_33 sizeA_33, trivial⟩ ⟨_, ⟨rfl, rfl⟩, hS.pick [0, 4] rfl rfl⟩
  · skip
    refine AWP.skip ?_
    refine QThen.nrm ?_
    refine AWP.seqR rfl ?_
    refine ASL.q (v := (.agg [(.int .i64 a5.1.letters), (.int .i64 a5.1.states), (.int .i64 a5.1.start), w4])) rfl rfl (Light.quiet (kAtA hS (j := 1) rfl rfl aggA_33 sizeA_33 rfl (nlt rfl) rfl)) ?_
    refine ASL.n rfl rfl (hPutA hS (j := 3) rfl rfl sizeA_33 rfl rfl rfl rfl (allC rfl (allC rfl (allC rfl (allC (hS.one (k := 2) rfl) rfl)))) (nlt rfl) ?_); rintro G18 hS
    refine ASL.done ?_
    refine AWP.frz (L' := [.cell bp0 [(.list 1 (List.map (AV.int .u8) a7.2.b)), (.int .i64 a7.2.i), (.int .i64 a7.2.h)], .cell b3 [(.int .i64 a5.1.letters), (.int .i64 a5.1.states), (.int .i64 a5.1.start), (.list 4 (List.map TEdge.av a5.1.edges))], .cell b2 [(.int .i64 a5.1.letters), (.int .i64 a5.1.states), (.int .i64 a5.1.start), (.list 4 (List.map TEdge.av a5.1.edges))], .snap S]) hS (k := 2) rfl [(2, (.ptr b2 0))] ⟨.inl rfl, trivial⟩ ⟨⟨_, rfl, ⟨.inl rfl, .inl rfl, .inl rfl, trivial⟩⟩, ⟨_, rfl, ⟨.inl rfl, .inl rfl, .inl rfl, .inr ⟨rfl, rfl⟩, trivial⟩⟩, ⟨_, rfl, ⟨.inl rfl, .inl rfl, .inl rfl, .inr ⟨rfl, rfl⟩, trivial⟩⟩, rfl, trivial⟩ (fun G19 hS => ?_)
    refine AWP.ret ?_
    obtain rfl := someE hF
    exact QRet.sole (v := (TAuto.av a5.1)) ⟨resOne.at hS (k := 2) rfl rfl aggA_33 sizeA_33, trivial⟩ ⟨_, ⟨rfl, rfl⟩, hS.pick [0, 3] rfl rfl⟩

set_option maxRecDepth 10000 in
theorem spec_l13States_ok {p0 : TAuto} {r : Bool} (hF : spec_l13States p0 = some r) : PC Try.prog 29 [(TAuto.av p0)] fun v => v = (.bool r) := by
  refine PC.enter Try.func29 rfl Try.ntmps29 (by simp) ?_
  have hS := Sep.void; unfold spec_l13States at hF
  refine AWP.seqR rfl ?_
  refine ASL.q (v := (.rptr [(.int .i64 p0.letters), (.int .i64 p0.states), (.int .i64 p0.start), (.list 4 (List.map TEdge.av p0.edges))])) rfl rfl ((qBoxI (v := (TAuto.av p0)) rfl rfl rfl rfl)) ?_
  refine ASL.q (v := (.bool false)) rfl rfl (Light.quiet (opAssign rfl rfl)) ?_
  refine ASL.done ?_
  refine AWP.seqR rfl ?_
  refine ASL.q (v := (TAuto.av p0)) rfl rfl (Light.quiet (opLoadRA rfl aggA_33 sizeA_33 rfl (nlt rfl) rfl)) ?_
  obtain ⟨a4, ha4, hF⟩ := bindE hF
  refine ASL.q (v := (.bool a4)) rfl rfl ((qCall rfl rfl call_51 (spec_AutoOk_ok ha4) rfl)) ?_
  refine ASL.q (v := (.bool a4)) rfl rfl (Light.quiet (opMove rfl rfl)) ?_
  refine ASL.g (v := (.rptr [(.int .i64 p0.states), (.int .i64 p0.start), (.list 4 (List.map TEdge.av p0.edges))])) (.bool a4) true rfl (wT _) rfl (fun hG => by have q0 := hG; subst q0; exact Light.quiet (opFieldAddrR rfl fieldA_33_1 rfl rfl)) ?_
  refine ASL.g (v := (.int .i64 p0.states)) (.bool a4) true rfl (wT _) rfl (fun hG => by have q0 := hG; subst q0; exact Light.quiet (opLoadR rfl aggA_3 rfl rfl)) ?_
  refine ASL.g (v := (.bool (decide (p0.states ≤ 2)))) (.bool a4) true rfl (wT _) rfl (fun hG => by have q0 := hG; subst q0; exact Light.quiet (opInt rfl rfl rfl rfl)) ?_
  refine ASL.q (v := (.bool (a4 && (decide (p0.states ≤ 2))))) rfl rfl (Light.quiet (opPick (b := a4) rfl rfl (by cases a4 <;> rfl))) ?_
  refine ASL.q (v := (.bool (a4 && (decide (p0.states ≤ 2))))) rfl rfl (Light.quiet (opAssign rfl rfl)) ?_
  refine ASL.done ?_
  refine AWP.ret ?_
  obtain rfl := someE hF
  exact QRet.sole (v := (.bool (a4 && (decide (p0.states ≤ 2))))) ⟨rfl, trivial⟩ rfl

set_option maxRecDepth 10000 in
theorem spec_l1Bit_ok {p0 : Int} {r : Int} (hF : spec_l1Bit p0 = some r) : PC Try.prog 54 [(.int .i64 p0)] fun v => v = (.int .i64 r) := by
  refine PC.enter Try.func54 rfl Try.ntmps54 (by simp) ?_
  have hS := Sep.void; unfold spec_l1Bit at hF
  refine AWP.seqR rfl ?_
  refine ASL.q (v := (.int .i64 0)) rfl rfl (Light.quiet (opAssign rfl rfl)) ?_
  refine ASL.done ?_
  refine AWP.seqR rfl ?_
  refine ASL.q (v := (.int .i64 p0)) rfl rfl (Light.quiet (opMove rfl rfl)) ?_
  refine ASL.q (v := (.int .i64 (bAnd .i64 p0 31))) rfl rfl (Light.quiet (opInt rfl rfl rfl rfl)) ?_
  obtain ⟨u1, hu1, hF⟩ := bindE hF
  refine ASL.q (v := (.int .i64 (shl .i64 1 ((bAnd .i64 p0 31))))) rfl rfl (Light.quiet (opShl rfl rfl rfl (of_decide_eq_true (chkE hu1)) rfl)) ?_
  refine ASL.q (v := (.int .i64 (shl .i64 1 ((bAnd .i64 p0 31))))) rfl rfl (Light.quiet (opAssign rfl rfl)) ?_
  refine ASL.done ?_
  refine AWP.ret ?_
  obtain rfl := someE hF
  exact QRet.sole (v := (.int .i64 (shl .i64 1 ((bAnd .i64 p0 31))))) ⟨rfl, trivial⟩ rfl

set_option maxRecDepth 10000 in
theorem spec_l1Has_ok {p0 : Int} {p1 : Int} {r : Bool} (hF : spec_l1Has p0 p1 = some r) : PC Try.prog 30 [(.int .i64 p0), (.int .i64 p1)] fun v => v = (.bool r) := by
  refine PC.enter Try.func30 rfl Try.ntmps30 (by simp) ?_
  have hS := Sep.void; unfold spec_l1Has at hF
  refine AWP.seqR rfl ?_
  refine ASL.q (v := (.bool false)) rfl rfl (Light.quiet (opAssign rfl rfl)) ?_
  refine ASL.done ?_
  refine AWP.seqR rfl ?_
  refine ASL.q (v := (.int .i64 p1)) rfl rfl (Light.quiet (opMove rfl rfl)) ?_
  refine ASL.q (v := (.bool (spec_l1In p1 0 30))) rfl rfl ((qCall rfl rfl call_45 (spec_l1In_ok p1 0 30) rfl)) ?_
  obtain ⟨c7, hc7, hF⟩ := bndE hF
  refine ASL.q (v := (.bool c7)) rfl rfl ((Quiet.cast (Light.quiet (opMove rfl rfl)) (congrArg AV.bool hc7.symm))) ?_
  refine ASL.g (v := (.int .i64 p0)) (.bool c7) true rfl (wT _) rfl (fun hG => by have q0 := hG; subst q0; exact Light.quiet (opMove rfl rfl)) ?_
  refine ASL.g (v := (.int .i64 p1)) (.bool c7) true rfl (wT _) rfl (fun hG => by have q0 := hG; subst q0; exact Light.quiet (opMove rfl rfl)) ?_
  obtain ⟨a10, ha10, hF⟩ := bindE hF
  refine ASL.g (v := (.int .i64 a10)) (.bool c7) true rfl (wT _) rfl (fun hG => by have q0 := hG; subst q0; exact (qCall rfl rfl call_54 (spec_l1Bit_ok (whenE ha10)) rfl)) ?_
  refine ASL.g (v := (.int .i64 (bAnd .i64 p0 a10))) (.bool c7) true rfl (wT _) rfl (fun hG => by have q0 := hG; subst q0; exact Light.quiet (opInt rfl rfl rfl rfl)) ?_
  refine ASL.g (v := (.bool (decide (((bAnd .i64 p0 a10)) ≠ 0)))) (.bool c7) true rfl (wT _) rfl (fun hG => by have q0 := hG; subst q0; exact Light.quiet (opInt rfl rfl rfl rfl)) ?_
  refine ASL.q (v := (.bool (c7 && (decide (((bAnd .i64 p0 a10)) ≠ 0))))) rfl rfl (Light.quiet (opPick (b := c7) rfl rfl (by cases c7 <;> rfl))) ?_
  refine ASL.q (v := (.bool (c7 && (decide (((bAnd .i64 p0 a10)) ≠ 0))))) rfl rfl (Light.quiet (opAssign rfl rfl)) ?_
  refine ASL.done ?_
  refine AWP.ret ?_
  obtain rfl := someE hF
  exact QRet.sole (v := (.bool (c7 && (decide (((bAnd .i64 p0 a10)) ≠ 0))))) ⟨rfl, trivial⟩ rfl

set_option maxRecDepth 10000 in
theorem spec_RankStart_ok {p0 : TAuto} {r : (TRankState × Bool)} (hF : spec_RankStart p0 = some r) : HS Try.prog 7 [(TAuto.av p0)] [] fun v L' => ∃ o0_Ranks : AV, v = .tup [(.agg [o0_Ranks, (.int .i64 r.1.owing)]), (.bool r.2)] ∧ L' = [.row 1 o0_Ranks (List.map (AV.int .i64) r.1.ranks)] := by
  intro H S hS
  refine HC.enter Try.func7 rfl Try.ntmps7 (by simp) ?_
  simp only [List.cons_append, List.nil_append] at hS
  unfold spec_RankStart at hF
  refine AWP.seqR rfl ?_
  refine ASL.q (v := (.rptr [(.int .i64 p0.letters), (.int .i64 p0.states), (.int .i64 p0.start), (.list 4 (List.map TEdge.av p0.edges))])) rfl rfl ((qBoxI (v := (TAuto.av p0)) rfl rfl rfl rfl)) ?_
  have hS := hNil (s := 1) (f := (AV.int .i64)) hS
  refine ASL.x rfl rfl (hNewZ hS [.nil, (.int .i64 0)] rfl zeroA_28 ⟨.inl rfl, .inl rfl, trivial⟩ ?_); rintro b2 G1 hK hS
  refine ASL.q (v := (.bool false)) rfl rfl (Light.quiet (opAssign rfl rfl)) ?_
  refine ASL.done ?_
  refine AWP.seq ?_
  refine AWP.seqR rfl ?_
  refine ASL.q (v := (TAuto.av p0)) rfl rfl (Light.quiet (opLoadRA rfl aggA_33 sizeA_33 rfl (nlt rfl) rfl)) ?_
  obtain ⟨a8, ha8, hF⟩ := bindE hF
  refine ASL.q (v := (.bool a8)) rfl rfl ((qCall rfl rfl call_29 (spec_l13States_ok ha8) rfl)) ?_
  refine ASL.q (v := (.bool (!a8))) rfl rfl (Light.quiet (opNot rfl rfl)) ?_
  refine ASL.done ?_
  refine AWP.ifB hF rfl (fun hc4 hF => ?_) (fun hc4 hF => ?_)
  · skip
    refine AWP.seqR rfl ?_
    refine ASL.q (v := (.agg [.nil, (.int .i64 0)])) rfl rfl (Light.quiet (opBuildZ (zs := [.nil, (.int .i64 0)]) rfl plan_28 zeroA_28 ⟨.inl rfl, .inl rfl, trivial⟩ rfl)) ?_
    have hS := hNil (s := 1) (f := (AV.int .i64)) hS
    refine ASL.n rfl rfl (hPutA hS (j := 1) rfl rfl sizeA_28 rfl rfl rfl rfl (allC (hS.one (k := 0) rfl) (allC rfl rfl)) (nlt rfl) ?_); rintro G5 hS
    refine ASL.q (v := (.bool false)) rfl rfl (Light.quiet (opAssign rfl rfl)) ?_
    refine ASL.done ?_
    refine AWP.ret ?_
    refine QThen.rt ?_
    obtain rfl := someE hF
    exact QRet.many (vs := [(.agg [.nil, (.int .i64 0)]), (.bool false)]) ⟨resOne.at hS (k := 1) rfl rfl aggA_28 sizeA_28, rfl, trivial⟩ (by simp) ⟨_, ⟨.nil, rfl, rfl⟩, hS.pick [0, 3] rfl rfl⟩
  · skip
    refine AWP.skip ?_
    refine QThen.nrm ?_
    refine AWP.seqR rfl ?_
    refine ASL.q (v := (.agg [.nil, (.int .i64 0)])) rfl rfl (Light.quiet (opBuildZ (zs := [.nil, (.int .i64 0)]) rfl plan_28 zeroA_28 ⟨.inl rfl, .inl rfl, trivial⟩ rfl)) ?_
    have hS := hNil (s := 1) (f := (AV.int .i64)) hS
    refine ASL.x rfl rfl (hNewZ hS [.nil, (.int .i64 0)] rfl zeroA_28 ⟨.inl rfl, .inl rfl, trivial⟩ ?_); rintro b4 G7 hK hS
    have hS := hNil (s := 1) (f := (AV.int .i64)) hS
    refine ASL.n rfl rfl (hPutA hS (j := 1) rfl rfl sizeA_28 rfl rfl rfl rfl (allC (hS.one (k := 0) rfl) (allC rfl rfl)) (nlt rfl) ?_); rintro G10 hS
    refine ASL.done ?_
    refine AWP.seqM (fun e H => ∃ y12 : (List Int), ∃ y15 : Int, ∃ w13 : AV, E.Told e [(2, (.ptr b2 0)), (4, (.ptr b4 0))] ∧ E.Sep H [.row 1 .nil (List.map (AV.int .i64) ([])), .cell b2 [.nil, (.int .i64 0)], .row 1 w13 (List.map (AV.int .i64) y12), .cell b4 [w13, (.int .i64 y15)], .snap S] ∧ spec_RankStart.k0 y12 y15 = some r) ?_ ?_
    · rintro e0 G17 ⟨y12, y15, w13, hT, hS, hF⟩; refine AWP.only _ hT ?_; unfold spec_RankStart.k0 at hF
      refine AWP.seqR rfl ?_
      refine ASL.q (v := (.agg [w13, (.int .i64 y15)])) rfl rfl (Light.quiet (kAtA hS (j := 3) rfl rfl aggA_28 sizeA_28 rfl (nlt rfl) rfl)) ?_
      refine ASL.n rfl rfl (hPutA hS (j := 1) rfl rfl sizeA_28 rfl rfl rfl rfl (allC (hS.one (k := 2) rfl) (allC rfl rfl)) (nlt rfl) ?_); rintro G16 hS
      refine ASL.q (v := (.bool true)) rfl rfl (Light.quiet (opAssign rfl rfl)) ?_
      refine ASL.done ?_
      refine AWP.ret ?_
      obtain rfl := someE hF
      exact QRet.many (vs := [(.agg [w13, (.int .i64 y15)]), (.bool true)]) ⟨resOne.at hS (k := 1) rfl rfl aggA_28 sizeA_28, rfl, trivial⟩ (by simp) ⟨_, ⟨w13, rfl, rfl⟩, hS.pick [2, 4] rfl rfl⟩
    · skip
      refine AWP.seqR rfl ?_
      refine ASL.q (v := (.int .i64 0)) rfl rfl (Light.quiet (opAssign rfl rfl)) ?_
      refine ASL.done ?_
      refine AWP.block ?_
      obtain ⟨o25, hL24, hR26⟩ := bindE hF
      refine AWP.loopF (ω := AV) hL24 (fun s w => [(1, (.rptr [(.int .i64 p0.letters), (.int .i64 p0.states), (.int .i64 p0.start), (.list 4 (List.map TEdge.av p0.edges))])), (2, (.ptr b2 0)), (4, (.ptr b4 0)), (5, (.int .i64 s.2.2))]) (fun s w => [.row 1 .nil (List.map (AV.int .i64) ([])), .cell b2 [.nil, (.int .i64 0)], .row 1 w (List.map (AV.int .i64) s.1), .cell b4 [w, (.int .i64 s.2.1)], .snap S]) .nil ⟨rfl, rfl, rfl, rfl, trivial⟩ (hS.pick [4, 3, 0, 1, 5] rfl rfl) ?_
      rintro ⟨y18, y21, x5_l0⟩ w19 G27 hS x22 hF hx23
      try dsimp only at hS ⊢
      have hF : spec_RankStart.b0 p0 y18 y21 x5_l0 = some x22 := hF; unfold spec_RankStart.b0 at hF
      refine AWP.seq ?_
      refine AWP.seqR rfl ?_
      refine ASL.q (v := (.int .i64 x5_l0)) rfl rfl (Light.quiet (opMove rfl rfl)) ?_
      refine ASL.q (v := (.rptr [(.int .i64 p0.states), (.int .i64 p0.start), (.list 4 (List.map TEdge.av p0.edges))])) rfl rfl (Light.quiet (opFieldAddrR rfl fieldA_33_1 rfl rfl)) ?_
      refine ASL.q (v := (.int .i64 p0.states)) rfl rfl (Light.quiet (opLoadR rfl aggA_3 rfl rfl)) ?_
      refine ASL.q (v := (.bool (decide (x5_l0 < p0.states)))) rfl rfl (Light.quiet (opInt rfl rfl rfl rfl)) ?_
      refine ASL.done ?_
      refine AWP.ifP hF rfl (fun hc28 hF => ?_) (fun hc28 hF => ?_)
      · skip
        refine AWP.skip ?_
        refine QThen.nrm ?_
        refine AWP.seq ?_
        refine AWP.block ?_
        refine AWP.seqR rfl ?_
        refine ASL.q (v := (.int .i64 (-1))) rfl rfl (Light.quiet (opAssign rfl rfl)) ?_
        refine ASL.done ?_
        refine AWP.seqM (fun e H => ∃ x6_2 : Int, E.Told e [(1, (.rptr [(.int .i64 p0.letters), (.int .i64 p0.states), (.int .i64 p0.start), (.list 4 (List.map TEdge.av p0.edges))])), (2, (.ptr b2 0)), (4, (.ptr b4 0)), (5, (.int .i64 x5_l0)), (6, (.int .i64 x6_2))] ∧ E.Sep H [.row 1 .nil (List.map (AV.int .i64) ([])), .cell b2 [.nil, (.int .i64 0)], .row 1 w19 (List.map (AV.int .i64) y18), .cell b4 [w19, (.int .i64 y21)], .snap S] ∧ spec_RankStart.k1 y18 y21 x5_l0 x6_2 = some x22) ?_ ?_
        · rintro e0 G32 ⟨x6_2, hT, hS, hF⟩; refine AWP.only _ hT ?_; unfold spec_RankStart.k1 at hF
          refine AWP.lastR rfl ?_
          refine ASL.q (v := (.ptr b4 0)) rfl rfl (Light.quiet (opFieldAddr rfl fieldA_28_0 rfl rfl)) ?_
          refine ASL.q (v := w19) rfl rfl (Light.quiet (kAt hS (j := 3) rfl rfl aggA_26 rfl rfl)) ?_
          refine ASL.q (v := (.int .i64 x6_2)) rfl rfl (Light.quiet (opMove rfl rfl)) ?_
          refine ASL.q (v := (.list 1 (List.map (AV.int .i64) [x6_2]))) rfl rfl ((qLit (xs := [(.int .i64 x6_2)]) rfl elemA_26 sizeA_3 zeroA_3 rfl rfl rfl rfl (by simp [cells]) (nlt rfl))) ?_
          obtain ⟨z29, hz29, hF⟩ := bindE hF
          refine ASL.x rfl rfl (hApp (f := (AV.int .i64)) (ws := [x6_2]) hS (j := 2) rfl hz29 rfl elemA_26 rfl sizeA_3 bytesA_3 zeroA_3 rfl rfl rfl (fun _ => rfl) ?_); rintro v29 G29 hS
          refine ASL.q (v := (.ptr b4 0)) rfl rfl (Light.quiet (opFieldAddr rfl fieldA_28_0 rfl rfl)) ?_
          refine ASL.n rfl rfl (hPut hS (j := 3) rfl rfl sizeA_26 rfl rfl (hS.one (k := 2) rfl) (nlt rfl) ?_); rintro G31 hS
          refine ASL.done ?_
          refine QBlock.nrm ?_
          refine QThen.nrm ?_
          refine AWP.lastR rfl ?_
          refine ASL.q (v := (.int .i64 x5_l0)) rfl rfl (Light.quiet (opMove rfl rfl)) ?_
          refine ASL.q (v := (.int .i64 (W (x5_l0 + 1)))) rfl rfl (Light.quiet (opInt rfl rfl rfl rfl)) ?_
          refine ASL.q (v := (.int .i64 (W (x5_l0 + 1)))) rfl rfl (Light.quiet (opAssign rfl rfl)) ?_
          refine ASL.done ?_
          refine QThen.nrm ?_
          exact ⟨(z29, y21, (W (x5_l0 + 1))), v29, (someE hF).symm, ⟨rfl, rfl, rfl, rfl, trivial⟩, (hS.pick [0, 1, 2, 3, 4] rfl rfl)⟩
        · skip
          refine AWP.seqR rfl ?_
          refine ASL.q (v := (.rptr [(.int .i64 p0.start), (.list 4 (List.map TEdge.av p0.edges))])) rfl rfl (Light.quiet (opFieldAddrR rfl fieldA_33_2 rfl rfl)) ?_
          refine ASL.q (v := (.int .i64 p0.start)) rfl rfl (Light.quiet (opLoadR rfl aggA_3 rfl rfl)) ?_
          refine ASL.q (v := (.int .i64 x5_l0)) rfl rfl (Light.quiet (opMove rfl rfl)) ?_
          obtain ⟨a21, ha21, hF⟩ := bindE hF
          refine ASL.q (v := (.bool a21)) rfl rfl ((qCall rfl rfl call_30 (spec_l1Has_ok ha21) rfl)) ?_
          refine ASL.done ?_
          refine AWP.ifB hF rfl (fun hc33 hF => ?_) (fun hc33 hF => ?_)
          · skip
            refine AWP.lastR rfl ?_
            refine ASL.q (v := (.rptr [(.int .i64 p0.states), (.int .i64 p0.start), (.list 4 (List.map TEdge.av p0.edges))])) rfl rfl (Light.quiet (opFieldAddrR rfl fieldA_33_1 rfl rfl)) ?_
            refine ASL.q (v := (.int .i64 p0.states)) rfl rfl (Light.quiet (opLoadR rfl aggA_3 rfl rfl)) ?_
            refine ASL.q (v := (.int .i64 (W (2 * p0.states)))) rfl rfl (Light.quiet (opInt rfl rfl rfl rfl)) ?_
            refine ASL.q (v := (.int .i64 (W (2 * p0.states)))) rfl rfl (Light.quiet (opAssign rfl rfl)) ?_
            refine ASL.done ?_
            refine QThen.nrm ?_
            exact ⟨(W (2 * p0.states)), ⟨rfl, rfl, rfl, rfl, rfl, trivial⟩, (hS.pick [0, 1, 2, 3, 4] rfl rfl), hF⟩
          · skip
            refine AWP.skip ?_
            refine QThen.nrm ?_
            exact ⟨(-1), ⟨rfl, rfl, rfl, rfl, rfl, trivial⟩, (hS.pick [0, 1, 2, 3, 4] rfl rfl), hF⟩
      · skip
        refine AWP.exit ?_
        refine QThen.ext ?_
        refine QThen.ext ?_
        refine QBlock.hit ?_
        obtain rfl := (hx23 _ (someE hF).symm)
        have hF := hR26
        refine QThen.nrm ?_
        exact ⟨y18, y21, w19, ⟨rfl, rfl, trivial⟩, (hS.pick [0, 1, 2, 3, 4] rfl rfl), hF⟩

set_option maxRecDepth 10000 in
theorem spec_l13Ok_ok {p0 : TAuto} {p1 : TRankState} {r : Bool} (hF : spec_l13Ok p0 p1 = some r) : PC Try.prog 47 [(TAuto.av p0), (TRankState.av p1)] fun v => v = (.bool r) := by
  refine PC.enter Try.func47 rfl Try.ntmps47 (by simp) ?_
  have hS := Sep.void; unfold spec_l13Ok at hF
  refine AWP.seqR rfl ?_
  refine ASL.q (v := (.rptr [(.int .i64 p0.letters), (.int .i64 p0.states), (.int .i64 p0.start), (.list 4 (List.map TEdge.av p0.edges))])) rfl rfl ((qBoxI (v := (TAuto.av p0)) rfl rfl rfl rfl)) ?_
  refine ASL.q (v := (.rptr [(.list 1 (List.map (AV.int .i64) p1.ranks)), (.int .i64 p1.owing)])) rfl rfl ((qBoxI (v := (TRankState.av p1)) rfl rfl rfl rfl)) ?_
  refine ASL.q (v := (.bool false)) rfl rfl (Light.quiet (opAssign rfl rfl)) ?_
  refine ASL.done ?_
  refine AWP.seq ?_
  refine AWP.seqD [(0, false), (1, false), (2, false), (3, false), (4, false), (5, false), (6, false), (7, false), (8, false), (9, false), (10, false), (11, false), (12, false), (13, false), (14, false), (15, false)] mixed (by kernel_rfl) rfl ?_
  refine ARL.q0 (v := (.rptr [(.list 1 (List.map (AV.int .i64) p1.ranks)), (.int .i64 p1.owing)])) rfl rfl (Light.quiet (opFieldAddrR rfl fieldA_28_0 rfl rfl)) ?_
  refine ARL.q0 (v := (.list 1 (List.map (AV.int .i64) p1.ranks))) rfl rfl (Light.quiet (opLoadR rfl aggA_26 rfl rfl)) ?_
  refine ARL.q0 (v := (.int .i64 (p1.ranks.length : Int))) rfl rfl (Light.quiet (opLenMap (f := (AV.int .i64)) rfl rfl rfl lenT_26 rfl)) ?_
  refine ARL.q0 (v := (.rptr [(.int .i64 p0.states), (.int .i64 p0.start), (.list 4 (List.map TEdge.av p0.edges))])) rfl rfl (Light.quiet (opFieldAddrR rfl fieldA_33_1 rfl rfl)) ?_
  refine ARL.q0 (v := (.int .i64 p0.states)) rfl rfl (Light.quiet (opLoadR rfl aggA_3 rfl rfl)) ?_
  refine ARL.q0 (v := (.bool (decide (((p1.ranks.length : Int)) ≠ p0.states)))) rfl rfl (Light.quiet (opInt rfl rfl rfl rfl)) ?_
  obtain ⟨c13, hc13, hF⟩ := bndE hF
  refine ARL.q0 (v := (.bool c13)) rfl rfl ((Quiet.cast (Light.quiet (opMove rfl rfl)) (congrArg AV.bool hc13.symm))) ?_
  refine ARL.g (v := (.rptr [(.int .i64 p1.owing)])) (.bool c13) false rfl (wF _) rfl noneAlive (fun hG => by have q0 := gN hG; subst q0; exact Light.quiet (opFieldAddrR rfl fieldA_28_1 rfl rfl)) ?_
  refine ARL.g (v := (.int .i64 p1.owing)) (.bool c13) false rfl (wF _) rfl noneAlive (fun hG => by have q0 := gN hG; subst q0; exact Light.quiet (opLoadR rfl aggA_3 rfl rfl)) ?_
  refine ARL.g (v := (.rptr [(.int .i64 p0.states), (.int .i64 p0.start), (.list 4 (List.map TEdge.av p0.edges))])) (.bool c13) false rfl (wF _) rfl noneAlive (fun hG => by have q0 := gN hG; subst q0; exact Light.quiet (opFieldAddrR rfl fieldA_33_1 rfl rfl)) ?_
  refine ARL.g (v := (.int .i64 p0.states)) (.bool c13) false rfl (wF _) rfl noneAlive (fun hG => by have q0 := gN hG; subst q0; exact Light.quiet (opLoadR rfl aggA_3 rfl rfl)) ?_
  obtain ⟨u1, hu1, hF⟩ := bindE hF
  refine ARL.g (v := (.int .i64 (shl .i64 1 p0.states))) (.bool c13) false rfl (wF _) rfl noneAlive (fun hG => by have q0 := gN hG; subst q0; exact Light.quiet (opShl rfl rfl rfl (of_decide_eq_true (chkE (whenE hu1))) rfl)) ?_
  refine ARL.g (v := (.int .i64 (W (((shl .i64 1 p0.states)) - 1)))) (.bool c13) false rfl (wF _) rfl noneAlive (fun hG => by have q0 := gN hG; subst q0; exact Light.quiet (opInt rfl rfl rfl rfl)) ?_
  refine ARL.g (v := (.bool (spec_SetIn p1.owing ((W (((shl .i64 1 p0.states)) - 1)))))) (.bool c13) false rfl (wF _) rfl noneAlive (fun hG => by have q0 := gN hG; subst q0; exact (qCall rfl rfl call_69 (spec_SetIn_ok p1.owing ((W (((shl .i64 1 p0.states)) - 1)))) rfl)) ?_
  refine ARL.g (v := (.bool (!(spec_SetIn p1.owing ((W (((shl .i64 1 p0.states)) - 1))))))) (.bool c13) false rfl (wF _) rfl noneAlive (fun hG => by have q0 := gN hG; subst q0; exact Light.quiet (opNot rfl rfl)) ?_
  refine ARL.q0 (v := (.bool (c13 || (!(spec_SetIn p1.owing ((W (((shl .i64 1 p0.states)) - 1)))))))) rfl rfl (Light.quiet (opPick (b := c13) rfl rfl (by cases c13 <;> rfl))) ?_
  refine ARL.done ?_
  refine AWP.ifB hF rfl (fun hc2 hF => ?_) (fun hc2 hF => ?_)
  · skip
    refine AWP.seqR rfl ?_
    refine ASL.q (v := (.bool false)) rfl rfl (Light.quiet (opAssign rfl rfl)) ?_
    refine ASL.done ?_
    refine AWP.ret ?_
    refine QThen.rt ?_
    obtain rfl := someE hF
    exact QRet.sole (v := (.bool false)) ⟨rfl, trivial⟩ rfl
  · skip
    refine AWP.skip ?_
    refine QThen.nrm ?_
    refine AWP.seqM (fun e H => E.Told e [] ∧ E.Sep H [] ∧ spec_l13Ok.k0 = some r) ?_ ?_
    · rintro e0 G3 ⟨hT, hS, hF⟩; refine AWP.only _ hT ?_; unfold spec_l13Ok.k0 at hF
      refine AWP.seqR rfl ?_
      refine ASL.q (v := (.bool true)) rfl rfl (Light.quiet (opAssign rfl rfl)) ?_
      refine ASL.done ?_
      refine AWP.ret ?_
      obtain rfl := someE hF
      exact QRet.sole (v := (.bool true)) ⟨rfl, trivial⟩ rfl
    · skip
      refine AWP.seqR rfl ?_
      refine ASL.q (v := (.int .i64 0)) rfl rfl (Light.quiet (opAssign rfl rfl)) ?_
      refine ASL.done ?_
      refine AWP.block ?_
      obtain ⟨o7, hL6, hR8⟩ := bindE hF
      refine AWP.loopF (ω := Unit) hL6 (fun s w => [(2, (.rptr [(.int .i64 p0.letters), (.int .i64 p0.states), (.int .i64 p0.start), (.list 4 (List.map TEdge.av p0.edges))])), (3, (.rptr [(.list 1 (List.map (AV.int .i64) p1.ranks)), (.int .i64 p1.owing)])), (5, (.int .i64 s))]) (fun s w => []) () ⟨rfl, rfl, rfl, trivial⟩ (hS.pick [] rfl rfl) ?_
      rintro x5_l0 _ G9 hS x4 hF hx5
      try dsimp only at hS ⊢
      have hF : spec_l13Ok.b0 p0 p1 x5_l0 = some x4 := hF; unfold spec_l13Ok.b0 at hF
      refine AWP.seq ?_
      refine AWP.seqR rfl ?_
      refine ASL.q (v := (.int .i64 x5_l0)) rfl rfl (Light.quiet (opMove rfl rfl)) ?_
      refine ASL.q (v := (.rptr [(.int .i64 p0.states), (.int .i64 p0.start), (.list 4 (List.map TEdge.av p0.edges))])) rfl rfl (Light.quiet (opFieldAddrR rfl fieldA_33_1 rfl rfl)) ?_
      refine ASL.q (v := (.int .i64 p0.states)) rfl rfl (Light.quiet (opLoadR rfl aggA_3 rfl rfl)) ?_
      refine ASL.q (v := (.bool (decide (x5_l0 < p0.states)))) rfl rfl (Light.quiet (opInt rfl rfl rfl rfl)) ?_
      refine ASL.done ?_
      refine AWP.ifP hF rfl (fun hc10 hF => ?_) (fun hc10 hF => ?_)
      · skip
        refine AWP.skip ?_
        refine QThen.nrm ?_
        refine AWP.seq ?_
        refine AWP.block ?_
        refine AWP.seqR rfl ?_
        refine ASL.q (v := (.rptr [(.list 1 (List.map (AV.int .i64) p1.ranks)), (.int .i64 p1.owing)])) rfl rfl (Light.quiet (opFieldAddrR rfl fieldA_28_0 rfl rfl)) ?_
        refine ASL.q (v := (.list 1 (List.map (AV.int .i64) p1.ranks))) rfl rfl (Light.quiet (opLoadR rfl aggA_26 rfl rfl)) ?_
        refine ASL.q (v := (.int .i64 x5_l0)) rfl rfl (Light.quiet (opMove rfl rfl)) ?_
        obtain ⟨a32, ha32, hF⟩ := bindE hF
        refine ASL.q (v := (.rptr [(.int .i64 a32)])) rfl rfl (Light.quiet (kIx (f := (AV.int .i64)) ha32 rfl rfl rfl elemA_26 sizeA_3 rfl)) ?_
        refine ASL.q (v := (.int .i64 a32)) rfl rfl (Light.quiet (opLoadR rfl aggA_3 rfl rfl)) ?_
        refine ASL.q (v := (.int .i64 a32)) rfl rfl (Light.quiet (opAssign rfl rfl)) ?_
        refine ASL.done ?_
        refine AWP.seqR rfl ?_
        refine ASL.q (v := (.int .i64 a32)) rfl rfl (Light.quiet (opMove rfl rfl)) ?_
        refine ASL.q (v := (.rptr [(.int .i64 p0.states), (.int .i64 p0.start), (.list 4 (List.map TEdge.av p0.edges))])) rfl rfl (Light.quiet (opFieldAddrR rfl fieldA_33_1 rfl rfl)) ?_
        refine ASL.q (v := (.int .i64 p0.states)) rfl rfl (Light.quiet (opLoadR rfl aggA_3 rfl rfl)) ?_
        refine ASL.q (v := (.int .i64 (W (2 * p0.states)))) rfl rfl (Light.quiet (opInt rfl rfl rfl rfl)) ?_
        refine ASL.q (v := (.bool (spec_l1In a32 ((-1)) ((W (2 * p0.states)))))) rfl rfl ((qCall rfl rfl call_45 (spec_l1In_ok a32 ((-1)) ((W (2 * p0.states)))) rfl)) ?_
        refine ASL.q (v := (.bool (!(spec_l1In a32 ((-1)) ((W (2 * p0.states))))))) rfl rfl (Light.quiet (opNot rfl rfl)) ?_
        obtain ⟨c40, hc40, hF⟩ := bndE hF
        refine ASL.q (v := (.bool c40)) rfl rfl ((Quiet.cast (Light.quiet (opMove rfl rfl)) (congrArg AV.bool hc40.symm))) ?_
        refine ASL.g (v := (.rptr [(.int .i64 p1.owing)])) (.bool c40) false rfl (wF _) rfl (fun hG => by have q0 := gN hG; subst q0; exact Light.quiet (opFieldAddrR rfl fieldA_28_1 rfl rfl)) ?_
        refine ASL.g (v := (.int .i64 p1.owing)) (.bool c40) false rfl (wF _) rfl (fun hG => by have q0 := gN hG; subst q0; exact Light.quiet (opLoadR rfl aggA_3 rfl rfl)) ?_
        refine ASL.g (v := (.int .i64 x5_l0)) (.bool c40) false rfl (wF _) rfl (fun hG => by have q0 := gN hG; subst q0; exact Light.quiet (opMove rfl rfl)) ?_
        obtain ⟨a44, ha44, hF⟩ := bindE hF
        refine ASL.g (v := (.bool a44)) (.bool c40) false rfl (wF _) rfl (fun hG => by have q0 := gN hG; subst q0; exact (qCall rfl rfl call_30 (spec_l1Has_ok (whenE ha44)) rfl)) ?_
        refine ASL.g (v := (.bool a44)) (.bool c40) false rfl (wF _) rfl (fun hG => by have q0 := gN hG; subst q0; exact Light.quiet (opMove rfl rfl)) ?_
        refine ASL.g (v := (.int .i64 a32)) (bif (!c40) then (.bool a44) else .tup []) true rfl (wGT _ _) rfl (fun hG => by have q0 := gN (gA1 hG); have q1 := gA2 hG; subst q0; subst q1; exact Light.quiet (opMove rfl rfl)) ?_
        refine ASL.g (v := (.bool (decide (a32 < 0)))) (bif (!c40) then (.bool a44) else .tup []) true rfl (wGT _ _) rfl (fun hG => by have q0 := gN (gA1 hG); have q1 := gA2 hG; subst q0; subst q1; exact Light.quiet (opInt rfl rfl rfl rfl)) ?_
        obtain ⟨c48, hc48, hF⟩ := bndE hF
        refine ASL.g (v := (.bool c48)) (bif (!c40) then (.bool a44) else .tup []) true rfl (wGT _ _) rfl (fun hG => by have q0 := gN (gA1 hG); have q1 := gA2 hG; subst q0; subst q1; exact (Quiet.cast (Light.quiet (opMove rfl rfl)) (congrArg AV.bool hc48.symm))) ?_
        refine ASL.g (v := (.int .i64 a32)) (bif ((!c40) && a44) then (.bool c48) else .tup []) false rfl (wGF _ _) rfl (fun hG => by have q0 := gN (gA1 (gA1 hG)); have q1 := gA2 (gA1 hG); have q2 := gN (gA2 hG); subst q0; subst q1; subst q2; exact Light.quiet (opMove rfl rfl)) ?_
        refine ASL.g (v := (.int .i64 (Int.tmod a32 2))) (bif ((!c40) && a44) then (.bool c48) else .tup []) false rfl (wGF _ _) rfl (fun hG => by have q0 := gN (gA1 (gA1 hG)); have q1 := gA2 (gA1 hG); have q2 := gN (gA2 hG); subst q0; subst q1; subst q2; exact Light.quiet (opRem rfl rfl rfl (by decide) rfl)) ?_
        refine ASL.g (v := (.bool (decide (((Int.tmod a32 2)) = 1)))) (bif ((!c40) && a44) then (.bool c48) else .tup []) false rfl (wGF _ _) rfl (fun hG => by have q0 := gN (gA1 (gA1 hG)); have q1 := gA2 (gA1 hG); have q2 := gN (gA2 hG); subst q0; subst q1; subst q2; exact Light.quiet (opInt rfl rfl rfl rfl)) ?_
        refine ASL.g (v := (.bool (c48 || (decide (((Int.tmod a32 2)) = 1))))) (bif (!c40) then (.bool a44) else .tup []) true rfl (wGT _ _) rfl (fun hG => by have q0 := gN (gA1 hG); have q1 := gA2 hG; subst q0; subst q1; exact Light.quiet (opPick (b := c48) rfl rfl (by cases c48 <;> rfl))) ?_
        refine ASL.g (v := (.bool (a44 && (c48 || (decide (((Int.tmod a32 2)) = 1)))))) (.bool c40) false rfl (wF _) rfl (fun hG => by have q0 := gN hG; subst q0; exact Light.quiet (opPick (b := a44) rfl rfl (by cases a44 <;> rfl))) ?_
        refine ASL.q (v := (.bool (c40 || (a44 && (c48 || (decide (((Int.tmod a32 2)) = 1))))))) rfl rfl (Light.quiet (opPick (b := c40) rfl rfl (by cases c40 <;> rfl))) ?_
        refine ASL.done ?_
        refine AWP.ifB hF rfl (fun hc11 hF => ?_) (fun hc11 hF => ?_)
        · skip
          refine AWP.seqR rfl ?_
          refine ASL.q (v := (.bool false)) rfl rfl (Light.quiet (opAssign rfl rfl)) ?_
          refine ASL.done ?_
          refine AWP.ret ?_
          refine QBlock.ret ?_
          refine QThen.rt ?_
          refine QThen.rt ?_
          refine QBlock.ret ?_
          refine QThen.rt ?_
          obtain rfl := (hx5 _ (someE hF).symm)
          have hF := hR8
          have hF := sumR hF
          obtain rfl := someE hF
          exact QRet.sole (v := (.bool false)) ⟨rfl, trivial⟩ rfl
        · skip
          refine AWP.skip ?_
          refine QBlock.nrm ?_
          refine QThen.nrm ?_
          refine AWP.lastR rfl ?_
          refine ASL.q (v := (.int .i64 x5_l0)) rfl rfl (Light.quiet (opMove rfl rfl)) ?_
          refine ASL.q (v := (.int .i64 (W (x5_l0 + 1)))) rfl rfl (Light.quiet (opInt rfl rfl rfl rfl)) ?_
          refine ASL.q (v := (.int .i64 (W (x5_l0 + 1)))) rfl rfl (Light.quiet (opAssign rfl rfl)) ?_
          refine ASL.done ?_
          refine QThen.nrm ?_
          exact ⟨(W (x5_l0 + 1)), (), (someE hF).symm, ⟨rfl, rfl, rfl, trivial⟩, (hS.pick [] rfl rfl)⟩
      · skip
        refine AWP.exit ?_
        refine QThen.ext ?_
        refine QThen.ext ?_
        refine QBlock.hit ?_
        obtain rfl := (hx5 _ (someE hF).symm)
        have hF := hR8
        have hF := sumL hF
        refine QThen.nrm ?_
        exact ⟨trivial, (hS.pick [] rfl rfl), hF⟩

set_option maxRecDepth 10000 in
theorem spec_RankOk_ok {p0 : TAuto} {p1 : TRankState} {r : Bool} (hF : spec_RankOk p0 p1 = some r) : PC Try.prog 19 [(TAuto.av p0), (TRankState.av p1)] fun v => v = (.bool r) := by
  refine PC.enter Try.func19 rfl Try.ntmps19 (by simp) ?_
  have hS := Sep.void; unfold spec_RankOk at hF
  refine AWP.seqR rfl ?_
  refine ASL.q (v := (.rptr [(.int .i64 p0.letters), (.int .i64 p0.states), (.int .i64 p0.start), (.list 4 (List.map TEdge.av p0.edges))])) rfl rfl ((qBoxI (v := (TAuto.av p0)) rfl rfl rfl rfl)) ?_
  refine ASL.q (v := (.rptr [(.list 1 (List.map (AV.int .i64) p1.ranks)), (.int .i64 p1.owing)])) rfl rfl ((qBoxI (v := (TRankState.av p1)) rfl rfl rfl rfl)) ?_
  refine ASL.q (v := (.bool false)) rfl rfl (Light.quiet (opAssign rfl rfl)) ?_
  refine ASL.done ?_
  refine AWP.seqR rfl ?_
  refine ASL.q (v := (TAuto.av p0)) rfl rfl (Light.quiet (opLoadRA rfl aggA_33 sizeA_33 rfl (nlt rfl) rfl)) ?_
  obtain ⟨a6, ha6, hF⟩ := bindE hF
  refine ASL.q (v := (.bool a6)) rfl rfl ((qCall rfl rfl call_29 (spec_l13States_ok ha6) rfl)) ?_
  refine ASL.q (v := (.bool a6)) rfl rfl (Light.quiet (opMove rfl rfl)) ?_
  refine ASL.g (v := (TAuto.av p0)) (.bool a6) true rfl (wT _) rfl (fun hG => by have q0 := hG; subst q0; exact Light.quiet (opLoadRA rfl aggA_33 sizeA_33 rfl (nlt rfl) rfl)) ?_
  refine ASL.g (v := (TRankState.av p1)) (.bool a6) true rfl (wT _) rfl (fun hG => by have q0 := hG; subst q0; exact Light.quiet (opLoadRA rfl aggA_28 sizeA_28 rfl (nlt rfl) rfl)) ?_
  obtain ⟨a10, ha10, hF⟩ := bindE hF
  refine ASL.g (v := (.bool a10)) (.bool a6) true rfl (wT _) rfl (fun hG => by have q0 := hG; subst q0; exact (qCall rfl rfl call_47 (spec_l13Ok_ok (whenE ha10)) rfl)) ?_
  refine ASL.q (v := (.bool (a6 && a10))) rfl rfl (Light.quiet (opPick (b := a6) rfl rfl (by cases a6 <;> rfl))) ?_
  refine ASL.q (v := (.bool (a6 && a10))) rfl rfl (Light.quiet (opAssign rfl rfl)) ?_
  refine ASL.done ?_
  refine AWP.ret ?_
  obtain rfl := someE hF
  exact QRet.sole (v := (.bool (a6 && a10))) ⟨rfl, trivial⟩ rfl

set_option maxRecDepth 10000 in
theorem spec_l13Bounds_ok {p0 : TAuto} {p1 : TRankState} {p2 : Int} {r : (List Int)} (hF : spec_l13Bounds p0 p1 p2 = some r) : PO Try.prog 66 [(TAuto.av p0), (TRankState.av p1), (.int .i64 p2)] 1 (List.map (AV.int .i64) r) := by
  refine HC.enter Try.func66 rfl Try.ntmps66 (by simp) ?_
  have hS := Sep.void; unfold spec_l13Bounds at hF
  refine AWP.seqR rfl ?_
  refine ASL.q (v := (.rptr [(.int .i64 p0.letters), (.int .i64 p0.states), (.int .i64 p0.start), (.list 4 (List.map TEdge.av p0.edges))])) rfl rfl ((qBoxI (v := (TAuto.av p0)) rfl rfl rfl rfl)) ?_
  refine ASL.q (v := (.rptr [(.list 1 (List.map (AV.int .i64) p1.ranks)), (.int .i64 p1.owing)])) rfl rfl ((qBoxI (v := (TRankState.av p1)) rfl rfl rfl rfl)) ?_
  have hS := hNil (s := 1) (f := (AV.int .i64)) hS
  refine ASL.q (v := .nil) rfl rfl (Light.quiet (opAssign rfl rfl)) ?_
  refine ASL.done ?_
  refine AWP.seqR rfl ?_
  refine ASL.x rfl rfl (hLit (f := (AV.int .i64)) (zs := []) hS rfl rfl elemA_26 sizeA_3 zeroA_3 rfl rfl rfl rfl (by simp [cells]) (nlt rfl) ?_); rintro v12 G2 hK hS
  refine ASL.q (v := v12) rfl rfl (Light.quiet (opAssign rfl rfl)) ?_
  refine ASL.done ?_
  refine AWP.seqM (fun e H => ∃ y4 : (List Int), ∃ w5 : AV, E.Told e [(2, (.int .i64 p2)), (3, (.rptr [(.int .i64 p0.letters), (.int .i64 p0.states), (.int .i64 p0.start), (.list 4 (List.map TEdge.av p0.edges))])), (4, (.rptr [(.list 1 (List.map (AV.int .i64) p1.ranks)), (.int .i64 p1.owing)])), (7, w5)] ∧ E.Sep H [.row 1 w5 (List.map (AV.int .i64) y4)] ∧ spec_l13Bounds.k0 p0 p1 p2 y4 = some r) ?_ ?_
  · rintro e0 G25 ⟨y4, w5, hT, hS, hF⟩; refine AWP.only _ hT ?_; unfold spec_l13Bounds.k0 at hF
    refine AWP.seqM (fun e H => ∃ y7 : (List Int), E.Told e [(7, w5)] ∧ E.Sep H [.row 1 w5 (List.map (AV.int .i64) y7)] ∧ spec_l13Bounds.k1 y7 = some r) ?_ ?_
    · rintro e0 G8 ⟨y7, hT, hS, hF⟩; refine AWP.only _ hT ?_; unfold spec_l13Bounds.k1 at hF
      refine AWP.seqR rfl ?_
      refine ASL.q (v := w5) rfl rfl (Light.quiet (opMove rfl rfl)) ?_
      refine ASL.q (v := w5) rfl rfl (Light.quiet (opAssign rfl rfl)) ?_
      refine ASL.done ?_
      refine AWP.ret ?_
      obtain rfl := someE hF
      exact QRet.sole (v := w5) ⟨rfl, trivial⟩ (hS.get (k := 0) rfl)
    · skip
      refine AWP.seqR rfl ?_
      refine ASL.q (v := (.int .i64 0)) rfl rfl (Light.quiet (opAssign rfl rfl)) ?_
      refine ASL.done ?_
      refine AWP.block ?_
      obtain ⟨o13, hL12, hR14⟩ := bindE hF
      refine AWP.loopF (ω := Unit) hL12 (fun s w => [(2, (.int .i64 p2)), (3, (.rptr [(.int .i64 p0.letters), (.int .i64 p0.states), (.int .i64 p0.start), (.list 4 (List.map TEdge.av p0.edges))])), (4, (.rptr [(.list 1 (List.map (AV.int .i64) p1.ranks)), (.int .i64 p1.owing)])), (7, w5), (9, (.int .i64 s.2))]) (fun s w => [.row 1 w5 (List.map (AV.int .i64) s.1)]) () ⟨rfl, rfl, rfl, rfl, rfl, trivial⟩ (hS.pick [0] rfl rfl) ?_
      rintro ⟨y9, x9_l0⟩ _ G15 hS x10 hF hx11
      try dsimp only at hS ⊢
      have hF : spec_l13Bounds.b0 p0 p1 p2 y9 x9_l0 = some x10 := hF; unfold spec_l13Bounds.b0 at hF
      refine AWP.seq ?_
      refine AWP.seqR rfl ?_
      refine ASL.q (v := (.int .i64 x9_l0)) rfl rfl (Light.quiet (opMove rfl rfl)) ?_
      refine ASL.q (v := (.rptr [(.list 4 (List.map TEdge.av p0.edges))])) rfl rfl (Light.quiet (opFieldAddrR rfl fieldA_33_3 rfl rfl)) ?_
      refine ASL.q (v := (.list 4 (List.map TEdge.av p0.edges))) rfl rfl (Light.quiet (opLoadR rfl aggA_31 rfl rfl)) ?_
      refine ASL.q (v := (.int .i64 (p0.edges.length : Int))) rfl rfl (Light.quiet (opLenMap (f := TEdge.av) rfl rfl rfl lenT_31 rfl)) ?_
      refine ASL.q (v := (.bool (decide (x9_l0 < ((p0.edges.length : Int)))))) rfl rfl (Light.quiet (opInt rfl rfl rfl rfl)) ?_
      refine ASL.done ?_
      refine AWP.ifP hF rfl (fun hc16 hF => ?_) (fun hc16 hF => ?_)
      · skip
        refine AWP.skip ?_
        refine QThen.nrm ?_
        refine AWP.seq ?_
        refine AWP.block ?_
        refine AWP.seqR rfl ?_
        refine ASL.q (v := (.rptr [(.list 4 (List.map TEdge.av p0.edges))])) rfl rfl (Light.quiet (opFieldAddrR rfl fieldA_33_3 rfl rfl)) ?_
        refine ASL.q (v := (.list 4 (List.map TEdge.av p0.edges))) rfl rfl (Light.quiet (opLoadR rfl aggA_31 rfl rfl)) ?_
        refine ASL.q (v := (.int .i64 x9_l0)) rfl rfl (Light.quiet (opMove rfl rfl)) ?_
        obtain ⟨a32, ha32, hF⟩ := bindE hF
        refine ASL.q (v := (.rptr [(.int .i64 a32.from_), (.int .i64 a32.letter), (.int .i64 a32.to_), (.bool a32.good)])) rfl rfl (Light.quiet (kIx (f := TEdge.av) ha32 rfl rfl rfl elemA_31 sizeA_73 rfl)) ?_
        refine ASL.q (v := (TEdge.av a32)) rfl rfl (Light.quiet (opLoadRA rfl aggA_73 sizeA_73 rfl (nlt rfl) rfl)) ?_
        refine ASL.x rfl rfl (hNewZ hS [(.int .i64 0), (.int .i64 0), (.int .i64 0), (.bool false)] rfl zeroA_73 ⟨.inl rfl, .inl rfl, .inl rfl, .inl rfl, trivial⟩ ?_); rintro b10 G17 hK hS
        refine ASL.n rfl rfl (hPutA hS (j := 0) rfl rfl sizeA_73 rfl rfl rfl rfl rfl (nlt rfl) ?_); rintro G19 hS
        refine ASL.done ?_
        refine AWP.seqR rfl ?_
        refine ASL.q (v := (.rptr [(.list 1 (List.map (AV.int .i64) p1.ranks)), (.int .i64 p1.owing)])) rfl rfl (Light.quiet (opFieldAddrR rfl fieldA_28_0 rfl rfl)) ?_
        refine ASL.q (v := (.list 1 (List.map (AV.int .i64) p1.ranks))) rfl rfl (Light.quiet (opLoadR rfl aggA_26 rfl rfl)) ?_
        refine ASL.q (v := (.ptr b10 0)) rfl rfl (Light.quiet (opFieldAddr rfl fieldA_73_0 rfl rfl)) ?_
        refine ASL.q (v := (.int .i64 a32.from_)) rfl rfl (Light.quiet (kAt hS (j := 0) rfl rfl aggA_3 rfl rfl)) ?_
        obtain ⟨a38, ha38, hF⟩ := bindE hF
        refine ASL.q (v := (.rptr [(.int .i64 a38)])) rfl rfl (Light.quiet (kIx (f := (AV.int .i64)) ha38 rfl rfl rfl elemA_26 sizeA_3 rfl)) ?_
        refine ASL.q (v := (.int .i64 a38)) rfl rfl (Light.quiet (opLoadR rfl aggA_3 rfl rfl)) ?_
        refine ASL.q (v := (.int .i64 a38)) rfl rfl (Light.quiet (opAssign rfl rfl)) ?_
        refine ASL.done ?_
        refine AWP.seq ?_
        refine AWP.seqR rfl ?_
        refine ASL.q (v := (.ptr b10 1)) rfl rfl (Light.quiet (opFieldAddr rfl fieldA_73_1 rfl rfl)) ?_
        refine ASL.q (v := (.int .i64 a32.letter)) rfl rfl (Light.quiet (kAt hS (j := 0) rfl rfl aggA_3 rfl rfl)) ?_
        refine ASL.q (v := (.int .i64 p2)) rfl rfl (Light.quiet (opMove rfl rfl)) ?_
        refine ASL.q (v := (.bool (decide (a32.letter ≠ p2)))) rfl rfl (Light.quiet (opInt rfl rfl rfl rfl)) ?_
        obtain ⟨c44, hc44, hF⟩ := bndE hF
        refine ASL.q (v := (.bool c44)) rfl rfl ((Quiet.cast (Light.quiet (opMove rfl rfl)) (congrArg AV.bool hc44.symm))) ?_
        refine ASL.g (v := (.int .i64 a38)) (.bool c44) false rfl (wF _) rfl (fun hG => by have q0 := gN hG; subst q0; exact Light.quiet (opMove rfl rfl)) ?_
        refine ASL.g (v := (.bool (decide (a38 < 0)))) (.bool c44) false rfl (wF _) rfl (fun hG => by have q0 := gN hG; subst q0; exact Light.quiet (opInt rfl rfl rfl rfl)) ?_
        refine ASL.q (v := (.bool (c44 || (decide (a38 < 0))))) rfl rfl (Light.quiet (opPick (b := c44) rfl rfl (by cases c44 <;> rfl))) ?_
        refine ASL.done ?_
        refine AWP.ifB hF rfl (fun hc20 hF => ?_) (fun hc20 hF => ?_)
        · skip
          refine AWP.exit ?_
          refine QThen.ext ?_
          refine QBlock.hit ?_
          refine QThen.nrm ?_
          refine AWP.lastR rfl ?_
          refine ASL.q (v := (.int .i64 x9_l0)) rfl rfl (Light.quiet (opMove rfl rfl)) ?_
          refine ASL.q (v := (.int .i64 (W (x9_l0 + 1)))) rfl rfl (Light.quiet (opInt rfl rfl rfl rfl)) ?_
          refine ASL.q (v := (.int .i64 (W (x9_l0 + 1)))) rfl rfl (Light.quiet (opAssign rfl rfl)) ?_
          refine ASL.done ?_
          refine QThen.nrm ?_
          exact ⟨(y9, (W (x9_l0 + 1))), (), (someE hF).symm, ⟨rfl, rfl, rfl, rfl, rfl, trivial⟩, (hS.pick [1] rfl rfl)⟩
        · skip
          refine AWP.skip ?_
          refine QThen.nrm ?_
          refine AWP.seqM (fun e H => ∃ x11_3 : Int, E.Told e [(2, (.int .i64 p2)), (3, (.rptr [(.int .i64 p0.letters), (.int .i64 p0.states), (.int .i64 p0.start), (.list 4 (List.map TEdge.av p0.edges))])), (4, (.rptr [(.list 1 (List.map (AV.int .i64) p1.ranks)), (.int .i64 p1.owing)])), (7, w5), (9, (.int .i64 x9_l0)), (10, (.ptr b10 0)), (11, (.int .i64 x11_3))] ∧ E.Sep H [.row 1 w5 (List.map (AV.int .i64) y9), .cell b10 [(.int .i64 a32.from_), (.int .i64 a32.letter), (.int .i64 a32.to_), (.bool a32.good)]] ∧ spec_l13Bounds.k2 y9 a32 x9_l0 x11_3 = some x10) ?_ ?_
          · rintro e0 G23 ⟨x11_3, hT, hS, hF⟩; refine AWP.only _ hT ?_; unfold spec_l13Bounds.k2 at hF
            refine AWP.seqR rfl ?_
            refine ASL.q (v := w5) rfl rfl (Light.quiet (opMove rfl rfl)) ?_
            refine ASL.q (v := (.ptr b10 2)) rfl rfl (Light.quiet (opFieldAddr rfl fieldA_73_2 rfl rfl)) ?_
            refine ASL.q (v := (.int .i64 a32.to_)) rfl rfl (Light.quiet (kAt hS (j := 1) rfl rfl aggA_3 rfl rfl)) ?_
            obtain ⟨a57, ha57, hF⟩ := bindE hF
            refine ASL.q (v := (ptrTo w5 a32.to_.toNat 1)) rfl rfl (Light.quiet (kIxOx hS (j := 0) rfl ha57 rfl rfl rfl elemA_26 sizeA_3)) ?_
            refine ASL.q (v := (.int .i64 a57)) rfl rfl (Light.quiet (kLd (f := (AV.int .i64)) hS (j := 0) rfl ha57 rfl aggA_3 rfl (fun _ => rfl))) ?_
            refine ASL.q (v := (.bool (decide (a57 < 0)))) rfl rfl (Light.quiet (opInt rfl rfl rfl rfl)) ?_
            obtain ⟨c60, hc60, hF⟩ := bndE hF
            refine ASL.q (v := (.bool c60)) rfl rfl ((Quiet.cast (Light.quiet (opMove rfl rfl)) (congrArg AV.bool hc60.symm))) ?_
            refine ASL.g (v := (.int .i64 x11_3)) (.bool c60) false rfl (wF _) rfl (fun hG => by have q0 := gN hG; subst q0; exact Light.quiet (opMove rfl rfl)) ?_
            refine ASL.g (v := w5) (.bool c60) false rfl (wF _) rfl (fun hG => by have q0 := gN hG; subst q0; exact Light.quiet (opMove rfl rfl)) ?_
            refine ASL.g (v := (.ptr b10 2)) (.bool c60) false rfl (wF _) rfl (fun hG => by have q0 := gN hG; subst q0; exact Light.quiet (opFieldAddr rfl fieldA_73_2 rfl rfl)) ?_
            refine ASL.g (v := (.int .i64 a32.to_)) (.bool c60) false rfl (wF _) rfl (fun hG => by have q0 := gN hG; subst q0; exact Light.quiet (kAt hS (j := 1) rfl rfl aggA_3 rfl rfl)) ?_
            obtain ⟨a65, ha65, hF⟩ := bindE hF
            refine ASL.g (v := (ptrTo w5 a32.to_.toNat 1)) (.bool c60) false rfl (wF _) rfl (fun hG => by have q0 := gN hG; subst q0; exact Light.quiet (kIxOx hS (j := 0) rfl (whenE ha65) rfl rfl rfl elemA_26 sizeA_3)) ?_
            refine ASL.g (v := (.int .i64 a65)) (.bool c60) false rfl (wF _) rfl (fun hG => by have q0 := gN hG; subst q0; exact Light.quiet (kLd (f := (AV.int .i64)) hS (j := 0) rfl (whenE ha65) rfl aggA_3 rfl (fun _ => rfl))) ?_
            refine ASL.g (v := (.bool (decide (x11_3 < a65)))) (.bool c60) false rfl (wF _) rfl (fun hG => by have q0 := gN hG; subst q0; exact Light.quiet (opInt rfl rfl rfl rfl)) ?_
            refine ASL.q (v := (.bool (c60 || (decide (x11_3 < a65))))) rfl rfl (Light.quiet (opPick (b := c60) rfl rfl (by cases c60 <;> rfl))) ?_
            refine ASL.done ?_
            refine AWP.ifB hF rfl (fun hc21 hF => ?_) (fun hc21 hF => ?_)
            · skip
              refine AWP.lastR rfl ?_
              refine ASL.q (v := w5) rfl rfl (Light.quiet (opMove rfl rfl)) ?_
              refine ASL.q (v := (.ptr b10 2)) rfl rfl (Light.quiet (opFieldAddr rfl fieldA_73_2 rfl rfl)) ?_
              refine ASL.q (v := (.int .i64 a32.to_)) rfl rfl (Light.quiet (kAt hS (j := 1) rfl rfl aggA_3 rfl rfl)) ?_
              refine ASL.q (v := (.int .i64 x11_3)) rfl rfl (Light.quiet (opMove rfl rfl)) ?_
              obtain ⟨m73, hm73, hF⟩ := bindE hF
              refine ASL.q (v := (ptrTo w5 m73 1)) rfl rfl (Light.quiet (kIxO hS (j := 0) rfl hm73 rfl rfl rfl elemA_26 sizeA_3)) ?_
              refine ASL.n rfl rfl (hSt (f := (AV.int .i64)) (a := x11_3) hS (j := 0) rfl hm73 rfl sizeA_3 rfl rfl ⟨rfl, rfl, rfl⟩ ?_); rintro G22 hS
              refine ASL.done ?_
              refine QBlock.nrm ?_
              refine QThen.nrm ?_
              refine AWP.lastR rfl ?_
              refine ASL.q (v := (.int .i64 x9_l0)) rfl rfl (Light.quiet (opMove rfl rfl)) ?_
              refine ASL.q (v := (.int .i64 (W (x9_l0 + 1)))) rfl rfl (Light.quiet (opInt rfl rfl rfl rfl)) ?_
              refine ASL.q (v := (.int .i64 (W (x9_l0 + 1)))) rfl rfl (Light.quiet (opAssign rfl rfl)) ?_
              refine ASL.done ?_
              refine QThen.nrm ?_
              exact ⟨((y9.set m73 x11_3), (W (x9_l0 + 1))), (), (someE hF).symm, ⟨rfl, rfl, rfl, rfl, rfl, trivial⟩, (hS.pick [0] rfl rfl)⟩
            · skip
              refine AWP.skip ?_
              refine QBlock.nrm ?_
              refine QThen.nrm ?_
              refine AWP.lastR rfl ?_
              refine ASL.q (v := (.int .i64 x9_l0)) rfl rfl (Light.quiet (opMove rfl rfl)) ?_
              refine ASL.q (v := (.int .i64 (W (x9_l0 + 1)))) rfl rfl (Light.quiet (opInt rfl rfl rfl rfl)) ?_
              refine ASL.q (v := (.int .i64 (W (x9_l0 + 1)))) rfl rfl (Light.quiet (opAssign rfl rfl)) ?_
              refine ASL.done ?_
              refine QThen.nrm ?_
              exact ⟨(y9, (W (x9_l0 + 1))), (), (someE hF).symm, ⟨rfl, rfl, rfl, rfl, rfl, trivial⟩, (hS.pick [0] rfl rfl)⟩
          · skip
            refine AWP.seqR rfl ?_
            refine ASL.q (v := (.ptr b10 3)) rfl rfl (Light.quiet (opFieldAddr rfl fieldA_73_3 rfl rfl)) ?_
            refine ASL.q (v := (.bool a32.good)) rfl rfl (Light.quiet (kAt hS (j := 0) rfl rfl aggA_4 rfl rfl)) ?_
            refine ASL.done ?_
            refine AWP.ifB hF rfl (fun hc24 hF => ?_) (fun hc24 hF => ?_)
            · skip
              refine AWP.lastR rfl ?_
              refine ASL.q (v := (.int .i64 a38)) rfl rfl (Light.quiet (opMove rfl rfl)) ?_
              refine ASL.q (v := (.int .i64 a38)) rfl rfl (Light.quiet (opMove rfl rfl)) ?_
              refine ASL.q (v := (.int .i64 (Int.tmod a38 2))) rfl rfl (Light.quiet (opRem rfl rfl rfl (by decide) rfl)) ?_
              refine ASL.q (v := (.int .i64 (W (a38 - ((Int.tmod a38 2)))))) rfl rfl (Light.quiet (opInt rfl rfl rfl rfl)) ?_
              refine ASL.q (v := (.int .i64 (W (a38 - ((Int.tmod a38 2)))))) rfl rfl (Light.quiet (opAssign rfl rfl)) ?_
              refine ASL.done ?_
              refine QThen.nrm ?_
              exact ⟨(W (a38 - ((Int.tmod a38 2)))), ⟨rfl, rfl, rfl, rfl, rfl, rfl, rfl, trivial⟩, (hS.pick [1, 0] rfl rfl), hF⟩
            · skip
              refine AWP.skip ?_
              refine QThen.nrm ?_
              exact ⟨a38, ⟨rfl, rfl, rfl, rfl, rfl, rfl, rfl, trivial⟩, (hS.pick [1, 0] rfl rfl), hF⟩
      · skip
        refine AWP.exit ?_
        refine QThen.ext ?_
        refine QThen.ext ?_
        refine QBlock.hit ?_
        obtain rfl := (hx11 _ (someE hF).symm)
        have hF := hR14
        refine QThen.nrm ?_
        exact ⟨y9, ⟨rfl, trivial⟩, (hS.pick [0] rfl rfl), hF⟩
  · skip
    refine AWP.seqR rfl ?_
    refine ASL.q (v := (.int .i64 0)) rfl rfl (Light.quiet (opAssign rfl rfl)) ?_
    refine ASL.done ?_
    refine AWP.block ?_
    obtain ⟨o32, hL31, hR33⟩ := bindE hF
    refine AWP.loopF (ω := AV) hL31 (fun s w => [(2, (.int .i64 p2)), (3, (.rptr [(.int .i64 p0.letters), (.int .i64 p0.states), (.int .i64 p0.start), (.list 4 (List.map TEdge.av p0.edges))])), (4, (.rptr [(.list 1 (List.map (AV.int .i64) p1.ranks)), (.int .i64 p1.owing)])), (7, w), (8, (.int .i64 s.2))]) (fun s w => [.row 1 w (List.map (AV.int .i64) s.1)]) v12 ⟨rfl, rfl, rfl, rfl, rfl, trivial⟩ (hS.pick [0] rfl rfl) ?_
    rintro ⟨y26, x8_l1⟩ w27 G34 hS x29 hF hx30
    try dsimp only at hS ⊢
    have hF : spec_l13Bounds.b1 p0 y26 x8_l1 = some x29 := hF; unfold spec_l13Bounds.b1 at hF
    refine AWP.seq ?_
    refine AWP.seqR rfl ?_
    refine ASL.q (v := (.int .i64 x8_l1)) rfl rfl (Light.quiet (opMove rfl rfl)) ?_
    refine ASL.q (v := (.rptr [(.int .i64 p0.states), (.int .i64 p0.start), (.list 4 (List.map TEdge.av p0.edges))])) rfl rfl (Light.quiet (opFieldAddrR rfl fieldA_33_1 rfl rfl)) ?_
    refine ASL.q (v := (.int .i64 p0.states)) rfl rfl (Light.quiet (opLoadR rfl aggA_3 rfl rfl)) ?_
    refine ASL.q (v := (.bool (decide (x8_l1 < p0.states)))) rfl rfl (Light.quiet (opInt rfl rfl rfl rfl)) ?_
    refine ASL.done ?_
    refine AWP.ifP hF rfl (fun hc35 hF => ?_) (fun hc35 hF => ?_)
    · skip
      refine AWP.skip ?_
      refine QThen.nrm ?_
      refine AWP.seq ?_
      refine AWP.block ?_
      refine AWP.lastR rfl ?_
      refine ASL.q (v := w27) rfl rfl (Light.quiet (opMove rfl rfl)) ?_
      refine ASL.q (v := (.list 1 (List.map (AV.int .i64) [(-1)]))) rfl rfl ((qLit (xs := [(.int .i64 (-1))]) rfl elemA_26 sizeA_3 zeroA_3 rfl rfl rfl rfl (by simp [cells]) (nlt rfl))) ?_
      obtain ⟨z21, hz21, hF⟩ := bindE hF
      refine ASL.x rfl rfl (hApp (f := (AV.int .i64)) (ws := [(-1)]) hS (j := 0) rfl hz21 rfl elemA_26 rfl sizeA_3 bytesA_3 zeroA_3 rfl rfl rfl (fun _ => rfl) ?_); rintro v21 G36 hS
      refine ASL.q (v := v21) rfl rfl (Light.quiet (opAssign rfl rfl)) ?_
      refine ASL.done ?_
      refine QBlock.nrm ?_
      refine QThen.nrm ?_
      refine AWP.lastR rfl ?_
      refine ASL.q (v := (.int .i64 x8_l1)) rfl rfl (Light.quiet (opMove rfl rfl)) ?_
      refine ASL.q (v := (.int .i64 (W (x8_l1 + 1)))) rfl rfl (Light.quiet (opInt rfl rfl rfl rfl)) ?_
      refine ASL.q (v := (.int .i64 (W (x8_l1 + 1)))) rfl rfl (Light.quiet (opAssign rfl rfl)) ?_
      refine ASL.done ?_
      refine QThen.nrm ?_
      exact ⟨(z21, (W (x8_l1 + 1))), v21, (someE hF).symm, ⟨rfl, rfl, rfl, rfl, rfl, trivial⟩, (hS.pick [0] rfl rfl)⟩
    · skip
      refine AWP.exit ?_
      refine QThen.ext ?_
      refine QThen.ext ?_
      refine QBlock.hit ?_
      obtain rfl := (hx30 _ (someE hF).symm)
      have hF := hR33
      refine QThen.nrm ?_
      exact ⟨y26, w27, ⟨rfl, rfl, rfl, rfl, trivial⟩, (hS.pick [0] rfl rfl), hF⟩

set_option maxRecDepth 10000 in
theorem spec_l1Min_ok (p0 : Int) (p1 : Int) : PC Try.prog 67 [(.int .i64 p0), (.int .i64 p1)] fun v => v = (.int .i64 (spec_l1Min p0 p1)) := by
  generalize hF : spec_l1Min p0 p1 = r
  refine PC.enter Try.func67 rfl Try.ntmps67 (by simp) ?_
  have hS := Sep.void; unfold spec_l1Min at hF
  refine AWP.seqR rfl ?_
  refine ASL.q (v := (.int .i64 0)) rfl rfl (Light.quiet (opAssign rfl rfl)) ?_
  refine ASL.done ?_
  refine AWP.seq ?_
  refine AWP.seqR rfl ?_
  refine ASL.q (v := (.int .i64 p0)) rfl rfl (Light.quiet (opMove rfl rfl)) ?_
  refine ASL.q (v := (.int .i64 p1)) rfl rfl (Light.quiet (opMove rfl rfl)) ?_
  refine ASL.q (v := (.bool (decide (p0 < p1)))) rfl rfl (Light.quiet (opInt rfl rfl rfl rfl)) ?_
  refine ASL.done ?_
  refine AWP.ifP hF rfl (fun hc1 hF => ?_) (fun hc1 hF => ?_)
  · skip
    refine AWP.seqR rfl ?_
    refine ASL.q (v := (.int .i64 p0)) rfl rfl (Light.quiet (opMove rfl rfl)) ?_
    refine ASL.q (v := (.int .i64 p0)) rfl rfl (Light.quiet (opAssign rfl rfl)) ?_
    refine ASL.done ?_
    refine AWP.ret ?_
    refine QThen.rt ?_
    obtain rfl := hF
    exact QRet.sole (v := (.int .i64 p0)) ⟨rfl, trivial⟩ rfl
  · skip
    refine AWP.skip ?_
    refine QThen.nrm ?_
    refine AWP.seqR rfl ?_
    refine ASL.q (v := (.int .i64 p1)) rfl rfl (Light.quiet (opMove rfl rfl)) ?_
    refine ASL.q (v := (.int .i64 p1)) rfl rfl (Light.quiet (opAssign rfl rfl)) ?_
    refine ASL.done ?_
    refine AWP.ret ?_
    obtain rfl := hF
    exact QRet.sole (v := (.int .i64 p1)) ⟨rfl, trivial⟩ rfl

set_option maxRecDepth 10000 in
theorem spec_l4Next_ok {p0 : TAuto} {p1 : Int} {p2 : Int} {r : Int} (hF : spec_l4Next p0 p1 p2 = some r) : PC Try.prog 68 [(TAuto.av p0), (.int .i64 p1), (.int .i64 p2)] fun v => v = (.int .i64 r) := by
  refine PC.enter Try.func68 rfl Try.ntmps68 (by simp) ?_
  have hS := Sep.void; unfold spec_l4Next at hF
  refine AWP.seqR rfl ?_
  refine ASL.q (v := (.rptr [(.int .i64 p0.letters), (.int .i64 p0.states), (.int .i64 p0.start), (.list 4 (List.map TEdge.av p0.edges))])) rfl rfl ((qBoxI (v := (TAuto.av p0)) rfl rfl rfl rfl)) ?_
  refine ASL.q (v := (.int .i64 0)) rfl rfl (Light.quiet (opAssign rfl rfl)) ?_
  refine ASL.done ?_
  refine AWP.seqR rfl ?_
  refine ASL.q (v := (.int .i64 0)) rfl rfl (Light.quiet (opAssign rfl rfl)) ?_
  refine ASL.done ?_
  refine AWP.seqM (fun e H => ∃ x7_1 : Int, E.Told e [(7, (.int .i64 x7_1))] ∧ E.Sep H [] ∧ spec_l4Next.k0 x7_1 = some r) ?_ ?_
  · rintro e0 G1 ⟨x7_1, hT, hS, hF⟩; refine AWP.only _ hT ?_; unfold spec_l4Next.k0 at hF
    refine AWP.seqR rfl ?_
    refine ASL.q (v := (.int .i64 x7_1)) rfl rfl (Light.quiet (opMove rfl rfl)) ?_
    refine ASL.q (v := (.int .i64 x7_1)) rfl rfl (Light.quiet (opAssign rfl rfl)) ?_
    refine ASL.done ?_
    refine AWP.ret ?_
    obtain rfl := someE hF
    exact QRet.sole (v := (.int .i64 x7_1)) ⟨rfl, trivial⟩ rfl
  · skip
    refine AWP.seqR rfl ?_
    refine ASL.q (v := (.int .i64 0)) rfl rfl (Light.quiet (opAssign rfl rfl)) ?_
    refine ASL.done ?_
    refine AWP.block ?_
    obtain ⟨o5, hL4, hR6⟩ := bindE hF
    refine AWP.loopF (ω := Unit) hL4 (fun s w => [(1, (.int .i64 p1)), (2, (.int .i64 p2)), (3, (.rptr [(.int .i64 p0.letters), (.int .i64 p0.states), (.int .i64 p0.start), (.list 4 (List.map TEdge.av p0.edges))])), (7, (.int .i64 s.1)), (8, (.int .i64 s.2))]) (fun s w => []) () ⟨rfl, rfl, rfl, rfl, rfl, trivial⟩ (hS.pick [] rfl rfl) ?_
    rintro ⟨x7_l0, x8_l0⟩ _ G7 hS x2 hF hx3
    try dsimp only at hS ⊢
    have hF : spec_l4Next.b0 p0 p2 p1 x7_l0 x8_l0 = some x2 := hF; unfold spec_l4Next.b0 at hF
    refine AWP.seq ?_
    refine AWP.seqR rfl ?_
    refine ASL.q (v := (.int .i64 x8_l0)) rfl rfl (Light.quiet (opMove rfl rfl)) ?_
    refine ASL.q (v := (.rptr [(.list 4 (List.map TEdge.av p0.edges))])) rfl rfl (Light.quiet (opFieldAddrR rfl fieldA_33_3 rfl rfl)) ?_
    refine ASL.q (v := (.list 4 (List.map TEdge.av p0.edges))) rfl rfl (Light.quiet (opLoadR rfl aggA_31 rfl rfl)) ?_
    refine ASL.q (v := (.int .i64 (p0.edges.length : Int))) rfl rfl (Light.quiet (opLenMap (f := TEdge.av) rfl rfl rfl lenT_31 rfl)) ?_
    refine ASL.q (v := (.bool (decide (x8_l0 < ((p0.edges.length : Int)))))) rfl rfl (Light.quiet (opInt rfl rfl rfl rfl)) ?_
    refine ASL.done ?_
    refine AWP.ifP hF rfl (fun hc8 hF => ?_) (fun hc8 hF => ?_)
    · skip
      refine AWP.skip ?_
      refine QThen.nrm ?_
      refine AWP.seq ?_
      refine AWP.block ?_
      refine AWP.seqR rfl ?_
      refine ASL.q (v := (.rptr [(.list 4 (List.map TEdge.av p0.edges))])) rfl rfl (Light.quiet (opFieldAddrR rfl fieldA_33_3 rfl rfl)) ?_
      refine ASL.q (v := (.list 4 (List.map TEdge.av p0.edges))) rfl rfl (Light.quiet (opLoadR rfl aggA_31 rfl rfl)) ?_
      refine ASL.q (v := (.int .i64 x8_l0)) rfl rfl (Light.quiet (opMove rfl rfl)) ?_
      obtain ⟨a20, ha20, hF⟩ := bindE hF
      refine ASL.q (v := (.rptr [(.int .i64 a20.from_), (.int .i64 a20.letter), (.int .i64 a20.to_), (.bool a20.good)])) rfl rfl (Light.quiet (kIx (f := TEdge.av) ha20 rfl rfl rfl elemA_31 sizeA_73 rfl)) ?_
      refine ASL.q (v := (TEdge.av a20)) rfl rfl (Light.quiet (opLoadRA rfl aggA_73 sizeA_73 rfl (nlt rfl) rfl)) ?_
      refine ASL.x rfl rfl (hNewZ hS [(.int .i64 0), (.int .i64 0), (.int .i64 0), (.bool false)] rfl zeroA_73 ⟨.inl rfl, .inl rfl, .inl rfl, .inl rfl, trivial⟩ ?_); rintro b9 G9 hK hS
      refine ASL.n rfl rfl (hPutA hS (j := 0) rfl rfl sizeA_73 rfl rfl rfl rfl rfl (nlt rfl) ?_); rintro G11 hS
      refine ASL.done ?_
      refine AWP.seqR rfl ?_
      refine ASL.q (v := (.ptr b9 1)) rfl rfl (Light.quiet (opFieldAddr rfl fieldA_73_1 rfl rfl)) ?_
      refine ASL.q (v := (.int .i64 a20.letter)) rfl rfl (Light.quiet (kAt hS (j := 0) rfl rfl aggA_3 rfl rfl)) ?_
      refine ASL.q (v := (.int .i64 p2)) rfl rfl (Light.quiet (opMove rfl rfl)) ?_
      refine ASL.q (v := (.bool (decide (a20.letter = p2)))) rfl rfl (Light.quiet (opInt rfl rfl rfl rfl)) ?_
      obtain ⟨c26, hc26, hF⟩ := bndE hF
      refine ASL.q (v := (.bool c26)) rfl rfl ((Quiet.cast (Light.quiet (opMove rfl rfl)) (congrArg AV.bool hc26.symm))) ?_
      refine ASL.g (v := (.int .i64 p1)) (.bool c26) true rfl (wT _) rfl (fun hG => by have q0 := hG; subst q0; exact Light.quiet (opMove rfl rfl)) ?_
      refine ASL.g (v := (.ptr b9 0)) (.bool c26) true rfl (wT _) rfl (fun hG => by have q0 := hG; subst q0; exact Light.quiet (opFieldAddr rfl fieldA_73_0 rfl rfl)) ?_
      refine ASL.g (v := (.int .i64 a20.from_)) (.bool c26) true rfl (wT _) rfl (fun hG => by have q0 := hG; subst q0; exact Light.quiet (kAt hS (j := 0) rfl rfl aggA_3 rfl rfl)) ?_
      obtain ⟨a30, ha30, hF⟩ := bindE hF
      refine ASL.g (v := (.bool a30)) (.bool c26) true rfl (wT _) rfl (fun hG => by have q0 := hG; subst q0; exact (qCall rfl rfl call_30 (spec_l1Has_ok (whenE ha30)) rfl)) ?_
      refine ASL.q (v := (.bool (c26 && a30))) rfl rfl (Light.quiet (opPick (b := c26) rfl rfl (by cases c26 <;> rfl))) ?_
      refine ASL.done ?_
      refine AWP.ifB hF rfl (fun hc12 hF => ?_) (fun hc12 hF => ?_)
      · skip
        refine AWP.lastR rfl ?_
        refine ASL.q (v := (.int .i64 x7_l0)) rfl rfl (Light.quiet (opMove rfl rfl)) ?_
        refine ASL.q (v := (.ptr b9 2)) rfl rfl (Light.quiet (opFieldAddr rfl fieldA_73_2 rfl rfl)) ?_
        refine ASL.q (v := (.int .i64 a20.to_)) rfl rfl (Light.quiet (kAt hS (j := 0) rfl rfl aggA_3 rfl rfl)) ?_
        obtain ⟨a35, ha35, hF⟩ := bindE hF
        refine ASL.q (v := (.int .i64 a35)) rfl rfl ((qCall rfl rfl call_54 (spec_l1Bit_ok ha35) rfl)) ?_
        refine ASL.q (v := (.int .i64 (bOr .i64 x7_l0 a35))) rfl rfl (Light.quiet (opInt rfl rfl rfl rfl)) ?_
        refine ASL.q (v := (.int .i64 (bOr .i64 x7_l0 a35))) rfl rfl (Light.quiet (opAssign rfl rfl)) ?_
        refine ASL.done ?_
        refine QBlock.nrm ?_
        refine QThen.nrm ?_
        refine AWP.lastR rfl ?_
        refine ASL.q (v := (.int .i64 x8_l0)) rfl rfl (Light.quiet (opMove rfl rfl)) ?_
        refine ASL.q (v := (.int .i64 (W (x8_l0 + 1)))) rfl rfl (Light.quiet (opInt rfl rfl rfl rfl)) ?_
        refine ASL.q (v := (.int .i64 (W (x8_l0 + 1)))) rfl rfl (Light.quiet (opAssign rfl rfl)) ?_
        refine ASL.done ?_
        refine QThen.nrm ?_
        exact ⟨((bOr .i64 x7_l0 a35), (W (x8_l0 + 1))), (), (someE hF).symm, ⟨rfl, rfl, rfl, rfl, rfl, trivial⟩, (hS.pick [] rfl rfl)⟩
      · skip
        refine AWP.skip ?_
        refine QBlock.nrm ?_
        refine QThen.nrm ?_
        refine AWP.lastR rfl ?_
        refine ASL.q (v := (.int .i64 x8_l0)) rfl rfl (Light.quiet (opMove rfl rfl)) ?_
        refine ASL.q (v := (.int .i64 (W (x8_l0 + 1)))) rfl rfl (Light.quiet (opInt rfl rfl rfl rfl)) ?_
        refine ASL.q (v := (.int .i64 (W (x8_l0 + 1)))) rfl rfl (Light.quiet (opAssign rfl rfl)) ?_
        refine ASL.done ?_
        refine QThen.nrm ?_
        exact ⟨(x7_l0, (W (x8_l0 + 1))), (), (someE hF).symm, ⟨rfl, rfl, rfl, rfl, rfl, trivial⟩, (hS.pick [] rfl rfl)⟩
    · skip
      refine AWP.exit ?_
      refine QThen.ext ?_
      refine QThen.ext ?_
      refine QBlock.hit ?_
      obtain rfl := (hx3 _ (someE hF).symm)
      have hF := hR6
      refine QThen.nrm ?_
      exact ⟨x7_l0, ⟨rfl, trivial⟩, (hS.pick [] rfl rfl), hF⟩

set_option maxRecDepth 10000 in
theorem spec_l13Next_ok {p0 : TAuto} {p1 : TRankState} {p2 : Int} {r : (List TRankState)} (hF : spec_l13Next p0 p1 p2 = some r) : PO Try.prog 46 [(TAuto.av p0), (TRankState.av p1), (.int .i64 p2)] 2 (List.map TRankState.av r) := by
  refine HC.enter Try.func46 rfl Try.ntmps46 (by simp) ?_
  have hS := Sep.void; unfold spec_l13Next at hF
  refine AWP.seqR rfl ?_
  refine ASL.q (v := (.rptr [(.int .i64 p0.letters), (.int .i64 p0.states), (.int .i64 p0.start), (.list 4 (List.map TEdge.av p0.edges))])) rfl rfl ((qBoxI (v := (TAuto.av p0)) rfl rfl rfl rfl)) ?_
  refine ASL.q (v := (.rptr [(.list 1 (List.map (AV.int .i64) p1.ranks)), (.int .i64 p1.owing)])) rfl rfl ((qBoxI (v := (TRankState.av p1)) rfl rfl rfl rfl)) ?_
  have hS := hNil (s := 2) (f := TRankState.av) hS
  refine ASL.q (v := .nil) rfl rfl (Light.quiet (opAssign rfl rfl)) ?_
  refine ASL.done ?_
  refine AWP.seqR rfl ?_
  refine ASL.q (v := (TAuto.av p0)) rfl rfl (Light.quiet (opLoadRA rfl aggA_33 sizeA_33 rfl (nlt rfl) rfl)) ?_
  refine ASL.q (v := (TRankState.av p1)) rfl rfl (Light.quiet (opLoadRA rfl aggA_28 sizeA_28 rfl (nlt rfl) rfl)) ?_
  refine ASL.q (v := (.int .i64 p2)) rfl rfl (Light.quiet (opMove rfl rfl)) ?_
  obtain ⟨a21, ha21, hF⟩ := bindE hF
  refine ASL.q (v := (.list 1 (List.map (AV.int .i64) a21))) rfl rfl ((qCall rfl rfl call_66 (PO.list (spec_l13Bounds_ok ha21)) rfl)) ?_
  refine ASL.q (v := (.list 1 (List.map (AV.int .i64) a21))) rfl rfl (Light.quiet (opAssign rfl rfl)) ?_
  refine ASL.done ?_
  refine AWP.seqR rfl ?_
  refine ASL.q (v := (.list 1 (List.map (AV.int .i64) []))) rfl rfl ((qLit (xs := []) rfl elemA_26 sizeA_3 zeroA_3 rfl rfl rfl rfl (by simp [cells]) (nlt rfl))) ?_
  refine ASL.q (v := (.list 1 (List.map (fun xs : (List Int) => AV.list 1 (List.map (AV.int .i64) xs)) [[]]))) rfl rfl ((qLit (xs := [(.list 1 (List.map (AV.int .i64) []))]) rfl elemA_85 sizeA_26 zeroA_26 rfl rfl rfl rfl (by simp [cells]) (nlt rfl))) ?_
  refine ASL.q (v := (.list 1 (List.map (fun xs : (List Int) => AV.list 1 (List.map (AV.int .i64) xs)) [[]]))) rfl rfl (Light.quiet (opAssign rfl rfl)) ?_
  refine ASL.done ?_
  refine AWP.seqM (fun e H => ∃ x8_1 : (List (List Int)), E.Told e [(2, (.int .i64 p2)), (3, (.rptr [(.int .i64 p0.letters), (.int .i64 p0.states), (.int .i64 p0.start), (.list 4 (List.map TEdge.av p0.edges))])), (4, (.rptr [(.list 1 (List.map (AV.int .i64) p1.ranks)), (.int .i64 p1.owing)])), (8, (.list 1 (List.map (fun xs : (List Int) => AV.list 1 (List.map (AV.int .i64) xs)) x8_1)))] ∧ E.Sep H [] ∧ spec_l13Next.k0 p0 p1 p2 x8_1 = some r) ?_ ?_
  · rintro e0 G36 ⟨x8_1, hT, hS, hF⟩; refine AWP.only _ hT ?_; unfold spec_l13Next.k0 at hF
    refine AWP.seqR rfl ?_
    refine ASL.q (v := (.rptr [(.int .i64 p0.states), (.int .i64 p0.start), (.list 4 (List.map TEdge.av p0.edges))])) rfl rfl (Light.quiet (opFieldAddrR rfl fieldA_33_1 rfl rfl)) ?_
    refine ASL.q (v := (.int .i64 p0.states)) rfl rfl (Light.quiet (opLoadR rfl aggA_3 rfl rfl)) ?_
    obtain ⟨u2, hu2, hF⟩ := bindE hF
    refine ASL.q (v := (.int .i64 (shl .i64 1 p0.states))) rfl rfl (Light.quiet (opShl rfl rfl rfl (of_decide_eq_true (chkE hu2)) rfl)) ?_
    refine ASL.q (v := (.int .i64 (W (((shl .i64 1 p0.states)) - 1)))) rfl rfl (Light.quiet (opInt rfl rfl rfl rfl)) ?_
    refine ASL.q (v := (.int .i64 (W (((shl .i64 1 p0.states)) - 1)))) rfl rfl (Light.quiet (opAssign rfl rfl)) ?_
    refine ASL.done ?_
    refine AWP.seqM (fun e H => ∃ x13_2 : Int, E.Told e [(3, (.rptr [(.int .i64 p0.letters), (.int .i64 p0.states), (.int .i64 p0.start), (.list 4 (List.map TEdge.av p0.edges))])), (8, (.list 1 (List.map (fun xs : (List Int) => AV.list 1 (List.map (AV.int .i64) xs)) x8_1))), (13, (.int .i64 x13_2))] ∧ E.Sep H [] ∧ spec_l13Next.k1 x8_1 p0 x13_2 = some r) ?_ ?_
    · rintro e0 G34 ⟨x13_2, hT, hS, hF⟩; refine AWP.only _ hT ?_; unfold spec_l13Next.k1 at hF
      refine AWP.seqR rfl ?_
      refine ASL.x rfl rfl (hLit (f := TRankState.av) (zs := []) hS rfl rfl elemA_44 sizeA_28 zeroA_28 rfl rfl rfl rfl (by simp [cells, TRankState.av]) (nlt rfl) ?_); rintro v75 G3 hK hS
      refine ASL.q (v := v75) rfl rfl (Light.quiet (opAssign rfl rfl)) ?_
      refine ASL.done ?_
      refine AWP.seqM (fun e H => ∃ y5 : (List TRankState), ∃ w6 : AV, E.Told e [(14, w6)] ∧ E.Sep H [.row 2 w6 (List.map TRankState.av y5)] ∧ spec_l13Next.k2 y5 = some r) ?_ ?_
      · rintro e0 G8 ⟨y5, w6, hT, hS, hF⟩; refine AWP.only _ hT ?_; unfold spec_l13Next.k2 at hF
        refine AWP.seqR rfl ?_
        refine ASL.q (v := w6) rfl rfl (Light.quiet (opMove rfl rfl)) ?_
        refine ASL.q (v := w6) rfl rfl (Light.quiet (opAssign rfl rfl)) ?_
        refine ASL.done ?_
        refine AWP.ret ?_
        obtain rfl := someE hF
        exact QRet.sole (v := w6) ⟨rfl, trivial⟩ (hS.get (k := 0) rfl)
      · skip
        refine AWP.seqR rfl ?_
        refine ASL.q (v := (.int .i64 0)) rfl rfl (Light.quiet (opAssign rfl rfl)) ?_
        refine ASL.done ?_
        refine AWP.block ?_
        obtain ⟨o15, hL14, hR16⟩ := bindE hF
        refine AWP.loopF (ω := AV) hL14 (fun s w => [(3, (.rptr [(.int .i64 p0.letters), (.int .i64 p0.states), (.int .i64 p0.start), (.list 4 (List.map TEdge.av p0.edges))])), (8, (.list 1 (List.map (fun xs : (List Int) => AV.list 1 (List.map (AV.int .i64) xs)) x8_1))), (13, (.int .i64 x13_2)), (14, w), (15, (.int .i64 s.2))]) (fun s w => [.row 2 w (List.map TRankState.av s.1)]) v75 ⟨rfl, rfl, rfl, rfl, rfl, trivial⟩ (hS.pick [0] rfl rfl) ?_
        rintro ⟨y9, x15_l0⟩ w10 G17 hS x12 hF hx13
        try dsimp only at hS ⊢
        have hF : spec_l13Next.b0 x8_1 p0 x13_2 y9 x15_l0 = some x12 := hF; unfold spec_l13Next.b0 at hF
        refine AWP.seq ?_
        refine AWP.seqR rfl ?_
        refine ASL.q (v := (.int .i64 x15_l0)) rfl rfl (Light.quiet (opMove rfl rfl)) ?_
        refine ASL.q (v := (.list 1 (List.map (fun xs : (List Int) => AV.list 1 (List.map (AV.int .i64) xs)) x8_1))) rfl rfl (Light.quiet (opMove rfl rfl)) ?_
        refine ASL.q (v := (.int .i64 (x8_1.length : Int))) rfl rfl (Light.quiet (opLenMap (f := (fun xs : (List Int) => AV.list 1 (List.map (AV.int .i64) xs))) rfl rfl rfl lenT_85 rfl)) ?_
        refine ASL.q (v := (.bool (decide (x15_l0 < ((x8_1.length : Int)))))) rfl rfl (Light.quiet (opInt rfl rfl rfl rfl)) ?_
        refine ASL.done ?_
        refine AWP.ifP hF rfl (fun hc18 hF => ?_) (fun hc18 hF => ?_)
        · skip
          refine AWP.skip ?_
          refine QThen.nrm ?_
          refine AWP.seqM (fun e H => ∃ y19 : (List TRankState), ∃ w20 : AV, E.Told e [(3, (.rptr [(.int .i64 p0.letters), (.int .i64 p0.states), (.int .i64 p0.start), (.list 4 (List.map TEdge.av p0.edges))])), (8, (.list 1 (List.map (fun xs : (List Int) => AV.list 1 (List.map (AV.int .i64) xs)) x8_1))), (13, (.int .i64 x13_2)), (14, w20), (15, (.int .i64 x15_l0))] ∧ E.Sep H [.row 2 w20 (List.map TRankState.av y19)] ∧ spec_l13Next.k3 x15_l0 y19 = some x12) ?_ ?_
          · rintro e0 G22 ⟨y19, w20, hT, hS, hF⟩; refine AWP.only _ hT ?_; unfold spec_l13Next.k3 at hF
            refine AWP.lastR rfl ?_
            refine ASL.q (v := (.int .i64 x15_l0)) rfl rfl (Light.quiet (opMove rfl rfl)) ?_
            refine ASL.q (v := (.int .i64 (W (x15_l0 + 1)))) rfl rfl (Light.quiet (opInt rfl rfl rfl rfl)) ?_
            refine ASL.q (v := (.int .i64 (W (x15_l0 + 1)))) rfl rfl (Light.quiet (opAssign rfl rfl)) ?_
            refine ASL.done ?_
            refine QThen.nrm ?_
            exact ⟨(y19, (W (x15_l0 + 1))), w20, (someE hF).symm, ⟨rfl, rfl, rfl, rfl, rfl, trivial⟩, (hS.pick [0] rfl rfl)⟩
          · skip
            refine AWP.block ?_
            refine AWP.seqR rfl ?_
            refine ASL.q (v := (.int .i64 0)) rfl rfl (Light.quiet (opAssign rfl rfl)) ?_
            refine ASL.done ?_
            refine AWP.seqM (fun e H => ∃ x16_5 : Int, E.Told e [(3, (.rptr [(.int .i64 p0.letters), (.int .i64 p0.states), (.int .i64 p0.start), (.list 4 (List.map TEdge.av p0.edges))])), (8, (.list 1 (List.map (fun xs : (List Int) => AV.list 1 (List.map (AV.int .i64) xs)) x8_1))), (13, (.int .i64 x13_2)), (14, w10), (15, (.int .i64 x15_l0)), (16, (.int .i64 x16_5))] ∧ E.Sep H [.row 2 w10 (List.map TRankState.av y9)] ∧ spec_l13Next.k4 x8_1 x15_l0 y9 x16_5 = some x12) ?_ ?_
            · rintro e0 G25 ⟨x16_5, hT, hS, hF⟩; refine AWP.only _ hT ?_; unfold spec_l13Next.k4 at hF
              refine AWP.lastR rfl ?_
              refine ASL.q (v := w10) rfl rfl (Light.quiet (opMove rfl rfl)) ?_
              refine ASL.q (v := (.list 1 (List.map (fun xs : (List Int) => AV.list 1 (List.map (AV.int .i64) xs)) x8_1))) rfl rfl (Light.quiet (opMove rfl rfl)) ?_
              refine ASL.q (v := (.int .i64 x15_l0)) rfl rfl (Light.quiet (opMove rfl rfl)) ?_
              obtain ⟨a119, ha119, hF⟩ := bindE hF
              refine ASL.q (v := (.rptr [(.list 1 (List.map (AV.int .i64) a119))])) rfl rfl (Light.quiet (kIx (f := (fun xs : (List Int) => AV.list 1 (List.map (AV.int .i64) xs))) ha119 rfl rfl rfl elemA_85 sizeA_26 rfl)) ?_
              refine ASL.q (v := (.list 1 (List.map (AV.int .i64) a119))) rfl rfl (Light.quiet (opLoadR rfl aggA_26 rfl rfl)) ?_
              refine ASL.q (v := (.int .i64 x16_5)) rfl rfl (Light.quiet (opMove rfl rfl)) ?_
              refine ASL.q (v := (.agg [(.list 1 (List.map (AV.int .i64) a119)), (.int .i64 x16_5)])) rfl rfl (Light.quiet (opBuildZ (zs := [(.list 1 (List.map (AV.int .i64) [])), (.int .i64 0)]) rfl plan_28 zeroA_28 ⟨.inr ⟨_, rfl, rfl⟩, .inl rfl, trivial⟩ rfl)) ?_
              refine ASL.q (v := (.list 2 (List.map TRankState.av [(TRankState.mk a119 x16_5)]))) rfl rfl ((qLit (xs := [(.agg [(.list 1 (List.map (AV.int .i64) a119)), (.int .i64 x16_5)])]) rfl elemA_44 sizeA_28 zeroA_28 rfl rfl rfl rfl (by simp [cells, TRankState.av]) (nlt rfl))) ?_
              obtain ⟨z124, hz124, hF⟩ := bindE hF
              refine ASL.x rfl rfl (hApp (f := TRankState.av) (ws := [(TRankState.mk a119 x16_5)]) hS (j := 0) rfl hz124 rfl elemA_44 rfl sizeA_28 bytesA_28 zeroA_28 rfl rfl rfl (fun _ => rfl) ?_); rintro v124 G23 hS
              refine ASL.q (v := v124) rfl rfl (Light.quiet (opAssign rfl rfl)) ?_
              refine ASL.done ?_
              refine QBlock.nrm ?_
              refine QThen.nrm ?_
              exact ⟨z124, v124, ⟨rfl, rfl, rfl, rfl, rfl, trivial⟩, (hS.pick [0] rfl rfl), hF⟩
            · skip
              refine AWP.seqR rfl ?_
              refine ASL.q (v := (.int .i64 0)) rfl rfl (Light.quiet (opAssign rfl rfl)) ?_
              refine ASL.done ?_
              refine AWP.block ?_
              obtain ⟨o29, hL28, hR30⟩ := bindE hF
              refine AWP.loopF (ω := Unit) hL28 (fun s w => [(3, (.rptr [(.int .i64 p0.letters), (.int .i64 p0.states), (.int .i64 p0.start), (.list 4 (List.map TEdge.av p0.edges))])), (8, (.list 1 (List.map (fun xs : (List Int) => AV.list 1 (List.map (AV.int .i64) xs)) x8_1))), (13, (.int .i64 x13_2)), (14, w10), (15, (.int .i64 x15_l0)), (16, (.int .i64 s.1)), (17, (.int .i64 s.2))]) (fun s w => [.row 2 w10 (List.map TRankState.av y9)]) () ⟨rfl, rfl, rfl, rfl, rfl, rfl, rfl, trivial⟩ (hS.pick [0] rfl rfl) ?_
              rintro ⟨x16_l1, x17_l1⟩ _ G31 hS x26 hF hx27
              try dsimp only at hS ⊢
              have hF : spec_l13Next.b1 p0 x8_1 x15_l0 x13_2 x16_l1 x17_l1 = some x26 := hF; unfold spec_l13Next.b1 at hF
              refine AWP.seq ?_
              refine AWP.seqR rfl ?_
              refine ASL.q (v := (.int .i64 x17_l1)) rfl rfl (Light.quiet (opMove rfl rfl)) ?_
              refine ASL.q (v := (.rptr [(.int .i64 p0.states), (.int .i64 p0.start), (.list 4 (List.map TEdge.av p0.edges))])) rfl rfl (Light.quiet (opFieldAddrR rfl fieldA_33_1 rfl rfl)) ?_
              refine ASL.q (v := (.int .i64 p0.states)) rfl rfl (Light.quiet (opLoadR rfl aggA_3 rfl rfl)) ?_
              refine ASL.q (v := (.bool (decide (x17_l1 < p0.states)))) rfl rfl (Light.quiet (opInt rfl rfl rfl rfl)) ?_
              refine ASL.done ?_
              refine AWP.ifP hF rfl (fun hc32 hF => ?_) (fun hc32 hF => ?_)
              · skip
                refine AWP.skip ?_
                refine QThen.nrm ?_
                refine AWP.seq ?_
                refine AWP.block ?_
                refine AWP.seqR rfl ?_
                refine ASL.q (v := (.list 1 (List.map (fun xs : (List Int) => AV.list 1 (List.map (AV.int .i64) xs)) x8_1))) rfl rfl (Light.quiet (opMove rfl rfl)) ?_
                refine ASL.q (v := (.int .i64 x15_l0)) rfl rfl (Light.quiet (opMove rfl rfl)) ?_
                obtain ⟨a90, ha90, hF⟩ := bindE hF
                refine ASL.q (v := (.rptr [(.list 1 (List.map (AV.int .i64) a90))])) rfl rfl (Light.quiet (kIx (f := (fun xs : (List Int) => AV.list 1 (List.map (AV.int .i64) xs))) ha90 rfl rfl rfl elemA_85 sizeA_26 rfl)) ?_
                refine ASL.q (v := (.list 1 (List.map (AV.int .i64) a90))) rfl rfl (Light.quiet (opLoadR rfl aggA_26 rfl rfl)) ?_
                refine ASL.q (v := (.int .i64 x17_l1)) rfl rfl (Light.quiet (opMove rfl rfl)) ?_
                obtain ⟨a93, ha93, hF⟩ := bindE hF
                refine ASL.q (v := (.rptr [(.int .i64 a93)])) rfl rfl (Light.quiet (kIx (f := (AV.int .i64)) ha93 rfl rfl rfl elemA_26 sizeA_3 rfl)) ?_
                refine ASL.q (v := (.int .i64 a93)) rfl rfl (Light.quiet (opLoadR rfl aggA_3 rfl rfl)) ?_
                refine ASL.q (v := (.bool (decide (a93 ≥ 0)))) rfl rfl (Light.quiet (opInt rfl rfl rfl rfl)) ?_
                obtain ⟨c96, hc96, hF⟩ := bndE hF
                refine ASL.q (v := (.bool c96)) rfl rfl ((Quiet.cast (Light.quiet (opMove rfl rfl)) (congrArg AV.bool hc96.symm))) ?_
                refine ASL.g (v := (.list 1 (List.map (fun xs : (List Int) => AV.list 1 (List.map (AV.int .i64) xs)) x8_1))) (.bool c96) true rfl (wT _) rfl (fun hG => by have q0 := hG; subst q0; exact Light.quiet (opMove rfl rfl)) ?_
                refine ASL.g (v := (.int .i64 x15_l0)) (.bool c96) true rfl (wT _) rfl (fun hG => by have q0 := hG; subst q0; exact Light.quiet (opMove rfl rfl)) ?_
                obtain ⟨a99, ha99, hF⟩ := bindE hF
                refine ASL.g (v := (.rptr [(.list 1 (List.map (AV.int .i64) a99))])) (.bool c96) true rfl (wT _) rfl (fun hG => by have q0 := hG; subst q0; exact Light.quiet (kIx (f := (fun xs : (List Int) => AV.list 1 (List.map (AV.int .i64) xs))) (whenE ha99) rfl rfl rfl elemA_85 sizeA_26 rfl)) ?_
                refine ASL.g (v := (.list 1 (List.map (AV.int .i64) a99))) (.bool c96) true rfl (wT _) rfl (fun hG => by have q0 := hG; subst q0; exact Light.quiet (opLoadR rfl aggA_26 rfl rfl)) ?_
                refine ASL.g (v := (.int .i64 x17_l1)) (.bool c96) true rfl (wT _) rfl (fun hG => by have q0 := hG; subst q0; exact Light.quiet (opMove rfl rfl)) ?_
                obtain ⟨a102, ha102, hF⟩ := bindE hF
                refine ASL.g (v := (.rptr [(.int .i64 a102)])) (.bool c96) true rfl (wT _) rfl (fun hG => by have q0 := hG; subst q0; exact Light.quiet (kIx (f := (AV.int .i64)) (whenE ha102) rfl rfl rfl elemA_26 sizeA_3 rfl)) ?_
                refine ASL.g (v := (.int .i64 a102)) (.bool c96) true rfl (wT _) rfl (fun hG => by have q0 := hG; subst q0; exact Light.quiet (opLoadR rfl aggA_3 rfl rfl)) ?_
                refine ASL.g (v := (.int .i64 (Int.tmod a102 2))) (.bool c96) true rfl (wT _) rfl (fun hG => by have q0 := hG; subst q0; exact Light.quiet (opRem rfl rfl rfl (by decide) rfl)) ?_
                refine ASL.g (v := (.bool (decide (((Int.tmod a102 2)) = 0)))) (.bool c96) true rfl (wT _) rfl (fun hG => by have q0 := hG; subst q0; exact Light.quiet (opInt rfl rfl rfl rfl)) ?_
                refine ASL.q (v := (.bool (c96 && (decide (((Int.tmod a102 2)) = 0))))) rfl rfl (Light.quiet (opPick (b := c96) rfl rfl (by cases c96 <;> rfl))) ?_
                obtain ⟨c107, hc107, hF⟩ := bndE hF
                refine ASL.q (v := (.bool c107)) rfl rfl ((Quiet.cast (Light.quiet (opMove rfl rfl)) (congrArg AV.bool hc107.symm))) ?_
                refine ASL.g (v := (.int .i64 x13_2)) (.bool c107) true rfl (wT _) rfl (fun hG => by have q0 := hG; subst q0; exact Light.quiet (opMove rfl rfl)) ?_
                refine ASL.g (v := (.int .i64 x17_l1)) (.bool c107) true rfl (wT _) rfl (fun hG => by have q0 := hG; subst q0; exact Light.quiet (opMove rfl rfl)) ?_
                obtain ⟨a110, ha110, hF⟩ := bindE hF
                refine ASL.g (v := (.bool a110)) (.bool c107) true rfl (wT _) rfl (fun hG => by have q0 := hG; subst q0; exact (qCall rfl rfl call_30 (spec_l1Has_ok (whenE ha110)) rfl)) ?_
                refine ASL.q (v := (.bool (c107 && a110))) rfl rfl (Light.quiet (opPick (b := c107) rfl rfl (by cases c107 <;> rfl))) ?_
                refine ASL.done ?_
                refine AWP.ifB hF rfl (fun hc33 hF => ?_) (fun hc33 hF => ?_)
                · skip
                  refine AWP.lastR rfl ?_
                  refine ASL.q (v := (.int .i64 x16_l1)) rfl rfl (Light.quiet (opMove rfl rfl)) ?_
                  refine ASL.q (v := (.int .i64 x17_l1)) rfl rfl (Light.quiet (opMove rfl rfl)) ?_
                  obtain ⟨a114, ha114, hF⟩ := bindE hF
                  refine ASL.q (v := (.int .i64 a114)) rfl rfl ((qCall rfl rfl call_54 (spec_l1Bit_ok ha114) rfl)) ?_
                  refine ASL.q (v := (.int .i64 (bOr .i64 x16_l1 a114))) rfl rfl (Light.quiet (opInt rfl rfl rfl rfl)) ?_
                  refine ASL.q (v := (.int .i64 (bOr .i64 x16_l1 a114))) rfl rfl (Light.quiet (opAssign rfl rfl)) ?_
                  refine ASL.done ?_
                  refine QBlock.nrm ?_
                  refine QThen.nrm ?_
                  refine AWP.lastR rfl ?_
                  refine ASL.q (v := (.int .i64 x17_l1)) rfl rfl (Light.quiet (opMove rfl rfl)) ?_
                  refine ASL.q (v := (.int .i64 (W (x17_l1 + 1)))) rfl rfl (Light.quiet (opInt rfl rfl rfl rfl)) ?_
                  refine ASL.q (v := (.int .i64 (W (x17_l1 + 1)))) rfl rfl (Light.quiet (opAssign rfl rfl)) ?_
                  refine ASL.done ?_
                  refine QThen.nrm ?_
                  exact ⟨((bOr .i64 x16_l1 a114), (W (x17_l1 + 1))), (), (someE hF).symm, ⟨rfl, rfl, rfl, rfl, rfl, rfl, rfl, trivial⟩, (hS.pick [0] rfl rfl)⟩
                · skip
                  refine AWP.skip ?_
                  refine QBlock.nrm ?_
                  refine QThen.nrm ?_
                  refine AWP.lastR rfl ?_
                  refine ASL.q (v := (.int .i64 x17_l1)) rfl rfl (Light.quiet (opMove rfl rfl)) ?_
                  refine ASL.q (v := (.int .i64 (W (x17_l1 + 1)))) rfl rfl (Light.quiet (opInt rfl rfl rfl rfl)) ?_
                  refine ASL.q (v := (.int .i64 (W (x17_l1 + 1)))) rfl rfl (Light.quiet (opAssign rfl rfl)) ?_
                  refine ASL.done ?_
                  refine QThen.nrm ?_
                  exact ⟨(x16_l1, (W (x17_l1 + 1))), (), (someE hF).symm, ⟨rfl, rfl, rfl, rfl, rfl, rfl, rfl, trivial⟩, (hS.pick [0] rfl rfl)⟩
              · skip
                refine AWP.exit ?_
                refine QThen.ext ?_
                refine QThen.ext ?_
                refine QBlock.hit ?_
                obtain rfl := (hx27 _ (someE hF).symm)
                have hF := hR30
                refine QThen.nrm ?_
                exact ⟨x16_l1, ⟨rfl, rfl, rfl, rfl, rfl, rfl, trivial⟩, (hS.pick [0] rfl rfl), hF⟩
        · skip
          refine AWP.exit ?_
          refine QThen.ext ?_
          refine QThen.ext ?_
          refine QBlock.hit ?_
          obtain rfl := (hx13 _ (someE hF).symm)
          have hF := hR16
          refine QThen.nrm ?_
          exact ⟨y9, w10, ⟨rfl, trivial⟩, (hS.pick [0] rfl rfl), hF⟩
    · skip
      refine AWP.seqR rfl ?_
      refine ASL.q (v := (.rptr [(.int .i64 p1.owing)])) rfl rfl (Light.quiet (opFieldAddrR rfl fieldA_28_1 rfl rfl)) ?_
      refine ASL.q (v := (.int .i64 p1.owing)) rfl rfl (Light.quiet (opLoadR rfl aggA_3 rfl rfl)) ?_
      refine ASL.q (v := (.bool (decide (p1.owing ≠ 0)))) rfl rfl (Light.quiet (opInt rfl rfl rfl rfl)) ?_
      refine ASL.done ?_
      refine AWP.ifP hF rfl (fun hc35 hF => ?_) (fun hc35 hF => ?_)
      · skip
        refine AWP.lastR rfl ?_
        refine ASL.q (v := (TAuto.av p0)) rfl rfl (Light.quiet (opLoadRA rfl aggA_33 sizeA_33 rfl (nlt rfl) rfl)) ?_
        refine ASL.q (v := (.rptr [(.int .i64 p1.owing)])) rfl rfl (Light.quiet (opFieldAddrR rfl fieldA_28_1 rfl rfl)) ?_
        refine ASL.q (v := (.int .i64 p1.owing)) rfl rfl (Light.quiet (opLoadR rfl aggA_3 rfl rfl)) ?_
        refine ASL.q (v := (.int .i64 p2)) rfl rfl (Light.quiet (opMove rfl rfl)) ?_
        obtain ⟨a74, ha74, hF⟩ := bindE hF
        refine ASL.q (v := (.int .i64 a74)) rfl rfl ((qCall rfl rfl call_68 (spec_l4Next_ok ha74) rfl)) ?_
        refine ASL.q (v := (.int .i64 a74)) rfl rfl (Light.quiet (opAssign rfl rfl)) ?_
        refine ASL.done ?_
        refine QThen.nrm ?_
        exact ⟨a74, ⟨rfl, rfl, rfl, trivial⟩, (hS.pick [] rfl rfl), hF⟩
      · skip
        refine AWP.skip ?_
        refine QThen.nrm ?_
        exact ⟨(W (((shl .i64 1 p0.states)) - 1)), ⟨rfl, rfl, rfl, trivial⟩, (hS.pick [] rfl rfl), hF⟩
  · skip
    refine AWP.seqR rfl ?_
    refine ASL.q (v := (.int .i64 0)) rfl rfl (Light.quiet (opAssign rfl rfl)) ?_
    refine ASL.done ?_
    refine AWP.block ?_
    obtain ⟨o40, hL39, hR41⟩ := bindE hF
    refine AWP.loopF (ω := Unit) hL39 (fun s w => [(2, (.int .i64 p2)), (3, (.rptr [(.int .i64 p0.letters), (.int .i64 p0.states), (.int .i64 p0.start), (.list 4 (List.map TEdge.av p0.edges))])), (4, (.rptr [(.list 1 (List.map (AV.int .i64) p1.ranks)), (.int .i64 p1.owing)])), (7, (.list 1 (List.map (AV.int .i64) a21))), (8, (.list 1 (List.map (fun xs : (List Int) => AV.list 1 (List.map (AV.int .i64) xs)) s.1))), (9, (.int .i64 s.2))]) (fun s w => []) () ⟨rfl, rfl, rfl, rfl, rfl, rfl, trivial⟩ (hS.pick [] rfl rfl) ?_
    rintro ⟨x8_l2, x9_l2⟩ _ G42 hS x37 hF hx38
    try dsimp only at hS ⊢
    have hF : spec_l13Next.b2 p0 a21 x8_l2 x9_l2 = some x37 := hF; unfold spec_l13Next.b2 at hF
    refine AWP.seq ?_
    refine AWP.seqR rfl ?_
    refine ASL.q (v := (.int .i64 x9_l2)) rfl rfl (Light.quiet (opMove rfl rfl)) ?_
    refine ASL.q (v := (.rptr [(.int .i64 p0.states), (.int .i64 p0.start), (.list 4 (List.map TEdge.av p0.edges))])) rfl rfl (Light.quiet (opFieldAddrR rfl fieldA_33_1 rfl rfl)) ?_
    refine ASL.q (v := (.int .i64 p0.states)) rfl rfl (Light.quiet (opLoadR rfl aggA_3 rfl rfl)) ?_
    refine ASL.q (v := (.bool (decide (x9_l2 < p0.states)))) rfl rfl (Light.quiet (opInt rfl rfl rfl rfl)) ?_
    refine ASL.done ?_
    refine AWP.ifP hF rfl (fun hc43 hF => ?_) (fun hc43 hF => ?_)
    · skip
      refine AWP.skip ?_
      refine QThen.nrm ?_
      refine AWP.seqM (fun e H => ∃ x8_6 : (List (List Int)), E.Told e [(2, (.int .i64 p2)), (3, (.rptr [(.int .i64 p0.letters), (.int .i64 p0.states), (.int .i64 p0.start), (.list 4 (List.map TEdge.av p0.edges))])), (4, (.rptr [(.list 1 (List.map (AV.int .i64) p1.ranks)), (.int .i64 p1.owing)])), (7, (.list 1 (List.map (AV.int .i64) a21))), (8, (.list 1 (List.map (fun xs : (List Int) => AV.list 1 (List.map (AV.int .i64) xs)) x8_6))), (9, (.int .i64 x9_l2))] ∧ E.Sep H [] ∧ spec_l13Next.k5 x9_l2 x8_6 = some x37) ?_ ?_
      · rintro e0 G44 ⟨x8_6, hT, hS, hF⟩; refine AWP.only _ hT ?_; unfold spec_l13Next.k5 at hF
        refine AWP.lastR rfl ?_
        refine ASL.q (v := (.int .i64 x9_l2)) rfl rfl (Light.quiet (opMove rfl rfl)) ?_
        refine ASL.q (v := (.int .i64 (W (x9_l2 + 1)))) rfl rfl (Light.quiet (opInt rfl rfl rfl rfl)) ?_
        refine ASL.q (v := (.int .i64 (W (x9_l2 + 1)))) rfl rfl (Light.quiet (opAssign rfl rfl)) ?_
        refine ASL.done ?_
        refine QThen.nrm ?_
        exact ⟨(x8_6, (W (x9_l2 + 1))), (), (someE hF).symm, ⟨rfl, rfl, rfl, rfl, rfl, rfl, trivial⟩, (hS.pick [] rfl rfl)⟩
      · skip
        refine AWP.block ?_
        refine AWP.seqR rfl ?_
        refine ASL.x rfl rfl (hLit (f := (fun xs : (List Int) => AV.list 1 (List.map (AV.int .i64) xs))) (zs := []) hS rfl rfl elemA_85 sizeA_26 zeroA_26 rfl rfl rfl rfl (by simp [cells]) (nlt rfl) ?_); rintro v30 G45 hK hS
        refine ASL.q (v := v30) rfl rfl (Light.quiet (opAssign rfl rfl)) ?_
        refine ASL.done ?_
        refine AWP.seqM (fun e H => ∃ y47 : (List (List Int)), ∃ w48 : AV, E.Told e [(2, (.int .i64 p2)), (3, (.rptr [(.int .i64 p0.letters), (.int .i64 p0.states), (.int .i64 p0.start), (.list 4 (List.map TEdge.av p0.edges))])), (4, (.rptr [(.list 1 (List.map (AV.int .i64) p1.ranks)), (.int .i64 p1.owing)])), (7, (.list 1 (List.map (AV.int .i64) a21))), (9, (.int .i64 x9_l2)), (10, w48)] ∧ E.Sep H [.row 1 w48 (List.map (fun xs : (List Int) => AV.list 1 (List.map (AV.int .i64) xs)) y47)] ∧ spec_l13Next.k6 x9_l2 y47 = some x37) ?_ ?_
        · rintro e0 G51 ⟨y47, w48, hT, hS, hF⟩; refine AWP.only _ hT ?_; unfold spec_l13Next.k6 at hF
          refine AWP.frz (L' := []) hS (k := 0) rfl [(2, (.int .i64 p2)), (3, (.rptr [(.int .i64 p0.letters), (.int .i64 p0.states), (.int .i64 p0.start), (.list 4 (List.map TEdge.av p0.edges))])), (4, (.rptr [(.list 1 (List.map (AV.int .i64) p1.ranks)), (.int .i64 p1.owing)])), (7, (.list 1 (List.map (AV.int .i64) a21))), (9, (.int .i64 x9_l2)), (10, (.list 1 (List.map (fun xs : (List Int) => AV.list 1 (List.map (AV.int .i64) xs)) y47)))] ⟨.inl rfl, .inl rfl, .inl rfl, .inl rfl, .inl rfl, .inr (.inl ⟨rfl, rfl⟩), trivial⟩ trivial (fun G50 hS => ?_)
          refine AWP.lastR rfl ?_
          refine ASL.q (v := (.list 1 (List.map (fun xs : (List Int) => AV.list 1 (List.map (AV.int .i64) xs)) y47))) rfl rfl (Light.quiet (opMove rfl rfl)) ?_
          refine ASL.q (v := (.list 1 (List.map (fun xs : (List Int) => AV.list 1 (List.map (AV.int .i64) xs)) y47))) rfl rfl (Light.quiet (opAssign rfl rfl)) ?_
          refine ASL.done ?_
          refine QBlock.nrm ?_
          refine QThen.nrm ?_
          exact ⟨y47, ⟨rfl, rfl, rfl, rfl, rfl, rfl, trivial⟩, (hS.pick [] rfl rfl), hF⟩
        · skip
          refine AWP.seqR rfl ?_
          refine ASL.q (v := (.int .i64 0)) rfl rfl (Light.quiet (opAssign rfl rfl)) ?_
          refine ASL.done ?_
          refine AWP.block ?_
          obtain ⟨o58, hL57, hR59⟩ := bindE hF
          refine AWP.loopF (ω := AV) hL57 (fun s w => [(2, (.int .i64 p2)), (3, (.rptr [(.int .i64 p0.letters), (.int .i64 p0.states), (.int .i64 p0.start), (.list 4 (List.map TEdge.av p0.edges))])), (4, (.rptr [(.list 1 (List.map (AV.int .i64) p1.ranks)), (.int .i64 p1.owing)])), (7, (.list 1 (List.map (AV.int .i64) a21))), (8, (.list 1 (List.map (fun xs : (List Int) => AV.list 1 (List.map (AV.int .i64) xs)) x8_l2))), (9, (.int .i64 x9_l2)), (10, w), (11, (.int .i64 s.2))]) (fun s w => [.row 1 w (List.map (fun xs : (List Int) => AV.list 1 (List.map (AV.int .i64) xs)) s.1)]) v30 ⟨rfl, rfl, rfl, rfl, rfl, rfl, rfl, rfl, trivial⟩ (hS.pick [0] rfl rfl) ?_
          rintro ⟨y52, x11_l3⟩ w53 G60 hS x55 hF hx56
          try dsimp only at hS ⊢
          have hF : spec_l13Next.b3 x8_l2 a21 x9_l2 y52 x11_l3 = some x55 := hF; unfold spec_l13Next.b3 at hF
          refine AWP.seq ?_
          refine AWP.seqR rfl ?_
          refine ASL.q (v := (.int .i64 x11_l3)) rfl rfl (Light.quiet (opMove rfl rfl)) ?_
          refine ASL.q (v := (.list 1 (List.map (fun xs : (List Int) => AV.list 1 (List.map (AV.int .i64) xs)) x8_l2))) rfl rfl (Light.quiet (opMove rfl rfl)) ?_
          refine ASL.q (v := (.int .i64 (x8_l2.length : Int))) rfl rfl (Light.quiet (opLenMap (f := (fun xs : (List Int) => AV.list 1 (List.map (AV.int .i64) xs))) rfl rfl rfl lenT_85 rfl)) ?_
          refine ASL.q (v := (.bool (decide (x11_l3 < ((x8_l2.length : Int)))))) rfl rfl (Light.quiet (opInt rfl rfl rfl rfl)) ?_
          refine ASL.done ?_
          refine AWP.ifP hF rfl (fun hc61 hF => ?_) (fun hc61 hF => ?_)
          · skip
            refine AWP.skip ?_
            refine QThen.nrm ?_
            refine AWP.seqM (fun e H => ∃ y62 : (List (List Int)), ∃ w63 : AV, E.Told e [(2, (.int .i64 p2)), (3, (.rptr [(.int .i64 p0.letters), (.int .i64 p0.states), (.int .i64 p0.start), (.list 4 (List.map TEdge.av p0.edges))])), (4, (.rptr [(.list 1 (List.map (AV.int .i64) p1.ranks)), (.int .i64 p1.owing)])), (7, (.list 1 (List.map (AV.int .i64) a21))), (8, (.list 1 (List.map (fun xs : (List Int) => AV.list 1 (List.map (AV.int .i64) xs)) x8_l2))), (9, (.int .i64 x9_l2)), (10, w63), (11, (.int .i64 x11_l3))] ∧ E.Sep H [.row 1 w63 (List.map (fun xs : (List Int) => AV.list 1 (List.map (AV.int .i64) xs)) y62)] ∧ spec_l13Next.k7 x11_l3 y62 = some x55) ?_ ?_
            · rintro e0 G65 ⟨y62, w63, hT, hS, hF⟩; refine AWP.only _ hT ?_; unfold spec_l13Next.k7 at hF
              refine AWP.lastR rfl ?_
              refine ASL.q (v := (.int .i64 x11_l3)) rfl rfl (Light.quiet (opMove rfl rfl)) ?_
              refine ASL.q (v := (.int .i64 (W (x11_l3 + 1)))) rfl rfl (Light.quiet (opInt rfl rfl rfl rfl)) ?_
              refine ASL.q (v := (.int .i64 (W (x11_l3 + 1)))) rfl rfl (Light.quiet (opAssign rfl rfl)) ?_
              refine ASL.done ?_
              refine QThen.nrm ?_
              exact ⟨(y62, (W (x11_l3 + 1))), w63, (someE hF).symm, ⟨rfl, rfl, rfl, rfl, rfl, rfl, rfl, rfl, trivial⟩, (hS.pick [0] rfl rfl)⟩
            · skip
              refine AWP.block ?_
              refine AWP.seqR rfl ?_
              refine ASL.q (v := (.list 1 (List.map (AV.int .i64) a21))) rfl rfl (Light.quiet (opMove rfl rfl)) ?_
              refine ASL.q (v := (.int .i64 x9_l2)) rfl rfl (Light.quiet (opMove rfl rfl)) ?_
              obtain ⟨a39, ha39, hF⟩ := bindE hF
              refine ASL.q (v := (.rptr [(.int .i64 a39)])) rfl rfl (Light.quiet (kIx (f := (AV.int .i64)) ha39 rfl rfl rfl elemA_26 sizeA_3 rfl)) ?_
              refine ASL.q (v := (.int .i64 a39)) rfl rfl (Light.quiet (opLoadR rfl aggA_3 rfl rfl)) ?_
              refine ASL.q (v := (.int .i64 (spec_l1Min 0 a39))) rfl rfl ((qCall rfl rfl call_67 (spec_l1Min_ok 0 a39) rfl)) ?_
              refine ASL.q (v := (.int .i64 (spec_l1Min 0 a39))) rfl rfl (Light.quiet (opAssign rfl rfl)) ?_
              refine ASL.done ?_
              refine AWP.block ?_
              obtain ⟨o72, hL71, hR73⟩ := bindE hF
              refine AWP.loopF (ω := AV) hL71 (fun s w => [(2, (.int .i64 p2)), (3, (.rptr [(.int .i64 p0.letters), (.int .i64 p0.states), (.int .i64 p0.start), (.list 4 (List.map TEdge.av p0.edges))])), (4, (.rptr [(.list 1 (List.map (AV.int .i64) p1.ranks)), (.int .i64 p1.owing)])), (7, (.list 1 (List.map (AV.int .i64) a21))), (8, (.list 1 (List.map (fun xs : (List Int) => AV.list 1 (List.map (AV.int .i64) xs)) x8_l2))), (9, (.int .i64 x9_l2)), (10, w), (11, (.int .i64 x11_l3)), (12, (.int .i64 s.2))]) (fun s w => [.row 1 w (List.map (fun xs : (List Int) => AV.list 1 (List.map (AV.int .i64) xs)) s.1)]) w53 ⟨rfl, rfl, rfl, rfl, rfl, rfl, rfl, rfl, rfl, trivial⟩ (hS.pick [0] rfl rfl) ?_
              rintro ⟨y66, x12_l4⟩ w67 G74 hS x69 hF hx70
              try dsimp only at hS ⊢
              have hF : spec_l13Next.b4 a21 x9_l2 x8_l2 x11_l3 y66 x12_l4 = some x69 := hF; unfold spec_l13Next.b4 at hF
              refine AWP.seq ?_
              refine AWP.seqR rfl ?_
              refine ASL.q (v := (.int .i64 x12_l4)) rfl rfl (Light.quiet (opMove rfl rfl)) ?_
              refine ASL.q (v := (.list 1 (List.map (AV.int .i64) a21))) rfl rfl (Light.quiet (opMove rfl rfl)) ?_
              refine ASL.q (v := (.int .i64 x9_l2)) rfl rfl (Light.quiet (opMove rfl rfl)) ?_
              obtain ⟨a45, ha45, hF⟩ := bindE hF
              refine ASL.q (v := (.rptr [(.int .i64 a45)])) rfl rfl (Light.quiet (kIx (f := (AV.int .i64)) ha45 rfl rfl rfl elemA_26 sizeA_3 rfl)) ?_
              refine ASL.q (v := (.int .i64 a45)) rfl rfl (Light.quiet (opLoadR rfl aggA_3 rfl rfl)) ?_
              refine ASL.q (v := (.bool (decide (x12_l4 ≤ a45)))) rfl rfl (Light.quiet (opInt rfl rfl rfl rfl)) ?_
              refine ASL.done ?_
              refine AWP.ifP hF rfl (fun hc75 hF => ?_) (fun hc75 hF => ?_)
              · skip
                refine AWP.skip ?_
                refine QThen.nrm ?_
                refine AWP.seq ?_
                refine AWP.block ?_
                refine AWP.lastR rfl ?_
                refine ASL.q (v := w67) rfl rfl (Light.quiet (opMove rfl rfl)) ?_
                refine ASL.x rfl rfl (hLit (f := (AV.int .i64)) (zs := []) hS rfl rfl elemA_26 sizeA_3 zeroA_3 rfl rfl rfl rfl (by simp [cells]) (nlt rfl) ?_); rintro v51 G76 hK hS
                refine ASL.q (v := (.list 1 (List.map (fun xs : (List Int) => AV.list 1 (List.map (AV.int .i64) xs)) x8_l2))) rfl rfl (Light.quiet (opMove rfl rfl)) ?_
                refine ASL.q (v := (.int .i64 x11_l3)) rfl rfl (Light.quiet (opMove rfl rfl)) ?_
                obtain ⟨a54, ha54, hF⟩ := bindE hF
                refine ASL.q (v := (.rptr [(.list 1 (List.map (AV.int .i64) a54))])) rfl rfl (Light.quiet (kIx (f := (fun xs : (List Int) => AV.list 1 (List.map (AV.int .i64) xs))) ha54 rfl rfl rfl elemA_85 sizeA_26 rfl)) ?_
                refine ASL.q (v := (.list 1 (List.map (AV.int .i64) a54))) rfl rfl (Light.quiet (opLoadR rfl aggA_26 rfl rfl)) ?_
                obtain ⟨z56, hz56, hF⟩ := bindE hF
                refine ASL.x rfl rfl (hApp (f := (AV.int .i64)) (ws := a54) hS (j := 0) rfl hz56 rfl elemA_26 rfl sizeA_3 bytesA_3 zeroA_3 rfl rfl rfl (fun _ => rfl) ?_); rintro v56 G78 hS
                refine ASL.q (v := (.int .i64 x12_l4)) rfl rfl (Light.quiet (opMove rfl rfl)) ?_
                refine ASL.q (v := (.list 1 (List.map (AV.int .i64) [x12_l4]))) rfl rfl ((qLit (xs := [(.int .i64 x12_l4)]) rfl elemA_26 sizeA_3 zeroA_3 rfl rfl rfl rfl (by simp [cells]) (nlt rfl))) ?_
                obtain ⟨z59, hz59, hF⟩ := bindE hF
                refine ASL.x rfl rfl (hAppF (f := (AV.int .i64)) (ws := [x12_l4]) hS (j := 0) rfl hz59 rfl elemA_26 rfl sizeA_3 bytesA_3 zeroA_3 rfl rfl rfl (fun _ => rfl) ?_); rintro G80 hB hS
                have hS : Sep G80 [.row 1 w67 (List.map (fun xs : (List Int) => AV.list 1 (List.map (AV.int .i64) xs)) y66)] := hS
                refine ASL.q (v := (.list 1 (List.map (fun xs : (List Int) => AV.list 1 (List.map (AV.int .i64) xs)) [z59]))) rfl rfl ((qLit (xs := [(.list 1 (List.map (AV.int .i64) z59))]) rfl elemA_85 sizeA_26 zeroA_26 rfl rfl rfl rfl (by simp [cells]) (nlt rfl))) ?_
                obtain ⟨z61, hz61, hF⟩ := bindE hF
                refine ASL.x rfl rfl (hApp (f := (fun xs : (List Int) => AV.list 1 (List.map (AV.int .i64) xs))) (ws := [z59]) hS (j := 0) rfl hz61 rfl elemA_85 rfl sizeA_26 bytesA_26 zeroA_26 rfl rfl rfl (fun _ => rfl) ?_); rintro v61 G81 hS
                refine ASL.q (v := v61) rfl rfl (Light.quiet (opAssign rfl rfl)) ?_
                refine ASL.done ?_
                refine QBlock.nrm ?_
                refine QThen.nrm ?_
                refine AWP.lastR rfl ?_
                refine ASL.q (v := (.int .i64 x12_l4)) rfl rfl (Light.quiet (opMove rfl rfl)) ?_
                refine ASL.q (v := (.int .i64 (W (x12_l4 + 1)))) rfl rfl (Light.quiet (opInt rfl rfl rfl rfl)) ?_
                refine ASL.q (v := (.int .i64 (W (x12_l4 + 1)))) rfl rfl (Light.quiet (opAssign rfl rfl)) ?_
                refine ASL.done ?_
                refine QThen.nrm ?_
                exact ⟨(z61, (W (x12_l4 + 1))), v61, (someE hF).symm, ⟨rfl, rfl, rfl, rfl, rfl, rfl, rfl, rfl, rfl, trivial⟩, (hS.pick [0] rfl rfl)⟩
              · skip
                refine AWP.exit ?_
                refine QThen.ext ?_
                refine QThen.ext ?_
                refine QBlock.hit ?_
                obtain rfl := (hx70 _ (someE hF).symm)
                have hF := hR73
                refine QBlock.nrm ?_
                refine QThen.nrm ?_
                exact ⟨y66, w67, ⟨rfl, rfl, rfl, rfl, rfl, rfl, rfl, rfl, trivial⟩, (hS.pick [0] rfl rfl), hF⟩
          · skip
            refine AWP.exit ?_
            refine QThen.ext ?_
            refine QThen.ext ?_
            refine QBlock.hit ?_
            obtain rfl := (hx56 _ (someE hF).symm)
            have hF := hR59
            refine QThen.nrm ?_
            exact ⟨y52, w53, ⟨rfl, rfl, rfl, rfl, rfl, rfl, trivial⟩, (hS.pick [0] rfl rfl), hF⟩
    · skip
      refine AWP.exit ?_
      refine QThen.ext ?_
      refine QThen.ext ?_
      refine QBlock.hit ?_
      obtain rfl := (hx38 _ (someE hF).symm)
      have hF := hR41
      refine QThen.nrm ?_
      exact ⟨x8_l2, ⟨rfl, rfl, rfl, rfl, trivial⟩, (hS.pick [] rfl rfl), hF⟩

set_option maxRecDepth 10000 in
theorem spec_RankNext_ok {p0 : TAuto} {p1 : TRankState} {p2 : Int} {r : (List TRankState)} (hF : spec_RankNext p0 p1 p2 = some r) : PO Try.prog 18 [(TAuto.av p0), (TRankState.av p1), (.int .i64 p2)] 2 (List.map TRankState.av r) := by
  refine HC.enter Try.func18 rfl Try.ntmps18 (by simp) ?_
  have hS := Sep.void; unfold spec_RankNext at hF
  refine AWP.seqR rfl ?_
  refine ASL.q (v := (.rptr [(.int .i64 p0.letters), (.int .i64 p0.states), (.int .i64 p0.start), (.list 4 (List.map TEdge.av p0.edges))])) rfl rfl ((qBoxI (v := (TAuto.av p0)) rfl rfl rfl rfl)) ?_
  refine ASL.q (v := (.rptr [(.list 1 (List.map (AV.int .i64) p1.ranks)), (.int .i64 p1.owing)])) rfl rfl ((qBoxI (v := (TRankState.av p1)) rfl rfl rfl rfl)) ?_
  have hS := hNil (s := 2) (f := TRankState.av) hS
  refine ASL.q (v := .nil) rfl rfl (Light.quiet (opAssign rfl rfl)) ?_
  refine ASL.done ?_
  refine AWP.seq ?_
  refine AWP.seqR rfl ?_
  refine ASL.q (v := (TAuto.av p0)) rfl rfl (Light.quiet (opLoadRA rfl aggA_33 sizeA_33 rfl (nlt rfl) rfl)) ?_
  refine ASL.q (v := (TRankState.av p1)) rfl rfl (Light.quiet (opLoadRA rfl aggA_28 sizeA_28 rfl (nlt rfl) rfl)) ?_
  obtain ⟨a9, ha9, hF⟩ := bindE hF
  refine ASL.q (v := (.bool a9)) rfl rfl ((qCall rfl rfl call_19 (spec_RankOk_ok ha9) rfl)) ?_
  refine ASL.q (v := (.bool (!a9))) rfl rfl (Light.quiet (opNot rfl rfl)) ?_
  obtain ⟨c11, hc11, hF⟩ := bndE hF
  refine ASL.q (v := (.bool c11)) rfl rfl ((Quiet.cast (Light.quiet (opMove rfl rfl)) (congrArg AV.bool hc11.symm))) ?_
  refine ASL.g (v := (.int .i64 p2)) (.bool c11) false rfl (wF _) rfl (fun hG => by have q0 := gN hG; subst q0; exact Light.quiet (opMove rfl rfl)) ?_
  refine ASL.g (v := (.rptr [(.int .i64 p0.letters), (.int .i64 p0.states), (.int .i64 p0.start), (.list 4 (List.map TEdge.av p0.edges))])) (.bool c11) false rfl (wF _) rfl (fun hG => by have q0 := gN hG; subst q0; exact Light.quiet (opFieldAddrR rfl fieldA_33_0 rfl rfl)) ?_
  refine ASL.g (v := (.int .i64 p0.letters)) (.bool c11) false rfl (wF _) rfl (fun hG => by have q0 := gN hG; subst q0; exact Light.quiet (opLoadR rfl aggA_3 rfl rfl)) ?_
  refine ASL.g (v := (.int .i64 (W (p0.letters - 1)))) (.bool c11) false rfl (wF _) rfl (fun hG => by have q0 := gN hG; subst q0; exact Light.quiet (opInt rfl rfl rfl rfl)) ?_
  refine ASL.g (v := (.bool (spec_l1In p2 0 ((W (p0.letters - 1)))))) (.bool c11) false rfl (wF _) rfl (fun hG => by have q0 := gN hG; subst q0; exact (qCall rfl rfl call_45 (spec_l1In_ok p2 0 ((W (p0.letters - 1)))) rfl)) ?_
  refine ASL.g (v := (.bool (!(spec_l1In p2 0 ((W (p0.letters - 1))))))) (.bool c11) false rfl (wF _) rfl (fun hG => by have q0 := gN hG; subst q0; exact Light.quiet (opNot rfl rfl)) ?_
  refine ASL.q (v := (.bool (c11 || (!(spec_l1In p2 0 ((W (p0.letters - 1)))))))) rfl rfl (Light.quiet (opPick (b := c11) rfl rfl (by cases c11 <;> rfl))) ?_
  refine ASL.done ?_
  refine AWP.ifB hF rfl (fun hc2 hF => ?_) (fun hc2 hF => ?_)
  · skip
    refine AWP.seqR rfl ?_
    refine ASL.x rfl rfl (hLit (f := TRankState.av) (zs := []) hS rfl rfl elemA_44 sizeA_28 zeroA_28 rfl rfl rfl rfl (by simp [cells, TRankState.av]) (nlt rfl) ?_); rintro v19 G3 hK hS
    refine ASL.q (v := v19) rfl rfl (Light.quiet (opAssign rfl rfl)) ?_
    refine ASL.done ?_
    refine AWP.ret ?_
    refine QThen.rt ?_
    obtain rfl := someE hF
    exact QRet.sole (v := v19) ⟨rfl, trivial⟩ (hS.get (k := 0) rfl)
  · skip
    refine AWP.skip ?_
    refine QThen.nrm ?_
    refine AWP.seqR rfl ?_
    refine ASL.q (v := (TAuto.av p0)) rfl rfl (Light.quiet (opLoadRA rfl aggA_33 sizeA_33 rfl (nlt rfl) rfl)) ?_
    refine ASL.q (v := (TRankState.av p1)) rfl rfl (Light.quiet (opLoadRA rfl aggA_28 sizeA_28 rfl (nlt rfl) rfl)) ?_
    refine ASL.q (v := (.int .i64 p2)) rfl rfl (Light.quiet (opMove rfl rfl)) ?_
    obtain ⟨a23, ha23, hF⟩ := bindE hF
    refine ASL.x rfl rfl (hCallO hS rfl rfl call_46 (spec_l13Next_ok ha23) rfl ?_); rintro v23 G5 hK hS
    refine ASL.q (v := v23) rfl rfl (Light.quiet (opAssign rfl rfl)) ?_
    refine ASL.done ?_
    refine AWP.ret ?_
    obtain rfl := someE hF
    exact QRet.sole (v := v23) ⟨rfl, trivial⟩ (hS.get (k := 0) rfl)

end Go.Proofs.Ytllpbgcajgbfbaa
