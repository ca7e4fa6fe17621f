/- Each of these functions of the program comes to just what its plain function says: FnLater. -/
import Derived.Test.YtjjlkncefgfljaaDLater
import Derived.Test.YtjjlkncefgfljaaFa
import Derived.Test.YtjjlkncefgfljaaSG
namespace Go.Proofs.Ytjjlkncefgfljaa
open Go Go.RowKit E
set_option linter.unusedVariables false
set_option maxRecDepth 10000 in
theorem laws_big_ok (p0 : (List Int)) : PC Try.prog 10 [(.list 1 (List.map (AV.int .u8) p0))] fun v => v = (.bool (laws_big p0)) := by
  generalize hF : laws_big p0 = r
  refine PC.enter Try.func10 rfl Try.ntmps10 (by simp) ?_
  have hS := Sep.void; unfold laws_big at hF
  refine AWP.seqR rfl ?_
  refine ASL.q (v := (.bool false)) rfl rfl (Light.quiet (opAssign rfl rfl)) ?_
  refine ASL.done ?_
  refine AWP.seqR rfl ?_
  refine ASL.q (v := (.list 1 (List.map (AV.int .u8) p0))) rfl rfl (Light.quiet (opMove rfl rfl)) ?_
  refine ASL.q (v := (.int .i64 (p0.length : Int))) rfl rfl (Light.quiet (opLenMap (f := (AV.int .u8)) rfl rfl rfl lenT_22 rfl)) ?_
  refine ASL.q (v := (.bool (decide (((p0.length : Int)) > 1048576)))) rfl rfl (Light.quiet (opInt rfl rfl rfl rfl)) ?_
  refine ASL.q (v := (.bool (decide (((p0.length : Int)) > 1048576)))) rfl rfl (Light.quiet (opAssign rfl rfl)) ?_
  refine ASL.done ?_
  refine AWP.ret ?_
  obtain rfl := hF
  exact QRet.sole (v := (.bool (decide (((p0.length : Int)) > 1048576)))) ⟨rfl, trivial⟩ rfl

set_option maxRecDepth 10000 in
theorem spec_l1New_ok {p0 : (List Int)} {r : Tl1Cur} (hF : spec_l1New p0 = some r) : HS Try.prog 50 [(.list 1 (List.map (AV.int .u8) p0))] [] fun v L' => ∃ o0 : Nat, v = (.ptr o0 0) ∧ L' = [.cell o0 [(.list 1 (List.map (AV.int .u8) r.b)), (.int .i64 r.i), (.int .i64 r.h)]] := by
  intro H S hS
  refine HC.enter Try.func50 rfl Try.ntmps50 (by simp) ?_
  simp only [List.cons_append, List.nil_append] at hS
  unfold spec_l1New at hF
  refine AWP.seqR rfl ?_
  refine ASL.q (v := .nilptr) rfl rfl (Light.quiet (opAssign rfl rfl)) ?_
  refine ASL.done ?_
  refine AWP.seqR rfl ?_
  refine ASL.q (v := (.list 1 (List.map (AV.int .u8) p0))) rfl rfl (Light.quiet (opMove rfl rfl)) ?_
  refine ASL.q (v := (.int .i64 (p0.length : Int))) rfl rfl (Light.quiet (opLenMap (f := (AV.int .u8)) rfl rfl rfl lenT_22 rfl)) ?_
  refine ASL.q (v := (.int .i64 (W (10277 + ((p0.length : Int)))))) rfl rfl (Light.quiet (opInt rfl rfl rfl rfl)) ?_
  refine ASL.q (v := (.int .i64 (W (10277 + ((p0.length : Int)))))) rfl rfl (Light.quiet (opAssign rfl rfl)) ?_
  refine ASL.done ?_
  refine AWP.seqM (fun e H => ∃ x3_1 : Int, E.Told e [(0, (.list 1 (List.map (AV.int .u8) p0))), (3, (.int .i64 x3_1))] ∧ E.Sep H [.snap S] ∧ spec_l1New.k0 p0 x3_1 = some r) ?_ ?_
  · rintro e0 G3 ⟨x3_1, hT, hS, hF⟩; refine AWP.only _ hT ?_; unfold spec_l1New.k0 at hF
    refine AWP.seqR rfl ?_
    refine ASL.q (v := (.list 1 (List.map (AV.int .u8) p0))) rfl rfl (Light.quiet (opMove rfl rfl)) ?_
    refine ASL.q (v := (.int .i64 x3_1)) rfl rfl (Light.quiet (opMove rfl rfl)) ?_
    refine ASL.q (v := (.agg [(.list 1 (List.map (AV.int .u8) p0)), (.int .i64 0), (.int .i64 x3_1)])) rfl rfl (Light.quiet (opBuildZ (zs := [(.list 1 (List.map (AV.int .u8) [])), (.int .i64 0), (.int .i64 0)]) rfl plan_105 zeroA_105 ⟨.inr ⟨_, rfl, rfl⟩, .inl rfl, .inl rfl, trivial⟩ rfl)) ?_
    refine ASL.x rfl rfl (hBox hS rfl rfl rfl ?_); rintro b31 G1 hK hS
    refine ASL.q (v := (.ptr b31 0)) rfl rfl (Light.quiet (opAssign rfl rfl)) ?_
    refine ASL.done ?_
    refine AWP.ret ?_
    obtain rfl := someE hF
    exact QRet.sole (v := (.ptr b31 0)) ⟨rfl, trivial⟩ ⟨_, ⟨b31, rfl, rfl⟩, hS.pick [0, 1] rfl rfl⟩
  · skip
    refine AWP.seqR rfl ?_
    refine ASL.q (v := (.int .i64 0)) rfl rfl (Light.quiet (opAssign rfl rfl)) ?_
    refine ASL.done ?_
    refine AWP.block ?_
    obtain ⟨o7, hL6, hR8⟩ := bindE hF
    refine AWP.loopF (ω := Unit) hL6 (fun s w => [(0, (.list 1 (List.map (AV.int .u8) p0))), (3, (.int .i64 s.1)), (4, (.int .i64 s.2))]) (fun s w => [.snap S]) () ⟨rfl, rfl, rfl, trivial⟩ (hS.pick [0] rfl rfl) ?_
    rintro ⟨x3_l0, x4_l0⟩ _ G9 hS x4 hF hx5
    try dsimp only at hS ⊢
    have hF : spec_l1New.b0 p0 x3_l0 x4_l0 = some x4 := hF; unfold spec_l1New.b0 at hF
    refine AWP.seq ?_
    refine AWP.seqR rfl ?_
    refine ASL.q (v := (.int .i64 x4_l0)) rfl rfl (Light.quiet (opMove rfl rfl)) ?_
    refine ASL.q (v := (.list 1 (List.map (AV.int .u8) p0))) rfl rfl (Light.quiet (opMove rfl rfl)) ?_
    refine ASL.q (v := (.int .i64 (p0.length : Int))) rfl rfl (Light.quiet (opLenMap (f := (AV.int .u8)) rfl rfl rfl lenT_22 rfl)) ?_
    refine ASL.q (v := (.bool (decide (x4_l0 < ((p0.length : Int)))))) rfl rfl (Light.quiet (opInt rfl rfl rfl rfl)) ?_
    obtain ⟨c12, hc12, hF⟩ := bndE hF
    refine ASL.q (v := (.bool c12)) rfl rfl ((Quiet.cast (Light.quiet (opMove rfl rfl)) (congrArg AV.bool hc12.symm))) ?_
    refine ASL.g (v := (.int .i64 x4_l0)) (.bool c12) true rfl (wT _) rfl (fun hG => by have q0 := hG; subst q0; exact Light.quiet (opMove rfl rfl)) ?_
    refine ASL.g (v := (.bool (decide (x4_l0 < 4000)))) (.bool c12) true rfl (wT _) rfl (fun hG => by have q0 := hG; subst q0; exact Light.quiet (opInt rfl rfl rfl rfl)) ?_
    refine ASL.q (v := (.bool (c12 && (decide (x4_l0 < 4000))))) rfl rfl (Light.quiet (opPick (b := c12) rfl rfl (by cases c12 <;> rfl))) ?_
    refine ASL.done ?_
    refine AWP.ifB hF rfl (fun hc10 hF => ?_) (fun hc10 hF => ?_)
    · skip
      refine AWP.skip ?_
      refine QThen.nrm ?_
      refine AWP.seq ?_
      refine AWP.block ?_
      refine AWP.lastR rfl ?_
      refine ASL.q (v := (.int .i64 x3_l0)) rfl rfl (Light.quiet (opMove rfl rfl)) ?_
      refine ASL.q (v := (.int .i64 (W (x3_l0 * 131)))) rfl rfl (Light.quiet (opInt rfl rfl rfl rfl)) ?_
      refine ASL.q (v := (.list 1 (List.map (AV.int .u8) p0))) rfl rfl (Light.quiet (opMove rfl rfl)) ?_
      refine ASL.q (v := (.int .i64 x4_l0)) rfl rfl (Light.quiet (opMove rfl rfl)) ?_
      obtain ⟨a22, ha22, hF⟩ := bindE hF
      refine ASL.q (v := (.rptr [(.int .u8 a22)])) rfl rfl (Light.quiet (kIx (f := (AV.int .u8)) ha22 rfl rfl rfl elemA_22 sizeA_5 rfl)) ?_
      refine ASL.q (v := (.int .u8 a22)) rfl rfl (Light.quiet (opLoadR rfl aggA_5 rfl rfl)) ?_
      refine ASL.q (v := (.int .i64 (IntKind.i64.wrap a22))) rfl rfl (Light.quiet (opConv rfl rfl und_5 und_3 rfl)) ?_
      refine ASL.q (v := (.int .i64 (W (((W (x3_l0 * 131))) + ((IntKind.i64.wrap a22)))))) rfl rfl (Light.quiet (opInt rfl rfl rfl rfl)) ?_
      refine ASL.q (v := (.int .i64 (W (((W (((W (x3_l0 * 131))) + ((IntKind.i64.wrap a22))))) + 7)))) rfl rfl (Light.quiet (opInt rfl rfl rfl rfl)) ?_
      refine ASL.q (v := (.int .i64 (bAnd .i64 ((W (((W (((W (x3_l0 * 131))) + ((IntKind.i64.wrap a22))))) + 7))) 1073741823))) rfl rfl (Light.quiet (opInt rfl rfl rfl rfl)) ?_
      refine ASL.q (v := (.int .i64 (bAnd .i64 ((W (((W (((W (x3_l0 * 131))) + ((IntKind.i64.wrap a22))))) + 7))) 1073741823))) rfl rfl (Light.quiet (opAssign rfl rfl)) ?_
      refine ASL.done ?_
      refine QBlock.nrm ?_
      refine QThen.nrm ?_
      refine AWP.lastR rfl ?_
      refine ASL.q (v := (.int .i64 x4_l0)) rfl rfl (Light.quiet (opMove rfl rfl)) ?_
      refine ASL.q (v := (.int .i64 (W (x4_l0 + 1)))) rfl rfl (Light.quiet (opInt rfl rfl rfl rfl)) ?_
      refine ASL.q (v := (.int .i64 (W (x4_l0 + 1)))) rfl rfl (Light.quiet (opAssign rfl rfl)) ?_
      refine ASL.done ?_
      refine QThen.nrm ?_
      exact ⟨((bAnd .i64 ((W (((W (((W (x3_l0 * 131))) + ((IntKind.i64.wrap a22))))) + 7))) 1073741823), (W (x4_l0 + 1))), (), (someE hF).symm, ⟨rfl, rfl, rfl, trivial⟩, (hS.pick [0] rfl rfl)⟩
    · skip
      refine AWP.exit ?_
      refine QThen.ext ?_
      refine QThen.ext ?_
      refine QBlock.hit ?_
      obtain rfl := (hx5 _ (someE hF).symm)
      have hF := hR8
      refine QThen.nrm ?_
      exact ⟨x3_l0, ⟨rfl, rfl, trivial⟩, (hS.pick [0] rfl rfl), hF⟩

set_option maxRecDepth 10000 in
theorem spec_l1Byte_ok {p0 : Tl1Cur} {r : (Int × Tl1Cur)} {bp0 : Nat} (hF : spec_l1Byte p0 = some r) : HS Try.prog 117 [(.ptr bp0 0)] [.cell bp0 [(.list 1 (List.map (AV.int .u8) p0.b)), (.int .i64 p0.i), (.int .i64 p0.h)]] fun v L' => v = (.int .i64 r.1) ∧ L' = [.cell bp0 [(.list 1 (List.map (AV.int .u8) r.2.b)), (.int .i64 r.2.i), (.int .i64 r.2.h)]] := by
  intro H S hS
  refine HC.enter Try.func117 rfl Try.ntmps117 (by simp) ?_
  simp only [List.cons_append, List.nil_append] at hS
  unfold spec_l1Byte at hF
  refine AWP.seqR rfl ?_
  refine ASL.q (v := (.int .i64 0)) rfl rfl (Light.quiet (opAssign rfl rfl)) ?_
  refine ASL.done ?_
  refine AWP.seqR rfl ?_
  refine ASL.q (v := (.ptr bp0 0)) rfl rfl (Light.quiet (opMove rfl rfl)) ?_
  refine ASL.q (v := (.ptr bp0 0)) rfl rfl (Light.quiet (opMove rfl rfl)) ?_
  refine ASL.q (v := (.ptr bp0 0)) rfl rfl (Light.quiet (opNil rfl rfl rfl)) ?_
  refine ASL.q (v := (.ptr bp0 2)) rfl rfl (Light.quiet (opFieldAddr rfl fieldA_105_2 rfl rfl)) ?_
  refine ASL.q (v := (.int .i64 p0.h)) rfl rfl (Light.quiet (kAt hS (j := 0) rfl rfl aggA_3 rfl rfl)) ?_
  refine ASL.q (v := (.int .i64 (W (p0.h * 6364136223846793005)))) rfl rfl (Light.quiet (opInt rfl rfl rfl rfl)) ?_
  refine ASL.q (v := (.int .i64 (W (((W (p0.h * 6364136223846793005))) + 1442695040888963407)))) rfl rfl (Light.quiet (opInt rfl rfl rfl rfl)) ?_
  refine ASL.q (v := (.ptr bp0 0)) rfl rfl (Light.quiet (opNil rfl rfl rfl)) ?_
  refine ASL.q (v := (.ptr bp0 2)) rfl rfl (Light.quiet (opFieldAddr rfl fieldA_105_2 rfl rfl)) ?_
  refine ASL.n rfl rfl (hPut hS (j := 0) rfl rfl sizeA_3 rfl rfl rfl (nlt rfl) ?_); rintro G2 hS
  refine ASL.done ?_
  refine AWP.seqD [(0, false), (1, false), (2, false), (3, false), (4, false), (5, false), (6, false), (7, false), (8, false), (9, false), (10, false), (11, false), (12, false)] mixed (by kernel_rfl) rfl ?_
  refine ARL.q0 (v := (.ptr bp0 0)) rfl rfl (Light.quiet (opMove rfl rfl)) ?_
  refine ARL.q0 (v := (.ptr bp0 0)) rfl rfl (Light.quiet (opNil rfl rfl rfl)) ?_
  refine ARL.q0 (v := (.ptr bp0 2)) rfl rfl (Light.quiet (opFieldAddr rfl fieldA_105_2 rfl rfl)) ?_
  refine ARL.q (v := (.int .i64 (W (((W (p0.h * 6364136223846793005))) + 1442695040888963407)))) rfl rfl (hS.aliveC (k := 0) rfl) (Light.quiet (kAt hS (j := 0) rfl rfl aggA_3 rfl rfl)) ?_
  refine ARL.q0 (v := (.int .i64 (shr .i64 ((W (((W (p0.h * 6364136223846793005))) + 1442695040888963407))) 33))) rfl rfl (Light.quiet (opShr rfl rfl rfl (by decide) rfl)) ?_
  refine ARL.q0 (v := (.ptr bp0 0)) rfl rfl (Light.quiet (opMove rfl rfl)) ?_
  refine ARL.q0 (v := (.ptr bp0 0)) rfl rfl (Light.quiet (opNil rfl rfl rfl)) ?_
  refine ARL.q0 (v := (.ptr bp0 2)) rfl rfl (Light.quiet (opFieldAddr rfl fieldA_105_2 rfl rfl)) ?_
  refine ARL.q (v := (.int .i64 (W (((W (p0.h * 6364136223846793005))) + 1442695040888963407)))) rfl rfl (hS.aliveC (k := 0) rfl) (Light.quiet (kAt hS (j := 0) rfl rfl aggA_3 rfl rfl)) ?_
  refine ARL.q0 (v := (.int .i64 (shr .i64 ((W (((W (p0.h * 6364136223846793005))) + 1442695040888963407))) 45))) rfl rfl (Light.quiet (opShr rfl rfl rfl (by decide) rfl)) ?_
  refine ARL.q0 (v := (.int .i64 (bXor .i64 ((shr .i64 ((W (((W (p0.h * 6364136223846793005))) + 1442695040888963407))) 33)) ((shr .i64 ((W (((W (p0.h * 6364136223846793005))) + 1442695040888963407))) 45))))) rfl rfl (Light.quiet (opInt rfl rfl rfl rfl)) ?_
  refine ARL.q0 (v := (.int .i64 (bAnd .i64 ((bXor .i64 ((shr .i64 ((W (((W (p0.h * 6364136223846793005))) + 1442695040888963407))) 33)) ((shr .i64 ((W (((W (p0.h * 6364136223846793005))) + 1442695040888963407))) 45)))) 255))) rfl rfl (Light.quiet (opInt rfl rfl rfl rfl)) ?_
  refine ARL.q0 (v := (.int .i64 (bAnd .i64 ((bXor .i64 ((shr .i64 ((W (((W (p0.h * 6364136223846793005))) + 1442695040888963407))) 33)) ((shr .i64 ((W (((W (p0.h * 6364136223846793005))) + 1442695040888963407))) 45)))) 255))) rfl rfl (Light.quiet (opAssign rfl rfl)) ?_
  refine ARL.done ?_
  refine AWP.seq ?_
  refine AWP.seqD [(0, false), (1, false), (2, false), (3, false), (4, false), (5, false), (6, false), (7, false), (8, false), (9, false)] mixed (by kernel_rfl) rfl ?_
  refine ARL.q0 (v := (.ptr bp0 0)) rfl rfl (Light.quiet (opMove rfl rfl)) ?_
  refine ARL.q0 (v := (.ptr bp0 0)) rfl rfl (Light.quiet (opNil rfl rfl rfl)) ?_
  refine ARL.q0 (v := (.ptr bp0 1)) rfl rfl (Light.quiet (opFieldAddr rfl fieldA_105_1 rfl rfl)) ?_
  refine ARL.q (v := (.int .i64 p0.i)) rfl rfl (hS.aliveC (k := 0) rfl) (Light.quiet (kAt hS (j := 0) rfl rfl aggA_3 rfl rfl)) ?_
  refine ARL.q0 (v := (.ptr bp0 0)) rfl rfl (Light.quiet (opMove rfl rfl)) ?_
  refine ARL.q0 (v := (.ptr bp0 0)) rfl rfl (Light.quiet (opNil rfl rfl rfl)) ?_
  refine ARL.q0 (v := (.ptr bp0 0)) rfl rfl (Light.quiet (opFieldAddr rfl fieldA_105_0 rfl rfl)) ?_
  refine ARL.q (v := (.list 1 (List.map (AV.int .u8) p0.b))) rfl rfl (hS.aliveC (k := 0) rfl) (Light.quiet (kAt hS (j := 0) rfl rfl aggA_22 rfl rfl)) ?_
  refine ARL.q0 (v := (.int .i64 (p0.b.length : Int))) rfl rfl (Light.quiet (opLenMap (f := (AV.int .u8)) rfl rfl rfl lenT_22 rfl)) ?_
  refine ARL.q0 (v := (.bool (decide (p0.i < ((p0.b.length : Int)))))) rfl rfl (Light.quiet (opInt rfl rfl rfl rfl)) ?_
  refine ARL.done ?_
  refine AWP.ifP hF rfl (fun hc3 hF => ?_) (fun hc3 hF => ?_)
  · skip
    refine AWP.seqD [(0, false), (1, false), (2, false), (3, false), (4, false), (5, false), (6, false), (7, false), (8, false), (9, false), (10, false), (11, false), (12, false), (13, false), (14, false)] mixed (by kernel_rfl) rfl ?_
    refine ARL.q0 (v := (.int .i64 (bAnd .i64 ((bXor .i64 ((shr .i64 ((W (((W (p0.h * 6364136223846793005))) + 1442695040888963407))) 33)) ((shr .i64 ((W (((W (p0.h * 6364136223846793005))) + 1442695040888963407))) 45)))) 255))) rfl rfl (Light.quiet (opMove rfl rfl)) ?_
    refine ARL.q0 (v := (.ptr bp0 0)) rfl rfl (Light.quiet (opMove rfl rfl)) ?_
    refine ARL.q0 (v := (.ptr bp0 0)) rfl rfl (Light.quiet (opNil rfl rfl rfl)) ?_
    refine ARL.q0 (v := (.ptr bp0 0)) rfl rfl (Light.quiet (opFieldAddr rfl fieldA_105_0 rfl rfl)) ?_
    refine ARL.q (v := (.list 1 (List.map (AV.int .u8) p0.b))) rfl rfl (hS.aliveC (k := 0) rfl) (Light.quiet (kAt hS (j := 0) rfl rfl aggA_22 rfl rfl)) ?_
    refine ARL.q0 (v := (.ptr bp0 0)) rfl rfl (Light.quiet (opMove rfl rfl)) ?_
    refine ARL.q0 (v := (.ptr bp0 0)) rfl rfl (Light.quiet (opNil rfl rfl rfl)) ?_
    refine ARL.q0 (v := (.ptr bp0 1)) rfl rfl (Light.quiet (opFieldAddr rfl fieldA_105_1 rfl rfl)) ?_
    refine ARL.q (v := (.int .i64 p0.i)) rfl rfl (hS.aliveC (k := 0) rfl) (Light.quiet (kAt hS (j := 0) rfl rfl aggA_3 rfl rfl)) ?_
    obtain ⟨a44, ha44, hF⟩ := bindE hF
    refine ARL.q0 (v := (.rptr [(.int .u8 a44)])) rfl rfl (Light.quiet (kIx (f := (AV.int .u8)) ha44 rfl rfl rfl elemA_22 sizeA_5 rfl)) ?_
    refine ARL.q0 (v := (.int .u8 a44)) rfl rfl (Light.quiet (opLoadR rfl aggA_5 rfl rfl)) ?_
    refine ARL.q0 (v := (.int .i64 (IntKind.i64.wrap a44))) rfl rfl (Light.quiet (opConv rfl rfl und_5 und_3 rfl)) ?_
    refine ARL.q0 (v := (.int .i64 (W (((bAnd .i64 ((bXor .i64 ((shr .i64 ((W (((W (p0.h * 6364136223846793005))) + 1442695040888963407))) 33)) ((shr .i64 ((W (((W (p0.h * 6364136223846793005))) + 1442695040888963407))) 45)))) 255)) + ((IntKind.i64.wrap a44)))))) rfl rfl (Light.quiet (opInt rfl rfl rfl rfl)) ?_
    refine ARL.q0 (v := (.int .i64 (bAnd .i64 ((W (((bAnd .i64 ((bXor .i64 ((shr .i64 ((W (((W (p0.h * 6364136223846793005))) + 1442695040888963407))) 33)) ((shr .i64 ((W (((W (p0.h * 6364136223846793005))) + 1442695040888963407))) 45)))) 255)) + ((IntKind.i64.wrap a44))))) 255))) rfl rfl (Light.quiet (opInt rfl rfl rfl rfl)) ?_
    refine ARL.q0 (v := (.int .i64 (bAnd .i64 ((W (((bAnd .i64 ((bXor .i64 ((shr .i64 ((W (((W (p0.h * 6364136223846793005))) + 1442695040888963407))) 33)) ((shr .i64 ((W (((W (p0.h * 6364136223846793005))) + 1442695040888963407))) 45)))) 255)) + ((IntKind.i64.wrap a44))))) 255))) rfl rfl (Light.quiet (opAssign rfl rfl)) ?_
    refine ARL.done ?_
    refine AWP.lastR rfl ?_
    refine ASL.q (v := (.ptr bp0 0)) rfl rfl (Light.quiet (opMove rfl rfl)) ?_
    refine ASL.q (v := (.ptr bp0 0)) rfl rfl (Light.quiet (opMove rfl rfl)) ?_
    refine ASL.q (v := (.ptr bp0 0)) rfl rfl (Light.quiet (opNil rfl rfl rfl)) ?_
    refine ASL.q (v := (.ptr bp0 1)) rfl rfl (Light.quiet (opFieldAddr rfl fieldA_105_1 rfl rfl)) ?_
    refine ASL.q (v := (.int .i64 p0.i)) rfl rfl (Light.quiet (kAt hS (j := 0) rfl rfl aggA_3 rfl rfl)) ?_
    refine ASL.q (v := (.int .i64 (W (p0.i + 1)))) rfl rfl (Light.quiet (opInt rfl rfl rfl rfl)) ?_
    refine ASL.q (v := (.ptr bp0 0)) rfl rfl (Light.quiet (opNil rfl rfl rfl)) ?_
    refine ASL.q (v := (.ptr bp0 1)) rfl rfl (Light.quiet (opFieldAddr rfl fieldA_105_1 rfl rfl)) ?_
    refine ASL.n rfl rfl (hPut hS (j := 0) rfl rfl sizeA_3 rfl rfl rfl (nlt rfl) ?_); rintro G4 hS
    refine ASL.done ?_
    refine QThen.nrm ?_
    refine AWP.seqR rfl ?_
    refine ASL.q (v := (.int .i64 (bAnd .i64 ((W (((bAnd .i64 ((bXor .i64 ((shr .i64 ((W (((W (p0.h * 6364136223846793005))) + 1442695040888963407))) 33)) ((shr .i64 ((W (((W (p0.h * 6364136223846793005))) + 1442695040888963407))) 45)))) 255)) + ((IntKind.i64.wrap a44))))) 255))) rfl rfl (Light.quiet (opMove rfl rfl)) ?_
    refine ASL.q (v := (.int .i64 (bAnd .i64 ((W (((bAnd .i64 ((bXor .i64 ((shr .i64 ((W (((W (p0.h * 6364136223846793005))) + 1442695040888963407))) 33)) ((shr .i64 ((W (((W (p0.h * 6364136223846793005))) + 1442695040888963407))) 45)))) 255)) + ((IntKind.i64.wrap a44))))) 255))) rfl rfl (Light.quiet (opAssign rfl rfl)) ?_
    refine ASL.done ?_
    refine AWP.ret ?_
    obtain rfl := someE hF
    exact QRet.sole (v := (.int .i64 (bAnd .i64 ((W (((bAnd .i64 ((bXor .i64 ((shr .i64 ((W (((W (p0.h * 6364136223846793005))) + 1442695040888963407))) 33)) ((shr .i64 ((W (((W (p0.h * 6364136223846793005))) + 1442695040888963407))) 45)))) 255)) + ((IntKind.i64.wrap a44))))) 255))) ⟨rfl, trivial⟩ ⟨_, ⟨rfl, rfl⟩, hS.pick [0, 1] rfl rfl⟩
  · skip
    refine AWP.skip ?_
    refine QThen.nrm ?_
    refine AWP.seqR rfl ?_
    refine ASL.q (v := (.int .i64 (bAnd .i64 ((bXor .i64 ((shr .i64 ((W (((W (p0.h * 6364136223846793005))) + 1442695040888963407))) 33)) ((shr .i64 ((W (((W (p0.h * 6364136223846793005))) + 1442695040888963407))) 45)))) 255))) rfl rfl (Light.quiet (opMove rfl rfl)) ?_
    refine ASL.q (v := (.int .i64 (bAnd .i64 ((bXor .i64 ((shr .i64 ((W (((W (p0.h * 6364136223846793005))) + 1442695040888963407))) 33)) ((shr .i64 ((W (((W (p0.h * 6364136223846793005))) + 1442695040888963407))) 45)))) 255))) rfl rfl (Light.quiet (opAssign rfl rfl)) ?_
    refine ASL.done ?_
    refine AWP.ret ?_
    obtain rfl := someE hF
    exact QRet.sole (v := (.int .i64 (bAnd .i64 ((bXor .i64 ((shr .i64 ((W (((W (p0.h * 6364136223846793005))) + 1442695040888963407))) 33)) ((shr .i64 ((W (((W (p0.h * 6364136223846793005))) + 1442695040888963407))) 45)))) 255))) ⟨rfl, trivial⟩ ⟨_, ⟨rfl, rfl⟩, hS.pick [0, 1] rfl rfl⟩

set_option maxRecDepth 10000 in
theorem spec_l1Below_ok {p0 : Tl1Cur} {p1 : Int} {r : (Int × Tl1Cur)} {bp0 : Nat} (hF : spec_l1Below p0 p1 = some r) : HS Try.prog 97 [(.ptr bp0 0), (.int .i64 p1)] [.cell bp0 [(.list 1 (List.map (AV.int .u8) p0.b)), (.int .i64 p0.i), (.int .i64 p0.h)]] fun v L' => v = (.int .i64 r.1) ∧ L' = [.cell bp0 [(.list 1 (List.map (AV.int .u8) r.2.b)), (.int .i64 r.2.i), (.int .i64 r.2.h)]] := by
  intro H S hS
  refine HC.enter Try.func97 rfl Try.ntmps97 (by simp) ?_
  simp only [List.cons_append, List.nil_append] at hS
  unfold spec_l1Below at hF
  refine AWP.seqR rfl ?_
  refine ASL.q (v := (.int .i64 0)) rfl rfl (Light.quiet (opAssign rfl rfl)) ?_
  refine ASL.done ?_
  refine AWP.seq ?_
  refine AWP.seqR rfl ?_
  refine ASL.q (v := (.int .i64 p1)) rfl rfl (Light.quiet (opMove rfl rfl)) ?_
  refine ASL.q (v := (.bool (decide (p1 ≤ 0)))) rfl rfl (Light.quiet (opInt rfl rfl rfl rfl)) ?_
  refine ASL.done ?_
  refine AWP.ifP hF rfl (fun hc2 hF => ?_) (fun hc2 hF => ?_)
  · skip
    refine AWP.seqR rfl ?_
    refine ASL.q (v := (.int .i64 0)) rfl rfl (Light.quiet (opAssign rfl rfl)) ?_
    refine ASL.done ?_
    refine AWP.ret ?_
    refine QThen.rt ?_
    obtain rfl := someE hF
    exact QRet.sole (v := (.int .i64 0)) ⟨rfl, trivial⟩ ⟨_, ⟨rfl, rfl⟩, hS.pick [0, 1] rfl rfl⟩
  · skip
    refine AWP.skip ?_
    refine QThen.nrm ?_
    refine AWP.seq ?_
    refine AWP.seqR rfl ?_
    refine ASL.q (v := (.int .i64 p1)) rfl rfl (Light.quiet (opMove rfl rfl)) ?_
    refine ASL.q (v := (.bool (decide (p1 ≤ 256)))) rfl rfl (Light.quiet (opInt rfl rfl rfl rfl)) ?_
    refine ASL.done ?_
    refine AWP.ifP hF rfl (fun hc3 hF => ?_) (fun hc3 hF => ?_)
    · skip
      refine AWP.seqR rfl ?_
      refine ASL.q (v := (.ptr bp0 0)) rfl rfl (Light.quiet (opMove rfl rfl)) ?_
      obtain ⟨a14, ha14, hF⟩ := bindE hF
      refine ASL.x rfl rfl (hCallS hS [0, 1] (F := [.snap S]) rfl rfl rfl call_117 (spec_l1Byte_ok ha14) rfl rfl ?_); rintro _ _ G4 ⟨rfl, rfl⟩ hS
      refine ASL.q (v := (.int .i64 p1)) rfl rfl (Light.quiet (opMove rfl rfl)) ?_
      obtain ⟨u5, hu5, hF⟩ := bindE hF
      refine ASL.q (v := (.int .i64 (Int.tmod a14.1 p1))) rfl rfl (Light.quiet (opRem rfl rfl rfl (of_decide_eq_true (chkE hu5)) rfl)) ?_
      refine ASL.q (v := (.int .i64 (Int.tmod a14.1 p1))) rfl rfl (Light.quiet (opAssign rfl rfl)) ?_
      refine ASL.done ?_
      refine AWP.ret ?_
      refine QThen.rt ?_
      obtain rfl := someE hF
      exact QRet.sole (v := (.int .i64 (Int.tmod a14.1 p1))) ⟨rfl, trivial⟩ ⟨_, ⟨rfl, rfl⟩, hS.pick [0, 1] rfl rfl⟩
    · skip
      refine AWP.skip ?_
      refine QThen.nrm ?_
      refine AWP.seqR rfl ?_
      refine ASL.q (v := (.ptr bp0 0)) rfl rfl (Light.quiet (opMove rfl rfl)) ?_
      obtain ⟨a18, ha18, hF⟩ := bindE hF
      refine ASL.x rfl rfl (hCallS hS [0, 1] (F := [.snap S]) rfl rfl rfl call_117 (spec_l1Byte_ok ha18) rfl rfl ?_); rintro _ _ G6 ⟨rfl, rfl⟩ hS
      refine ASL.q (v := (.int .i64 a18.1)) rfl rfl (Light.quiet (opAssign rfl rfl)) ?_
      refine ASL.done ?_
      refine AWP.seqR rfl ?_
      refine ASL.q (v := (.ptr bp0 0)) rfl rfl (Light.quiet (opMove rfl rfl)) ?_
      obtain ⟨a20, ha20, hF⟩ := bindE hF
      refine ASL.x rfl rfl (hCallS hS [0, 1] (F := [.snap S]) rfl rfl rfl call_117 (spec_l1Byte_ok ha20) rfl rfl ?_); rintro _ _ G7 ⟨rfl, rfl⟩ hS
      refine ASL.q (v := (.int .i64 a20.1)) rfl rfl (Light.quiet (opAssign rfl rfl)) ?_
      refine ASL.done ?_
      refine AWP.seqR rfl ?_
      refine ASL.q (v := (.ptr bp0 0)) rfl rfl (Light.quiet (opMove rfl rfl)) ?_
      obtain ⟨a22, ha22, hF⟩ := bindE hF
      refine ASL.x rfl rfl (hCallS hS [0, 1] (F := [.snap S]) rfl rfl rfl call_117 (spec_l1Byte_ok ha22) rfl rfl ?_); rintro _ _ G8 ⟨rfl, rfl⟩ hS
      refine ASL.q (v := (.int .i64 a22.1)) rfl rfl (Light.quiet (opAssign rfl rfl)) ?_
      refine ASL.done ?_
      refine AWP.seqR rfl ?_
      refine ASL.q (v := (.ptr bp0 0)) rfl rfl (Light.quiet (opMove rfl rfl)) ?_
      obtain ⟨a24, ha24, hF⟩ := bindE hF
      refine ASL.x rfl rfl (hCallS hS [0, 1] (F := [.snap S]) rfl rfl rfl call_117 (spec_l1Byte_ok ha24) rfl rfl ?_); rintro _ _ G9 ⟨rfl, rfl⟩ hS
      refine ASL.q (v := (.int .i64 a24.1)) rfl rfl (Light.quiet (opAssign rfl rfl)) ?_
      refine ASL.done ?_
      refine AWP.seqR rfl ?_
      refine ASL.q (v := (.int .i64 a18.1)) rfl rfl (Light.quiet (opMove rfl rfl)) ?_
      refine ASL.q (v := (.int .i64 (W (a18.1 * 16777216)))) rfl rfl (Light.quiet (opInt rfl rfl rfl rfl)) ?_
      refine ASL.q (v := (.int .i64 a20.1)) rfl rfl (Light.quiet (opMove rfl rfl)) ?_
      refine ASL.q (v := (.int .i64 (W (a20.1 * 65536)))) rfl rfl (Light.quiet (opInt rfl rfl rfl rfl)) ?_
      refine ASL.q (v := (.int .i64 (W (((W (a18.1 * 16777216))) + ((W (a20.1 * 65536))))))) rfl rfl (Light.quiet (opInt rfl rfl rfl rfl)) ?_
      refine ASL.q (v := (.int .i64 a22.1)) rfl rfl (Light.quiet (opMove rfl rfl)) ?_
      refine ASL.q (v := (.int .i64 (W (a22.1 * 256)))) rfl rfl (Light.quiet (opInt rfl rfl rfl rfl)) ?_
      refine ASL.q (v := (.int .i64 (W (((W (((W (a18.1 * 16777216))) + ((W (a20.1 * 65536)))))) + ((W (a22.1 * 256))))))) rfl rfl (Light.quiet (opInt rfl rfl rfl rfl)) ?_
      refine ASL.q (v := (.int .i64 a24.1)) rfl rfl (Light.quiet (opMove rfl rfl)) ?_
      refine ASL.q (v := (.int .i64 (W (((W (((W (((W (a18.1 * 16777216))) + ((W (a20.1 * 65536)))))) + ((W (a22.1 * 256)))))) + a24.1)))) rfl rfl (Light.quiet (opInt rfl rfl rfl rfl)) ?_
      refine ASL.q (v := (.int .i64 p1)) rfl rfl (Light.quiet (opMove rfl rfl)) ?_
      obtain ⟨u10, hu10, hF⟩ := bindE hF
      refine ASL.q (v := (.int .i64 (Int.tmod ((W (((W (((W (((W (a18.1 * 16777216))) + ((W (a20.1 * 65536)))))) + ((W (a22.1 * 256)))))) + a24.1))) p1))) rfl rfl (Light.quiet (opRem rfl rfl rfl (of_decide_eq_true (chkE hu10)) rfl)) ?_
      refine ASL.q (v := (.int .i64 (Int.tmod ((W (((W (((W (((W (a18.1 * 16777216))) + ((W (a20.1 * 65536)))))) + ((W (a22.1 * 256)))))) + a24.1))) p1))) rfl rfl (Light.quiet (opAssign rfl rfl)) ?_
      refine ASL.done ?_
      refine AWP.ret ?_
      obtain rfl := someE hF
      exact QRet.sole (v := (.int .i64 (Int.tmod ((W (((W (((W (((W (a18.1 * 16777216))) + ((W (a20.1 * 65536)))))) + ((W (a22.1 * 256)))))) + a24.1))) p1))) ⟨rfl, trivial⟩ ⟨_, ⟨rfl, rfl⟩, hS.pick [0, 1] rfl rfl⟩

set_option maxRecDepth 10000 in
theorem spec_l8Temporal_ok {p0 : (List TNode)} {r : (List Int)} (hF : spec_l8Temporal p0 = some r) : PO Try.prog 63 [(.list 3 (List.map TNode.av p0))] 1 (List.map (AV.int .i64) r) := by
  refine HC.enter Try.func63 rfl Try.ntmps63 (by simp) ?_
  have hS := Sep.void; unfold spec_l8Temporal at hF
  refine AWP.seqR rfl ?_
  have hS := hNil (s := 1) (f := (AV.int .i64)) hS
  refine ASL.q (v := .nil) rfl rfl (Light.quiet (opAssign rfl rfl)) ?_
  refine ASL.done ?_
  refine AWP.seqR rfl ?_
  refine ASL.x rfl rfl (hLit (f := (AV.int .i64)) (zs := []) hS rfl rfl elemA_32 sizeA_3 zeroA_3 rfl rfl rfl rfl (by simp [cells]) (nlt rfl) ?_); rintro v5 G2 hK hS
  refine ASL.q (v := v5) rfl rfl (Light.quiet (opAssign rfl rfl)) ?_
  refine ASL.done ?_
  refine AWP.seqM (fun e H => ∃ y4 : (List Int), ∃ w5 : AV, E.Told e [(3, w5)] ∧ E.Sep H [.row 1 w5 (List.map (AV.int .i64) y4)] ∧ spec_l8Temporal.k0 y4 = some r) ?_ ?_
  · rintro e0 G7 ⟨y4, w5, hT, hS, hF⟩; refine AWP.only _ hT ?_; unfold spec_l8Temporal.k0 at hF
    refine AWP.seqR rfl ?_
    refine ASL.q (v := w5) rfl rfl (Light.quiet (opMove rfl rfl)) ?_
    refine ASL.q (v := w5) rfl rfl (Light.quiet (opAssign rfl rfl)) ?_
    refine ASL.done ?_
    refine AWP.ret ?_
    obtain rfl := someE hF
    exact QRet.sole (v := w5) ⟨rfl, trivial⟩ (hS.get (k := 0) rfl)
  · skip
    refine AWP.seqR rfl ?_
    refine ASL.q (v := (.int .i64 0)) rfl rfl (Light.quiet (opAssign rfl rfl)) ?_
    refine ASL.done ?_
    refine AWP.block ?_
    obtain ⟨o14, hL13, hR15⟩ := bindE hF
    refine AWP.loopF (ω := AV) hL13 (fun s w => [(0, (.list 3 (List.map TNode.av p0))), (3, w), (4, (.int .i64 s.2))]) (fun s w => [.row 1 w (List.map (AV.int .i64) s.1)]) v5 ⟨rfl, rfl, rfl, trivial⟩ (hS.pick [0] rfl rfl) ?_
    rintro ⟨y8, x4_l0⟩ w9 G16 hS x11 hF hx12
    try dsimp only at hS ⊢
    have hF : spec_l8Temporal.b0 p0 y8 x4_l0 = some x11 := hF; unfold spec_l8Temporal.b0 at hF
    refine AWP.seq ?_
    refine AWP.seqR rfl ?_
    refine ASL.q (v := (.int .i64 x4_l0)) rfl rfl (Light.quiet (opMove rfl rfl)) ?_
    refine ASL.q (v := (.list 3 (List.map TNode.av p0))) rfl rfl (Light.quiet (opMove rfl rfl)) ?_
    refine ASL.q (v := (.int .i64 (p0.length : Int))) rfl rfl (Light.quiet (opLenMap (f := TNode.av) rfl rfl rfl lenT_24 rfl)) ?_
    refine ASL.q (v := (.bool (decide (x4_l0 < ((p0.length : Int)))))) rfl rfl (Light.quiet (opInt rfl rfl rfl rfl)) ?_
    refine ASL.done ?_
    refine AWP.ifP hF rfl (fun hc17 hF => ?_) (fun hc17 hF => ?_)
    · skip
      refine AWP.skip ?_
      refine QThen.nrm ?_
      refine AWP.seq ?_
      refine AWP.block ?_
      refine AWP.seqR rfl ?_
      refine ASL.q (v := (.list 3 (List.map TNode.av p0))) rfl rfl (Light.quiet (opMove rfl rfl)) ?_
      refine ASL.q (v := (.int .i64 x4_l0)) rfl rfl (Light.quiet (opMove rfl rfl)) ?_
      obtain ⟨a14, ha14, hF⟩ := bindE hF
      refine ASL.q (v := (.rptr [(.int .i64 a14.kind), (.int .i64 a14.a), (.int .i64 a14.b)])) rfl rfl (Light.quiet (kIx (f := TNode.av) ha14 rfl rfl rfl elemA_24 sizeA_59 rfl)) ?_
      refine ASL.q (v := (.rptr [(.int .i64 a14.kind), (.int .i64 a14.a), (.int .i64 a14.b)])) rfl rfl (Light.quiet (opFieldAddrR rfl fieldA_59_0 rfl rfl)) ?_
      refine ASL.q (v := (.int .i64 a14.kind)) rfl rfl (Light.quiet (opLoadR rfl aggA_3 rfl rfl)) ?_
      refine ASL.q (v := (.bool (decide (a14.kind ≥ 7)))) rfl rfl (Light.quiet (opInt rfl rfl rfl rfl)) ?_
      refine ASL.done ?_
      refine AWP.ifP hF rfl (fun hc18 hF => ?_) (fun hc18 hF => ?_)
      · skip
        refine AWP.lastR rfl ?_
        refine ASL.q (v := w9) rfl rfl (Light.quiet (opMove rfl rfl)) ?_
        refine ASL.q (v := (.int .i64 x4_l0)) rfl rfl (Light.quiet (opMove rfl rfl)) ?_
        refine ASL.q (v := (.list 1 (List.map (AV.int .i64) [x4_l0]))) rfl rfl ((qLit (xs := [(.int .i64 x4_l0)]) rfl elemA_32 sizeA_3 zeroA_3 rfl rfl rfl rfl (by simp [cells]) (nlt rfl))) ?_
        obtain ⟨z21, hz21, hF⟩ := bindE hF
        refine ASL.x rfl rfl (hApp (f := (AV.int .i64)) (ws := [x4_l0]) hS (j := 0) rfl hz21 rfl elemA_32 rfl sizeA_3 bytesA_3 zeroA_3 rfl rfl rfl (fun _ => rfl) ?_); rintro v21 G19 hS
        refine ASL.q (v := v21) rfl rfl (Light.quiet (opAssign rfl rfl)) ?_
        refine ASL.done ?_
        refine QBlock.nrm ?_
        refine QThen.nrm ?_
        refine AWP.lastR rfl ?_
        refine ASL.q (v := (.int .i64 x4_l0)) rfl rfl (Light.quiet (opMove rfl rfl)) ?_
        refine ASL.q (v := (.int .i64 (W (x4_l0 + 1)))) rfl rfl (Light.quiet (opInt rfl rfl rfl rfl)) ?_
        refine ASL.q (v := (.int .i64 (W (x4_l0 + 1)))) rfl rfl (Light.quiet (opAssign rfl rfl)) ?_
        refine ASL.done ?_
        refine QThen.nrm ?_
        exact ⟨(z21, (W (x4_l0 + 1))), v21, (someE hF).symm, ⟨rfl, rfl, rfl, trivial⟩, (hS.pick [0] rfl rfl)⟩
      · skip
        refine AWP.skip ?_
        refine QBlock.nrm ?_
        refine QThen.nrm ?_
        refine AWP.lastR rfl ?_
        refine ASL.q (v := (.int .i64 x4_l0)) rfl rfl (Light.quiet (opMove rfl rfl)) ?_
        refine ASL.q (v := (.int .i64 (W (x4_l0 + 1)))) rfl rfl (Light.quiet (opInt rfl rfl rfl rfl)) ?_
        refine ASL.q (v := (.int .i64 (W (x4_l0 + 1)))) rfl rfl (Light.quiet (opAssign rfl rfl)) ?_
        refine ASL.done ?_
        refine QThen.nrm ?_
        exact ⟨(y8, (W (x4_l0 + 1))), w9, (someE hF).symm, ⟨rfl, rfl, rfl, trivial⟩, (hS.pick [0] rfl rfl)⟩
    · skip
      refine AWP.exit ?_
      refine QThen.ext ?_
      refine QThen.ext ?_
      refine QBlock.hit ?_
      obtain rfl := (hx12 _ (someE hF).symm)
      have hF := hR15
      refine QThen.nrm ?_
      exact ⟨y8, w9, ⟨rfl, trivial⟩, (hS.pick [0] rfl rfl), hF⟩

set_option maxRecDepth 10000 in
theorem spec_l1PickInt_ok {p0 : Tl1Cur} {p1 : (List Int)} {r : (Int × Tl1Cur)} {bp0 : Nat} (hF : spec_l1PickInt p0 p1 = some r) : HS Try.prog 51 [(.ptr bp0 0), (.list 1 (List.map (AV.int .i64) p1))] [.cell bp0 [(.list 1 (List.map (AV.int .u8) p0.b)), (.int .i64 p0.i), (.int .i64 p0.h)]] fun v L' => v = (.int .i64 r.1) ∧ L' = [.cell bp0 [(.list 1 (List.map (AV.int .u8) r.2.b)), (.int .i64 r.2.i), (.int .i64 r.2.h)]] := by
  intro H S hS
  refine HC.enter Try.func51 rfl Try.ntmps51 (by simp) ?_
  simp only [List.cons_append, List.nil_append] at hS
  unfold spec_l1PickInt at hF
  refine AWP.seqR rfl ?_
  refine ASL.q (v := (.int .i64 0)) rfl rfl (Light.quiet (opAssign rfl rfl)) ?_
  refine ASL.done ?_
  refine AWP.seqR rfl ?_
  refine ASL.q (v := (.list 1 (List.map (AV.int .i64) p1))) rfl rfl (Light.quiet (opMove rfl rfl)) ?_
  refine ASL.q (v := (.ptr bp0 0)) rfl rfl (Light.quiet (opMove rfl rfl)) ?_
  refine ASL.q (v := (.list 1 (List.map (AV.int .i64) p1))) rfl rfl (Light.quiet (opMove rfl rfl)) ?_
  refine ASL.q (v := (.int .i64 (p1.length : Int))) rfl rfl (Light.quiet (opLenMap (f := (AV.int .i64)) rfl rfl rfl lenT_32 rfl)) ?_
  obtain ⟨a9, ha9, hF⟩ := bindE hF
  refine ASL.x rfl rfl (hCallS hS [0, 1] (F := [.snap S]) rfl rfl rfl call_97 (spec_l1Below_ok ha9) rfl rfl ?_); rintro _ _ G2 ⟨rfl, rfl⟩ hS
  obtain ⟨a10, ha10, hF⟩ := bindE hF
  refine ASL.q (v := (.rptr [(.int .i64 a10)])) rfl rfl (Light.quiet (kIx (f := (AV.int .i64)) ha10 rfl rfl rfl elemA_32 sizeA_3 rfl)) ?_
  refine ASL.q (v := (.int .i64 a10)) rfl rfl (Light.quiet (opLoadR rfl aggA_3 rfl rfl)) ?_
  refine ASL.q (v := (.int .i64 a10)) rfl rfl (Light.quiet (opAssign rfl rfl)) ?_
  refine ASL.done ?_
  refine AWP.ret ?_
  obtain rfl := someE hF
  exact QRet.sole (v := (.int .i64 a10)) ⟨rfl, trivial⟩ ⟨_, ⟨rfl, rfl⟩, hS.pick [0, 1] rfl rfl⟩

set_option maxRecDepth 10000 in
theorem spec_l8Two_ok {p0 : (List TNode)} {p1 : Int} {p2 : Int} {r : (List TNode)} {vp0 : AV} (hF : spec_l8Two p0 p1 p2 = some r) : HS Try.prog 58 [vp0, (.int .i64 p1), (.int .i64 p2)] [.row 3 vp0 (List.map TNode.av p0)] fun v L' => ∃ o0 : AV, v = o0 ∧ L' = [.row 3 o0 (List.map TNode.av r)] := by
  intro H S hS
  refine HC.enter Try.func58 rfl Try.ntmps58 (by simp) ?_
  simp only [List.cons_append, List.nil_append] at hS
  unfold spec_l8Two at hF
  refine AWP.seqR rfl ?_
  have hS := hNil (s := 3) (f := TNode.av) hS
  refine ASL.q (v := .nil) rfl rfl (Light.quiet (opAssign rfl rfl)) ?_
  refine ASL.done ?_
  refine AWP.seqR rfl ?_
  refine ASL.q (v := vp0) rfl rfl (Light.quiet (opMove rfl rfl)) ?_
  refine ASL.q (v := (.int .i64 p1)) rfl rfl (Light.quiet (opMove rfl rfl)) ?_
  refine ASL.q (v := (.int .i64 p2)) rfl rfl (Light.quiet (opMove rfl rfl)) ?_
  refine ASL.q (v := vp0) rfl rfl (Light.quiet (opMove rfl rfl)) ?_
  refine ASL.q (v := (.int .i64 (p0.length : Int))) rfl rfl (Light.quiet (kLen hS (j := 1) rfl rfl rfl rfl lenT_24 rfl)) ?_
  refine ASL.q (v := (.int .i64 (W (((p0.length : Int)) - 1)))) rfl rfl (Light.quiet (opInt rfl rfl rfl rfl)) ?_
  refine ASL.q (v := (.agg [(.int .i64 p1), (.int .i64 p2), (.int .i64 (W (((p0.length : Int)) - 1)))])) rfl rfl (Light.quiet (opBuildZ (zs := [(.int .i64 0), (.int .i64 0), (.int .i64 0)]) rfl plan_59 zeroA_59 ⟨.inl rfl, .inl rfl, .inl rfl, trivial⟩ rfl)) ?_
  refine ASL.q (v := (.list 3 (List.map TNode.av [(TNode.mk p1 p2 ((W (((p0.length : Int)) - 1))))]))) rfl rfl ((qLit (xs := [(.agg [(.int .i64 p1), (.int .i64 p2), (.int .i64 (W (((p0.length : Int)) - 1)))])]) rfl elemA_24 sizeA_59 zeroA_59 rfl rfl rfl rfl (by simp [cells, TNode.av]) (nlt rfl))) ?_
  obtain ⟨z15, hz15, hF⟩ := bindE hF
  refine ASL.x rfl rfl (hApp (f := TNode.av) (ws := [(TNode.mk p1 p2 ((W (((p0.length : Int)) - 1))))]) hS (j := 1) rfl hz15 rfl elemA_24 rfl sizeA_59 bytesA_59 zeroA_59 rfl rfl rfl (fun _ => rfl) ?_); rintro v15 G3 hS
  refine ASL.q (v := v15) rfl rfl (Light.quiet (opAssign rfl rfl)) ?_
  refine ASL.done ?_
  refine AWP.ret ?_
  obtain rfl := someE hF
  exact QRet.sole (v := v15) ⟨rfl, trivial⟩ ⟨_, ⟨v15, rfl, rfl⟩, hS.pick [1, 2] rfl rfl⟩

set_option maxRecDepth 10000 in
theorem spec_l8DrawTree.body_ok {p0 : Tl1Cur} {p1 : Int} {p2 : (List TNode)} {p3 : Int} {r : ((List TNode) × Tl1Cur)} {bp0 : Nat} {vp2 : AV} {rec_spec_l8DrawTree : Tl1Cur → Int → (List TNode) → Int → Option ((List TNode) × Tl1Cur)} (ih_spec_l8DrawTree : ∀ {p0 : Tl1Cur} {p1 : Int} {p2 : (List TNode)} {p3 : Int} {r : ((List TNode) × Tl1Cur)} {bp0 : Nat} {vp2 : AV} , rec_spec_l8DrawTree p0 p1 p2 p3 = some r → HS Try.prog 118 [(.ptr bp0 0), (.int .i64 p1), vp2, (.int .i64 p3)] [.cell bp0 [(.list 1 (List.map (AV.int .u8) p0.b)), (.int .i64 p0.i), (.int .i64 p0.h)], .row 3 vp2 (List.map TNode.av p2)] fun v L' => ∃ o0 : AV, v = o0 ∧ L' = [.row 3 o0 (List.map TNode.av r.1), .cell bp0 [(.list 1 (List.map (AV.int .u8) r.2.b)), (.int .i64 r.2.i), (.int .i64 r.2.h)]]) (hF : spec_l8DrawTree.body rec_spec_l8DrawTree p0 p1 p2 p3 = some r) : HS Try.prog 118 [(.ptr bp0 0), (.int .i64 p1), vp2, (.int .i64 p3)] [.cell bp0 [(.list 1 (List.map (AV.int .u8) p0.b)), (.int .i64 p0.i), (.int .i64 p0.h)], .row 3 vp2 (List.map TNode.av p2)] fun v L' => ∃ o0 : AV, v = o0 ∧ L' = [.row 3 o0 (List.map TNode.av r.1), .cell bp0 [(.list 1 (List.map (AV.int .u8) r.2.b)), (.int .i64 r.2.i), (.int .i64 r.2.h)]] := by
  intro H S hS
  refine HC.enter Try.func118 rfl Try.ntmps118 (by simp) ?_
  simp only [List.cons_append, List.nil_append] at hS
  unfold spec_l8DrawTree.body at hF
  refine AWP.seqR rfl ?_
  have hS := hNil (s := 3) (f := TNode.av) hS
  refine ASL.q (v := .nil) rfl rfl (Light.quiet (opAssign rfl rfl)) ?_
  refine ASL.done ?_
  refine AWP.seqR rfl ?_
  refine ASL.q (v := (.ptr bp0 0)) rfl rfl (Light.quiet (opMove rfl rfl)) ?_
  obtain ⟨a13, ha13, hF⟩ := bindE hF
  refine ASL.x rfl rfl (hCallS hS [1, 0, 2, 3] (F := [.row 3 .nil (List.map TNode.av ([])), .row 3 vp2 (List.map TNode.av p2), .snap S]) rfl rfl rfl call_97 (spec_l1Below_ok ha13) rfl rfl ?_); rintro _ _ G4 ⟨rfl, rfl⟩ hS
  refine ASL.q (v := (.int .i64 a13.1)) rfl rfl (Light.quiet (opAssign rfl rfl)) ?_
  refine ASL.done ?_
  refine AWP.seqM (fun e H => ∃ y5 : (List Int), ∃ y6 : Int, ∃ y7 : Int, ∃ x9_1 : Int, E.Told e [(0, (.ptr bp0 0)), (1, (.int .i64 p1)), (2, vp2), (3, (.int .i64 p3)), (9, (.int .i64 x9_1))] ∧ E.Sep H [.cell bp0 [(.list 1 (List.map (AV.int .u8) y5)), (.int .i64 y6), (.int .i64 y7)], .row 3 vp2 (List.map TNode.av p2), .snap S] ∧ spec_l8DrawTree.k0 p2 p3 rec_spec_l8DrawTree p1 y5 y6 y7 x9_1 = some r) ?_ ?_
  · rintro e0 G47 ⟨y5, y6, y7, x9_1, hT, hS, hF⟩; refine AWP.only _ hT ?_; unfold spec_l8DrawTree.k0 at hF
    refine AWP.seqM (fun e H => ∃ x9_2 : Int, E.Told e [(0, (.ptr bp0 0)), (1, (.int .i64 p1)), (2, vp2), (3, (.int .i64 p3)), (9, (.int .i64 x9_2))] ∧ E.Sep H [.cell bp0 [(.list 1 (List.map (AV.int .u8) y5)), (.int .i64 y6), (.int .i64 y7)], .row 3 vp2 (List.map TNode.av p2), .snap S] ∧ spec_l8DrawTree.k1 y5 y6 y7 p2 rec_spec_l8DrawTree p1 p3 x9_2 = some r) ?_ ?_
    · rintro e0 G45 ⟨x9_2, hT, hS, hF⟩; refine AWP.only _ hT ?_; unfold spec_l8DrawTree.k1 at hF
      refine AWP.seq ?_
      refine AWP.block ?_
      refine AWP.seqR rfl ?_
      refine ASL.q (v := (.int .i64 x9_2)) rfl rfl (Light.quiet (opMove rfl rfl)) ?_
      refine ASL.q (v := (.bool (decide (x9_2 < 3)))) rfl rfl (Light.quiet (opInt rfl rfl rfl rfl)) ?_
      refine ASL.q (v := (.bool (decide (x9_2 < 3)))) rfl rfl (Light.quiet (opAssign rfl rfl)) ?_
      refine ASL.done ?_
      refine AWP.ifP hF rfl (fun hc8 hF => ?_) (fun hc8 hF => ?_)
      · skip
        refine AWP.seqR rfl ?_
        refine ASL.q (v := vp2) rfl rfl (Light.quiet (opMove rfl rfl)) ?_
        refine ASL.q (v := (.ptr bp0 0)) rfl rfl (Light.quiet (opMove rfl rfl)) ?_
        obtain ⟨a35, ha35, hF⟩ := bindE hF
        refine ASL.x rfl rfl (hCallS hS [0, 1, 2] (F := [.row 3 vp2 (List.map TNode.av p2), .snap S]) rfl rfl rfl call_97 (spec_l1Below_ok ha35) rfl rfl ?_); rintro _ _ G9 ⟨rfl, rfl⟩ hS
        refine ASL.q (v := (.agg [(.int .i64 3), (.int .i64 a35.1), (.int .i64 0)])) rfl rfl (Light.quiet (opBuildZ (zs := [(.int .i64 0), (.int .i64 0), (.int .i64 0)]) rfl plan_59 zeroA_59 ⟨.inl rfl, .inl rfl, .inl rfl, trivial⟩ rfl)) ?_
        refine ASL.q (v := (.list 3 (List.map TNode.av [(TNode.mk 3 a35.1 0)]))) rfl rfl ((qLit (xs := [(.agg [(.int .i64 3), (.int .i64 a35.1), (.int .i64 0)])]) rfl elemA_24 sizeA_59 zeroA_59 rfl rfl rfl rfl (by simp [cells, TNode.av]) (nlt rfl))) ?_
        obtain ⟨z38, hz38, hF⟩ := bindE hF
        refine ASL.x rfl rfl (hApp (f := TNode.av) (ws := [(TNode.mk 3 a35.1 0)]) hS (j := 1) rfl hz38 rfl elemA_24 rfl sizeA_59 bytesA_59 zeroA_59 rfl rfl rfl (fun _ => rfl) ?_); rintro v38 G10 hS
        refine ASL.q (v := v38) rfl rfl (Light.quiet (opAssign rfl rfl)) ?_
        refine ASL.done ?_
        refine AWP.ret ?_
        refine QBlock.ret ?_
        refine QThen.rt ?_
        obtain rfl := someE hF
        exact QRet.sole (v := v38) ⟨rfl, trivial⟩ ⟨_, ⟨v38, rfl, rfl⟩, hS.pick [1, 0, 2] rfl rfl⟩
      · skip
        refine AWP.seqR rfl ?_
        refine ASL.q (v := (.int .i64 x9_2)) rfl rfl (Light.quiet (opMove rfl rfl)) ?_
        refine ASL.q (v := (.bool (decide (x9_2 = 3)))) rfl rfl (Light.quiet (opInt rfl rfl rfl rfl)) ?_
        refine ASL.q (v := (.bool (decide (x9_2 = 3)))) rfl rfl (Light.quiet (opAssign rfl rfl)) ?_
        refine ASL.done ?_
        refine AWP.ifP hF rfl (fun hc12 hF => ?_) (fun hc12 hF => ?_)
        · skip
          refine AWP.seqR rfl ?_
          refine ASL.q (v := vp2) rfl rfl (Light.quiet (opMove rfl rfl)) ?_
          refine ASL.q (v := (.ptr bp0 0)) rfl rfl (Light.quiet (opMove rfl rfl)) ?_
          obtain ⟨a44, ha44, hF⟩ := bindE hF
          refine ASL.x rfl rfl (hCallS hS [0, 1, 2] (F := [.row 3 vp2 (List.map TNode.av p2), .snap S]) rfl rfl rfl call_97 (spec_l1Below_ok ha44) rfl rfl ?_); rintro _ _ G13 ⟨rfl, rfl⟩ hS
          refine ASL.q (v := (.int .i64 (W (1 + a44.1)))) rfl rfl (Light.quiet (opInt rfl rfl rfl rfl)) ?_
          refine ASL.q (v := (.agg [(.int .i64 (W (1 + a44.1))), (.int .i64 0), (.int .i64 0)])) rfl rfl (Light.quiet (opBuildZ (zs := [(.int .i64 0), (.int .i64 0), (.int .i64 0)]) rfl plan_59 zeroA_59 ⟨.inl rfl, .inl rfl, .inl rfl, trivial⟩ rfl)) ?_
          refine ASL.q (v := (.list 3 (List.map TNode.av [(TNode.mk ((W (1 + a44.1))) 0 0)]))) rfl rfl ((qLit (xs := [(.agg [(.int .i64 (W (1 + a44.1))), (.int .i64 0), (.int .i64 0)])]) rfl elemA_24 sizeA_59 zeroA_59 rfl rfl rfl rfl (by simp [cells, TNode.av]) (nlt rfl))) ?_
          obtain ⟨z48, hz48, hF⟩ := bindE hF
          refine ASL.x rfl rfl (hApp (f := TNode.av) (ws := [(TNode.mk ((W (1 + a44.1))) 0 0)]) hS (j := 1) rfl hz48 rfl elemA_24 rfl sizeA_59 bytesA_59 zeroA_59 rfl rfl rfl (fun _ => rfl) ?_); rintro v48 G14 hS
          refine ASL.q (v := v48) rfl rfl (Light.quiet (opAssign rfl rfl)) ?_
          refine ASL.done ?_
          refine AWP.ret ?_
          refine QBlock.ret ?_
          refine QThen.rt ?_
          obtain rfl := someE hF
          exact QRet.sole (v := v48) ⟨rfl, trivial⟩ ⟨_, ⟨v48, rfl, rfl⟩, hS.pick [1, 0, 2] rfl rfl⟩
        · skip
          refine AWP.seqR rfl ?_
          refine ASL.q (v := (.int .i64 x9_2)) rfl rfl (Light.quiet (opMove rfl rfl)) ?_
          refine ASL.q (v := (.bool (decide (x9_2 = 4)))) rfl rfl (Light.quiet (opInt rfl rfl rfl rfl)) ?_
          refine ASL.q (v := (.bool (decide (x9_2 = 4)))) rfl rfl (Light.quiet (opAssign rfl rfl)) ?_
          refine ASL.done ?_
          refine AWP.ifP hF rfl (fun hc16 hF => ?_) (fun hc16 hF => ?_)
          · skip
            refine AWP.seqR rfl ?_
            refine ASL.q (v := (.ptr bp0 0)) rfl rfl (Light.quiet (opMove rfl rfl)) ?_
            refine ASL.q (v := (.int .i64 p1)) rfl rfl (Light.quiet (opMove rfl rfl)) ?_
            refine ASL.q (v := (.int .i64 (W (p1 - 1)))) rfl rfl (Light.quiet (opInt rfl rfl rfl rfl)) ?_
            refine ASL.q (v := vp2) rfl rfl (Light.quiet (opMove rfl rfl)) ?_
            refine ASL.q (v := (.int .i64 p3)) rfl rfl (Light.quiet (opMove rfl rfl)) ?_
            obtain ⟨a57, ha57, hF⟩ := bindE hF
            refine ASL.x rfl rfl (hCallS hS [0, 1, 2] (F := [.snap S]) rfl rfl rfl call_118 (ih_spec_l8DrawTree ha57) rfl rfl ?_); rintro w17 _ G19 ⟨_, rfl, rfl⟩ hS
            refine ASL.q (v := w17) rfl rfl (Light.quiet (opAssign rfl rfl)) ?_
            refine ASL.done ?_
            refine AWP.seqR rfl ?_
            refine ASL.q (v := w17) rfl rfl (Light.quiet (opMove rfl rfl)) ?_
            refine ASL.q (v := w17) rfl rfl (Light.quiet (opMove rfl rfl)) ?_
            refine ASL.q (v := (.int .i64 (a57.1.length : Int))) rfl rfl (Light.quiet (kLen hS (j := 0) rfl rfl rfl rfl lenT_24 rfl)) ?_
            refine ASL.q (v := (.int .i64 (W (((a57.1.length : Int)) - 1)))) rfl rfl (Light.quiet (opInt rfl rfl rfl rfl)) ?_
            refine ASL.q (v := (.agg [(.int .i64 4), (.int .i64 (W (((a57.1.length : Int)) - 1))), (.int .i64 0)])) rfl rfl (Light.quiet (opBuildZ (zs := [(.int .i64 0), (.int .i64 0), (.int .i64 0)]) rfl plan_59 zeroA_59 ⟨.inl rfl, .inl rfl, .inl rfl, trivial⟩ rfl)) ?_
            refine ASL.q (v := (.list 3 (List.map TNode.av [(TNode.mk 4 ((W (((a57.1.length : Int)) - 1))) 0)]))) rfl rfl ((qLit (xs := [(.agg [(.int .i64 4), (.int .i64 (W (((a57.1.length : Int)) - 1))), (.int .i64 0)])]) rfl elemA_24 sizeA_59 zeroA_59 rfl rfl rfl rfl (by simp [cells, TNode.av]) (nlt rfl))) ?_
            obtain ⟨z64, hz64, hF⟩ := bindE hF
            refine ASL.x rfl rfl (hApp (f := TNode.av) (ws := [(TNode.mk 4 ((W (((a57.1.length : Int)) - 1))) 0)]) hS (j := 0) rfl hz64 rfl elemA_24 rfl sizeA_59 bytesA_59 zeroA_59 rfl rfl rfl (fun _ => rfl) ?_); rintro v64 G20 hS
            refine ASL.q (v := v64) rfl rfl (Light.quiet (opAssign rfl rfl)) ?_
            refine ASL.done ?_
            refine AWP.ret ?_
            refine QBlock.ret ?_
            refine QThen.rt ?_
            obtain rfl := someE hF
            exact QRet.sole (v := v64) ⟨rfl, trivial⟩ ⟨_, ⟨v64, rfl, rfl⟩, hS.pick [0, 1, 2] rfl rfl⟩
          · skip
            refine AWP.seqR rfl ?_
            refine ASL.q (v := (.int .i64 x9_2)) rfl rfl (Light.quiet (opMove rfl rfl)) ?_
            refine ASL.q (v := (.bool (decide (x9_2 ≥ 10)))) rfl rfl (Light.quiet (opInt rfl rfl rfl rfl)) ?_
            refine ASL.q (v := (.bool (decide (x9_2 ≥ 10)))) rfl rfl (Light.quiet (opAssign rfl rfl)) ?_
            refine ASL.done ?_
            refine AWP.ifP hF rfl (fun hc22 hF => ?_) (fun hc22 hF => ?_)
            · skip
              refine AWP.seqR rfl ?_
              refine ASL.q (v := (.ptr bp0 0)) rfl rfl (Light.quiet (opMove rfl rfl)) ?_
              refine ASL.q (v := (.int .i64 p1)) rfl rfl (Light.quiet (opMove rfl rfl)) ?_
              refine ASL.q (v := (.int .i64 (W (p1 - 1)))) rfl rfl (Light.quiet (opInt rfl rfl rfl rfl)) ?_
              refine ASL.q (v := vp2) rfl rfl (Light.quiet (opMove rfl rfl)) ?_
              refine ASL.q (v := (.int .i64 p3)) rfl rfl (Light.quiet (opMove rfl rfl)) ?_
              refine ASL.q (v := (.int .i64 (W (p3 - 1)))) rfl rfl (Light.quiet (opInt rfl rfl rfl rfl)) ?_
              obtain ⟨a74, ha74, hF⟩ := bindE hF
              refine ASL.x rfl rfl (hCallS hS [0, 1, 2] (F := [.snap S]) rfl rfl rfl call_118 (ih_spec_l8DrawTree ha74) rfl rfl ?_); rintro w23 _ G25 ⟨_, rfl, rfl⟩ hS
              refine ASL.q (v := w23) rfl rfl (Light.quiet (opAssign rfl rfl)) ?_
              refine ASL.done ?_
              refine AWP.seqR rfl ?_
              refine ASL.q (v := w23) rfl rfl (Light.quiet (opMove rfl rfl)) ?_
              refine ASL.q (v := (.ptr bp0 0)) rfl rfl (Light.quiet (opMove rfl rfl)) ?_
              refine ASL.q (v := (.list 1 (List.map (AV.int .i64) [7, 10, 11]))) rfl rfl ((qLit (xs := [(.int .i64 7), (.int .i64 10), (.int .i64 11)]) rfl elemA_32 sizeA_3 zeroA_3 rfl rfl rfl rfl (by simp [cells]) (nlt rfl))) ?_
              obtain ⟨a78, ha78, hF⟩ := bindE hF
              refine ASL.x rfl rfl (hCallS hS [1, 0, 2] (F := [.row 3 w23 (List.map TNode.av a74.1), .snap S]) rfl rfl rfl call_51 (spec_l1PickInt_ok ha78) rfl rfl ?_); rintro _ _ G26 ⟨rfl, rfl⟩ hS
              refine ASL.q (v := w23) rfl rfl (Light.quiet (opMove rfl rfl)) ?_
              refine ASL.q (v := (.int .i64 (a74.1.length : Int))) rfl rfl (Light.quiet (kLen hS (j := 1) rfl rfl rfl rfl lenT_24 rfl)) ?_
              refine ASL.q (v := (.int .i64 (W (((a74.1.length : Int)) - 1)))) rfl rfl (Light.quiet (opInt rfl rfl rfl rfl)) ?_
              refine ASL.q (v := (.agg [(.int .i64 a78.1), (.int .i64 (W (((a74.1.length : Int)) - 1))), (.int .i64 0)])) rfl rfl (Light.quiet (opBuildZ (zs := [(.int .i64 0), (.int .i64 0), (.int .i64 0)]) rfl plan_59 zeroA_59 ⟨.inl rfl, .inl rfl, .inl rfl, trivial⟩ rfl)) ?_
              refine ASL.q (v := (.list 3 (List.map TNode.av [(TNode.mk a78.1 ((W (((a74.1.length : Int)) - 1))) 0)]))) rfl rfl ((qLit (xs := [(.agg [(.int .i64 a78.1), (.int .i64 (W (((a74.1.length : Int)) - 1))), (.int .i64 0)])]) rfl elemA_24 sizeA_59 zeroA_59 rfl rfl rfl rfl (by simp [cells, TNode.av]) (nlt rfl))) ?_
              obtain ⟨z84, hz84, hF⟩ := bindE hF
              refine ASL.x rfl rfl (hApp (f := TNode.av) (ws := [(TNode.mk a78.1 ((W (((a74.1.length : Int)) - 1))) 0)]) hS (j := 1) rfl hz84 rfl elemA_24 rfl sizeA_59 bytesA_59 zeroA_59 rfl rfl rfl (fun _ => rfl) ?_); rintro v84 G27 hS
              refine ASL.q (v := v84) rfl rfl (Light.quiet (opAssign rfl rfl)) ?_
              refine ASL.done ?_
              refine AWP.ret ?_
              refine QBlock.ret ?_
              refine QThen.rt ?_
              obtain rfl := someE hF
              exact QRet.sole (v := v84) ⟨rfl, trivial⟩ ⟨_, ⟨v84, rfl, rfl⟩, hS.pick [1, 0, 2] rfl rfl⟩
            · skip
              refine AWP.skip ?_
              refine QBlock.nrm ?_
              refine QThen.nrm ?_
              refine AWP.seqR rfl ?_
              refine ASL.q (v := (.ptr bp0 0)) rfl rfl (Light.quiet (opMove rfl rfl)) ?_
              obtain ⟨a86, ha86, hF⟩ := bindE hF
              refine ASL.x rfl rfl (hCallS hS [0, 1, 2] (F := [.row 3 vp2 (List.map TNode.av p2), .snap S]) rfl rfl rfl call_97 (spec_l1Below_ok ha86) rfl rfl ?_); rintro _ _ G29 ⟨rfl, rfl⟩ hS
              refine ASL.q (v := (.int .i64 (W (5 + a86.1)))) rfl rfl (Light.quiet (opInt rfl rfl rfl rfl)) ?_
              refine ASL.q (v := (.int .i64 (W (5 + a86.1)))) rfl rfl (Light.quiet (opAssign rfl rfl)) ?_
              refine ASL.done ?_
              refine AWP.seqM (fun e H => ∃ y30 : (List Int), ∃ y31 : Int, ∃ y32 : Int, ∃ x3_3 : Int, ∃ x10_3 : Int, E.Told e [(0, (.ptr bp0 0)), (1, (.int .i64 p1)), (2, vp2), (3, (.int .i64 x3_3)), (10, (.int .i64 x10_3))] ∧ E.Sep H [.cell bp0 [(.list 1 (List.map (AV.int .u8) y30)), (.int .i64 y31), (.int .i64 y32)], .row 3 vp2 (List.map TNode.av p2), .snap S] ∧ spec_l8DrawTree.k2 rec_spec_l8DrawTree p1 p2 y30 y31 y32 x3_3 x10_3 = some r) ?_ ?_
              · rintro e0 G42 ⟨y30, y31, y32, x3_3, x10_3, hT, hS, hF⟩; refine AWP.only _ hT ?_; unfold spec_l8DrawTree.k2 at hF
                refine AWP.seqR rfl ?_
                refine ASL.q (v := (.ptr bp0 0)) rfl rfl (Light.quiet (opMove rfl rfl)) ?_
                refine ASL.q (v := (.int .i64 p1)) rfl rfl (Light.quiet (opMove rfl rfl)) ?_
                refine ASL.q (v := (.int .i64 (W (p1 - 1)))) rfl rfl (Light.quiet (opInt rfl rfl rfl rfl)) ?_
                refine ASL.q (v := vp2) rfl rfl (Light.quiet (opMove rfl rfl)) ?_
                refine ASL.q (v := (.int .i64 x3_3)) rfl rfl (Light.quiet (opMove rfl rfl)) ?_
                obtain ⟨a100, ha100, hF⟩ := bindE hF
                refine ASL.x rfl rfl (hCallS hS [0, 1, 2] (F := [.snap S]) rfl rfl rfl call_118 (ih_spec_l8DrawTree ha100) rfl rfl ?_); rintro w33 _ G35 ⟨_, rfl, rfl⟩ hS
                refine ASL.q (v := w33) rfl rfl (Light.quiet (opAssign rfl rfl)) ?_
                refine ASL.done ?_
                refine AWP.seqR rfl ?_
                refine ASL.q (v := w33) rfl rfl (Light.quiet (opMove rfl rfl)) ?_
                refine ASL.q (v := (.int .i64 (a100.1.length : Int))) rfl rfl (Light.quiet (kLen hS (j := 0) rfl rfl rfl rfl lenT_24 rfl)) ?_
                refine ASL.q (v := (.int .i64 (W (((a100.1.length : Int)) - 1)))) rfl rfl (Light.quiet (opInt rfl rfl rfl rfl)) ?_
                refine ASL.q (v := (.int .i64 (W (((a100.1.length : Int)) - 1)))) rfl rfl (Light.quiet (opAssign rfl rfl)) ?_
                refine ASL.done ?_
                refine AWP.seqR rfl ?_
                refine ASL.q (v := (.ptr bp0 0)) rfl rfl (Light.quiet (opMove rfl rfl)) ?_
                refine ASL.q (v := (.int .i64 p1)) rfl rfl (Light.quiet (opMove rfl rfl)) ?_
                refine ASL.q (v := (.int .i64 (W (p1 - 1)))) rfl rfl (Light.quiet (opInt rfl rfl rfl rfl)) ?_
                refine ASL.q (v := w33) rfl rfl (Light.quiet (opMove rfl rfl)) ?_
                refine ASL.q (v := (.int .i64 x3_3)) rfl rfl (Light.quiet (opMove rfl rfl)) ?_
                obtain ⟨a109, ha109, hF⟩ := bindE hF
                refine ASL.x rfl rfl (hCallS hS [1, 0, 2] (F := [.snap S]) rfl rfl rfl call_118 (ih_spec_l8DrawTree ha109) rfl rfl ?_); rintro w36 _ G38 ⟨_, rfl, rfl⟩ hS
                refine ASL.q (v := w36) rfl rfl (Light.quiet (opAssign rfl rfl)) ?_
                refine ASL.done ?_
                refine AWP.seqR rfl ?_
                refine ASL.q (v := w36) rfl rfl (Light.quiet (opMove rfl rfl)) ?_
                refine ASL.q (v := (.int .i64 x10_3)) rfl rfl (Light.quiet (opMove rfl rfl)) ?_
                refine ASL.q (v := (.int .i64 (W (((a100.1.length : Int)) - 1)))) rfl rfl (Light.quiet (opMove rfl rfl)) ?_
                obtain ⟨a113, ha113, hF⟩ := bindE hF
                refine ASL.x rfl rfl (hCallS hS [0, 1, 2] (F := [.cell bp0 [(.list 1 (List.map (AV.int .u8) a109.2.b)), (.int .i64 a109.2.i), (.int .i64 a109.2.h)], .snap S]) rfl rfl rfl call_58 (spec_l8Two_ok ha113) rfl rfl ?_); rintro w39 _ G41 ⟨_, rfl, rfl⟩ hS
                refine ASL.q (v := w39) rfl rfl (Light.quiet (opAssign rfl rfl)) ?_
                refine ASL.done ?_
                refine AWP.ret ?_
                obtain rfl := someE hF
                exact QRet.sole (v := w39) ⟨rfl, trivial⟩ ⟨_, ⟨w39, rfl, rfl⟩, hS.pick [0, 1, 2] rfl rfl⟩
              · skip
                refine AWP.seqR rfl ?_
                refine ASL.q (v := (.int .i64 x9_2)) rfl rfl (Light.quiet (opMove rfl rfl)) ?_
                refine ASL.q (v := (.bool (decide (x9_2 ≥ 7)))) rfl rfl (Light.quiet (opInt rfl rfl rfl rfl)) ?_
                refine ASL.done ?_
                refine AWP.ifP hF rfl (fun hc43 hF => ?_) (fun hc43 hF => ?_)
                · skip
                  refine AWP.seqR rfl ?_
                  refine ASL.q (v := (.ptr bp0 0)) rfl rfl (Light.quiet (opMove rfl rfl)) ?_
                  obtain ⟨a91, ha91, hF⟩ := bindE hF
                  refine ASL.x rfl rfl (hCallS hS [0, 1, 2] (F := [.row 3 vp2 (List.map TNode.av p2), .snap S]) rfl rfl rfl call_97 (spec_l1Below_ok ha91) rfl rfl ?_); rintro _ _ G44 ⟨rfl, rfl⟩ hS
                  refine ASL.q (v := (.int .i64 (W (8 + a91.1)))) rfl rfl (Light.quiet (opInt rfl rfl rfl rfl)) ?_
                  refine ASL.q (v := (.int .i64 (W (8 + a91.1)))) rfl rfl (Light.quiet (opAssign rfl rfl)) ?_
                  refine ASL.done ?_
                  refine AWP.lastR rfl ?_
                  refine ASL.q (v := (.int .i64 p3)) rfl rfl (Light.quiet (opMove rfl rfl)) ?_
                  refine ASL.q (v := (.int .i64 (W (p3 - 1)))) rfl rfl (Light.quiet (opInt rfl rfl rfl rfl)) ?_
                  refine ASL.q (v := (.int .i64 (W (p3 - 1)))) rfl rfl (Light.quiet (opAssign rfl rfl)) ?_
                  refine ASL.done ?_
                  refine QThen.nrm ?_
                  exact ⟨a91.2.b, a91.2.i, a91.2.h, (W (p3 - 1)), (W (8 + a91.1)), ⟨rfl, rfl, rfl, rfl, rfl, trivial⟩, (hS.pick [0, 1, 2] rfl rfl), hF⟩
                · skip
                  refine AWP.skip ?_
                  refine QThen.nrm ?_
                  exact ⟨a86.2.b, a86.2.i, a86.2.h, p3, (W (5 + a86.1)), ⟨rfl, rfl, rfl, rfl, rfl, trivial⟩, (hS.pick [0, 1, 2] rfl rfl), hF⟩
    · skip
      refine AWP.seqR rfl ?_
      refine ASL.q (v := (.int .i64 x9_1)) rfl rfl (Light.quiet (opMove rfl rfl)) ?_
      refine ASL.q (v := (.bool (decide (x9_1 ≥ 7)))) rfl rfl (Light.quiet (opInt rfl rfl rfl rfl)) ?_
      obtain ⟨c20, hc20, hF⟩ := bndE hF
      refine ASL.q (v := (.bool c20)) rfl rfl ((Quiet.cast (Light.quiet (opMove rfl rfl)) (congrArg AV.bool hc20.symm))) ?_
      refine ASL.g (v := vp2) (.bool c20) true rfl (wT _) rfl (fun hG => by have q0 := hG; subst q0; exact Light.quiet (opMove rfl rfl)) ?_
      obtain ⟨a22, ha22, hF⟩ := bindE hF
      refine ASL.g (v := (.list 1 (List.map (AV.int .i64) a22))) (.bool c20) true rfl (wT _) rfl (fun hG => by have q0 := hG; subst q0; exact (qCallRL hS rfl rfl call_63 (spec_l8Temporal_ok (whenE ha22)) ⟨.row (k := 1) rfl, trivial⟩ (Scal.ints _ _))) ?_
      refine ASL.g (v := (.int .i64 (a22.length : Int))) (.bool c20) true rfl (wT _) rfl (fun hG => by have q0 := hG; subst q0; exact Light.quiet (opLenMap (f := (AV.int .i64)) rfl rfl rfl lenT_32 rfl)) ?_
      refine ASL.g (v := (.int .i64 p3)) (.bool c20) true rfl (wT _) rfl (fun hG => by have q0 := hG; subst q0; exact Light.quiet (opMove rfl rfl)) ?_
      refine ASL.g (v := (.bool (decide (((a22.length : Int)) ≥ p3)))) (.bool c20) true rfl (wT _) rfl (fun hG => by have q0 := hG; subst q0; exact Light.quiet (opInt rfl rfl rfl rfl)) ?_
      refine ASL.q (v := (.bool (c20 && (decide (((a22.length : Int)) ≥ p3))))) rfl rfl (Light.quiet (opPick (b := c20) rfl rfl (by cases c20 <;> rfl))) ?_
      refine ASL.done ?_
      refine AWP.ifB hF rfl (fun hc46 hF => ?_) (fun hc46 hF => ?_)
      · skip
        refine AWP.lastR rfl ?_
        refine ASL.q (v := (.int .i64 x9_1)) rfl rfl (Light.quiet (opMove rfl rfl)) ?_
        refine ASL.q (v := (.int .i64 (Int.tmod x9_1 3))) rfl rfl (Light.quiet (opRem rfl rfl rfl (by decide) rfl)) ?_
        refine ASL.q (v := (.int .i64 (W (4 + ((Int.tmod x9_1 3)))))) rfl rfl (Light.quiet (opInt rfl rfl rfl rfl)) ?_
        refine ASL.q (v := (.int .i64 (W (4 + ((Int.tmod x9_1 3)))))) rfl rfl (Light.quiet (opAssign rfl rfl)) ?_
        refine ASL.done ?_
        refine QThen.nrm ?_
        exact ⟨(W (4 + ((Int.tmod x9_1 3)))), ⟨rfl, rfl, rfl, rfl, rfl, trivial⟩, (hS.pick [0, 1, 2] rfl rfl), hF⟩
      · skip
        refine AWP.skip ?_
        refine QThen.nrm ?_
        exact ⟨x9_1, ⟨rfl, rfl, rfl, rfl, rfl, trivial⟩, (hS.pick [0, 1, 2] rfl rfl), hF⟩
  · skip
    refine AWP.seqR rfl ?_
    refine ASL.q (v := (.int .i64 p1)) rfl rfl (Light.quiet (opMove rfl rfl)) ?_
    refine ASL.q (v := (.bool (decide (p1 = 0)))) rfl rfl (Light.quiet (opInt rfl rfl rfl rfl)) ?_
    refine ASL.done ?_
    refine AWP.ifP hF rfl (fun hc48 hF => ?_) (fun hc48 hF => ?_)
    · skip
      refine AWP.lastR rfl ?_
      refine ASL.q (v := (.ptr bp0 0)) rfl rfl (Light.quiet (opMove rfl rfl)) ?_
      obtain ⟨a17, ha17, hF⟩ := bindE hF
      refine ASL.x rfl rfl (hCallS hS [0, 1, 2, 3] (F := [.row 3 .nil (List.map TNode.av ([])), .row 3 vp2 (List.map TNode.av p2), .snap S]) rfl rfl rfl call_97 (spec_l1Below_ok ha17) rfl rfl ?_); rintro _ _ G49 ⟨rfl, rfl⟩ hS
      refine ASL.q (v := (.int .i64 a17.1)) rfl rfl (Light.quiet (opAssign rfl rfl)) ?_
      refine ASL.done ?_
      refine QThen.nrm ?_
      exact ⟨a17.2.b, a17.2.i, a17.2.h, a17.1, ⟨rfl, rfl, rfl, rfl, rfl, trivial⟩, (hS.pick [0, 2, 3] rfl rfl), hF⟩
    · skip
      refine AWP.skip ?_
      refine QThen.nrm ?_
      exact ⟨a13.2.b, a13.2.i, a13.2.h, a13.1, ⟨rfl, rfl, rfl, rfl, rfl, trivial⟩, (hS.pick [0, 2, 3] rfl rfl), hF⟩
theorem spec_l8DrawTree_ok {K : Nat} : ∀ {p0 : Tl1Cur} {p1 : Int} {p2 : (List TNode)} {p3 : Int} {r : ((List TNode) × Tl1Cur)} {bp0 : Nat} {vp2 : AV} , spec_l8DrawTree K p0 p1 p2 p3 = some r → HS Try.prog 118 [(.ptr bp0 0), (.int .i64 p1), vp2, (.int .i64 p3)] [.cell bp0 [(.list 1 (List.map (AV.int .u8) p0.b)), (.int .i64 p0.i), (.int .i64 p0.h)], .row 3 vp2 (List.map TNode.av p2)] fun v L' => ∃ o0 : AV, v = o0 ∧ L' = [.row 3 o0 (List.map TNode.av r.1), .cell bp0 [(.list 1 (List.map (AV.int .u8) r.2.b)), (.int .i64 r.2.i), (.int .i64 r.2.h)]] := by
  induction K with
  | zero => intros; rename_i h; cases h
  | succ K ih => intros; rename_i h; exact spec_l8DrawTree.body_ok ih h

set_option maxRecDepth 10000 in
theorem spec_l8DrawRight_ok {K : Nat} {p0 : Tl1Cur} {p1 : Int} {r : ((List TNode) × Tl1Cur)} {bp0 : Nat} (hF : spec_l8DrawRight K p0 p1 = some r) : HS Try.prog 98 [(.ptr bp0 0), (.int .i64 p1)] [.cell bp0 [(.list 1 (List.map (AV.int .u8) p0.b)), (.int .i64 p0.i), (.int .i64 p0.h)]] fun v L' => ∃ o0 : AV, v = o0 ∧ L' = [.row 3 o0 (List.map TNode.av r.1), .cell bp0 [(.list 1 (List.map (AV.int .u8) r.2.b)), (.int .i64 r.2.i), (.int .i64 r.2.h)]] := by
  intro H S hS
  refine HC.enter Try.func98 rfl Try.ntmps98 (by simp) ?_
  simp only [List.cons_append, List.nil_append] at hS
  unfold spec_l8DrawRight at hF
  refine AWP.seqR rfl ?_
  have hS := hNil (s := 3) (f := TNode.av) hS
  refine ASL.q (v := .nil) rfl rfl (Light.quiet (opAssign rfl rfl)) ?_
  refine ASL.done ?_
  refine AWP.seqR rfl ?_
  refine ASL.q (v := (.ptr bp0 0)) rfl rfl (Light.quiet (opMove rfl rfl)) ?_
  refine ASL.q (v := (.ptr bp0 0)) rfl rfl (Light.quiet (opMove rfl rfl)) ?_
  obtain ⟨a7, ha7, hF⟩ := bindE hF
  refine ASL.x rfl rfl (hCallS hS [1, 0, 2] (F := [.row 3 .nil (List.map TNode.av ([])), .snap S]) rfl rfl rfl call_97 (spec_l1Below_ok ha7) rfl rfl ?_); rintro _ _ G3 ⟨rfl, rfl⟩ hS
  refine ASL.q (v := (.int .i64 (W (1 + a7.1)))) rfl rfl (Light.quiet (opInt rfl rfl rfl rfl)) ?_
  refine ASL.x rfl rfl (hLit (f := TNode.av) (zs := []) hS rfl rfl elemA_24 sizeA_59 zeroA_59 rfl rfl rfl rfl (by simp [cells, TNode.av]) (nlt rfl) ?_); rintro v9 G4 hK hS
  refine ASL.q (v := (.int .i64 p1)) rfl rfl (Light.quiet (opMove rfl rfl)) ?_
  obtain ⟨a11, ha11, hF⟩ := bindE hF
  refine ASL.x rfl rfl (hCallS hS [1, 0, 2, 3] (F := [.row 3 .nil (List.map TNode.av ([])), .snap S]) rfl rfl rfl call_118 (spec_l8DrawTree_ok ha11) rfl rfl ?_); rintro w6 _ G8 ⟨_, rfl, rfl⟩ hS
  refine ASL.q (v := w6) rfl rfl (Light.quiet (opAssign rfl rfl)) ?_
  refine ASL.done ?_
  refine AWP.ret ?_
  obtain rfl := someE hF
  exact QRet.sole (v := w6) ⟨rfl, trivial⟩ ⟨_, ⟨w6, rfl, rfl⟩, hS.pick [0, 1, 3] rfl rfl⟩

set_option maxRecDepth 10000 in
theorem spec_l8DrawAny_ok {K : Nat} {p0 : Tl1Cur} {r : ((List TNode) × Tl1Cur)} {bp0 : Nat} (hF : spec_l8DrawAny K p0 = some r) : HS Try.prog 52 [(.ptr bp0 0)] [.cell bp0 [(.list 1 (List.map (AV.int .u8) p0.b)), (.int .i64 p0.i), (.int .i64 p0.h)]] fun v L' => ∃ o0 : AV, v = o0 ∧ L' = [.row 3 o0 (List.map TNode.av r.1), .cell bp0 [(.list 1 (List.map (AV.int .u8) r.2.b)), (.int .i64 r.2.i), (.int .i64 r.2.h)]] := by
  intro H S hS
  refine HC.enter Try.func52 rfl Try.ntmps52 (by simp) ?_
  simp only [List.cons_append, List.nil_append] at hS
  unfold spec_l8DrawAny at hF
  refine AWP.seqR rfl ?_
  have hS := hNil (s := 3) (f := TNode.av) hS
  refine ASL.q (v := .nil) rfl rfl (Light.quiet (opAssign rfl rfl)) ?_
  refine ASL.done ?_
  refine AWP.seqR rfl ?_
  refine ASL.q (v := (.ptr bp0 0)) rfl rfl (Light.quiet (opMove rfl rfl)) ?_
  obtain ⟨a6, ha6, hF⟩ := bindE hF
  refine ASL.x rfl rfl (hCallS hS [1, 0, 2] (F := [.row 3 .nil (List.map TNode.av ([])), .snap S]) rfl rfl rfl call_98 (spec_l8DrawRight_ok ha6) rfl rfl ?_); rintro w3 _ G5 ⟨_, rfl, rfl⟩ hS
  refine ASL.q (v := w3) rfl rfl (Light.quiet (opAssign rfl rfl)) ?_
  refine ASL.done ?_
  refine AWP.seqR rfl ?_
  refine ASL.q (v := (.ptr bp0 0)) rfl rfl (Light.quiet (opMove rfl rfl)) ?_
  refine ASL.q (v := w3) rfl rfl (Light.quiet (opMove rfl rfl)) ?_
  refine ASL.q (v := (.int .i64 (a6.1.length : Int))) rfl rfl (Light.quiet (kLen hS (j := 0) rfl rfl rfl rfl lenT_24 rfl)) ?_
  obtain ⟨a10, ha10, hF⟩ := bindE hF
  refine ASL.x rfl rfl (hCallS hS [1, 0, 2, 3] (F := [.row 3 w3 (List.map TNode.av a6.1), .row 3 .nil (List.map TNode.av ([])), .snap S]) rfl rfl rfl call_97 (spec_l1Below_ok ha10) rfl rfl ?_); rintro _ _ G6 ⟨rfl, rfl⟩ hS
  refine ASL.q (v := (.int .i64 a10.1)) rfl rfl (Light.quiet (opAssign rfl rfl)) ?_
  refine ASL.done ?_
  refine AWP.seqM (fun e H => ∃ y7 : (List TNode), ∃ y10 : (List Int), ∃ y11 : Int, ∃ y12 : Int, ∃ w8 : AV, E.Told e [(3, w8)] ∧ E.Sep H [.row 3 w8 (List.map TNode.av y7), .cell bp0 [(.list 1 (List.map (AV.int .u8) y10)), (.int .i64 y11), (.int .i64 y12)], .snap S] ∧ spec_l8DrawAny.k0 y7 y10 y11 y12 = some r) ?_ ?_
  · rintro e0 G13 ⟨y7, y10, y11, y12, w8, hT, hS, hF⟩; refine AWP.only _ hT ?_; unfold spec_l8DrawAny.k0 at hF
    refine AWP.seqR rfl ?_
    refine ASL.q (v := w8) rfl rfl (Light.quiet (opMove rfl rfl)) ?_
    refine ASL.q (v := w8) rfl rfl (Light.quiet (opAssign rfl rfl)) ?_
    refine ASL.done ?_
    refine AWP.ret ?_
    obtain rfl := someE hF
    exact QRet.sole (v := w8) ⟨rfl, trivial⟩ ⟨_, ⟨w8, rfl, rfl⟩, hS.pick [0, 1, 2] rfl rfl⟩
  · skip
    refine AWP.seqR rfl ?_
    refine ASL.q (v := (.ptr bp0 0)) rfl rfl (Light.quiet (opMove rfl rfl)) ?_
    obtain ⟨a12, ha12, hF⟩ := bindE hF
    refine ASL.x rfl rfl (hCallS hS [0, 1, 2, 3] (F := [.row 3 w3 (List.map TNode.av a6.1), .row 3 .nil (List.map TNode.av ([])), .snap S]) rfl rfl rfl call_97 (spec_l1Below_ok ha12) rfl rfl ?_); rintro _ _ G14 ⟨rfl, rfl⟩ hS
    refine ASL.done ?_
    refine AWP.block ?_
    refine AWP.seqR rfl ?_
    refine ASL.q (v := (.bool (decide (a12.1 = 0)))) rfl rfl (Light.quiet (opInt rfl rfl rfl rfl)) ?_
    refine ASL.q (v := (.bool (decide (a12.1 = 0)))) rfl rfl (Light.quiet (opAssign rfl rfl)) ?_
    refine ASL.done ?_
    refine AWP.ifP hF rfl (fun hc15 hF => ?_) (fun hc15 hF => ?_)
    · skip
      refine AWP.lastR rfl ?_
      refine ASL.q (v := w3) rfl rfl (Light.quiet (opMove rfl rfl)) ?_
      refine ASL.q (v := (.int .i64 a10.1)) rfl rfl (Light.quiet (opMove rfl rfl)) ?_
      refine ASL.q (v := (.ptr bp0 0)) rfl rfl (Light.quiet (opMove rfl rfl)) ?_
      obtain ⟨a18, ha18, hF⟩ := bindE hF
      refine ASL.x rfl rfl (hCallS hS [0, 1, 2, 3] (F := [.row 3 w3 (List.map TNode.av a6.1), .row 3 .nil (List.map TNode.av ([])), .snap S]) rfl rfl rfl call_97 (spec_l1Below_ok ha18) rfl rfl ?_); rintro _ _ G16 ⟨rfl, rfl⟩ hS
      obtain ⟨m19, hm19, hF⟩ := bindE hF
      refine ASL.q (v := (ptrTo w3 m19 3)) rfl rfl (Light.quiet (kIxO hS (j := 1) rfl hm19 rfl rfl rfl elemA_24 sizeA_59)) ?_
      refine ASL.q (v := (ptrOff w3 m19 3 0)) rfl rfl (Light.quiet (kFldC (p := 0) hS (j := 1) rfl hm19 rfl fieldA_59_0 rfl)) ?_
      refine ASL.n rfl rfl (hStF (f := TNode.av) (g := (fun q : TNode => { q with kind := a18.1 })) (p := 0) hS (j := 1) rfl hm19 rfl sizeA_3 rfl rfl (fun _ => ⟨_, rfl, nlt rfl, rfl⟩) rfl ?_); rintro G17 hS
      refine ASL.done ?_
      refine QBlock.nrm ?_
      refine QThen.nrm ?_
      exact ⟨(a6.1.set m19 ((fun q : TNode => { q with kind := a18.1 }) (a6.1.getD m19 default))), a18.2.b, a18.2.i, a18.2.h, w3, ⟨rfl, trivial⟩, (hS.pick [1, 0, 3] rfl rfl), hF⟩
    · skip
      refine AWP.seqR rfl ?_
      refine ASL.q (v := (.bool (decide (a12.1 = 1)))) rfl rfl (Light.quiet (opInt rfl rfl rfl rfl)) ?_
      refine ASL.q (v := (.bool (decide (a12.1 = 1)))) rfl rfl (Light.quiet (opAssign rfl rfl)) ?_
      refine ASL.done ?_
      refine AWP.ifP hF rfl (fun hc18 hF => ?_) (fun hc18 hF => ?_)
      · skip
        refine AWP.lastR rfl ?_
        refine ASL.q (v := w3) rfl rfl (Light.quiet (opMove rfl rfl)) ?_
        refine ASL.q (v := (.int .i64 a10.1)) rfl rfl (Light.quiet (opMove rfl rfl)) ?_
        refine ASL.q (v := w3) rfl rfl (Light.quiet (opMove rfl rfl)) ?_
        refine ASL.q (v := (.int .i64 a10.1)) rfl rfl (Light.quiet (opMove rfl rfl)) ?_
        obtain ⟨a27, ha27, hF⟩ := bindE hF
        refine ASL.q (v := (ptrTo w3 a10.1.toNat 3)) rfl rfl (Light.quiet (kIxOx hS (j := 1) rfl ha27 rfl rfl rfl elemA_24 sizeA_59)) ?_
        refine ASL.q (v := (ptrOff w3 a10.1.toNat 3 1)) rfl rfl (Light.quiet (kFldO (p := 1) hS (j := 1) rfl ha27 rfl fieldA_59_1 rfl)) ?_
        refine ASL.q (v := (.int .i64 a27.a)) rfl rfl (Light.quiet (kLdP (f := TNode.av) hS (j := 1) rfl ha27 rfl aggA_3 rfl rfl)) ?_
        refine ASL.q (v := (.int .i64 (W (a27.a + 1)))) rfl rfl (Light.quiet (opInt rfl rfl rfl rfl)) ?_
        obtain ⟨m31, hm31, hF⟩ := bindE hF
        refine ASL.q (v := (ptrTo w3 m31 3)) rfl rfl (Light.quiet (kIxO hS (j := 1) rfl hm31 rfl rfl rfl elemA_24 sizeA_59)) ?_
        refine ASL.q (v := (ptrOff w3 m31 3 1)) rfl rfl (Light.quiet (kFldC (p := 1) hS (j := 1) rfl hm31 rfl fieldA_59_1 rfl)) ?_
        refine ASL.n rfl rfl (hStF (f := TNode.av) (g := (fun q : TNode => { q with a := (W (a27.a + 1)) })) (p := 1) hS (j := 1) rfl hm31 rfl sizeA_3 rfl rfl (fun _ => ⟨_, rfl, nlt rfl, rfl⟩) rfl ?_); rintro G19 hS
        refine ASL.done ?_
        refine QBlock.nrm ?_
        refine QThen.nrm ?_
        exact ⟨(a6.1.set m31 ((fun q : TNode => { q with a := (W (a27.a + 1)) }) (a6.1.getD m31 default))), a12.2.b, a12.2.i, a12.2.h, w3, ⟨rfl, trivial⟩, (hS.pick [1, 0, 3] rfl rfl), hF⟩
      · skip
        refine AWP.seqR rfl ?_
        refine ASL.q (v := (.bool (decide (a12.1 = 2)))) rfl rfl (Light.quiet (opInt rfl rfl rfl rfl)) ?_
        refine ASL.q (v := (.bool (decide (a12.1 = 2)))) rfl rfl (Light.quiet (opAssign rfl rfl)) ?_
        refine ASL.done ?_
        refine AWP.ifP hF rfl (fun hc20 hF => ?_) (fun hc20 hF => ?_)
        · skip
          refine AWP.lastR rfl ?_
          refine ASL.q (v := w3) rfl rfl (Light.quiet (opMove rfl rfl)) ?_
          refine ASL.q (v := (.int .i64 a10.1)) rfl rfl (Light.quiet (opMove rfl rfl)) ?_
          refine ASL.q (v := (.ptr bp0 0)) rfl rfl (Light.quiet (opMove rfl rfl)) ?_
          refine ASL.q (v := w3) rfl rfl (Light.quiet (opMove rfl rfl)) ?_
          refine ASL.q (v := (.int .i64 (a6.1.length : Int))) rfl rfl (Light.quiet (kLen hS (j := 1) rfl rfl rfl rfl lenT_24 rfl)) ?_
          obtain ⟨a40, ha40, hF⟩ := bindE hF
          refine ASL.x rfl rfl (hCallS hS [0, 1, 2, 3] (F := [.row 3 w3 (List.map TNode.av a6.1), .row 3 .nil (List.map TNode.av ([])), .snap S]) rfl rfl rfl call_97 (spec_l1Below_ok ha40) rfl rfl ?_); rintro _ _ G21 ⟨rfl, rfl⟩ hS
          obtain ⟨m41, hm41, hF⟩ := bindE hF
          refine ASL.q (v := (ptrTo w3 m41 3)) rfl rfl (Light.quiet (kIxO hS (j := 1) rfl hm41 rfl rfl rfl elemA_24 sizeA_59)) ?_
          refine ASL.q (v := (ptrOff w3 m41 3 2)) rfl rfl (Light.quiet (kFldC (p := 2) hS (j := 1) rfl hm41 rfl fieldA_59_2 rfl)) ?_
          refine ASL.n rfl rfl (hStF (f := TNode.av) (g := (fun q : TNode => { q with b := a40.1 })) (p := 2) hS (j := 1) rfl hm41 rfl sizeA_3 rfl rfl (fun _ => ⟨_, rfl, nlt rfl, rfl⟩) rfl ?_); rintro G22 hS
          refine ASL.done ?_
          refine QBlock.nrm ?_
          refine QThen.nrm ?_
          exact ⟨(a6.1.set m41 ((fun q : TNode => { q with b := a40.1 }) (a6.1.getD m41 default))), a40.2.b, a40.2.i, a40.2.h, w3, ⟨rfl, trivial⟩, (hS.pick [1, 0, 3] rfl rfl), hF⟩
        · skip
          refine AWP.seqR rfl ?_
          refine ASL.q (v := (.bool (decide (a12.1 = 3)))) rfl rfl (Light.quiet (opInt rfl rfl rfl rfl)) ?_
          refine ASL.q (v := (.bool (decide (a12.1 = 3)))) rfl rfl (Light.quiet (opAssign rfl rfl)) ?_
          refine ASL.done ?_
          refine AWP.ifP hF rfl (fun hc23 hF => ?_) (fun hc23 hF => ?_)
          · skip
            refine AWP.lastR rfl ?_
            refine ASL.q (v := w3) rfl rfl (Light.quiet (opMove rfl rfl)) ?_
            refine ASL.q (v := (.agg [(.int .i64 1), (.int .i64 0), (.int .i64 0)])) rfl rfl (Light.quiet (opBuildZ (zs := [(.int .i64 0), (.int .i64 0), (.int .i64 0)]) rfl plan_59 zeroA_59 ⟨.inl rfl, .inl rfl, .inl rfl, trivial⟩ rfl)) ?_
            refine ASL.q (v := (.list 3 (List.map TNode.av [(TNode.mk 1 0 0)]))) rfl rfl ((qLit (xs := [(.agg [(.int .i64 1), (.int .i64 0), (.int .i64 0)])]) rfl elemA_24 sizeA_59 zeroA_59 rfl rfl rfl rfl (by simp [cells, TNode.av]) (nlt rfl))) ?_
            obtain ⟨z48, hz48, hF⟩ := bindE hF
            refine ASL.x rfl rfl (hApp (f := TNode.av) (ws := [(TNode.mk 1 0 0)]) hS (j := 1) rfl hz48 rfl elemA_24 rfl sizeA_59 bytesA_59 zeroA_59 rfl rfl rfl (fun _ => rfl) ?_); rintro v48 G24 hS
            refine ASL.q (v := v48) rfl rfl (Light.quiet (opAssign rfl rfl)) ?_
            refine ASL.done ?_
            refine QBlock.nrm ?_
            refine QThen.nrm ?_
            exact ⟨z48, a12.2.b, a12.2.i, a12.2.h, v48, ⟨rfl, trivial⟩, (hS.pick [1, 0, 3] rfl rfl), hF⟩
          · skip
            refine AWP.seqR rfl ?_
            refine ASL.q (v := (.bool (decide (a12.1 = 4)))) rfl rfl (Light.quiet (opInt rfl rfl rfl rfl)) ?_
            refine ASL.q (v := (.bool (decide (a12.1 = 4)))) rfl rfl (Light.quiet (opAssign rfl rfl)) ?_
            refine ASL.done ?_
            refine AWP.ifP hF rfl (fun hc26 hF => ?_) (fun hc26 hF => ?_)
            · skip
              refine AWP.lastR rfl ?_
              have hS := hNil (s := 3) (f := TNode.av) hS
              refine ASL.q (v := .nil) rfl rfl (Light.quiet (opAssign rfl rfl)) ?_
              refine ASL.done ?_
              refine QBlock.nrm ?_
              refine QThen.nrm ?_
              exact ⟨[], a12.2.b, a12.2.i, a12.2.h, .nil, ⟨rfl, trivial⟩, (hS.pick [0, 1, 4] rfl rfl), hF⟩
            · skip
              refine AWP.skip ?_
              refine QBlock.nrm ?_
              refine QThen.nrm ?_
              exact ⟨a6.1, a12.2.b, a12.2.i, a12.2.h, w3, ⟨rfl, trivial⟩, (hS.pick [1, 0, 3] rfl rfl), hF⟩

set_option maxRecDepth 10000 in
theorem spec_l3DrawLetters_ok {p0 : Tl1Cur} {p1 : Int} {p2 : Int} {r : ((List Int) × Tl1Cur)} {bp0 : Nat} (hF : spec_l3DrawLetters p0 p1 p2 = some r) : HS Try.prog 129 [(.ptr bp0 0), (.int .i64 p1), (.int .i64 p2)] [.cell bp0 [(.list 1 (List.map (AV.int .u8) p0.b)), (.int .i64 p0.i), (.int .i64 p0.h)]] fun v L' => ∃ o0 : AV, v = o0 ∧ L' = [.row 1 o0 (List.map (AV.int .i64) r.1), .cell bp0 [(.list 1 (List.map (AV.int .u8) r.2.b)), (.int .i64 r.2.i), (.int .i64 r.2.h)]] := by
  intro H S hS
  refine HC.enter Try.func129 rfl Try.ntmps129 (by simp) ?_
  simp only [List.cons_append, List.nil_append] at hS
  unfold spec_l3DrawLetters at hF
  refine AWP.seqR rfl ?_
  have hS := hNil (s := 1) (f := (AV.int .i64)) hS
  refine ASL.q (v := .nil) rfl rfl (Light.quiet (opAssign rfl rfl)) ?_
  refine ASL.done ?_
  refine AWP.seqR rfl ?_
  refine ASL.x rfl rfl (hLit (f := (AV.int .i64)) (zs := []) hS rfl rfl elemA_32 sizeA_3 zeroA_3 rfl rfl rfl rfl (by simp [cells]) (nlt rfl) ?_); rintro v10 G3 hK hS
  refine ASL.q (v := v10) rfl rfl (Light.quiet (opAssign rfl rfl)) ?_
  refine ASL.done ?_
  refine AWP.seqR rfl ?_
  refine ASL.q (v := (.ptr bp0 0)) rfl rfl (Light.quiet (opMove rfl rfl)) ?_
  refine ASL.q (v := (.int .i64 p1)) rfl rfl (Light.quiet (opMove rfl rfl)) ?_
  refine ASL.q (v := (.int .i64 (W (p1 + 1)))) rfl rfl (Light.quiet (opInt rfl rfl rfl rfl)) ?_
  obtain ⟨a14, ha14, hF⟩ := bindE hF
  refine ASL.x rfl rfl (hCallS hS [2, 0, 1, 3] (F := [.row 1 v10 (List.map (AV.int .i64) ([])), .row 1 .nil (List.map (AV.int .i64) ([])), .snap S]) rfl rfl rfl call_97 (spec_l1Below_ok ha14) rfl rfl ?_); rintro _ _ G5 ⟨rfl, rfl⟩ hS
  refine ASL.q (v := (.int .i64 a14.1)) rfl rfl (Light.quiet (opAssign rfl rfl)) ?_
  refine ASL.done ?_
  refine AWP.seqM (fun e H => ∃ y6 : (List Int), ∃ y9 : (List Int), ∃ y10 : Int, ∃ y11 : Int, ∃ w7 : AV, E.Told e [(7, w7)] ∧ E.Sep H [.row 1 w7 (List.map (AV.int .i64) y6), .cell bp0 [(.list 1 (List.map (AV.int .u8) y9)), (.int .i64 y10), (.int .i64 y11)], .snap S] ∧ spec_l3DrawLetters.k0 y6 y9 y10 y11 = some r) ?_ ?_
  · rintro e0 G12 ⟨y6, y9, y10, y11, w7, hT, hS, hF⟩; refine AWP.only _ hT ?_; unfold spec_l3DrawLetters.k0 at hF
    refine AWP.seqR rfl ?_
    refine ASL.q (v := w7) rfl rfl (Light.quiet (opMove rfl rfl)) ?_
    refine ASL.q (v := w7) rfl rfl (Light.quiet (opAssign rfl rfl)) ?_
    refine ASL.done ?_
    refine AWP.ret ?_
    obtain rfl := someE hF
    exact QRet.sole (v := w7) ⟨rfl, trivial⟩ ⟨_, ⟨w7, rfl, rfl⟩, hS.pick [0, 1, 2] rfl rfl⟩
  · skip
    refine AWP.seqR rfl ?_
    refine ASL.q (v := (.int .i64 0)) rfl rfl (Light.quiet (opAssign rfl rfl)) ?_
    refine ASL.done ?_
    refine AWP.block ?_
    obtain ⟨o22, hL21, hR23⟩ := bindE hF
    refine AWP.loopF (ω := AV) hL21 (fun s w => [(0, (.ptr bp0 0)), (2, (.int .i64 p2)), (7, w), (8, (.int .i64 a14.1)), (9, (.int .i64 s.2.2.2.2))]) (fun s w => [.cell bp0 [(.list 1 (List.map (AV.int .u8) s.1)), (.int .i64 s.2.1), (.int .i64 s.2.2.1)], .row 1 w (List.map (AV.int .i64) s.2.2.2.1), .snap S]) v10 ⟨rfl, rfl, rfl, rfl, rfl, trivial⟩ (hS.pick [0, 1, 3] rfl rfl) ?_
    rintro ⟨y13, y14, y15, y16, x9_l0⟩ w17 G24 hS x19 hF hx20
    try dsimp only at hS ⊢
    have hF : spec_l3DrawLetters.b0 a14 p2 y13 y14 y15 y16 x9_l0 = some x19 := hF; unfold spec_l3DrawLetters.b0 at hF
    refine AWP.seq ?_
    refine AWP.seqR rfl ?_
    refine ASL.q (v := (.int .i64 x9_l0)) rfl rfl (Light.quiet (opMove rfl rfl)) ?_
    refine ASL.q (v := (.int .i64 a14.1)) rfl rfl (Light.quiet (opMove rfl rfl)) ?_
    refine ASL.q (v := (.bool (decide (x9_l0 < a14.1)))) rfl rfl (Light.quiet (opInt rfl rfl rfl rfl)) ?_
    refine ASL.done ?_
    refine AWP.ifP hF rfl (fun hc25 hF => ?_) (fun hc25 hF => ?_)
    · skip
      refine AWP.skip ?_
      refine QThen.nrm ?_
      refine AWP.seq ?_
      refine AWP.block ?_
      refine AWP.lastR rfl ?_
      refine ASL.q (v := w17) rfl rfl (Light.quiet (opMove rfl rfl)) ?_
      refine ASL.q (v := (.ptr bp0 0)) rfl rfl (Light.quiet (opMove rfl rfl)) ?_
      refine ASL.q (v := (.int .i64 p2)) rfl rfl (Light.quiet (opMove rfl rfl)) ?_
      obtain ⟨a23, ha23, hF⟩ := bindE hF
      refine ASL.x rfl rfl (hCallS hS [0, 1, 2] (F := [.row 1 w17 (List.map (AV.int .i64) y16), .snap S]) rfl rfl rfl call_97 (spec_l1Below_ok ha23) rfl rfl ?_); rintro _ _ G26 ⟨rfl, rfl⟩ hS
      refine ASL.q (v := (.list 1 (List.map (AV.int .i64) [a23.1]))) rfl rfl ((qLit (xs := [(.int .i64 a23.1)]) rfl elemA_32 sizeA_3 zeroA_3 rfl rfl rfl rfl (by simp [cells]) (nlt rfl))) ?_
      obtain ⟨z25, hz25, hF⟩ := bindE hF
      refine ASL.x rfl rfl (hApp (f := (AV.int .i64)) (ws := [a23.1]) hS (j := 1) rfl hz25 rfl elemA_32 rfl sizeA_3 bytesA_3 zeroA_3 rfl rfl rfl (fun _ => rfl) ?_); rintro v25 G27 hS
      refine ASL.q (v := v25) rfl rfl (Light.quiet (opAssign rfl rfl)) ?_
      refine ASL.done ?_
      refine QBlock.nrm ?_
      refine QThen.nrm ?_
      refine AWP.lastR rfl ?_
      refine ASL.q (v := (.int .i64 x9_l0)) rfl rfl (Light.quiet (opMove rfl rfl)) ?_
      refine ASL.q (v := (.int .i64 (W (x9_l0 + 1)))) rfl rfl (Light.quiet (opInt rfl rfl rfl rfl)) ?_
      refine ASL.q (v := (.int .i64 (W (x9_l0 + 1)))) rfl rfl (Light.quiet (opAssign rfl rfl)) ?_
      refine ASL.done ?_
      refine QThen.nrm ?_
      exact ⟨(a23.2.b, a23.2.i, a23.2.h, z25, (W (x9_l0 + 1))), v25, (someE hF).symm, ⟨rfl, rfl, rfl, rfl, rfl, trivial⟩, (hS.pick [0, 1, 2] rfl rfl)⟩
    · skip
      refine AWP.exit ?_
      refine QThen.ext ?_
      refine QThen.ext ?_
      refine QBlock.hit ?_
      obtain rfl := (hx20 _ (someE hF).symm)
      have hF := hR23
      refine QThen.nrm ?_
      exact ⟨y16, y13, y14, y15, w17, ⟨rfl, trivial⟩, (hS.pick [1, 0, 2] rfl rfl), hF⟩

set_option maxRecDepth 10000 in
theorem spec_l1Once_ok {p0 : Tl1Cur} {p1 : Int} {r : (Bool × Tl1Cur)} {bp0 : Nat} (hF : spec_l1Once p0 p1 = some r) : HS Try.prog 111 [(.ptr bp0 0), (.int .i64 p1)] [.cell bp0 [(.list 1 (List.map (AV.int .u8) p0.b)), (.int .i64 p0.i), (.int .i64 p0.h)]] fun v L' => v = (.bool r.1) ∧ L' = [.cell bp0 [(.list 1 (List.map (AV.int .u8) r.2.b)), (.int .i64 r.2.i), (.int .i64 r.2.h)]] := by
  intro H S hS
  refine HC.enter Try.func111 rfl Try.ntmps111 (by simp) ?_
  simp only [List.cons_append, List.nil_append] at hS
  unfold spec_l1Once at hF
  refine AWP.seqR rfl ?_
  refine ASL.q (v := (.bool false)) rfl rfl (Light.quiet (opAssign rfl rfl)) ?_
  refine ASL.done ?_
  refine AWP.seqR rfl ?_
  refine ASL.q (v := (.ptr bp0 0)) rfl rfl (Light.quiet (opMove rfl rfl)) ?_
  refine ASL.q (v := (.int .i64 p1)) rfl rfl (Light.quiet (opMove rfl rfl)) ?_
  obtain ⟨a7, ha7, hF⟩ := bindE hF
  refine ASL.x rfl rfl (hCallS hS [0, 1] (F := [.snap S]) rfl rfl rfl call_97 (spec_l1Below_ok ha7) rfl rfl ?_); rintro _ _ G2 ⟨rfl, rfl⟩ hS
  refine ASL.q (v := (.bool (decide (a7.1 = 0)))) rfl rfl (Light.quiet (opInt rfl rfl rfl rfl)) ?_
  refine ASL.q (v := (.bool (decide (a7.1 = 0)))) rfl rfl (Light.quiet (opAssign rfl rfl)) ?_
  refine ASL.done ?_
  refine AWP.ret ?_
  obtain rfl := someE hF
  exact QRet.sole (v := (.bool (decide (a7.1 = 0)))) ⟨rfl, trivial⟩ ⟨_, ⟨rfl, rfl⟩, hS.pick [0, 1] rfl rfl⟩

set_option maxRecDepth 10000 in
theorem spec_l1In_ok (p0 : Int) (p1 : Int) (p2 : Int) : PC Try.prog 86 [(.int .i64 p0), (.int .i64 p1), (.int .i64 p2)] fun v => v = (.bool (spec_l1In p0 p1 p2)) := by
  generalize hF : spec_l1In p0 p1 p2 = r
  refine PC.enter Try.func86 rfl Try.ntmps86 (by simp) ?_
  have hS := Sep.void; unfold spec_l1In at hF
  refine AWP.seqR rfl ?_
  refine ASL.q (v := (.bool false)) rfl rfl (Light.quiet (opAssign rfl rfl)) ?_
  refine ASL.done ?_
  refine AWP.seqR rfl ?_
  refine ASL.q (v := (.int .i64 p0)) rfl rfl (Light.quiet (opMove rfl rfl)) ?_
  refine ASL.q (v := (.int .i64 p1)) rfl rfl (Light.quiet (opMove rfl rfl)) ?_
  refine ASL.q (v := (.bool (decide (p0 ≥ p1)))) rfl rfl (Light.quiet (opInt rfl rfl rfl rfl)) ?_
  obtain ⟨c10, hc10, hF⟩ := bndE hF
  refine ASL.q (v := (.bool c10)) rfl rfl ((Quiet.cast (Light.quiet (opMove rfl rfl)) (congrArg AV.bool hc10.symm))) ?_
  refine ASL.g (v := (.int .i64 p0)) (.bool c10) true rfl (wT _) rfl (fun hG => by have q0 := hG; subst q0; exact Light.quiet (opMove rfl rfl)) ?_
  refine ASL.g (v := (.int .i64 p2)) (.bool c10) true rfl (wT _) rfl (fun hG => by have q0 := hG; subst q0; exact Light.quiet (opMove rfl rfl)) ?_
  refine ASL.g (v := (.bool (decide (p0 ≤ p2)))) (.bool c10) true rfl (wT _) rfl (fun hG => by have q0 := hG; subst q0; exact Light.quiet (opInt rfl rfl rfl rfl)) ?_
  refine ASL.q (v := (.bool (c10 && (decide (p0 ≤ p2))))) rfl rfl (Light.quiet (opPick (b := c10) rfl rfl (by cases c10 <;> rfl))) ?_
  refine ASL.q (v := (.bool (c10 && (decide (p0 ≤ p2))))) rfl rfl (Light.quiet (opAssign rfl rfl)) ?_
  refine ASL.done ?_
  refine AWP.ret ?_
  obtain rfl := hF
  exact QRet.sole (v := (.bool (c10 && (decide (p0 ≤ p2))))) ⟨rfl, trivial⟩ rfl

set_option maxRecDepth 10000 in
theorem spec_l3Letters_ok {p0 : (List Int)} {p1 : Int} {r : Bool} (hF : spec_l3Letters p0 p1 = some r) : PC Try.prog 89 [(.list 1 (List.map (AV.int .i64) p0)), (.int .i64 p1)] fun v => v = (.bool r) := by
  refine PC.enter Try.func89 rfl Try.ntmps89 (by simp) ?_
  have hS := Sep.void; unfold spec_l3Letters at hF
  refine AWP.seqR rfl ?_
  refine ASL.q (v := (.bool false)) rfl rfl (Light.quiet (opAssign rfl rfl)) ?_
  refine ASL.done ?_
  refine AWP.seqM (fun e H => E.Told e [] ∧ E.Sep H [] ∧ spec_l3Letters.k0 = some r) ?_ ?_
  · rintro e0 G1 ⟨hT, hS, hF⟩; refine AWP.only _ hT ?_; unfold spec_l3Letters.k0 at hF
    refine AWP.seqR rfl ?_
    refine ASL.q (v := (.bool true)) rfl rfl (Light.quiet (opAssign rfl rfl)) ?_
    refine ASL.done ?_
    refine AWP.ret ?_
    obtain rfl := someE hF
    exact QRet.sole (v := (.bool true)) ⟨rfl, trivial⟩ rfl
  · skip
    refine AWP.seqR rfl ?_
    refine ASL.q (v := (.int .i64 0)) rfl rfl (Light.quiet (opAssign rfl rfl)) ?_
    refine ASL.done ?_
    refine AWP.block ?_
    obtain ⟨o5, hL4, hR6⟩ := bindE hF
    refine AWP.loopF (ω := Unit) hL4 (fun s w => [(0, (.list 1 (List.map (AV.int .i64) p0))), (1, (.int .i64 p1)), (5, (.int .i64 s))]) (fun s w => []) () ⟨rfl, rfl, rfl, trivial⟩ (hS.pick [] rfl rfl) ?_
    rintro x5_l0 _ G7 hS x2 hF hx3
    try dsimp only at hS ⊢
    have hF : spec_l3Letters.b0 p0 p1 x5_l0 = some x2 := hF; unfold spec_l3Letters.b0 at hF
    refine AWP.seq ?_
    refine AWP.seqR rfl ?_
    refine ASL.q (v := (.int .i64 x5_l0)) rfl rfl (Light.quiet (opMove rfl rfl)) ?_
    refine ASL.q (v := (.list 1 (List.map (AV.int .i64) p0))) rfl rfl (Light.quiet (opMove rfl rfl)) ?_
    refine ASL.q (v := (.int .i64 (p0.length : Int))) rfl rfl (Light.quiet (opLenMap (f := (AV.int .i64)) rfl rfl rfl lenT_32 rfl)) ?_
    refine ASL.q (v := (.bool (decide (x5_l0 < ((p0.length : Int)))))) rfl rfl (Light.quiet (opInt rfl rfl rfl rfl)) ?_
    refine ASL.done ?_
    refine AWP.ifP hF rfl (fun hc8 hF => ?_) (fun hc8 hF => ?_)
    · skip
      refine AWP.skip ?_
      refine QThen.nrm ?_
      refine AWP.seq ?_
      refine AWP.block ?_
      refine AWP.seqR rfl ?_
      refine ASL.q (v := (.list 1 (List.map (AV.int .i64) p0))) rfl rfl (Light.quiet (opMove rfl rfl)) ?_
      refine ASL.q (v := (.int .i64 x5_l0)) rfl rfl (Light.quiet (opMove rfl rfl)) ?_
      obtain ⟨a14, ha14, hF⟩ := bindE hF
      refine ASL.q (v := (.rptr [(.int .i64 a14)])) rfl rfl (Light.quiet (kIx (f := (AV.int .i64)) ha14 rfl rfl rfl elemA_32 sizeA_3 rfl)) ?_
      refine ASL.q (v := (.int .i64 a14)) rfl rfl (Light.quiet (opLoadR rfl aggA_3 rfl rfl)) ?_
      refine ASL.q (v := (.int .i64 p1)) rfl rfl (Light.quiet (opMove rfl rfl)) ?_
      refine ASL.q (v := (.int .i64 (W (p1 - 1)))) rfl rfl (Light.quiet (opInt rfl rfl rfl rfl)) ?_
      refine ASL.q (v := (.bool (spec_l1In a14 0 ((W (p1 - 1)))))) rfl rfl ((qCall rfl rfl call_86 (spec_l1In_ok a14 0 ((W (p1 - 1)))) rfl)) ?_
      refine ASL.q (v := (.bool (!(spec_l1In a14 0 ((W (p1 - 1))))))) rfl rfl (Light.quiet (opNot rfl rfl)) ?_
      refine ASL.done ?_
      refine AWP.ifB hF rfl (fun hc9 hF => ?_) (fun hc9 hF => ?_)
      · skip
        refine AWP.seqR rfl ?_
        refine ASL.q (v := (.bool false)) rfl rfl (Light.quiet (opAssign rfl rfl)) ?_
        refine ASL.done ?_
        refine AWP.ret ?_
        refine QBlock.ret ?_
        refine QThen.rt ?_
        refine QThen.rt ?_
        refine QBlock.ret ?_
        refine QThen.rt ?_
        obtain rfl := (hx3 _ (someE hF).symm)
        have hF := hR6
        have hF := sumR hF
        obtain rfl := someE hF
        exact QRet.sole (v := (.bool false)) ⟨rfl, trivial⟩ rfl
      · skip
        refine AWP.skip ?_
        refine QBlock.nrm ?_
        refine QThen.nrm ?_
        refine AWP.lastR rfl ?_
        refine ASL.q (v := (.int .i64 x5_l0)) rfl rfl (Light.quiet (opMove rfl rfl)) ?_
        refine ASL.q (v := (.int .i64 (W (x5_l0 + 1)))) rfl rfl (Light.quiet (opInt rfl rfl rfl rfl)) ?_
        refine ASL.q (v := (.int .i64 (W (x5_l0 + 1)))) rfl rfl (Light.quiet (opAssign rfl rfl)) ?_
        refine ASL.done ?_
        refine QThen.nrm ?_
        exact ⟨(W (x5_l0 + 1)), (), (someE hF).symm, ⟨rfl, rfl, rfl, trivial⟩, (hS.pick [] rfl rfl)⟩
    · skip
      refine AWP.exit ?_
      refine QThen.ext ?_
      refine QThen.ext ?_
      refine QBlock.hit ?_
      obtain rfl := (hx3 _ (someE hF).symm)
      have hF := hR6
      have hF := sumL hF
      refine QThen.nrm ?_
      exact ⟨trivial, (hS.pick [] rfl rfl), hF⟩

set_option maxRecDepth 10000 in
theorem spec_WordOk_ok {p0 : TWord} {p1 : Int} {r : Bool} (hF : spec_WordOk p0 p1 = some r) : PC Try.prog 44 [(TWord.av p0), (.int .i64 p1)] fun v => v = (.bool r) := by
  refine PC.enter Try.func44 rfl Try.ntmps44 (by simp) ?_
  have hS := Sep.void; unfold spec_WordOk at hF
  refine AWP.seqR rfl ?_
  refine ASL.q (v := (.rptr [(.list 1 (List.map (AV.int .i64) p0.stem)), (.list 1 (List.map (AV.int .i64) p0.loop))])) rfl rfl ((qBoxI (v := (TWord.av p0)) rfl rfl rfl rfl)) ?_
  refine ASL.q (v := (.bool false)) rfl rfl (Light.quiet (opAssign rfl rfl)) ?_
  refine ASL.done ?_
  refine AWP.seq ?_
  refine AWP.seqR rfl ?_
  refine ASL.q (v := (.int .i64 p1)) rfl rfl (Light.quiet (opMove rfl rfl)) ?_
  refine ASL.q (v := (.bool (spec_l1In p1 1 8))) rfl rfl ((qCall rfl rfl call_86 (spec_l1In_ok p1 1 8) rfl)) ?_
  refine ASL.q (v := (.bool (!(spec_l1In p1 1 8)))) rfl rfl (Light.quiet (opNot rfl rfl)) ?_
  obtain ⟨c8, hc8, hF⟩ := bndE hF
  refine ASL.q (v := (.bool c8)) rfl rfl ((Quiet.cast (Light.quiet (opMove rfl rfl)) (congrArg AV.bool hc8.symm))) ?_
  refine ASL.g (v := (.rptr [(.list 1 (List.map (AV.int .i64) p0.stem)), (.list 1 (List.map (AV.int .i64) p0.loop))])) (.bool c8) false rfl (wF _) rfl (fun hG => by have q0 := gN hG; subst q0; exact Light.quiet (opFieldAddrR rfl fieldA_41_0 rfl rfl)) ?_
  refine ASL.g (v := (.list 1 (List.map (AV.int .i64) p0.stem))) (.bool c8) false rfl (wF _) rfl (fun hG => by have q0 := gN hG; subst q0; exact Light.quiet (opLoadR rfl aggA_32 rfl rfl)) ?_
  refine ASL.g (v := (.int .i64 (p0.stem.length : Int))) (.bool c8) false rfl (wF _) rfl (fun hG => by have q0 := gN hG; subst q0; exact Light.quiet (opLenMap (f := (AV.int .i64)) rfl rfl rfl lenT_32 rfl)) ?_
  refine ASL.g (v := (.bool (decide (((p0.stem.length : Int)) > 40)))) (.bool c8) false rfl (wF _) rfl (fun hG => by have q0 := gN hG; subst q0; exact Light.quiet (opInt rfl rfl rfl rfl)) ?_
  refine ASL.q (v := (.bool (c8 || (decide (((p0.stem.length : Int)) > 40))))) rfl rfl (Light.quiet (opPick (b := c8) rfl rfl (by cases c8 <;> rfl))) ?_
  obtain ⟨c14, hc14, hF⟩ := bndE hF
  refine ASL.q (v := (.bool c14)) rfl rfl ((Quiet.cast (Light.quiet (opMove rfl rfl)) (congrArg AV.bool hc14.symm))) ?_
  refine ASL.g (v := (.rptr [(.list 1 (List.map (AV.int .i64) p0.loop))])) (.bool c14) false rfl (wF _) rfl (fun hG => by have q0 := gN hG; subst q0; exact Light.quiet (opFieldAddrR rfl fieldA_41_1 rfl rfl)) ?_
  refine ASL.g (v := (.list 1 (List.map (AV.int .i64) p0.loop))) (.bool c14) false rfl (wF _) rfl (fun hG => by have q0 := gN hG; subst q0; exact Light.quiet (opLoadR rfl aggA_32 rfl rfl)) ?_
  refine ASL.g (v := (.int .i64 (p0.loop.length : Int))) (.bool c14) false rfl (wF _) rfl (fun hG => by have q0 := gN hG; subst q0; exact Light.quiet (opLenMap (f := (AV.int .i64)) rfl rfl rfl lenT_32 rfl)) ?_
  refine ASL.g (v := (.bool (spec_l1In ((p0.loop.length : Int)) 1 40))) (.bool c14) false rfl (wF _) rfl (fun hG => by have q0 := gN hG; subst q0; exact (qCall rfl rfl call_86 (spec_l1In_ok ((p0.loop.length : Int)) 1 40) rfl)) ?_
  refine ASL.g (v := (.bool (!(spec_l1In ((p0.loop.length : Int)) 1 40)))) (.bool c14) false rfl (wF _) rfl (fun hG => by have q0 := gN hG; subst q0; exact Light.quiet (opNot rfl rfl)) ?_
  refine ASL.q (v := (.bool (c14 || (!(spec_l1In ((p0.loop.length : Int)) 1 40))))) rfl rfl (Light.quiet (opPick (b := c14) rfl rfl (by cases c14 <;> rfl))) ?_
  refine ASL.done ?_
  refine AWP.ifB hF rfl (fun hc1 hF => ?_) (fun hc1 hF => ?_)
  · skip
    refine AWP.seqR rfl ?_
    refine ASL.q (v := (.bool false)) rfl rfl (Light.quiet (opAssign rfl rfl)) ?_
    refine ASL.done ?_
    refine AWP.ret ?_
    refine QThen.rt ?_
    obtain rfl := someE hF
    exact QRet.sole (v := (.bool false)) ⟨rfl, trivial⟩ rfl
  · skip
    refine AWP.skip ?_
    refine QThen.nrm ?_
    refine AWP.seqR rfl ?_
    refine ASL.q (v := (.rptr [(.list 1 (List.map (AV.int .i64) p0.stem)), (.list 1 (List.map (AV.int .i64) p0.loop))])) rfl rfl (Light.quiet (opFieldAddrR rfl fieldA_41_0 rfl rfl)) ?_
    refine ASL.q (v := (.list 1 (List.map (AV.int .i64) p0.stem))) rfl rfl (Light.quiet (opLoadR rfl aggA_32 rfl rfl)) ?_
    refine ASL.q (v := (.int .i64 p1)) rfl rfl (Light.quiet (opMove rfl rfl)) ?_
    obtain ⟨a24, ha24, hF⟩ := bindE hF
    refine ASL.q (v := (.bool a24)) rfl rfl ((qCall rfl rfl call_89 (spec_l3Letters_ok ha24) rfl)) ?_
    refine ASL.q (v := (.bool a24)) rfl rfl (Light.quiet (opMove rfl rfl)) ?_
    refine ASL.g (v := (.rptr [(.list 1 (List.map (AV.int .i64) p0.loop))])) (.bool a24) true rfl (wT _) rfl (fun hG => by have q0 := hG; subst q0; exact Light.quiet (opFieldAddrR rfl fieldA_41_1 rfl rfl)) ?_
    refine ASL.g (v := (.list 1 (List.map (AV.int .i64) p0.loop))) (.bool a24) true rfl (wT _) rfl (fun hG => by have q0 := hG; subst q0; exact Light.quiet (opLoadR rfl aggA_32 rfl rfl)) ?_
    refine ASL.g (v := (.int .i64 p1)) (.bool a24) true rfl (wT _) rfl (fun hG => by have q0 := hG; subst q0; exact Light.quiet (opMove rfl rfl)) ?_
    obtain ⟨a29, ha29, hF⟩ := bindE hF
    refine ASL.g (v := (.bool a29)) (.bool a24) true rfl (wT _) rfl (fun hG => by have q0 := hG; subst q0; exact (qCall rfl rfl call_89 (spec_l3Letters_ok (whenE ha29)) rfl)) ?_
    refine ASL.q (v := (.bool (a24 && a29))) rfl rfl (Light.quiet (opPick (b := a24) rfl rfl (by cases a24 <;> rfl))) ?_
    refine ASL.q (v := (.bool (a24 && a29))) rfl rfl (Light.quiet (opAssign rfl rfl)) ?_
    refine ASL.done ?_
    refine AWP.ret ?_
    obtain rfl := someE hF
    exact QRet.sole (v := (.bool (a24 && a29))) ⟨rfl, trivial⟩ rfl

set_option maxRecDepth 10000 in
theorem spec_l3Right_ok {p0 : TWord} {r : Bool} (hF : spec_l3Right p0 = some r) : PC Try.prog 72 [(TWord.av p0)] fun v => v = (.bool r) := by
  refine PC.enter Try.func72 rfl Try.ntmps72 (by simp) ?_
  have hS := Sep.void; unfold spec_l3Right at hF
  refine AWP.seqR rfl ?_
  refine ASL.q (v := (.rptr [(.list 1 (List.map (AV.int .i64) p0.stem)), (.list 1 (List.map (AV.int .i64) p0.loop))])) rfl rfl ((qBoxI (v := (TWord.av p0)) rfl rfl rfl rfl)) ?_
  refine ASL.q (v := (.bool false)) rfl rfl (Light.quiet (opAssign rfl rfl)) ?_
  refine ASL.done ?_
  refine AWP.seqR rfl ?_
  refine ASL.q (v := (TWord.av p0)) rfl rfl (Light.quiet (opLoadRA rfl aggA_41 sizeA_41 rfl (nlt rfl) rfl)) ?_
  obtain ⟨a4, ha4, hF⟩ := bindE hF
  refine ASL.q (v := (.bool a4)) rfl rfl ((qCall rfl rfl call_44 (spec_WordOk_ok ha4) rfl)) ?_
  refine ASL.q (v := (.bool a4)) rfl rfl (Light.quiet (opAssign rfl rfl)) ?_
  refine ASL.done ?_
  refine AWP.ret ?_
  obtain rfl := someE hF
  exact QRet.sole (v := (.bool a4)) ⟨rfl, trivial⟩ rfl

set_option maxRecDepth 10000 in
theorem spec_l3Told_ok {p0 : TWord} {r : (TWord × Bool)} {vp0_Stem : AV} {vp0_Loop : AV} (hF : spec_l3Told p0 = some r) : HS Try.prog 132 [(.agg [vp0_Stem, vp0_Loop])] [.row 1 vp0_Stem (List.map (AV.int .i64) p0.stem), .row 1 vp0_Loop (List.map (AV.int .i64) p0.loop)] fun v L' => ∃ o0_Stem : AV, ∃ o0_Loop : AV, v = .tup [(.agg [o0_Stem, o0_Loop]), (.bool r.2)] ∧ L' = [.row 1 o0_Stem (List.map (AV.int .i64) r.1.stem), .row 1 o0_Loop (List.map (AV.int .i64) r.1.loop)] := by
  intro H S hS
  refine HC.enter Try.func132 rfl Try.ntmps132 (by simp) ?_
  simp only [List.cons_append, List.nil_append] at hS
  unfold spec_l3Told at hF
  refine AWP.seqR rfl ?_
  refine ASL.x rfl rfl (hBox hS rfl rfl rfl ?_); rintro b1 G3 hK hS
  have hS := hNil (s := 1) (f := (AV.int .i64)) hS
  have hS := hNil (s := 1) (f := (AV.int .i64)) hS
  refine ASL.x rfl rfl (hNewZ hS [.nil, .nil] rfl zeroA_41 ⟨.inl rfl, .inl rfl, trivial⟩ ?_); rintro b2 G5 hK hS
  refine ASL.q (v := (.bool false)) rfl rfl (Light.quiet (opAssign rfl rfl)) ?_
  refine ASL.done ?_
  refine AWP.seq ?_
  refine AWP.seqR rfl ?_
  refine ASL.q (v := (.agg [vp0_Stem, vp0_Loop])) rfl rfl (Light.quiet (kAtA hS (j := 3) rfl rfl aggA_41 sizeA_41 rfl (nlt rfl) rfl)) ?_
  obtain ⟨a5, ha5, hF⟩ := bindE hF
  refine ASL.q (v := (.bool a5)) rfl rfl ((qCallR hS rfl rfl call_72 (spec_l3Right_ok ha5) ⟨.aggL ⟨.row (k := 4) rfl, .row (k := 5) rfl, trivial⟩, trivial⟩ (by constructor))) ?_
  refine ASL.q (v := (.bool (!a5))) rfl rfl (Light.quiet (opNot rfl rfl)) ?_
  refine ASL.done ?_
  refine AWP.ifB hF rfl (fun hc9 hF => ?_) (fun hc9 hF => ?_)
  · skip
    refine AWP.seqR rfl ?_
    refine ASL.q (v := (.agg [.nil, .nil])) rfl rfl (Light.quiet (opBuildZ (zs := [.nil, .nil]) rfl plan_41 zeroA_41 ⟨.inl rfl, .inl rfl, trivial⟩ rfl)) ?_
    have hS := hNil (s := 1) (f := (AV.int .i64)) hS
    have hS := hNil (s := 1) (f := (AV.int .i64)) hS
    refine ASL.n rfl rfl (hPutA hS (j := 2) rfl rfl sizeA_41 rfl rfl rfl rfl (allC (hS.one (k := 1) rfl) (allC (hS.one (k := 0) rfl) rfl)) (nlt rfl) ?_); rintro G10 hS
    refine ASL.q (v := (.bool false)) rfl rfl (Light.quiet (opAssign rfl rfl)) ?_
    refine ASL.done ?_
    refine AWP.ret ?_
    refine QThen.rt ?_
    obtain rfl := someE hF
    exact QRet.many (vs := [(.agg [.nil, .nil]), (.bool false)]) ⟨resOne.at hS (k := 2) rfl rfl aggA_41 sizeA_41, rfl, trivial⟩ (by simp) ⟨_, ⟨.nil, .nil, rfl, rfl⟩, hS.pick [1, 0, 8] rfl rfl⟩
  · skip
    refine AWP.skip ?_
    refine QThen.nrm ?_
    refine AWP.seqR rfl ?_
    refine ASL.q (v := (.agg [vp0_Stem, vp0_Loop])) rfl rfl (Light.quiet (kAtA hS (j := 3) rfl rfl aggA_41 sizeA_41 rfl (nlt rfl) rfl)) ?_
    refine ASL.n rfl rfl (hPutA hS (j := 0) rfl rfl sizeA_41 rfl rfl rfl rfl (allC (hS.one (k := 4) rfl) (allC (hS.one (k := 5) rfl) rfl)) (nlt rfl) ?_); rintro G13 hS
    refine ASL.q (v := (.bool true)) rfl rfl (Light.quiet (opAssign rfl rfl)) ?_
    refine ASL.done ?_
    refine AWP.ret ?_
    obtain rfl := someE hF
    exact QRet.many (vs := [(.agg [vp0_Stem, vp0_Loop]), (.bool true)]) ⟨resOne.at hS (k := 0) rfl rfl aggA_41 sizeA_41, rfl, trivial⟩ (by simp) ⟨_, ⟨vp0_Stem, vp0_Loop, rfl, rfl⟩, hS.pick [4, 5, 6] rfl rfl⟩

set_option maxRecDepth 10000 in
theorem spec_WordPower_ok {p0 : TWord} {p1 : Int} {r : (TWord × Bool)} (hF : spec_WordPower p0 p1 = some r) : HS Try.prog 130 [(TWord.av p0), (.int .i64 p1)] [] fun v L' => ∃ o0_Stem : AV, ∃ o0_Loop : AV, v = .tup [(.agg [o0_Stem, o0_Loop]), (.bool r.2)] ∧ L' = [.row 1 o0_Stem (List.map (AV.int .i64) r.1.stem), .row 1 o0_Loop (List.map (AV.int .i64) r.1.loop)] := by
  intro H S hS
  refine HC.enter Try.func130 rfl Try.ntmps130 (by simp) ?_
  simp only [List.cons_append, List.nil_append] at hS
  unfold spec_WordPower at hF
  refine AWP.seqR rfl ?_
  refine ASL.q (v := (.rptr [(.list 1 (List.map (AV.int .i64) p0.stem)), (.list 1 (List.map (AV.int .i64) p0.loop))])) rfl rfl ((qBoxI (v := (TWord.av p0)) rfl rfl rfl rfl)) ?_
  have hS := hNil (s := 1) (f := (AV.int .i64)) hS
  have hS := hNil (s := 1) (f := (AV.int .i64)) hS
  refine ASL.x rfl rfl (hNewZ hS [.nil, .nil] rfl zeroA_41 ⟨.inl rfl, .inl rfl, trivial⟩ ?_); rintro b4 G1 hK hS
  refine ASL.q (v := (.bool false)) rfl rfl (Light.quiet (opAssign rfl rfl)) ?_
  refine ASL.done ?_
  refine AWP.seq ?_
  refine AWP.seqR rfl ?_
  refine ASL.q (v := (TWord.av p0)) rfl rfl (Light.quiet (opLoadRA rfl aggA_41 sizeA_41 rfl (nlt rfl) rfl)) ?_
  obtain ⟨a9, ha9, hF⟩ := bindE hF
  refine ASL.q (v := (.bool a9)) rfl rfl ((qCall rfl rfl call_72 (spec_l3Right_ok ha9) rfl)) ?_
  refine ASL.q (v := (.bool (!a9))) rfl rfl (Light.quiet (opNot rfl rfl)) ?_
  obtain ⟨c11, hc11, hF⟩ := bndE hF
  refine ASL.q (v := (.bool c11)) rfl rfl ((Quiet.cast (Light.quiet (opMove rfl rfl)) (congrArg AV.bool hc11.symm))) ?_
  refine ASL.g (v := (.int .i64 p1)) (.bool c11) false rfl (wF _) rfl (fun hG => by have q0 := gN hG; subst q0; exact Light.quiet (opMove rfl rfl)) ?_
  refine ASL.g (v := (.bool (spec_l1In p1 1 40))) (.bool c11) false rfl (wF _) rfl (fun hG => by have q0 := gN hG; subst q0; exact (qCall rfl rfl call_86 (spec_l1In_ok p1 1 40) rfl)) ?_
  refine ASL.g (v := (.bool (!(spec_l1In p1 1 40)))) (.bool c11) false rfl (wF _) rfl (fun hG => by have q0 := gN hG; subst q0; exact Light.quiet (opNot rfl rfl)) ?_
  refine ASL.q (v := (.bool (c11 || (!(spec_l1In p1 1 40))))) rfl rfl (Light.quiet (opPick (b := c11) rfl rfl (by cases c11 <;> rfl))) ?_
  refine ASL.done ?_
  refine AWP.ifB hF rfl (fun hc5 hF => ?_) (fun hc5 hF => ?_)
  · skip
    refine AWP.seqR rfl ?_
    refine ASL.q (v := (.agg [.nil, .nil])) rfl rfl (Light.quiet (opBuildZ (zs := [.nil, .nil]) rfl plan_41 zeroA_41 ⟨.inl rfl, .inl rfl, trivial⟩ rfl)) ?_
    have hS := hNil (s := 1) (f := (AV.int .i64)) hS
    have hS := hNil (s := 1) (f := (AV.int .i64)) hS
    refine ASL.n rfl rfl (hPutA hS (j := 2) rfl rfl sizeA_41 rfl rfl rfl rfl (allC (hS.one (k := 1) rfl) (allC (hS.one (k := 0) rfl) rfl)) (nlt rfl) ?_); rintro G6 hS
    refine ASL.q (v := (.bool false)) rfl rfl (Light.quiet (opAssign rfl rfl)) ?_
    refine ASL.done ?_
    refine AWP.ret ?_
    refine QThen.rt ?_
    obtain rfl := someE hF
    exact QRet.many (vs := [(.agg [.nil, .nil]), (.bool false)]) ⟨resOne.at hS (k := 2) rfl rfl aggA_41 sizeA_41, rfl, trivial⟩ (by simp) ⟨_, ⟨.nil, .nil, rfl, rfl⟩, hS.pick [1, 0, 5] rfl rfl⟩
  · skip
    refine AWP.skip ?_
    refine QThen.nrm ?_
    refine AWP.seqR rfl ?_
    refine ASL.x rfl rfl (hLit (f := (AV.int .i64)) (zs := []) hS rfl rfl elemA_32 sizeA_3 zeroA_3 rfl rfl rfl rfl (by simp [cells]) (nlt rfl) ?_); rintro v17 G9 hK hS
    refine ASL.q (v := (.rptr [(.list 1 (List.map (AV.int .i64) p0.stem)), (.list 1 (List.map (AV.int .i64) p0.loop))])) rfl rfl (Light.quiet (opFieldAddrR rfl fieldA_41_0 rfl rfl)) ?_
    refine ASL.q (v := (.list 1 (List.map (AV.int .i64) p0.stem))) rfl rfl (Light.quiet (opLoadR rfl aggA_32 rfl rfl)) ?_
    obtain ⟨z20, hz20, hF⟩ := bindE hF
    refine ASL.x rfl rfl (hApp (f := (AV.int .i64)) (ws := p0.stem) hS (j := 0) rfl hz20 rfl elemA_32 rfl sizeA_3 bytesA_3 zeroA_3 rfl rfl rfl (fun _ => rfl) ?_); rintro v20 G11 hS
    refine ASL.q (v := (.agg [v20, .nil])) rfl rfl (Light.quiet (opBuildZ (zs := [(.list 1 (List.map (AV.int .i64) [])), .nil]) rfl plan_41 zeroA_41 ⟨.inr ⟨_, rfl, rfl⟩, .inl rfl, trivial⟩ (putO (hS.one (k := 0) rfl) rfl rfl rfl))) ?_
    have hS := hNil (s := 1) (f := (AV.int .i64)) hS
    have hS := hNil (s := 1) (f := (AV.int .i64)) hS
    refine ASL.x rfl rfl (hNewZ hS [.nil, .nil] rfl zeroA_41 ⟨.inl rfl, .inl rfl, trivial⟩ ?_); rintro b6 G13 hK hS
    have hS := hNil (s := 1) (f := (AV.int .i64)) hS
    refine ASL.n rfl rfl (hPutA hS (j := 1) rfl rfl sizeA_41 rfl rfl rfl rfl (allC (hS.one (k := 4) rfl) (allC (hS.one (k := 0) rfl) rfl)) (nlt rfl) ?_); rintro G17 hS
    refine ASL.done ?_
    refine AWP.seqM (fun e H => ∃ y19 : (List Int), ∃ y22 : (List Int), ∃ w20 : AV, ∃ w23 : AV, E.Told e [(4, (.ptr b4 0)), (6, (.ptr b6 0))] ∧ E.Sep H [.row 1 .nil (List.map (AV.int .i64) ([])), .row 1 .nil (List.map (AV.int .i64) ([])), .cell b4 [.nil, .nil], .row 1 w20 (List.map (AV.int .i64) y19), .row 1 w23 (List.map (AV.int .i64) y22), .cell b6 [w20, w23], .snap S] ∧ spec_WordPower.k0 y19 y22 = some r) ?_ ?_
    · rintro e0 G31 ⟨y19, y22, w20, w23, hT, hS, hF⟩; refine AWP.only _ hT ?_; unfold spec_WordPower.k0 at hF
      refine AWP.seqR rfl ?_
      refine ASL.q (v := (.agg [w20, w23])) rfl rfl (Light.quiet (kAtA hS (j := 5) rfl rfl aggA_41 sizeA_41 rfl (nlt rfl) rfl)) ?_
      obtain ⟨a34, ha34, hF⟩ := bindE hF
      refine ASL.x rfl rfl (hCallS hS [3, 4, 0, 1, 2, 5, 6] (F := [.row 1 .nil (List.map (AV.int .i64) ([])), .row 1 .nil (List.map (AV.int .i64) ([])), .cell b4 [.nil, .nil], .cell b6 [w20, w23], .snap S]) rfl rfl rfl call_132 (spec_l3Told_ok ha34) rfl rfl ?_); rintro _ _ G29 ⟨w25, w27, rfl, rfl⟩ hS
      refine ASL.q (v := (.agg [w25, w27])) rfl rfl (Light.quiet (opExtract rfl rfl rfl)) ?_
      refine ASL.q (v := (.bool a34.2)) rfl rfl (Light.quiet (opExtract rfl rfl rfl)) ?_
      refine ASL.n rfl rfl (hPutA hS (j := 4) rfl rfl sizeA_41 rfl rfl rfl rfl (allC (hS.one (k := 0) rfl) (allC (hS.one (k := 1) rfl) rfl)) (nlt rfl) ?_); rintro G30 hS
      refine ASL.q (v := (.bool a34.2)) rfl rfl (Light.quiet (opAssign rfl rfl)) ?_
      refine ASL.done ?_
      refine AWP.ret ?_
      obtain rfl := someE hF
      exact QRet.many (vs := [(.agg [w25, w27]), (.bool a34.2)]) ⟨resOne.at hS (k := 4) rfl rfl aggA_41 sizeA_41, rfl, trivial⟩ (by simp) ⟨_, ⟨w25, w27, rfl, rfl⟩, hS.pick [0, 1, 6] rfl rfl⟩
    · skip
      refine AWP.seqR rfl ?_
      refine ASL.q (v := (.int .i64 0)) rfl rfl (Light.quiet (opAssign rfl rfl)) ?_
      refine ASL.done ?_
      refine AWP.block ?_
      obtain ⟨o41, hL40, hR42⟩ := bindE hF
      refine AWP.loopF (ω := (AV × AV)) hL40 (fun s w => [(1, (.int .i64 p1)), (2, (.rptr [(.list 1 (List.map (AV.int .i64) p0.stem)), (.list 1 (List.map (AV.int .i64) p0.loop))])), (4, (.ptr b4 0)), (6, (.ptr b6 0)), (7, (.int .i64 s.2.2))]) (fun s w => [.row 1 .nil (List.map (AV.int .i64) ([])), .row 1 .nil (List.map (AV.int .i64) ([])), .cell b4 [.nil, .nil], .row 1 w.1 (List.map (AV.int .i64) s.1), .row 1 w.2 (List.map (AV.int .i64) s.2.1), .cell b6 [w.1, w.2], .snap S]) (v20, .nil) ⟨rfl, rfl, rfl, rfl, rfl, trivial⟩ (hS.pick [7, 6, 5, 4, 0, 1, 8] rfl rfl) ?_
      rintro ⟨y32, y35, x7_l0⟩ ⟨w33, w36⟩ G43 hS x38 hF hx39
      try dsimp only at hS ⊢
      have hF : spec_WordPower.b0 p1 p0 y32 y35 x7_l0 = some x38 := hF; unfold spec_WordPower.b0 at hF
      refine AWP.seq ?_
      refine AWP.seqR rfl ?_
      refine ASL.q (v := (.int .i64 x7_l0)) rfl rfl (Light.quiet (opMove rfl rfl)) ?_
      refine ASL.q (v := (.int .i64 p1)) rfl rfl (Light.quiet (opMove rfl rfl)) ?_
      refine ASL.q (v := (.bool (decide (x7_l0 < p1)))) rfl rfl (Light.quiet (opInt rfl rfl rfl rfl)) ?_
      refine ASL.done ?_
      refine AWP.ifP hF rfl (fun hc44 hF => ?_) (fun hc44 hF => ?_)
      · skip
        refine AWP.skip ?_
        refine QThen.nrm ?_
        refine AWP.seq ?_
        refine AWP.block ?_
        refine AWP.lastR rfl ?_
        refine ASL.q (v := (.ptr b6 1)) rfl rfl (Light.quiet (opFieldAddr rfl fieldA_41_1 rfl rfl)) ?_
        refine ASL.q (v := w36) rfl rfl (Light.quiet (kAt hS (j := 5) rfl rfl aggA_32 rfl rfl)) ?_
        refine ASL.q (v := (.rptr [(.list 1 (List.map (AV.int .i64) p0.loop))])) rfl rfl (Light.quiet (opFieldAddrR rfl fieldA_41_1 rfl rfl)) ?_
        refine ASL.q (v := (.list 1 (List.map (AV.int .i64) p0.loop))) rfl rfl (Light.quiet (opLoadR rfl aggA_32 rfl rfl)) ?_
        obtain ⟨z31, hz31, hF⟩ := bindE hF
        refine ASL.x rfl rfl (hApp (f := (AV.int .i64)) (ws := p0.loop) hS (j := 4) rfl hz31 rfl elemA_32 rfl sizeA_3 bytesA_3 zeroA_3 rfl rfl rfl (fun _ => rfl) ?_); rintro v31 G45 hS
        refine ASL.q (v := (.ptr b6 1)) rfl rfl (Light.quiet (opFieldAddr rfl fieldA_41_1 rfl rfl)) ?_
        refine ASL.n rfl rfl (hPut hS (j := 5) rfl rfl sizeA_32 rfl rfl (hS.one (k := 4) rfl) (nlt rfl) ?_); rintro G47 hS
        refine ASL.done ?_
        refine QBlock.nrm ?_
        refine QThen.nrm ?_
        refine AWP.lastR rfl ?_
        refine ASL.q (v := (.int .i64 x7_l0)) rfl rfl (Light.quiet (opMove rfl rfl)) ?_
        refine ASL.q (v := (.int .i64 (W (x7_l0 + 1)))) rfl rfl (Light.quiet (opInt rfl rfl rfl rfl)) ?_
        refine ASL.q (v := (.int .i64 (W (x7_l0 + 1)))) rfl rfl (Light.quiet (opAssign rfl rfl)) ?_
        refine ASL.done ?_
        refine QThen.nrm ?_
        exact ⟨(y32, z31, (W (x7_l0 + 1))), (w33, v31), (someE hF).symm, ⟨rfl, rfl, rfl, rfl, rfl, trivial⟩, (hS.pick [0, 1, 2, 3, 4, 5, 6] rfl rfl)⟩
      · skip
        refine AWP.exit ?_
        refine QThen.ext ?_
        refine QThen.ext ?_
        refine QBlock.hit ?_
        obtain rfl := (hx39 _ (someE hF).symm)
        have hF := hR42
        refine QThen.nrm ?_
        exact ⟨y32, y35, w33, w36, ⟨rfl, rfl, trivial⟩, (hS.pick [0, 1, 2, 3, 4, 5, 6] rfl rfl), hF⟩

set_option maxRecDepth 10000 in
theorem spec_WordTurn_ok {p0 : TWord} {r : (TWord × Bool)} (hF : spec_WordTurn p0 = some r) : HS Try.prog 131 [(TWord.av p0)] [] fun v L' => ∃ o0_Stem : AV, ∃ o0_Loop : AV, v = .tup [(.agg [o0_Stem, o0_Loop]), (.bool r.2)] ∧ L' = [.row 1 o0_Stem (List.map (AV.int .i64) r.1.stem), .row 1 o0_Loop (List.map (AV.int .i64) r.1.loop)] := by
  intro H S hS
  refine HC.enter Try.func131 rfl Try.ntmps131 (by simp) ?_
  simp only [List.cons_append, List.nil_append] at hS
  unfold spec_WordTurn at hF
  refine AWP.seqR rfl ?_
  refine ASL.q (v := (.rptr [(.list 1 (List.map (AV.int .i64) p0.stem)), (.list 1 (List.map (AV.int .i64) p0.loop))])) rfl rfl ((qBoxI (v := (TWord.av p0)) rfl rfl rfl rfl)) ?_
  have hS := hNil (s := 1) (f := (AV.int .i64)) hS
  have hS := hNil (s := 1) (f := (AV.int .i64)) hS
  refine ASL.x rfl rfl (hNewZ hS [.nil, .nil] rfl zeroA_41 ⟨.inl rfl, .inl rfl, trivial⟩ ?_); rintro b2 G1 hK hS
  refine ASL.q (v := (.bool false)) rfl rfl (Light.quiet (opAssign rfl rfl)) ?_
  refine ASL.done ?_
  refine AWP.seq ?_
  refine AWP.seqR rfl ?_
  refine ASL.q (v := (TWord.av p0)) rfl rfl (Light.quiet (opLoadRA rfl aggA_41 sizeA_41 rfl (nlt rfl) rfl)) ?_
  obtain ⟨a5, ha5, hF⟩ := bindE hF
  refine ASL.q (v := (.bool a5)) rfl rfl ((qCall rfl rfl call_72 (spec_l3Right_ok ha5) rfl)) ?_
  refine ASL.q (v := (.bool (!a5))) rfl rfl (Light.quiet (opNot rfl rfl)) ?_
  refine ASL.done ?_
  refine AWP.ifB hF rfl (fun hc5 hF => ?_) (fun hc5 hF => ?_)
  · skip
    refine AWP.seqR rfl ?_
    refine ASL.q (v := (.agg [.nil, .nil])) rfl rfl (Light.quiet (opBuildZ (zs := [.nil, .nil]) rfl plan_41 zeroA_41 ⟨.inl rfl, .inl rfl, trivial⟩ rfl)) ?_
    have hS := hNil (s := 1) (f := (AV.int .i64)) hS
    have hS := hNil (s := 1) (f := (AV.int .i64)) hS
    refine ASL.n rfl rfl (hPutA hS (j := 2) rfl rfl sizeA_41 rfl rfl rfl rfl (allC (hS.one (k := 1) rfl) (allC (hS.one (k := 0) rfl) rfl)) (nlt rfl) ?_); rintro G6 hS
    refine ASL.q (v := (.bool false)) rfl rfl (Light.quiet (opAssign rfl rfl)) ?_
    refine ASL.done ?_
    refine AWP.ret ?_
    refine QThen.rt ?_
    obtain rfl := someE hF
    exact QRet.many (vs := [(.agg [.nil, .nil]), (.bool false)]) ⟨resOne.at hS (k := 2) rfl rfl aggA_41 sizeA_41, rfl, trivial⟩ (by simp) ⟨_, ⟨.nil, .nil, rfl, rfl⟩, hS.pick [1, 0, 5] rfl rfl⟩
  · skip
    refine AWP.skip ?_
    refine QThen.nrm ?_
    obtain ⟨a14, ha14, hF⟩ := bindE hF
    obtain ⟨a21, ha21, hF⟩ := bindE hF
    obtain ⟨a25, ha25, hF⟩ := bindE hF
    obtain ⟨z11, hz11, hF⟩ := bindE hF
    obtain ⟨z17, hz17, hF⟩ := bindE hF
    obtain ⟨z22, hz22, hF⟩ := bindE hF
    obtain ⟨z28, hz28, hF⟩ := bindE hF
    obtain ⟨a30, ha30, hF⟩ := bindE hF
    refine AWP.seqT (fun e H => ∃ w4609 : AV, ∃ w4611 : AV, E.Told e [(2, (.ptr b2 0)), (3, (.bool a30.2))] ∧ E.Sep H [.row 1 w4609 (List.map (AV.int .i64) a30.1.stem), .row 1 w4611 (List.map (AV.int .i64) a30.1.loop), .cell b2 [w4609, w4611], .row 1 .nil (List.map (AV.int .i64) ([])), .row 1 .nil (List.map (AV.int .i64) ([])), .snap S]) (.q 1 (.q 2 (.q 4 (.q 5 (.q 6 (.q 7 (.q 8 (.q 11 (.q 12 (.q 13 (.q 15 (.q 16 (.q 17 (.q 18 (.q 19 (.fork (.h 0 (.fork (.h 3 (.fork (.h 9 (.h 10 (.h 14 (.h 20 (.q 21 (.h 22 (.q 23 (.q 24 (.h 25 (.q 26 .fin)))))))))) (.h 10 (.h 9 (.h 14 (.h 20 (.q 21 (.h 22 (.q 23 (.q 24 (.h 25 (.q 26 .fin)))))))))))) (.h 10 (.h 3 (.h 9 (.h 14 (.h 20 (.q 21 (.h 22 (.q 23 (.q 24 (.h 25 (.q 26 .fin))))))))))))) (.h 10 (.h 0 (.h 3 (.h 9 (.h 14 (.h 20 (.q 21 (.h 22 (.q 23 (.q 24 (.h 25 (.q 26 .fin)))))))))))))))))))))))))))) mixed (by kernel_rfl) ?_ ?_
    · rintro e0 G5809 ⟨w4609, w4611, hT, hS⟩; refine AWP.only _ hT ?_
      refine AWP.ret ?_
      obtain rfl := someE hF
      exact QRet.many (vs := [(.agg [w4609, w4611]), (.bool a30.2)]) ⟨resOne.at hS (k := 2) rfl rfl aggA_41 sizeA_41, rfl, trivial⟩ (by simp) ⟨_, ⟨w4609, w4611, rfl, rfl⟩, hS.pick [0, 1, 5] rfl rfl⟩
    · skip
      refine ART.q0 rfl (v := (.rptr [(.list 1 (List.map (AV.int .i64) p0.stem)), (.list 1 (List.map (AV.int .i64) p0.loop))])) rfl rfl (Light.quiet (opFieldAddrR rfl fieldA_41_0 rfl rfl)) ?_
      refine ART.q0 rfl (v := (.list 1 (List.map (AV.int .i64) p0.stem))) rfl rfl (Light.quiet (opLoadR rfl aggA_32 rfl rfl)) ?_
      refine ART.q0 rfl (v := (.rptr [(.list 1 (List.map (AV.int .i64) p0.loop))])) rfl rfl (Light.quiet (opFieldAddrR rfl fieldA_41_1 rfl rfl)) ?_
      refine ART.q0 rfl (v := (.list 1 (List.map (AV.int .i64) p0.loop))) rfl rfl (Light.quiet (opLoadR rfl aggA_32 rfl rfl)) ?_
      refine ART.q0 rfl (v := (.rptr [(.int .i64 a14)])) rfl rfl (Light.quiet (kIx (f := (AV.int .i64)) ha14 rfl rfl rfl elemA_32 sizeA_3 rfl)) ?_
      refine ART.q0 rfl (v := (.int .i64 a14)) rfl rfl (Light.quiet (opLoadR rfl aggA_3 rfl rfl)) ?_
      refine ART.q0 rfl (v := (.list 1 (List.map (AV.int .i64) [a14]))) rfl rfl ((qLit (xs := [(.int .i64 a14)]) rfl elemA_32 sizeA_3 zeroA_3 rfl rfl rfl rfl (by simp [cells]) (nlt rfl))) ?_
      refine ART.q0 rfl (v := (.rptr [(.list 1 (List.map (AV.int .i64) p0.loop))])) rfl rfl (Light.quiet (opFieldAddrR rfl fieldA_41_1 rfl rfl)) ?_
      refine ART.q0 rfl (v := (.list 1 (List.map (AV.int .i64) p0.loop))) rfl rfl (Light.quiet (opLoadR rfl aggA_32 rfl rfl)) ?_
      refine ART.q0 rfl (v := (.list 1 (List.map (AV.int .i64) a21))) rfl rfl (Light.quiet (opCutL (f := (AV.int .i64)) ha21 rfl elemA_32 sizeA_3 rfl (.inr ⟨_, _, rfl, rfl⟩) (.inl ⟨rfl, rfl, rfl⟩))) ?_
      refine ART.q0 rfl (v := (.rptr [(.list 1 (List.map (AV.int .i64) p0.loop))])) rfl rfl (Light.quiet (opFieldAddrR rfl fieldA_41_1 rfl rfl)) ?_
      refine ART.q0 rfl (v := (.list 1 (List.map (AV.int .i64) p0.loop))) rfl rfl (Light.quiet (opLoadR rfl aggA_32 rfl rfl)) ?_
      refine ART.q0 rfl (v := (.rptr [(.int .i64 a25)])) rfl rfl (Light.quiet (kIx (f := (AV.int .i64)) ha25 rfl rfl rfl elemA_32 sizeA_3 rfl)) ?_
      refine ART.q0 rfl (v := (.int .i64 a25)) rfl rfl (Light.quiet (opLoadR rfl aggA_3 rfl rfl)) ?_
      refine ART.q0 rfl (v := (.list 1 (List.map (AV.int .i64) [a25]))) rfl rfl ((qLit (xs := [(.int .i64 a25)]) rfl elemA_32 sizeA_3 zeroA_3 rfl rfl rfl rfl (by simp [cells]) (nlt rfl))) ?_
      refine ART.fork ?_ ?_
      · skip
        refine ART.x rfl rfl rfl rfl (hLit (f := (AV.int .i64)) (zs := []) hS rfl rfl elemA_32 sizeA_3 zeroA_3 rfl rfl rfl rfl (by simp [cells]) (nlt rfl) ?_); rintro v8 G209 hK hS; refine ⟨hK, ?_⟩
        refine ART.fork ?_ ?_
        · skip
          refine ART.y rfl rfl rfl rfl rfl (hApp (f := (AV.int .i64)) (ws := p0.stem) hS (j := 0) rfl hz11 rfl elemA_32 rfl sizeA_3 bytesA_3 zeroA_3 rfl rfl rfl (fun _ => rfl) ?_); rintro v11 G809 hS
          refine ART.fork ?_ ?_
          · skip
            refine ART.y rfl rfl rfl rfl rfl (hApp (f := (AV.int .i64)) (ws := [a14]) hS (j := 0) rfl hz17 rfl elemA_32 rfl sizeA_3 bytesA_3 zeroA_3 rfl rfl rfl (fun _ => rfl) ?_); rintro v17 G2009 hS
            refine ART.x rfl rfl rfl rfl (hLit (f := (AV.int .i64)) (zs := []) hS rfl rfl elemA_32 sizeA_3 zeroA_3 rfl rfl rfl rfl (by simp [cells]) (nlt rfl) ?_); rintro v18 G2209 hK hS; refine ⟨hK, ?_⟩
            refine ART.y rfl rfl rfl rfl rfl (hApp (f := (AV.int .i64)) (ws := a21) hS (j := 0) rfl hz22 rfl elemA_32 rfl sizeA_3 bytesA_3 zeroA_3 rfl rfl rfl (fun _ => rfl) ?_); rintro v22 G3009 hS
            refine ART.y rfl rfl rfl rfl rfl (hApp (f := (AV.int .i64)) (ws := [a25]) hS (j := 0) rfl hz28 rfl elemA_32 rfl sizeA_3 bytesA_3 zeroA_3 rfl rfl rfl (fun _ => rfl) ?_); rintro v28 G4209 hS
            refine ART.q0 rfl (v := (.agg [v17, v28])) rfl rfl (Light.quiet (opBuildZ (zs := [(.list 1 (List.map (AV.int .i64) [])), (.list 1 (List.map (AV.int .i64) []))]) rfl plan_41 zeroA_41 ⟨.inr ⟨_, rfl, rfl⟩, .inr ⟨_, rfl, rfl⟩, trivial⟩ (putO (hS.one (k := 1) rfl) rfl rfl (putO (hS.one (k := 0) rfl) rfl rfl rfl)))) ?_
            refine ART.y rfl rfl rfl rfl rfl (hCallS hS [1, 0, 2, 3, 4, 5] (F := [.cell b2 [.nil, .nil], .row 1 .nil (List.map (AV.int .i64) ([])), .row 1 .nil (List.map (AV.int .i64) ([])), .snap S]) rfl rfl rfl call_132 (spec_l3Told_ok ha30) rfl rfl ?_); rintro _ _ G4613 ⟨w4609, w4611, rfl, rfl⟩ hS
            refine ART.q0 rfl (v := (.agg [w4609, w4611])) rfl rfl (Light.quiet (opExtract rfl rfl rfl)) ?_
            refine ART.q0 rfl (v := (.bool a30.2)) rfl rfl (Light.quiet (opExtract rfl rfl rfl)) ?_
            refine ART.n rfl rfl rfl rfl rfl (hPutA hS (j := 2) rfl rfl sizeA_41 rfl rfl rfl rfl (allC (hS.one (k := 0) rfl) (allC (hS.one (k := 1) rfl) rfl)) (nlt rfl) ?_); rintro G5209 hS
            refine ART.q0 rfl (v := (.bool a30.2)) rfl rfl (Light.quiet (opAssign rfl rfl)) ?_
            refine ART.done ?_
            exact ⟨w4609, w4611, ⟨rfl, rfl, trivial⟩, hS.pick [0, 1, 2, 3, 4, 5] rfl rfl⟩
          · skip
            refine ART.x rfl rfl rfl rfl (hLit (f := (AV.int .i64)) (zs := []) hS rfl rfl elemA_32 sizeA_3 zeroA_3 rfl rfl rfl rfl (by simp [cells]) (nlt rfl) ?_); rintro v18 G2209 hK hS; refine ⟨hK, ?_⟩
            refine ART.y rfl rfl rfl rfl rfl (hApp (f := (AV.int .i64)) (ws := [a14]) hS (j := 1) rfl hz17 rfl elemA_32 rfl sizeA_3 bytesA_3 zeroA_3 rfl rfl rfl (fun _ => rfl) ?_); rintro v17 G2009 hS
            refine ART.y rfl rfl rfl rfl rfl (hApp (f := (AV.int .i64)) (ws := a21) hS (j := 0) rfl hz22 rfl elemA_32 rfl sizeA_3 bytesA_3 zeroA_3 rfl rfl rfl (fun _ => rfl) ?_); rintro v22 G3009 hS
            refine ART.y rfl rfl rfl rfl rfl (hApp (f := (AV.int .i64)) (ws := [a25]) hS (j := 0) rfl hz28 rfl elemA_32 rfl sizeA_3 bytesA_3 zeroA_3 rfl rfl rfl (fun _ => rfl) ?_); rintro v28 G4209 hS
            refine ART.q0 rfl (v := (.agg [v17, v28])) rfl rfl (Light.quiet (opBuildZ (zs := [(.list 1 (List.map (AV.int .i64) [])), (.list 1 (List.map (AV.int .i64) []))]) rfl plan_41 zeroA_41 ⟨.inr ⟨_, rfl, rfl⟩, .inr ⟨_, rfl, rfl⟩, trivial⟩ (putO (hS.one (k := 1) rfl) rfl rfl (putO (hS.one (k := 0) rfl) rfl rfl rfl)))) ?_
            refine ART.y rfl rfl rfl rfl rfl (hCallS hS [1, 0, 2, 3, 4, 5] (F := [.cell b2 [.nil, .nil], .row 1 .nil (List.map (AV.int .i64) ([])), .row 1 .nil (List.map (AV.int .i64) ([])), .snap S]) rfl rfl rfl call_132 (spec_l3Told_ok ha30) rfl rfl ?_); rintro _ _ G4613 ⟨w4609, w4611, rfl, rfl⟩ hS
            refine ART.q0 rfl (v := (.agg [w4609, w4611])) rfl rfl (Light.quiet (opExtract rfl rfl rfl)) ?_
            refine ART.q0 rfl (v := (.bool a30.2)) rfl rfl (Light.quiet (opExtract rfl rfl rfl)) ?_
            refine ART.n rfl rfl rfl rfl rfl (hPutA hS (j := 2) rfl rfl sizeA_41 rfl rfl rfl rfl (allC (hS.one (k := 0) rfl) (allC (hS.one (k := 1) rfl) rfl)) (nlt rfl) ?_); rintro G5209 hS
            refine ART.q0 rfl (v := (.bool a30.2)) rfl rfl (Light.quiet (opAssign rfl rfl)) ?_
            refine ART.done ?_
            exact ⟨w4609, w4611, ⟨rfl, rfl, trivial⟩, hS.pick [0, 1, 2, 3, 4, 5] rfl rfl⟩
        · skip
          refine ART.x rfl rfl rfl rfl (hLit (f := (AV.int .i64)) (zs := []) hS rfl rfl elemA_32 sizeA_3 zeroA_3 rfl rfl rfl rfl (by simp [cells]) (nlt rfl) ?_); rintro v18 G2209 hK hS; refine ⟨hK, ?_⟩
          refine ART.y rfl rfl rfl rfl rfl (hApp (f := (AV.int .i64)) (ws := p0.stem) hS (j := 1) rfl hz11 rfl elemA_32 rfl sizeA_3 bytesA_3 zeroA_3 rfl rfl rfl (fun _ => rfl) ?_); rintro v11 G809 hS
          refine ART.y rfl rfl rfl rfl rfl (hApp (f := (AV.int .i64)) (ws := [a14]) hS (j := 1) rfl hz17 rfl elemA_32 rfl sizeA_3 bytesA_3 zeroA_3 rfl rfl rfl (fun _ => rfl) ?_); rintro v17 G2009 hS
          refine ART.y rfl rfl rfl rfl rfl (hApp (f := (AV.int .i64)) (ws := a21) hS (j := 0) rfl hz22 rfl elemA_32 rfl sizeA_3 bytesA_3 zeroA_3 rfl rfl rfl (fun _ => rfl) ?_); rintro v22 G3009 hS
          refine ART.y rfl rfl rfl rfl rfl (hApp (f := (AV.int .i64)) (ws := [a25]) hS (j := 0) rfl hz28 rfl elemA_32 rfl sizeA_3 bytesA_3 zeroA_3 rfl rfl rfl (fun _ => rfl) ?_); rintro v28 G4209 hS
          refine ART.q0 rfl (v := (.agg [v17, v28])) rfl rfl (Light.quiet (opBuildZ (zs := [(.list 1 (List.map (AV.int .i64) [])), (.list 1 (List.map (AV.int .i64) []))]) rfl plan_41 zeroA_41 ⟨.inr ⟨_, rfl, rfl⟩, .inr ⟨_, rfl, rfl⟩, trivial⟩ (putO (hS.one (k := 1) rfl) rfl rfl (putO (hS.one (k := 0) rfl) rfl rfl rfl)))) ?_
          refine ART.y rfl rfl rfl rfl rfl (hCallS hS [1, 0, 2, 3, 4, 5] (F := [.cell b2 [.nil, .nil], .row 1 .nil (List.map (AV.int .i64) ([])), .row 1 .nil (List.map (AV.int .i64) ([])), .snap S]) rfl rfl rfl call_132 (spec_l3Told_ok ha30) rfl rfl ?_); rintro _ _ G4613 ⟨w4609, w4611, rfl, rfl⟩ hS
          refine ART.q0 rfl (v := (.agg [w4609, w4611])) rfl rfl (Light.quiet (opExtract rfl rfl rfl)) ?_
          refine ART.q0 rfl (v := (.bool a30.2)) rfl rfl (Light.quiet (opExtract rfl rfl rfl)) ?_
          refine ART.n rfl rfl rfl rfl rfl (hPutA hS (j := 2) rfl rfl sizeA_41 rfl rfl rfl rfl (allC (hS.one (k := 0) rfl) (allC (hS.one (k := 1) rfl) rfl)) (nlt rfl) ?_); rintro G5209 hS
          refine ART.q0 rfl (v := (.bool a30.2)) rfl rfl (Light.quiet (opAssign rfl rfl)) ?_
          refine ART.done ?_
          exact ⟨w4609, w4611, ⟨rfl, rfl, trivial⟩, hS.pick [0, 1, 2, 3, 4, 5] rfl rfl⟩
      · skip
        refine ART.x rfl rfl rfl rfl (hLit (f := (AV.int .i64)) (zs := []) hS rfl rfl elemA_32 sizeA_3 zeroA_3 rfl rfl rfl rfl (by simp [cells]) (nlt rfl) ?_); rintro v18 G2209 hK hS; refine ⟨hK, ?_⟩
        refine ART.x rfl rfl rfl rfl (hLit (f := (AV.int .i64)) (zs := []) hS rfl rfl elemA_32 sizeA_3 zeroA_3 rfl rfl rfl rfl (by simp [cells]) (nlt rfl) ?_); rintro v8 G209 hK hS; refine ⟨hK, ?_⟩
        refine ART.y rfl rfl rfl rfl rfl (hApp (f := (AV.int .i64)) (ws := p0.stem) hS (j := 0) rfl hz11 rfl elemA_32 rfl sizeA_3 bytesA_3 zeroA_3 rfl rfl rfl (fun _ => rfl) ?_); rintro v11 G809 hS
        refine ART.y rfl rfl rfl rfl rfl (hApp (f := (AV.int .i64)) (ws := [a14]) hS (j := 0) rfl hz17 rfl elemA_32 rfl sizeA_3 bytesA_3 zeroA_3 rfl rfl rfl (fun _ => rfl) ?_); rintro v17 G2009 hS
        refine ART.y rfl rfl rfl rfl rfl (hApp (f := (AV.int .i64)) (ws := a21) hS (j := 1) rfl hz22 rfl elemA_32 rfl sizeA_3 bytesA_3 zeroA_3 rfl rfl rfl (fun _ => rfl) ?_); rintro v22 G3009 hS
        refine ART.y rfl rfl rfl rfl rfl (hApp (f := (AV.int .i64)) (ws := [a25]) hS (j := 1) rfl hz28 rfl elemA_32 rfl sizeA_3 bytesA_3 zeroA_3 rfl rfl rfl (fun _ => rfl) ?_); rintro v28 G4209 hS
        refine ART.q0 rfl (v := (.agg [v17, v28])) rfl rfl (Light.quiet (opBuildZ (zs := [(.list 1 (List.map (AV.int .i64) [])), (.list 1 (List.map (AV.int .i64) []))]) rfl plan_41 zeroA_41 ⟨.inr ⟨_, rfl, rfl⟩, .inr ⟨_, rfl, rfl⟩, trivial⟩ (putO (hS.one (k := 0) rfl) rfl rfl (putO (hS.one (k := 1) rfl) rfl rfl rfl)))) ?_
        refine ART.y rfl rfl rfl rfl rfl (hCallS hS [0, 1, 2, 3, 4, 5] (F := [.cell b2 [.nil, .nil], .row 1 .nil (List.map (AV.int .i64) ([])), .row 1 .nil (List.map (AV.int .i64) ([])), .snap S]) rfl rfl rfl call_132 (spec_l3Told_ok ha30) rfl rfl ?_); rintro _ _ G4613 ⟨w4609, w4611, rfl, rfl⟩ hS
        refine ART.q0 rfl (v := (.agg [w4609, w4611])) rfl rfl (Light.quiet (opExtract rfl rfl rfl)) ?_
        refine ART.q0 rfl (v := (.bool a30.2)) rfl rfl (Light.quiet (opExtract rfl rfl rfl)) ?_
        refine ART.n rfl rfl rfl rfl rfl (hPutA hS (j := 2) rfl rfl sizeA_41 rfl rfl rfl rfl (allC (hS.one (k := 0) rfl) (allC (hS.one (k := 1) rfl) rfl)) (nlt rfl) ?_); rintro G5209 hS
        refine ART.q0 rfl (v := (.bool a30.2)) rfl rfl (Light.quiet (opAssign rfl rfl)) ?_
        refine ART.done ?_
        exact ⟨w4609, w4611, ⟨rfl, rfl, trivial⟩, hS.pick [0, 1, 2, 3, 4, 5] rfl rfl⟩

set_option maxRecDepth 10000 in
theorem spec_l3DrawRight_ok {p0 : Tl1Cur} {p1 : Int} {r : (TWord × Tl1Cur)} {bp0 : Nat} (hF : spec_l3DrawRight p0 p1 = some r) : HS Try.prog 127 [(.ptr bp0 0), (.int .i64 p1)] [.cell bp0 [(.list 1 (List.map (AV.int .u8) p0.b)), (.int .i64 p0.i), (.int .i64 p0.h)]] fun v L' => ∃ o0_Stem : AV, ∃ o0_Loop : AV, v = (.agg [o0_Stem, o0_Loop]) ∧ L' = [.row 1 o0_Stem (List.map (AV.int .i64) r.1.stem), .row 1 o0_Loop (List.map (AV.int .i64) r.1.loop), .cell bp0 [(.list 1 (List.map (AV.int .u8) r.2.b)), (.int .i64 r.2.i), (.int .i64 r.2.h)]] := by
  intro H S hS
  refine HC.enter Try.func127 rfl Try.ntmps127 (by simp) ?_
  simp only [List.cons_append, List.nil_append] at hS
  unfold spec_l3DrawRight at hF
  refine AWP.seqR rfl ?_
  have hS := hNil (s := 1) (f := (AV.int .i64)) hS
  have hS := hNil (s := 1) (f := (AV.int .i64)) hS
  refine ASL.x rfl rfl (hNewZ hS [.nil, .nil] rfl zeroA_41 ⟨.inl rfl, .inl rfl, trivial⟩ ?_); rintro b4 G2 hK hS
  refine ASL.done ?_
  refine AWP.seqR rfl ?_
  refine ASL.q (v := (.ptr bp0 0)) rfl rfl (Light.quiet (opMove rfl rfl)) ?_
  refine ASL.q (v := (.int .i64 p1)) rfl rfl (Light.quiet (opMove rfl rfl)) ?_
  obtain ⟨a8, ha8, hF⟩ := bindE hF
  refine ASL.x rfl rfl (hCallS hS [3, 0, 1, 2, 4] (F := [.cell b4 [.nil, .nil], .row 1 .nil (List.map (AV.int .i64) ([])), .row 1 .nil (List.map (AV.int .i64) ([])), .snap S]) rfl rfl rfl call_129 (spec_l3DrawLetters_ok ha8) rfl rfl ?_); rintro w6 _ G8 ⟨_, rfl, rfl⟩ hS
  refine ASL.q (v := (.ptr bp0 0)) rfl rfl (Light.quiet (opMove rfl rfl)) ?_
  refine ASL.q (v := (.int .i64 p1)) rfl rfl (Light.quiet (opMove rfl rfl)) ?_
  obtain ⟨a11, ha11, hF⟩ := bindE hF
  refine ASL.x rfl rfl (hCallS hS [1, 0, 2, 3, 4, 5] (F := [.row 1 w6 (List.map (AV.int .i64) a8.1), .cell b4 [.nil, .nil], .row 1 .nil (List.map (AV.int .i64) ([])), .row 1 .nil (List.map (AV.int .i64) ([])), .snap S]) rfl rfl rfl call_129 (spec_l3DrawLetters_ok ha11) rfl rfl ?_); rintro w9 _ G11 ⟨_, rfl, rfl⟩ hS
  refine ASL.q (v := (.ptr bp0 0)) rfl rfl (Light.quiet (opMove rfl rfl)) ?_
  refine ASL.q (v := (.int .i64 p1)) rfl rfl (Light.quiet (opMove rfl rfl)) ?_
  obtain ⟨a14, ha14, hF⟩ := bindE hF
  refine ASL.x rfl rfl (hCallS hS [1, 0, 2, 3, 4, 5, 6] (F := [.row 1 w9 (List.map (AV.int .i64) a11.1), .row 1 w6 (List.map (AV.int .i64) a8.1), .cell b4 [.nil, .nil], .row 1 .nil (List.map (AV.int .i64) ([])), .row 1 .nil (List.map (AV.int .i64) ([])), .snap S]) rfl rfl rfl call_97 (spec_l1Below_ok ha14) rfl rfl ?_); rintro _ _ G12 ⟨rfl, rfl⟩ hS
  refine ASL.q (v := (.list 1 (List.map (AV.int .i64) [a14.1]))) rfl rfl ((qLit (xs := [(.int .i64 a14.1)]) rfl elemA_32 sizeA_3 zeroA_3 rfl rfl rfl rfl (by simp [cells]) (nlt rfl))) ?_
  obtain ⟨z16, hz16, hF⟩ := bindE hF
  refine ASL.x rfl rfl (hApp (f := (AV.int .i64)) (ws := [a14.1]) hS (j := 1) rfl hz16 rfl elemA_32 rfl sizeA_3 bytesA_3 zeroA_3 rfl rfl rfl (fun _ => rfl) ?_); rintro v16 G13 hS
  refine ASL.q (v := (.agg [w6, v16])) rfl rfl (Light.quiet (opBuildZ (zs := [(.list 1 (List.map (AV.int .i64) [])), (.list 1 (List.map (AV.int .i64) []))]) rfl plan_41 zeroA_41 ⟨.inr ⟨_, rfl, rfl⟩, .inr ⟨_, rfl, rfl⟩, trivial⟩ (putO (hS.one (k := 2) rfl) rfl rfl (putO (hS.one (k := 1) rfl) rfl rfl rfl)))) ?_
  have hS := hNil (s := 1) (f := (AV.int .i64)) hS
  have hS := hNil (s := 1) (f := (AV.int .i64)) hS
  refine ASL.x rfl rfl (hNewZ hS [.nil, .nil] rfl zeroA_41 ⟨.inl rfl, .inl rfl, trivial⟩ ?_); rintro b5 G15 hK hS
  refine ASL.n rfl rfl (hPutA hS (j := 0) rfl rfl sizeA_41 rfl rfl rfl rfl (allC (hS.one (k := 5) rfl) (allC (hS.one (k := 4) rfl) rfl)) (nlt rfl) ?_); rintro G19 hS
  refine ASL.done ?_
  refine AWP.seqM (fun e H => ∃ y20 : (List Int), ∃ y21 : Int, ∃ y22 : Int, ∃ y23 : (List Int), ∃ y26 : (List Int), ∃ w24 : AV, ∃ w27 : AV, E.Told e [(0, (.ptr bp0 0)), (4, (.ptr b4 0)), (5, (.ptr b5 0))] ∧ E.Sep H [.cell bp0 [(.list 1 (List.map (AV.int .u8) y20)), (.int .i64 y21), (.int .i64 y22)], .row 1 .nil (List.map (AV.int .i64) ([])), .row 1 .nil (List.map (AV.int .i64) ([])), .cell b4 [.nil, .nil], .row 1 w24 (List.map (AV.int .i64) y23), .row 1 w27 (List.map (AV.int .i64) y26), .cell b5 [w24, w27], .snap S] ∧ spec_l3DrawRight.k0 y20 y21 y22 y23 y26 = some r) ?_ ?_
  · rintro e0 G39 ⟨y20, y21, y22, y23, y26, w24, w27, hT, hS, hF⟩; refine AWP.only _ hT ?_; unfold spec_l3DrawRight.k0 at hF
    refine AWP.seq ?_
    refine AWP.seqR rfl ?_
    refine ASL.q (v := (.ptr bp0 0)) rfl rfl (Light.quiet (opMove rfl rfl)) ?_
    obtain ⟨a26, ha26, hF⟩ := bindE hF
    refine ASL.x rfl rfl (hCallS hS [0, 1, 2, 3, 4, 5, 6, 7] (F := [.row 1 .nil (List.map (AV.int .i64) ([])), .row 1 .nil (List.map (AV.int .i64) ([])), .cell b4 [.nil, .nil], .row 1 w24 (List.map (AV.int .i64) y23), .row 1 w27 (List.map (AV.int .i64) y26), .cell b5 [w24, w27], .snap S]) rfl rfl rfl call_111 (spec_l1Once_ok ha26) rfl rfl ?_); rintro _ _ G29 ⟨rfl, rfl⟩ hS
    refine ASL.done ?_
    refine AWP.ifB hF rfl (fun hc30 hF => ?_) (fun hc30 hF => ?_)
    · skip
      refine AWP.lastR rfl ?_
      refine ASL.q (v := (.agg [w24, w27])) rfl rfl (Light.quiet (kAtA hS (j := 6) rfl rfl aggA_41 sizeA_41 rfl (nlt rfl) rfl)) ?_
      obtain ⟨a29, ha29, hF⟩ := bindE hF
      refine ASL.x rfl rfl (hCallSR hS rfl rfl call_131 (spec_WordTurn_ok ha29) ⟨.aggL ⟨.row (k := 4) rfl, .row (k := 5) rfl, trivial⟩, trivial⟩ (by rintro _ _ G ⟨w31, w33, rfl, rfl⟩ hG; exact ⟨(Scal.tup (ScalC.cons (Scal.agg (ScalC.cons (hG.scR (k := 0) rfl) (ScalC.cons (hG.scR (k := 1) rfl) ScalC.nil))) (ScalC.cons (by constructor) ScalC.nil))), ⟨(Scal.ints _ _), (Scal.ints _ _), trivial⟩⟩) ?_); rintro _ _ G35 ⟨w31, w33, rfl, rfl⟩ hK hS
      refine ASL.q (v := (.tup [(.agg [w31, w33]), (.bool a29.2)])) rfl rfl (Light.quiet (opMove rfl rfl)) ?_
      refine ASL.q (v := (.agg [w31, w33])) rfl rfl (Light.quiet (opExtract rfl rfl rfl)) ?_
      refine ASL.q (v := (.bool a29.2)) rfl rfl (Light.quiet (opExtract rfl rfl rfl)) ?_
      refine ASL.n rfl rfl (hPutA hS (j := 8) rfl rfl sizeA_41 rfl rfl rfl rfl (allC (hS.one (k := 0) rfl) (allC (hS.one (k := 1) rfl) rfl)) (nlt rfl) ?_); rintro G36 hS
      refine ASL.done ?_
      refine QThen.nrm ?_
      refine AWP.seqR rfl ?_
      refine ASL.q (v := (.agg [w31, w33])) rfl rfl (Light.quiet (kAtA hS (j := 8) rfl rfl aggA_41 sizeA_41 rfl (nlt rfl) rfl)) ?_
      refine ASL.n rfl rfl (hPutA hS (j := 5) rfl rfl sizeA_41 rfl rfl rfl rfl (allC (hS.one (k := 0) rfl) (allC (hS.one (k := 1) rfl) rfl)) (nlt rfl) ?_); rintro G37 hS
      refine ASL.done ?_
      refine AWP.ret ?_
      obtain rfl := someE hF
      exact QRet.sole (v := (.agg [w31, w33])) ⟨resOne.at hS (k := 5) rfl rfl aggA_41 sizeA_41, trivial⟩ ⟨_, ⟨w31, w33, rfl, rfl⟩, hS.pick [0, 1, 2, 9] rfl rfl⟩
    · skip
      refine AWP.skip ?_
      refine QThen.nrm ?_
      refine AWP.seqR rfl ?_
      refine ASL.q (v := (.agg [w24, w27])) rfl rfl (Light.quiet (kAtA hS (j := 6) rfl rfl aggA_41 sizeA_41 rfl (nlt rfl) rfl)) ?_
      refine ASL.n rfl rfl (hPutA hS (j := 3) rfl rfl sizeA_41 rfl rfl rfl rfl (allC (hS.one (k := 4) rfl) (allC (hS.one (k := 5) rfl) rfl)) (nlt rfl) ?_); rintro G38 hS
      refine ASL.done ?_
      refine AWP.ret ?_
      obtain rfl := someE hF
      exact QRet.sole (v := (.agg [w24, w27])) ⟨resOne.at hS (k := 3) rfl rfl aggA_41 sizeA_41, trivial⟩ ⟨_, ⟨w24, w27, rfl, rfl⟩, hS.pick [4, 5, 0, 7] rfl rfl⟩
  · skip
    refine AWP.seqR rfl ?_
    refine ASL.q (v := (.ptr bp0 0)) rfl rfl (Light.quiet (opMove rfl rfl)) ?_
    obtain ⟨a19, ha19, hF⟩ := bindE hF
    refine ASL.x rfl rfl (hCallS hS [3, 0, 1, 2, 4, 5, 6, 7, 8, 9] (F := [.cell b5 [w6, v16], .row 1 .nil (List.map (AV.int .i64) ([])), .row 1 .nil (List.map (AV.int .i64) ([])), .row 1 v16 (List.map (AV.int .i64) z16), .row 1 w6 (List.map (AV.int .i64) a8.1), .cell b4 [.nil, .nil], .row 1 .nil (List.map (AV.int .i64) ([])), .row 1 .nil (List.map (AV.int .i64) ([])), .snap S]) rfl rfl rfl call_111 (spec_l1Once_ok ha19) rfl rfl ?_); rintro _ _ G40 ⟨rfl, rfl⟩ hS
    refine ASL.done ?_
    refine AWP.ifB hF rfl (fun hc41 hF => ?_) (fun hc41 hF => ?_)
    · skip
      refine AWP.lastR rfl ?_
      refine ASL.q (v := (.agg [w6, v16])) rfl rfl (Light.quiet (kAtA hS (j := 1) rfl rfl aggA_41 sizeA_41 rfl (nlt rfl) rfl)) ?_
      obtain ⟨a22, ha22, hF⟩ := bindE hF
      refine ASL.x rfl rfl (hCallSR hS rfl rfl call_130 (spec_WordPower_ok ha22) ⟨.aggL ⟨.row (k := 5) rfl, .row (k := 4) rfl, trivial⟩, .same _, trivial⟩ (by rintro _ _ G ⟨w42, w44, rfl, rfl⟩ hG; exact ⟨(Scal.tup (ScalC.cons (Scal.agg (ScalC.cons (hG.scR (k := 0) rfl) (ScalC.cons (hG.scR (k := 1) rfl) ScalC.nil))) (ScalC.cons (by constructor) ScalC.nil))), ⟨(Scal.ints _ _), (Scal.ints _ _), trivial⟩⟩) ?_); rintro _ _ G46 ⟨w42, w44, rfl, rfl⟩ hK hS
      refine ASL.q (v := (.tup [(.agg [w42, w44]), (.bool a22.2)])) rfl rfl (Light.quiet (opMove rfl rfl)) ?_
      refine ASL.q (v := (.agg [w42, w44])) rfl rfl (Light.quiet (opExtract rfl rfl rfl)) ?_
      refine ASL.q (v := (.bool a22.2)) rfl rfl (Light.quiet (opExtract rfl rfl rfl)) ?_
      refine ASL.n rfl rfl (hPutA hS (j := 3) rfl rfl sizeA_41 rfl rfl rfl rfl (allC (hS.one (k := 0) rfl) (allC (hS.one (k := 1) rfl) rfl)) (nlt rfl) ?_); rintro G47 hS
      refine ASL.done ?_
      refine QThen.nrm ?_
      exact ⟨a19.2.b, a19.2.i, a19.2.h, a22.1.stem, a22.1.loop, w42, w44, ⟨rfl, rfl, rfl, trivial⟩, (hS.pick [2, 10, 9, 8, 0, 1, 3, 11] rfl rfl), hF⟩
    · skip
      refine AWP.skip ?_
      refine QThen.nrm ?_
      exact ⟨a19.2.b, a19.2.i, a19.2.h, a8.1, z16, w6, v16, ⟨rfl, rfl, rfl, trivial⟩, (hS.pick [0, 8, 7, 6, 5, 4, 1, 9] rfl rfl), hF⟩

set_option maxRecDepth 10000 in
theorem spec_l3DrawWord_ok {p0 : Tl1Cur} {r : (TWord × Tl1Cur)} {bp0 : Nat} (hF : spec_l3DrawWord p0 = some r) : HS Try.prog 107 [(.ptr bp0 0)] [.cell bp0 [(.list 1 (List.map (AV.int .u8) p0.b)), (.int .i64 p0.i), (.int .i64 p0.h)]] fun v L' => ∃ o0_Stem : AV, ∃ o0_Loop : AV, v = (.agg [o0_Stem, o0_Loop]) ∧ L' = [.row 1 o0_Stem (List.map (AV.int .i64) r.1.stem), .row 1 o0_Loop (List.map (AV.int .i64) r.1.loop), .cell bp0 [(.list 1 (List.map (AV.int .u8) r.2.b)), (.int .i64 r.2.i), (.int .i64 r.2.h)]] := by
  intro H S hS
  refine HC.enter Try.func107 rfl Try.ntmps107 (by simp) ?_
  simp only [List.cons_append, List.nil_append] at hS
  unfold spec_l3DrawWord at hF
  refine AWP.seqR rfl ?_
  have hS := hNil (s := 1) (f := (AV.int .i64)) hS
  have hS := hNil (s := 1) (f := (AV.int .i64)) hS
  refine ASL.x rfl rfl (hNewZ hS [.nil, .nil] rfl zeroA_41 ⟨.inl rfl, .inl rfl, trivial⟩ ?_); rintro b2 G2 hK hS
  refine ASL.done ?_
  refine AWP.seqR rfl ?_
  refine ASL.q (v := (.ptr bp0 0)) rfl rfl (Light.quiet (opMove rfl rfl)) ?_
  refine ASL.q (v := (.ptr bp0 0)) rfl rfl (Light.quiet (opMove rfl rfl)) ?_
  refine ASL.q (v := (.list 1 (List.map (AV.int .i64) [1, 2, 2, 3, 8]))) rfl rfl ((qLit (xs := [(.int .i64 1), (.int .i64 2), (.int .i64 2), (.int .i64 3), (.int .i64 8)]) rfl elemA_32 sizeA_3 zeroA_3 rfl rfl rfl rfl (by simp [cells]) (nlt rfl))) ?_
  obtain ⟨a7, ha7, hF⟩ := bindE hF
  refine ASL.x rfl rfl (hCallS hS [3, 0, 1, 2, 4] (F := [.cell b2 [.nil, .nil], .row 1 .nil (List.map (AV.int .i64) ([])), .row 1 .nil (List.map (AV.int .i64) ([])), .snap S]) rfl rfl rfl call_51 (spec_l1PickInt_ok ha7) rfl rfl ?_); rintro _ _ G6 ⟨rfl, rfl⟩ hS
  obtain ⟨a8, ha8, hF⟩ := bindE hF
  refine ASL.x rfl rfl (hCallS hS [0, 1, 2, 3, 4] (F := [.cell b2 [.nil, .nil], .row 1 .nil (List.map (AV.int .i64) ([])), .row 1 .nil (List.map (AV.int .i64) ([])), .snap S]) rfl rfl rfl call_127 (spec_l3DrawRight_ok ha8) rfl rfl ?_); rintro _ _ G11 ⟨w7, w9, rfl, rfl⟩ hS
  have hS := hNil (s := 1) (f := (AV.int .i64)) hS
  have hS := hNil (s := 1) (f := (AV.int .i64)) hS
  refine ASL.x rfl rfl (hNewZ hS [.nil, .nil] rfl zeroA_41 ⟨.inl rfl, .inl rfl, trivial⟩ ?_); rintro b3 G12 hK hS
  refine ASL.n rfl rfl (hPutA hS (j := 0) rfl rfl sizeA_41 rfl rfl rfl rfl (allC (hS.one (k := 3) rfl) (allC (hS.one (k := 4) rfl) rfl)) (nlt rfl) ?_); rintro G16 hS
  refine ASL.done ?_
  refine AWP.seqM (fun e H => ∃ y17 : (List Int), ∃ y20 : (List Int), ∃ y23 : (List Int), ∃ y24 : Int, ∃ y25 : Int, ∃ w18 : AV, ∃ w21 : AV, E.Told e [(2, (.ptr b2 0)), (3, (.ptr b3 0))] ∧ E.Sep H [.row 1 .nil (List.map (AV.int .i64) ([])), .row 1 .nil (List.map (AV.int .i64) ([])), .cell b2 [.nil, .nil], .row 1 w18 (List.map (AV.int .i64) y17), .row 1 w21 (List.map (AV.int .i64) y20), .cell b3 [w18, w21], .cell bp0 [(.list 1 (List.map (AV.int .u8) y23)), (.int .i64 y24), (.int .i64 y25)], .snap S] ∧ spec_l3DrawWord.k0 y17 y20 y23 y24 y25 = some r) ?_ ?_
  · rintro e0 G27 ⟨y17, y20, y23, y24, y25, w18, w21, hT, hS, hF⟩; refine AWP.only _ hT ?_; unfold spec_l3DrawWord.k0 at hF
    refine AWP.seqR rfl ?_
    refine ASL.q (v := (.agg [w18, w21])) rfl rfl (Light.quiet (kAtA hS (j := 5) rfl rfl aggA_41 sizeA_41 rfl (nlt rfl) rfl)) ?_
    refine ASL.n rfl rfl (hPutA hS (j := 2) rfl rfl sizeA_41 rfl rfl rfl rfl (allC (hS.one (k := 3) rfl) (allC (hS.one (k := 4) rfl) rfl)) (nlt rfl) ?_); rintro G26 hS
    refine ASL.done ?_
    refine AWP.ret ?_
    obtain rfl := someE hF
    exact QRet.sole (v := (.agg [w18, w21])) ⟨resOne.at hS (k := 2) rfl rfl aggA_41 sizeA_41, trivial⟩ ⟨_, ⟨w18, w21, rfl, rfl⟩, hS.pick [3, 4, 6, 7] rfl rfl⟩
  · skip
    refine AWP.seqR rfl ?_
    refine ASL.q (v := (.ptr bp0 0)) rfl rfl (Light.quiet (opMove rfl rfl)) ?_
    obtain ⟨a10, ha10, hF⟩ := bindE hF
    refine ASL.x rfl rfl (hCallS hS [5, 0, 1, 2, 3, 4, 6, 7, 8, 9] (F := [.cell b3 [w7, w9], .row 1 .nil (List.map (AV.int .i64) ([])), .row 1 .nil (List.map (AV.int .i64) ([])), .row 1 w7 (List.map (AV.int .i64) a8.1.stem), .row 1 w9 (List.map (AV.int .i64) a8.1.loop), .cell b2 [.nil, .nil], .row 1 .nil (List.map (AV.int .i64) ([])), .row 1 .nil (List.map (AV.int .i64) ([])), .snap S]) rfl rfl rfl call_97 (spec_l1Below_ok ha10) rfl rfl ?_); rintro _ _ G28 ⟨rfl, rfl⟩ hS
    refine ASL.done ?_
    refine AWP.block ?_
    refine AWP.seqR rfl ?_
    refine ASL.q (v := (.bool (decide (a10.1 = 0)))) rfl rfl (Light.quiet (opInt rfl rfl rfl rfl)) ?_
    refine ASL.q (v := (.bool (decide (a10.1 = 0)))) rfl rfl (Light.quiet (opAssign rfl rfl)) ?_
    refine ASL.done ?_
    refine AWP.ifP hF rfl (fun hc29 hF => ?_) (fun hc29 hF => ?_)
    · skip
      refine AWP.lastR rfl ?_
      refine ASL.q (v := (.ptr b3 1)) rfl rfl (Light.quiet (opFieldAddr rfl fieldA_41_1 rfl rfl)) ?_
      have hS := hNil (s := 1) (f := (AV.int .i64)) hS
      refine ASL.n rfl rfl (hPut hS (j := 2) rfl rfl sizeA_32 rfl rfl (hS.one (k := 0) rfl) (nlt rfl) ?_); rintro G30 hS
      refine ASL.done ?_
      refine QBlock.nrm ?_
      refine QThen.nrm ?_
      exact ⟨a8.1.stem, [], a10.2.b, a10.2.i, a10.2.h, w7, .nil, ⟨rfl, rfl, trivial⟩, (hS.pick [9, 8, 7, 5, 0, 2, 1, 10] rfl rfl), hF⟩
    · skip
      refine AWP.seqR rfl ?_
      refine ASL.q (v := (.bool (decide (a10.1 = 1)))) rfl rfl (Light.quiet (opInt rfl rfl rfl rfl)) ?_
      refine ASL.q (v := (.bool (decide (a10.1 = 1)))) rfl rfl (Light.quiet (opAssign rfl rfl)) ?_
      refine ASL.done ?_
      refine AWP.ifP hF rfl (fun hc32 hF => ?_) (fun hc32 hF => ?_)
      · skip
        refine AWP.lastD [(0, false), (1, false), (2, false), (3, false), (4, true), (5, false), (6, true), (7, false), (8, true)] mixed (by kernel_rfl) rfl ?_
        refine ARL.q0 (v := (.ptr b3 0)) rfl rfl (Light.quiet (opFieldAddr rfl fieldA_41_0 rfl rfl)) ?_
        refine ARL.q (v := w7) rfl rfl (hS.aliveC (k := 1) rfl) (Light.quiet (kAt hS (j := 1) rfl rfl aggA_32 rfl rfl)) ?_
        refine ARL.q0 (v := (.ptr bp0 0)) rfl rfl (Light.quiet (opMove rfl rfl)) ?_
        refine ARL.q0 (v := (.list 1 (List.map (AV.int .i64) [(-1), 7, 8]))) rfl rfl ((qLit (xs := [(.int .i64 (-1)), (.int .i64 7), (.int .i64 8)]) rfl elemA_32 sizeA_3 zeroA_3 rfl rfl rfl rfl (by simp [cells]) (nlt rfl))) ?_
        obtain ⟨a20, ha20, hF⟩ := bindE hF
        refine ARL.yK (fs := [.cell b3 [w7, w9], .row 1 .nil (List.map (AV.int .i64) ([])), .row 1 .nil (List.map (AV.int .i64) ([])), .row 1 w7 (List.map (AV.int .i64) a8.1.stem), .row 1 w9 (List.map (AV.int .i64) a8.1.loop), .cell b2 [.nil, .nil], .row 1 .nil (List.map (AV.int .i64) ([])), .row 1 .nil (List.map (AV.int .i64) ([])), .snap S]) rfl rfl rfl ⟨.inr (by simp), .inr (by simp), .inr (inF (r := .cell b3 [w7, w9]) (k := 0) rfl), .inr (by simp), trivial⟩ (hCallSB hS [0, 1, 2, 3, 4, 5, 6, 7, 8, 9] (F := [.cell b3 [w7, w9], .row 1 .nil (List.map (AV.int .i64) ([])), .row 1 .nil (List.map (AV.int .i64) ([])), .row 1 w7 (List.map (AV.int .i64) a8.1.stem), .row 1 w9 (List.map (AV.int .i64) a8.1.loop), .cell b2 [.nil, .nil], .row 1 .nil (List.map (AV.int .i64) ([])), .row 1 .nil (List.map (AV.int .i64) ([])), .snap S]) rfl rfl rfl call_51 (spec_l1PickInt_ok ha20) rfl rfl ?_); rintro _ _ G33 ⟨rfl, rfl⟩ hB hS; refine ⟨hB, ?_⟩
        refine ARL.q0 (v := (.list 1 (List.map (AV.int .i64) [a20.1]))) rfl rfl ((qLit (xs := [(.int .i64 a20.1)]) rfl elemA_32 sizeA_3 zeroA_3 rfl rfl rfl rfl (by simp [cells]) (nlt rfl))) ?_
        obtain ⟨z22, hz22, hF⟩ := bindE hF
        refine ARL.y rfl rfl rfl rfl (hApp (f := (AV.int .i64)) (ws := [a20.1]) hS (j := 4) rfl hz22 rfl elemA_32 rfl sizeA_3 bytesA_3 zeroA_3 rfl rfl rfl (fun _ => rfl) ?_); rintro v22 G34 hS
        refine ARL.q0 (v := (.ptr b3 0)) rfl rfl (Light.quiet (opFieldAddr rfl fieldA_41_0 rfl rfl)) ?_
        refine ARL.n rfl rfl rfl rfl (hPut hS (j := 1) rfl rfl sizeA_32 rfl rfl (hS.one (k := 4) rfl) (nlt rfl) ?_); rintro G36 hS
        refine ARL.done ?_
        refine QBlock.nrm ?_
        refine QThen.nrm ?_
        exact ⟨z22, a8.1.loop, a20.2.b, a20.2.i, a20.2.h, v22, w9, ⟨rfl, rfl, trivial⟩, (hS.pick [8, 7, 6, 4, 5, 1, 0, 9] rfl rfl), hF⟩
      · skip
        refine AWP.seqR rfl ?_
        refine ASL.q (v := (.bool (decide (a10.1 = 2)))) rfl rfl (Light.quiet (opInt rfl rfl rfl rfl)) ?_
        refine ASL.q (v := (.bool (decide (a10.1 = 2)))) rfl rfl (Light.quiet (opAssign rfl rfl)) ?_
        refine ASL.done ?_
        refine AWP.ifP hF rfl (fun hc37 hF => ?_) (fun hc37 hF => ?_)
        · skip
          refine AWP.lastR rfl ?_
          refine ASL.q (v := (.ptr bp0 0)) rfl rfl (Light.quiet (opMove rfl rfl)) ?_
          obtain ⟨a27, ha27, hF⟩ := bindE hF
          refine ASL.x rfl rfl (hCallS hS [0, 1, 2, 3, 4, 5, 6, 7, 8, 9] (F := [.cell b3 [w7, w9], .row 1 .nil (List.map (AV.int .i64) ([])), .row 1 .nil (List.map (AV.int .i64) ([])), .row 1 w7 (List.map (AV.int .i64) a8.1.stem), .row 1 w9 (List.map (AV.int .i64) a8.1.loop), .cell b2 [.nil, .nil], .row 1 .nil (List.map (AV.int .i64) ([])), .row 1 .nil (List.map (AV.int .i64) ([])), .snap S]) rfl rfl rfl call_97 (spec_l1Below_ok ha27) rfl rfl ?_); rintro _ _ G38 ⟨rfl, rfl⟩ hS
          refine ASL.q (v := (.int .i64 (W (40 + a27.1)))) rfl rfl (Light.quiet (opInt rfl rfl rfl rfl)) ?_
          obtain ⟨z29, hz29, hF⟩ := bindE hF
          refine ASL.x rfl rfl (hMk (f := (AV.int .i64)) hS hz29 (by decide) rfl elemA_32 sizeA_3 bytesA_3 zeroA_3 rfl rfl (by decide) rfl rfl ?_); rintro v29 G39 hK hS
          refine ASL.q (v := (.ptr b3 0)) rfl rfl (Light.quiet (opFieldAddr rfl fieldA_41_0 rfl rfl)) ?_
          refine ASL.n rfl rfl (hPut hS (j := 2) rfl rfl sizeA_32 rfl rfl (hS.one (k := 0) rfl) (nlt rfl) ?_); rintro G41 hS
          refine ASL.done ?_
          refine QBlock.nrm ?_
          refine QThen.nrm ?_
          exact ⟨z29, a8.1.loop, a27.2.b, a27.2.i, a27.2.h, v29, w9, ⟨rfl, rfl, trivial⟩, (hS.pick [9, 8, 7, 0, 6, 2, 1, 10] rfl rfl), hF⟩
        · skip
          refine AWP.seqR rfl ?_
          refine ASL.q (v := (.bool (decide (a10.1 = 3)))) rfl rfl (Light.quiet (opInt rfl rfl rfl rfl)) ?_
          refine ASL.q (v := (.bool (decide (a10.1 = 3)))) rfl rfl (Light.quiet (opAssign rfl rfl)) ?_
          refine ASL.done ?_
          refine AWP.ifP hF rfl (fun hc42 hF => ?_) (fun hc42 hF => ?_)
          · skip
            refine AWP.lastR rfl ?_
            refine ASL.q (v := (.ptr bp0 0)) rfl rfl (Light.quiet (opMove rfl rfl)) ?_
            obtain ⟨a34, ha34, hF⟩ := bindE hF
            refine ASL.x rfl rfl (hCallS hS [0, 1, 2, 3, 4, 5, 6, 7, 8, 9] (F := [.cell b3 [w7, w9], .row 1 .nil (List.map (AV.int .i64) ([])), .row 1 .nil (List.map (AV.int .i64) ([])), .row 1 w7 (List.map (AV.int .i64) a8.1.stem), .row 1 w9 (List.map (AV.int .i64) a8.1.loop), .cell b2 [.nil, .nil], .row 1 .nil (List.map (AV.int .i64) ([])), .row 1 .nil (List.map (AV.int .i64) ([])), .snap S]) rfl rfl rfl call_97 (spec_l1Below_ok ha34) rfl rfl ?_); rintro _ _ G43 ⟨rfl, rfl⟩ hS
            refine ASL.q (v := (.int .i64 (W (40 + a34.1)))) rfl rfl (Light.quiet (opInt rfl rfl rfl rfl)) ?_
            obtain ⟨z36, hz36, hF⟩ := bindE hF
            refine ASL.x rfl rfl (hMk (f := (AV.int .i64)) hS hz36 (by decide) rfl elemA_32 sizeA_3 bytesA_3 zeroA_3 rfl rfl (by decide) rfl rfl ?_); rintro v36 G44 hK hS
            refine ASL.q (v := (.ptr b3 1)) rfl rfl (Light.quiet (opFieldAddr rfl fieldA_41_1 rfl rfl)) ?_
            refine ASL.n rfl rfl (hPut hS (j := 2) rfl rfl sizeA_32 rfl rfl (hS.one (k := 0) rfl) (nlt rfl) ?_); rintro G46 hS
            refine ASL.done ?_
            refine QBlock.nrm ?_
            refine QThen.nrm ?_
            exact ⟨a8.1.stem, z36, a34.2.b, a34.2.i, a34.2.h, w7, v36, ⟨rfl, rfl, trivial⟩, (hS.pick [9, 8, 7, 5, 0, 2, 1, 10] rfl rfl), hF⟩
          · skip
            refine AWP.skip ?_
            refine QBlock.nrm ?_
            refine QThen.nrm ?_
            exact ⟨a8.1.stem, a8.1.loop, a10.2.b, a10.2.i, a10.2.h, w7, w9, ⟨rfl, rfl, trivial⟩, (hS.pick [8, 7, 6, 4, 5, 1, 0, 9] rfl rfl), hF⟩

set_option maxRecDepth 10000 in
theorem spec_l9DrawBoth_ok {K : Nat} {p0 : (List Int)} {r : ((List TNode) × TWord)} (hF : spec_l9DrawBoth K p0 = some r) : PC Try.prog 78 [(.list 1 (List.map (AV.int .u8) p0))] fun v => v = .tup [(.list 3 (List.map TNode.av r.1)), (TWord.av r.2)] := by
  refine PC.enter Try.func78 rfl Try.ntmps78 (by simp) ?_
  have hS := Sep.void; unfold spec_l9DrawBoth at hF
  refine AWP.seqR rfl ?_
  refine ASL.q (v := (.list 3 (List.map TNode.av []))) rfl rfl (Light.quiet (opNilL rfl rfl)) ?_
  refine ASL.x rfl rfl (hNewZ hS [(.list 1 (List.map (AV.int .i64) [])), (.list 1 (List.map (AV.int .i64) []))] rfl zeroA_41 ⟨.inr ⟨_, rfl, rfl⟩, .inr ⟨_, rfl, rfl⟩, trivial⟩ ?_); rintro b3 G1 hK hS
  refine ASL.done ?_
  refine AWP.seqR rfl ?_
  refine ASL.q (v := (.list 1 (List.map (AV.int .u8) p0))) rfl rfl (Light.quiet (opMove rfl rfl)) ?_
  obtain ⟨a7, ha7, hF⟩ := bindE hF
  refine ASL.x rfl rfl (hCallS hS [0] (F := [.cell b3 [(.list 1 (List.map (AV.int .i64) [])), (.list 1 (List.map (AV.int .i64) []))]]) rfl rfl rfl call_50 (spec_l1New_ok ha7) rfl rfl ?_); rintro _ _ G5 ⟨bq3, rfl, rfl⟩ hS
  refine ASL.q (v := (.ptr bq3 0)) rfl rfl (Light.quiet (opAssign rfl rfl)) ?_
  refine ASL.done ?_
  refine AWP.seqR rfl ?_
  refine ASL.q (v := (.ptr bq3 0)) rfl rfl (Light.quiet (opMove rfl rfl)) ?_
  obtain ⟨a9, ha9, hF⟩ := bindE hF
  refine ASL.x rfl rfl (hCallS hS [0, 1] (F := [.cell b3 [(.list 1 (List.map (AV.int .i64) [])), (.list 1 (List.map (AV.int .i64) []))]]) rfl rfl rfl call_52 (spec_l8DrawAny_ok ha9) rfl rfl ?_); rintro w6 _ G8 ⟨_, rfl, rfl⟩ hS
  refine ASL.q (v := w6) rfl rfl (Light.quiet (opAssign rfl rfl)) ?_
  refine ASL.done ?_
  refine AWP.frz (L' := [.cell bq3 [(.list 1 (List.map (AV.int .u8) a9.2.b)), (.int .i64 a9.2.i), (.int .i64 a9.2.h)], .cell b3 [(.list 1 (List.map (AV.int .i64) [])), (.list 1 (List.map (AV.int .i64) []))]]) hS (k := 0) rfl [(3, (.ptr b3 0)), (4, (.ptr bq3 0)), (5, (.list 3 (List.map TNode.av a9.1)))] ⟨.inl rfl, .inl rfl, .inr (.inl ⟨rfl, rfl⟩), trivial⟩ ⟨⟨_, rfl, ⟨.inl rfl, .inl rfl, .inl rfl, trivial⟩⟩, ⟨_, rfl, ⟨.inl rfl, .inl rfl, trivial⟩⟩, trivial⟩ (fun G9 hS => ?_)
  refine AWP.seqR rfl ?_
  refine ASL.q (v := (.list 3 (List.map TNode.av a9.1))) rfl rfl (Light.quiet (opMove rfl rfl)) ?_
  refine ASL.q (v := (.ptr bq3 0)) rfl rfl (Light.quiet (opMove rfl rfl)) ?_
  obtain ⟨a12, ha12, hF⟩ := bindE hF
  refine ASL.x rfl rfl (hCallS hS [0, 1] (F := [.cell b3 [(.list 1 (List.map (AV.int .i64) [])), (.list 1 (List.map (AV.int .i64) []))]]) rfl rfl rfl call_107 (spec_l3DrawWord_ok ha12) rfl rfl ?_); rintro _ _ G14 ⟨w10, w12, rfl, rfl⟩ hS
  refine ASL.q (v := (.list 3 (List.map TNode.av a9.1))) rfl rfl (Light.quiet (opAssign rfl rfl)) ?_
  refine ASL.n rfl rfl (hPutA hS (j := 3) rfl rfl sizeA_41 rfl rfl rfl rfl (allC (hS.one (k := 0) rfl) (allC (hS.one (k := 1) rfl) rfl)) (nlt rfl) ?_); rintro G15 hS
  refine ASL.done ?_
  refine AWP.frz (L' := [.row 1 w12 (List.map (AV.int .i64) a12.1.loop), .cell bq3 [(.list 1 (List.map (AV.int .u8) a12.2.b)), (.int .i64 a12.2.i), (.int .i64 a12.2.h)], .cell b3 [(.list 1 (List.map (AV.int .i64) a12.1.stem)), w12]]) hS (k := 0) rfl [(2, (.list 3 (List.map TNode.av a9.1))), (3, (.ptr b3 0)), (4, (.ptr bq3 0)), (5, (.list 3 (List.map TNode.av a9.1)))] ⟨.inl rfl, .inl rfl, .inl rfl, .inl rfl, trivial⟩ ⟨rfl, ⟨_, rfl, ⟨.inl rfl, .inl rfl, .inl rfl, trivial⟩⟩, ⟨_, rfl, ⟨.inr ⟨rfl, rfl⟩, .inl rfl, trivial⟩⟩, trivial⟩ (fun G16 hS => ?_)
  refine AWP.frz (L' := [.cell bq3 [(.list 1 (List.map (AV.int .u8) a12.2.b)), (.int .i64 a12.2.i), (.int .i64 a12.2.h)], .cell b3 [(.list 1 (List.map (AV.int .i64) a12.1.stem)), (.list 1 (List.map (AV.int .i64) a12.1.loop))]]) hS (k := 0) rfl [(2, (.list 3 (List.map TNode.av a9.1))), (3, (.ptr b3 0)), (4, (.ptr bq3 0)), (5, (.list 3 (List.map TNode.av a9.1)))] ⟨.inl rfl, .inl rfl, .inl rfl, .inl rfl, trivial⟩ ⟨⟨_, rfl, ⟨.inl rfl, .inl rfl, .inl rfl, trivial⟩⟩, ⟨_, rfl, ⟨.inl rfl, .inr ⟨rfl, rfl⟩, trivial⟩⟩, trivial⟩ (fun G17 hS => ?_)
  refine AWP.ret ?_
  obtain rfl := someE hF
  exact QRet.many (vs := [(.list 3 (List.map TNode.av a9.1)), (TWord.av a12.1)]) ⟨rfl, resOne.at hS (k := 1) rfl rfl aggA_41 sizeA_41, trivial⟩ (by simp) rfl

set_option maxRecDepth 10000 in
theorem spec_l3DrawAt_ok {p0 : Tl1Cur} {r : (Int × Tl1Cur)} {bp0 : Nat} (hF : spec_l3DrawAt p0 = some r) : HS Try.prog 85 [(.ptr bp0 0)] [.cell bp0 [(.list 1 (List.map (AV.int .u8) p0.b)), (.int .i64 p0.i), (.int .i64 p0.h)]] fun v L' => v = (.int .i64 r.1) ∧ L' = [.cell bp0 [(.list 1 (List.map (AV.int .u8) r.2.b)), (.int .i64 r.2.i), (.int .i64 r.2.h)]] := by
  intro H S hS
  refine HC.enter Try.func85 rfl Try.ntmps85 (by simp) ?_
  simp only [List.cons_append, List.nil_append] at hS
  unfold spec_l3DrawAt at hF
  refine AWP.seqR rfl ?_
  refine ASL.q (v := (.int .i64 0)) rfl rfl (Light.quiet (opAssign rfl rfl)) ?_
  refine ASL.done ?_
  refine AWP.seq ?_
  refine AWP.seqR rfl ?_
  refine ASL.q (v := (.ptr bp0 0)) rfl rfl (Light.quiet (opMove rfl rfl)) ?_
  obtain ⟨a4, ha4, hF⟩ := bindE hF
  refine ASL.x rfl rfl (hCallS hS [0, 1] (F := [.snap S]) rfl rfl rfl call_111 (spec_l1Once_ok ha4) rfl rfl ?_); rintro _ _ G2 ⟨rfl, rfl⟩ hS
  refine ASL.done ?_
  refine AWP.ifB hF rfl (fun hc3 hF => ?_) (fun hc3 hF => ?_)
  · skip
    refine AWP.seqR rfl ?_
    refine ASL.q (v := (.ptr bp0 0)) rfl rfl (Light.quiet (opMove rfl rfl)) ?_
    refine ASL.q (v := (.list 1 (List.map (AV.int .i64) [(-1), 1000, 1001, 1000000, 1000001, 9223372036854775807]))) rfl rfl ((qLit (xs := [(.int .i64 (-1)), (.int .i64 1000), (.int .i64 1001), (.int .i64 1000000), (.int .i64 1000001), (.int .i64 9223372036854775807)]) rfl elemA_32 sizeA_3 zeroA_3 rfl rfl rfl rfl (by simp [cells]) (nlt rfl))) ?_
    obtain ⟨a7, ha7, hF⟩ := bindE hF
    refine ASL.x rfl rfl (hCallS hS [0, 1] (F := [.snap S]) rfl rfl rfl call_51 (spec_l1PickInt_ok ha7) rfl rfl ?_); rintro _ _ G4 ⟨rfl, rfl⟩ hS
    refine ASL.q (v := (.int .i64 a7.1)) rfl rfl (Light.quiet (opAssign rfl rfl)) ?_
    refine ASL.done ?_
    refine AWP.ret ?_
    refine QThen.rt ?_
    obtain rfl := someE hF
    exact QRet.sole (v := (.int .i64 a7.1)) ⟨rfl, trivial⟩ ⟨_, ⟨rfl, rfl⟩, hS.pick [0, 1] rfl rfl⟩
  · skip
    refine AWP.skip ?_
    refine QThen.nrm ?_
    refine AWP.seqR rfl ?_
    refine ASL.q (v := (.ptr bp0 0)) rfl rfl (Light.quiet (opMove rfl rfl)) ?_
    obtain ⟨a9, ha9, hF⟩ := bindE hF
    refine ASL.x rfl rfl (hCallS hS [0, 1] (F := [.snap S]) rfl rfl rfl call_97 (spec_l1Below_ok ha9) rfl rfl ?_); rintro _ _ G5 ⟨rfl, rfl⟩ hS
    refine ASL.q (v := (.int .i64 a9.1)) rfl rfl (Light.quiet (opAssign rfl rfl)) ?_
    refine ASL.done ?_
    refine AWP.ret ?_
    obtain rfl := someE hF
    exact QRet.sole (v := (.int .i64 a9.1)) ⟨rfl, trivial⟩ ⟨_, ⟨rfl, rfl⟩, hS.pick [0, 1] rfl rfl⟩

set_option maxRecDepth 10000 in
theorem spec_DrawLtlAt_ok {K : Nat} {p0 : (List Int)} {r : ((List TNode) × TWord × Int)} (hF : spec_DrawLtlAt K p0 = some r) : PC Try.prog 41 [(.list 1 (List.map (AV.int .u8) p0))] fun v => v = .tup [(.list 3 (List.map TNode.av r.1)), (TWord.av r.2.1), (.int .i64 r.2.2)] := by
  refine PC.enter Try.func41 rfl Try.ntmps41 (by simp) ?_
  have hS := Sep.void; unfold spec_DrawLtlAt at hF
  refine AWP.seqR rfl ?_
  refine ASL.q (v := (.list 3 (List.map TNode.av []))) rfl rfl (Light.quiet (opNilL rfl rfl)) ?_
  refine ASL.x rfl rfl (hNewZ hS [(.list 1 (List.map (AV.int .i64) [])), (.list 1 (List.map (AV.int .i64) []))] rfl zeroA_41 ⟨.inr ⟨_, rfl, rfl⟩, .inr ⟨_, rfl, rfl⟩, trivial⟩ ?_); rintro b3 G1 hK hS
  refine ASL.q (v := (.int .i64 0)) rfl rfl (Light.quiet (opAssign rfl rfl)) ?_
  refine ASL.done ?_
  refine AWP.seqR rfl ?_
  refine ASL.q (v := (.list 1 (List.map (AV.int .u8) p0))) rfl rfl (Light.quiet (opMove rfl rfl)) ?_
  obtain ⟨a9, ha9, hF⟩ := bindE hF
  refine ASL.q (v := (.tup [(.list 3 (List.map TNode.av a9.1)), (TWord.av a9.2)])) rfl rfl ((qCall rfl rfl call_78 (spec_l9DrawBoth_ok ha9) rfl)) ?_
  refine ASL.q (v := (.tup [(.list 3 (List.map TNode.av a9.1)), (TWord.av a9.2)])) rfl rfl (Light.quiet (opMove rfl rfl)) ?_
  refine ASL.q (v := (.list 3 (List.map TNode.av a9.1))) rfl rfl (Light.quiet (opExtract rfl rfl rfl)) ?_
  refine ASL.q (v := (TWord.av a9.2)) rfl rfl (Light.quiet (opExtract rfl rfl rfl)) ?_
  refine ASL.x rfl rfl (hNewZ hS [(.list 1 (List.map (AV.int .i64) [])), (.list 1 (List.map (AV.int .i64) []))] rfl zeroA_41 ⟨.inr ⟨_, rfl, rfl⟩, .inr ⟨_, rfl, rfl⟩, trivial⟩ ?_); rintro b6 G3 hK hS
  refine ASL.q (v := (.list 3 (List.map TNode.av a9.1))) rfl rfl (Light.quiet (opAssign rfl rfl)) ?_
  refine ASL.n rfl rfl (hPutA hS (j := 0) rfl rfl sizeA_41 rfl rfl rfl rfl rfl (nlt rfl) ?_); rintro G5 hS
  refine ASL.done ?_
  refine AWP.seqD [(0, false), (1, false), (2, false), (3, true), (4, true), (5, false), (6, true), (7, false)] mixed (by kernel_rfl) rfl ?_
  refine ARL.q0 (v := (.list 3 (List.map TNode.av a9.1))) rfl rfl (Light.quiet (opMove rfl rfl)) ?_
  refine ARL.q (v := (TWord.av a9.2)) rfl rfl (hS.aliveC (k := 0) rfl) (Light.quiet (kAtA hS (j := 0) rfl rfl aggA_41 sizeA_41 rfl (nlt rfl) rfl)) ?_
  refine ARL.q0 (v := (.list 1 (List.map (AV.int .u8) p0))) rfl rfl (Light.quiet (opMove rfl rfl)) ?_
  obtain ⟨a15, ha15, hF⟩ := bindE hF
  refine ARL.yK (fs := [.cell b6 [(.list 1 (List.map (AV.int .i64) a9.2.stem)), (.list 1 (List.map (AV.int .i64) a9.2.loop))], .cell b3 [(.list 1 (List.map (AV.int .i64) [])), (.list 1 (List.map (AV.int .i64) []))]]) rfl rfl rfl ⟨.inr (by simp), .inr (inF (r := .cell b6 [(.list 1 (List.map (AV.int .i64) a9.2.stem)), (.list 1 (List.map (AV.int .i64) a9.2.loop))]) (k := 0) rfl), .inr (by simp), trivial⟩ (hCallSB hS [0, 1] (F := [.cell b6 [(.list 1 (List.map (AV.int .i64) a9.2.stem)), (.list 1 (List.map (AV.int .i64) a9.2.loop))], .cell b3 [(.list 1 (List.map (AV.int .i64) [])), (.list 1 (List.map (AV.int .i64) []))]]) rfl rfl rfl call_50 (spec_l1New_ok ha15) rfl rfl ?_); rintro _ _ G8 ⟨bq6, rfl, rfl⟩ hB hS; refine ⟨hB, ?_⟩
  obtain ⟨a16, ha16, hF⟩ := bindE hF
  refine ARL.yK (fs := [.cell b6 [(.list 1 (List.map (AV.int .i64) a9.2.stem)), (.list 1 (List.map (AV.int .i64) a9.2.loop))], .cell b3 [(.list 1 (List.map (AV.int .i64) [])), (.list 1 (List.map (AV.int .i64) []))]]) rfl rfl rfl ⟨.inr (by simp), .inr (inF (r := .cell b6 [(.list 1 (List.map (AV.int .i64) a9.2.stem)), (.list 1 (List.map (AV.int .i64) a9.2.loop))]) (k := 0) rfl), .inr (by simp), trivial⟩ (hCallSB hS [0, 1, 2] (F := [.cell b6 [(.list 1 (List.map (AV.int .i64) a9.2.stem)), (.list 1 (List.map (AV.int .i64) a9.2.loop))], .cell b3 [(.list 1 (List.map (AV.int .i64) [])), (.list 1 (List.map (AV.int .i64) []))]]) rfl rfl rfl call_85 (spec_l3DrawAt_ok ha16) rfl rfl ?_); rintro _ _ G9 ⟨rfl, rfl⟩ hB hS; refine ⟨hB, ?_⟩
  refine ARL.q0 (v := (.list 3 (List.map TNode.av a9.1))) rfl rfl (Light.quiet (opAssign rfl rfl)) ?_
  refine ARL.n rfl rfl rfl rfl (hPutA hS (j := 2) rfl rfl sizeA_41 rfl rfl rfl rfl rfl (nlt rfl) ?_); rintro G10 hS
  refine ARL.q0 (v := (.int .i64 a16.1)) rfl rfl (Light.quiet (opAssign rfl rfl)) ?_
  refine ARL.done ?_
  refine AWP.ret ?_
  obtain rfl := someE hF
  exact QRet.many (vs := [(.list 3 (List.map TNode.av a9.1)), (TWord.av a9.2), (.int .i64 a16.1)]) ⟨rfl, resOne.at hS (k := 2) rfl rfl aggA_41 sizeA_41, rfl, trivial⟩ (by simp) rfl

set_option maxRecDepth 10000 in
theorem laws_at_ok {p0 : (List Int)} {p1 : Int} {r : Int} (hF : laws_at p0 p1 = some r) : PC Try.prog 42 [(.list 1 (List.map (AV.int .u8) p0)), (.int .i64 p1)] fun v => v = (.int .i64 r) := by
  refine PC.enter Try.func42 rfl Try.ntmps42 (by simp) ?_
  have hS := Sep.void; unfold laws_at at hF
  refine AWP.seqR rfl ?_
  refine ASL.q (v := (.int .i64 0)) rfl rfl (Light.quiet (opAssign rfl rfl)) ?_
  refine ASL.done ?_
  refine AWP.seq ?_
  refine AWP.seqR rfl ?_
  refine ASL.q (v := (.int .i64 p1)) rfl rfl (Light.quiet (opMove rfl rfl)) ?_
  refine ASL.q (v := (.list 1 (List.map (AV.int .u8) p0))) rfl rfl (Light.quiet (opMove rfl rfl)) ?_
  refine ASL.q (v := (.int .i64 (p0.length : Int))) rfl rfl (Light.quiet (opLenMap (f := (AV.int .u8)) rfl rfl rfl lenT_22 rfl)) ?_
  refine ASL.q (v := (.bool (decide (p1 < ((p0.length : Int)))))) rfl rfl (Light.quiet (opInt rfl rfl rfl rfl)) ?_
  refine ASL.done ?_
  refine AWP.ifP hF rfl (fun hc1 hF => ?_) (fun hc1 hF => ?_)
  · skip
    refine AWP.seqR rfl ?_
    refine ASL.q (v := (.list 1 (List.map (AV.int .u8) p0))) rfl rfl (Light.quiet (opMove rfl rfl)) ?_
    refine ASL.q (v := (.int .i64 p1)) rfl rfl (Light.quiet (opMove rfl rfl)) ?_
    obtain ⟨a11, ha11, hF⟩ := bindE hF
    refine ASL.q (v := (.rptr [(.int .u8 a11)])) rfl rfl (Light.quiet (kIx (f := (AV.int .u8)) ha11 rfl rfl rfl elemA_22 sizeA_5 rfl)) ?_
    refine ASL.q (v := (.int .u8 a11)) rfl rfl (Light.quiet (opLoadR rfl aggA_5 rfl rfl)) ?_
    refine ASL.q (v := (.int .i64 (IntKind.i64.wrap a11))) rfl rfl (Light.quiet (opConv rfl rfl und_5 und_3 rfl)) ?_
    refine ASL.q (v := (.int .i64 (IntKind.i64.wrap a11))) rfl rfl (Light.quiet (opAssign rfl rfl)) ?_
    refine ASL.done ?_
    refine AWP.ret ?_
    refine QThen.rt ?_
    obtain rfl := someE hF
    exact QRet.sole (v := (.int .i64 (IntKind.i64.wrap a11))) ⟨rfl, trivial⟩ rfl
  · skip
    refine AWP.skip ?_
    refine QThen.nrm ?_
    refine AWP.seqR rfl ?_
    refine ASL.q (v := (.int .i64 p1)) rfl rfl (Light.quiet (opMove rfl rfl)) ?_
    refine ASL.q (v := (.int .i64 (W (p1 * 7)))) rfl rfl (Light.quiet (opInt rfl rfl rfl rfl)) ?_
    refine ASL.q (v := (.list 1 (List.map (AV.int .u8) p0))) rfl rfl (Light.quiet (opMove rfl rfl)) ?_
    refine ASL.q (v := (.int .i64 (p0.length : Int))) rfl rfl (Light.quiet (opLenMap (f := (AV.int .u8)) rfl rfl rfl lenT_22 rfl)) ?_
    refine ASL.q (v := (.int .i64 (W (((W (p1 * 7))) + ((p0.length : Int)))))) rfl rfl (Light.quiet (opInt rfl rfl rfl rfl)) ?_
    refine ASL.q (v := (.int .i64 (Int.tmod ((W (((W (p1 * 7))) + ((p0.length : Int))))) 256))) rfl rfl (Light.quiet (opRem rfl rfl rfl (by decide) rfl)) ?_
    refine ASL.q (v := (.int .i64 (Int.tmod ((W (((W (p1 * 7))) + ((p0.length : Int))))) 256))) rfl rfl (Light.quiet (opAssign rfl rfl)) ?_
    refine ASL.done ?_
    refine AWP.ret ?_
    obtain rfl := someE hF
    exact QRet.sole (v := (.int .i64 (Int.tmod ((W (((W (p1 * 7))) + ((p0.length : Int))))) 256))) ⟨rfl, trivial⟩ rfl

set_option maxRecDepth 10000 in
theorem impl_inRange_ok (p0 : Int) (p1 : Int) (p2 : Int) : PC Try.prog 90 [(.int .i64 p0), (.int .i64 p1), (.int .i64 p2)] fun v => v = (.bool (impl_inRange p0 p1 p2)) := by
  generalize hF : impl_inRange p0 p1 p2 = r
  refine PC.enter Try.func90 rfl Try.ntmps90 (by simp) ?_
  have hS := Sep.void; unfold impl_inRange at hF
  refine AWP.seqR rfl ?_
  refine ASL.q (v := (.bool false)) rfl rfl (Light.quiet (opAssign rfl rfl)) ?_
  refine ASL.done ?_
  refine AWP.seqR rfl ?_
  refine ASL.q (v := (.int .i64 p0)) rfl rfl (Light.quiet (opMove rfl rfl)) ?_
  refine ASL.q (v := (.int .i64 p1)) rfl rfl (Light.quiet (opMove rfl rfl)) ?_
  refine ASL.q (v := (.bool (decide (p0 ≥ p1)))) rfl rfl (Light.quiet (opInt rfl rfl rfl rfl)) ?_
  obtain ⟨c10, hc10, hF⟩ := bndE hF
  refine ASL.q (v := (.bool c10)) rfl rfl ((Quiet.cast (Light.quiet (opMove rfl rfl)) (congrArg AV.bool hc10.symm))) ?_
  refine ASL.g (v := (.int .i64 p0)) (.bool c10) true rfl (wT _) rfl (fun hG => by have q0 := hG; subst q0; exact Light.quiet (opMove rfl rfl)) ?_
  refine ASL.g (v := (.int .i64 p2)) (.bool c10) true rfl (wT _) rfl (fun hG => by have q0 := hG; subst q0; exact Light.quiet (opMove rfl rfl)) ?_
  refine ASL.g (v := (.bool (decide (p0 ≤ p2)))) (.bool c10) true rfl (wT _) rfl (fun hG => by have q0 := hG; subst q0; exact Light.quiet (opInt rfl rfl rfl rfl)) ?_
  refine ASL.q (v := (.bool (c10 && (decide (p0 ≤ p2))))) rfl rfl (Light.quiet (opPick (b := c10) rfl rfl (by cases c10 <;> rfl))) ?_
  refine ASL.q (v := (.bool (c10 && (decide (p0 ≤ p2))))) rfl rfl (Light.quiet (opAssign rfl rfl)) ?_
  refine ASL.done ?_
  refine AWP.ret ?_
  obtain rfl := hF
  exact QRet.sole (v := (.bool (c10 && (decide (p0 ≤ p2))))) ⟨rfl, trivial⟩ rfl

set_option maxRecDepth 10000 in
theorem impl_begins_ok {p0 : (List TNode)} {g1 : (TNode → Option Int)} {r : ((List Int) × Bool)} {k1 : Nat} (hcal1 : callable Try.prog k1 = true) (hg1 : ∀ q0 y, g1 q0 = some y → PC Try.prog k1 [(TNode.av q0)] fun v => v = (.int .i64 y)) (hF : impl_begins p0 g1 = some r) : PC Try.prog 100 [(.list 3 (List.map TNode.av p0)), (.fn (.func k1) [] [])] fun v => v = .tup [(.list 1 (List.map (AV.int .i64) r.1)), (.bool r.2)] := by
  refine PC.enter Try.func100 rfl Try.ntmps100 (by simp) ?_
  have hS := Sep.void; unfold impl_begins at hF
  refine AWP.seqR rfl ?_
  refine ASL.q (v := (.list 1 (List.map (AV.int .i64) []))) rfl rfl (Light.quiet (opNilL rfl rfl)) ?_
  refine ASL.q (v := (.bool false)) rfl rfl (Light.quiet (opAssign rfl rfl)) ?_
  refine ASL.done ?_
  refine AWP.seq ?_
  refine AWP.seqR rfl ?_
  refine ASL.q (v := (.list 3 (List.map TNode.av p0))) rfl rfl (Light.quiet (opMove rfl rfl)) ?_
  refine ASL.q (v := (.int .i64 (p0.length : Int))) rfl rfl (Light.quiet (opLenMap (f := TNode.av) rfl rfl rfl lenT_24 rfl)) ?_
  refine ASL.q (v := (.bool (impl_inRange ((p0.length : Int)) 1 31))) rfl rfl ((qCall rfl rfl call_90 (impl_inRange_ok ((p0.length : Int)) 1 31) rfl)) ?_
  refine ASL.q (v := (.bool (!(impl_inRange ((p0.length : Int)) 1 31)))) rfl rfl (Light.quiet (opNot rfl rfl)) ?_
  refine ASL.done ?_
  refine AWP.ifB hF rfl (fun hc1 hF => ?_) (fun hc1 hF => ?_)
  · skip
    refine AWP.seqR rfl ?_
    refine ASL.q (v := (.list 1 (List.map (AV.int .i64) []))) rfl rfl (Light.quiet (opNilL rfl rfl)) ?_
    refine ASL.q (v := (.bool false)) rfl rfl (Light.quiet (opAssign rfl rfl)) ?_
    refine ASL.done ?_
    refine AWP.ret ?_
    refine QThen.rt ?_
    obtain rfl := someE hF
    exact QRet.many (vs := [(.list 1 (List.map (AV.int .i64) [])), (.bool false)]) ⟨rfl, rfl, trivial⟩ (by simp) rfl
  · skip
    refine AWP.skip ?_
    refine QThen.nrm ?_
    refine AWP.seqR rfl ?_
    refine ASL.q (v := (.list 3 (List.map TNode.av p0))) rfl rfl (Light.quiet (opMove rfl rfl)) ?_
    refine ASL.q (v := (.int .i64 (p0.length : Int))) rfl rfl (Light.quiet (opLenMap (f := TNode.av) rfl rfl rfl lenT_24 rfl)) ?_
    obtain ⟨z15, hz15, hF⟩ := bindE hF
    refine ASL.x rfl rfl (hMk (f := (AV.int .i64)) hS hz15 (by decide) rfl elemA_32 sizeA_3 bytesA_3 zeroA_3 rfl rfl (by decide) rfl rfl ?_); rintro v15 G2 hK hS
    refine ASL.q (v := v15) rfl rfl (Light.quiet (opAssign rfl rfl)) ?_
    refine ASL.done ?_
    refine AWP.seqM (fun e H => ∃ y4 : (List Int), E.Told e [(0, (.list 3 (List.map TNode.av p0))), (6, v15)] ∧ E.Sep H [.row 1 v15 (List.map (AV.int .i64) y4)] ∧ impl_begins.k0 p0 y4 = some r) ?_ ?_
    · rintro e0 G6 ⟨y4, hT, hS, hF⟩; refine AWP.only _ hT ?_; unfold impl_begins.k0 at hF
      refine AWP.frz (L' := []) hS (k := 0) rfl [(0, (.list 3 (List.map TNode.av p0))), (6, (.list 1 (List.map (AV.int .i64) y4)))] ⟨.inl rfl, .inr (.inl ⟨rfl, rfl⟩), trivial⟩ trivial (fun G5 hS => ?_)
      refine AWP.seqD [(0, false), (1, false), (2, false), (3, false), (4, false), (5, false), (6, false), (7, false), (8, false), (9, false)] mixed (by kernel_rfl) rfl ?_
      refine ARL.q0 (v := (.list 1 (List.map (AV.int .i64) y4))) rfl rfl (Light.quiet (opMove rfl rfl)) ?_
      refine ARL.q0 (v := (.list 1 (List.map (AV.int .i64) y4))) rfl rfl (Light.quiet (opMove rfl rfl)) ?_
      refine ARL.q0 (v := (.list 3 (List.map TNode.av p0))) rfl rfl (Light.quiet (opMove rfl rfl)) ?_
      refine ARL.q0 (v := (.int .i64 (p0.length : Int))) rfl rfl (Light.quiet (opLenMap (f := TNode.av) rfl rfl rfl lenT_24 rfl)) ?_
      refine ARL.q0 (v := (.int .i64 (W (((p0.length : Int)) - 1)))) rfl rfl (Light.quiet (opInt rfl rfl rfl rfl)) ?_
      obtain ⟨a97, ha97, hF⟩ := bindE hF
      refine ARL.q0 (v := (.rptr [(.int .i64 a97)])) rfl rfl (Light.quiet (kIx (f := (AV.int .i64)) ha97 rfl rfl rfl elemA_32 sizeA_3 rfl)) ?_
      refine ARL.q0 (v := (.int .i64 a97)) rfl rfl (Light.quiet (opLoadR rfl aggA_3 rfl rfl)) ?_
      refine ARL.q0 (v := (.bool (decide (a97 = 0)))) rfl rfl (Light.quiet (opInt rfl rfl rfl rfl)) ?_
      refine ARL.q0 (v := (.list 1 (List.map (AV.int .i64) y4))) rfl rfl (Light.quiet (opAssign rfl rfl)) ?_
      refine ARL.q0 (v := (.bool (decide (a97 = 0)))) rfl rfl (Light.quiet (opAssign rfl rfl)) ?_
      refine ARL.done ?_
      refine AWP.ret ?_
      obtain rfl := someE hF
      exact QRet.many (vs := [(.list 1 (List.map (AV.int .i64) y4)), (.bool (decide (a97 = 0)))]) ⟨rfl, rfl, trivial⟩ (by simp) rfl
    · skip
      refine AWP.seqR rfl ?_
      refine ASL.q (v := (.list 3 (List.map TNode.av p0))) rfl rfl (Light.quiet (opMove rfl rfl)) ?_
      refine ASL.q (v := (.int .i64 (p0.length : Int))) rfl rfl (Light.quiet (opLenMap (f := TNode.av) rfl rfl rfl lenT_24 rfl)) ?_
      refine ASL.q (v := (.int .i64 0)) rfl rfl (Light.quiet (opMove rfl rfl)) ?_
      refine ASL.done ?_
      refine AWP.block ?_
      obtain ⟨o11, hL10, hR12⟩ := bindE hF
      refine AWP.loopF (ω := Unit) hL10 (fun s w => [(0, (.list 3 (List.map TNode.av p0))), (1, (.fn (.func k1) [] [])), (6, v15), (16, (.list 3 (List.map TNode.av p0))), (17, (.int .i64 (p0.length : Int))), (18, (.int .i64 s.2))]) (fun s w => [.row 1 v15 (List.map (AV.int .i64) s.1)]) () ⟨rfl, rfl, rfl, rfl, rfl, rfl, trivial⟩ (hS.pick [0] rfl rfl) ?_
      rintro ⟨y7, x18_l0⟩ _ G13 hS x8 hF hx9
      try dsimp only at hS ⊢
      have hF : impl_begins.b0 p0 g1 y7 x18_l0 = some x8 := hF; unfold impl_begins.b0 at hF
      refine AWP.seqR rfl ?_
      refine ASL.q (v := (.bool (decide (x18_l0 < ((p0.length : Int)))))) rfl rfl (Light.quiet (opInt rfl rfl rfl rfl)) ?_
      refine ASL.done ?_
      refine AWP.seq ?_
      refine AWP.ifP hF rfl (fun hc14 hF => ?_) (fun hc14 hF => ?_)
      · skip
        refine AWP.skip ?_
        refine QThen.nrm ?_
        refine AWP.seq ?_
        refine AWP.block ?_
        refine AWP.seqR rfl ?_
        refine ASL.q (v := (.int .i64 x18_l0)) rfl rfl (Light.quiet (opMove rfl rfl)) ?_
        obtain ⟨a21, ha21, hF⟩ := bindE hF
        refine ASL.q (v := (.rptr [(.int .i64 a21.kind), (.int .i64 a21.a), (.int .i64 a21.b)])) rfl rfl (Light.quiet (kIx (f := TNode.av) ha21 rfl rfl rfl elemA_24 sizeA_59 rfl)) ?_
        refine ASL.q (v := (TNode.av a21)) rfl rfl (Light.quiet (opLoadRA rfl aggA_59 sizeA_59 rfl (nlt rfl) rfl)) ?_
        refine ASL.x rfl rfl (hNewZ hS [(.int .i64 0), (.int .i64 0), (.int .i64 0)] rfl zeroA_59 ⟨.inl rfl, .inl rfl, .inl rfl, trivial⟩ ?_); rintro b8 G15 hK hS
        refine ASL.q (v := (.int .i64 x18_l0)) rfl rfl (Light.quiet (opAssign rfl rfl)) ?_
        refine ASL.n rfl rfl (hPutA hS (j := 0) rfl rfl sizeA_59 rfl rfl rfl rfl rfl (nlt rfl) ?_); rintro G17 hS
        refine ASL.done ?_
        refine AWP.seqR rfl ?_
        refine ASL.q (v := v15) rfl rfl (Light.quiet (opMove rfl rfl)) ?_
        refine ASL.q (v := (.int .i64 x18_l0)) rfl rfl (Light.quiet (opMove rfl rfl)) ?_
        refine ASL.q (v := (.int .i64 x18_l0)) rfl rfl (Light.quiet (opMove rfl rfl)) ?_
        obtain ⟨m26, hm26, hF⟩ := bindE hF
        refine ASL.q (v := (ptrTo v15 m26 1)) rfl rfl (Light.quiet (kIxO hS (j := 1) rfl hm26 rfl rfl rfl elemA_32 sizeA_3)) ?_
        refine ASL.n rfl rfl (hSt (f := (AV.int .i64)) (a := x18_l0) hS (j := 1) rfl hm26 rfl sizeA_3 rfl rfl ⟨rfl, rfl, rfl⟩ ?_); rintro G18 hS
        refine ASL.done ?_
        refine AWP.seqR rfl ?_
        refine ASL.q (v := (.fn (.func k1) [] [])) rfl rfl (Light.quiet (opMove rfl rfl)) ?_
        refine ASL.q (v := (TNode.av a21)) rfl rfl (Light.quiet (kAtA hS (j := 0) rfl rfl aggA_59 sizeA_59 rfl (nlt rfl) rfl)) ?_
        obtain ⟨a29, ha29, hF⟩ := bindE hF
        refine ASL.q (v := (.int .i64 a29)) rfl rfl ((qCall rfl rfl hcal1 ((hg1 _ _) ha29) rfl)) ?_
        refine ASL.done ?_
        refine AWP.block ?_
        refine AWP.seqR rfl ?_
        refine ASL.q (v := (.bool (decide (a29 = 0)))) rfl rfl (Light.quiet (opInt rfl rfl rfl rfl)) ?_
        refine ASL.q (v := (.bool (decide (a29 = 0)))) rfl rfl (Light.quiet (opAssign rfl rfl)) ?_
        refine ASL.done ?_
        refine AWP.ifP hF rfl (fun hc19 hF => ?_) (fun hc19 hF => ?_)
        · skip
          refine AWP.exit ?_
          refine QBlock.miss rfl ?_
          refine QBlock.hit ?_
          refine QThen.nrm ?_
          refine AWP.lastR rfl ?_
          refine ASL.q (v := (.int .i64 (W (x18_l0 + 1)))) rfl rfl (Light.quiet (opInt rfl rfl rfl rfl)) ?_
          refine ASL.q (v := (.int .i64 (W (x18_l0 + 1)))) rfl rfl (Light.quiet (opMove rfl rfl)) ?_
          refine ASL.done ?_
          refine QThen.nrm ?_
          exact ⟨((y7.set m26 x18_l0), (W (x18_l0 + 1))), (), (someE hF).symm, ⟨rfl, rfl, rfl, rfl, rfl, rfl, trivial⟩, (hS.pick [1] rfl rfl)⟩
        · skip
          refine AWP.seqR rfl ?_
          refine ASL.q (v := (.bool (decide (a29 = 1)))) rfl rfl (Light.quiet (opInt rfl rfl rfl rfl)) ?_
          refine ASL.q (v := (.bool (decide (a29 = 1)))) rfl rfl (Light.quiet (opAssign rfl rfl)) ?_
          refine ASL.done ?_
          refine AWP.ifP hF rfl (fun hc20 hF => ?_) (fun hc20 hF => ?_)
          · skip
            refine AWP.seq ?_
            refine AWP.seqR rfl ?_
            refine ASL.q (v := (.int .i64 x18_l0)) rfl rfl (Light.quiet (opMove rfl rfl)) ?_
            refine ASL.q (v := (.bool (decide (x18_l0 = 0)))) rfl rfl (Light.quiet (opInt rfl rfl rfl rfl)) ?_
            obtain ⟨c36, hc36, hF⟩ := bndE hF
            refine ASL.q (v := (.bool c36)) rfl rfl ((Quiet.cast (Light.quiet (opMove rfl rfl)) (congrArg AV.bool hc36.symm))) ?_
            refine ASL.g (v := (.ptr b8 1)) (.bool c36) false rfl (wF _) rfl (fun hG => by have q0 := gN hG; subst q0; exact Light.quiet (opFieldAddr rfl fieldA_59_1 rfl rfl)) ?_
            refine ASL.g (v := (.int .i64 a21.a)) (.bool c36) false rfl (wF _) rfl (fun hG => by have q0 := gN hG; subst q0; exact Light.quiet (kAt hS (j := 0) rfl rfl aggA_3 rfl rfl)) ?_
            refine ASL.g (v := (.int .i64 x18_l0)) (.bool c36) false rfl (wF _) rfl (fun hG => by have q0 := gN hG; subst q0; exact Light.quiet (opMove rfl rfl)) ?_
            refine ASL.g (v := (.int .i64 (W (x18_l0 - 1)))) (.bool c36) false rfl (wF _) rfl (fun hG => by have q0 := gN hG; subst q0; exact Light.quiet (opInt rfl rfl rfl rfl)) ?_
            refine ASL.g (v := (.bool (decide (a21.a ≠ ((W (x18_l0 - 1))))))) (.bool c36) false rfl (wF _) rfl (fun hG => by have q0 := gN hG; subst q0; exact Light.quiet (opInt rfl rfl rfl rfl)) ?_
            refine ASL.q (v := (.bool (c36 || (decide (a21.a ≠ ((W (x18_l0 - 1)))))))) rfl rfl (Light.quiet (opPick (b := c36) rfl rfl (by cases c36 <;> rfl))) ?_
            obtain ⟨c43, hc43, hF⟩ := bndE hF
            refine ASL.q (v := (.bool c43)) rfl rfl ((Quiet.cast (Light.quiet (opMove rfl rfl)) (congrArg AV.bool hc43.symm))) ?_
            refine ASL.g (v := (.ptr b8 2)) (.bool c43) false rfl (wF _) rfl (fun hG => by have q0 := gN hG; subst q0; exact Light.quiet (opFieldAddr rfl fieldA_59_2 rfl rfl)) ?_
            refine ASL.g (v := (.int .i64 a21.b)) (.bool c43) false rfl (wF _) rfl (fun hG => by have q0 := gN hG; subst q0; exact Light.quiet (kAt hS (j := 0) rfl rfl aggA_3 rfl rfl)) ?_
            refine ASL.g (v := (.bool (decide (a21.b ≠ 0)))) (.bool c43) false rfl (wF _) rfl (fun hG => by have q0 := gN hG; subst q0; exact Light.quiet (opInt rfl rfl rfl rfl)) ?_
            refine ASL.q (v := (.bool (c43 || (decide (a21.b ≠ 0))))) rfl rfl (Light.quiet (opPick (b := c43) rfl rfl (by cases c43 <;> rfl))) ?_
            refine ASL.done ?_
            refine AWP.ifB hF rfl (fun hc21 hF => ?_) (fun hc21 hF => ?_)
            · skip
              refine AWP.seqR rfl ?_
              refine ASL.q (v := (.list 1 (List.map (AV.int .i64) []))) rfl rfl (Light.quiet (opNilL rfl rfl)) ?_
              refine ASL.q (v := (.bool false)) rfl rfl (Light.quiet (opAssign rfl rfl)) ?_
              refine ASL.done ?_
              refine AWP.ret ?_
              refine QThen.rt ?_
              refine QBlock.ret ?_
              refine QBlock.ret ?_
              refine QThen.rt ?_
              refine QThen.rt ?_
              refine QBlock.ret ?_
              refine QThen.rt ?_
              obtain rfl := (hx9 _ (someE hF).symm)
              have hF := hR12
              have hF := sumR hF
              obtain rfl := someE hF
              exact QRet.many (vs := [(.list 1 (List.map (AV.int .i64) [])), (.bool false)]) ⟨rfl, rfl, trivial⟩ (by simp) rfl
            · skip
              refine AWP.skip ?_
              refine QThen.nrm ?_
              refine AWP.lastR rfl ?_
              refine ASL.q (v := v15) rfl rfl (Light.quiet (opMove rfl rfl)) ?_
              refine ASL.q (v := (.int .i64 x18_l0)) rfl rfl (Light.quiet (opMove rfl rfl)) ?_
              refine ASL.q (v := v15) rfl rfl (Light.quiet (opMove rfl rfl)) ?_
              refine ASL.q (v := (.ptr b8 1)) rfl rfl (Light.quiet (opFieldAddr rfl fieldA_59_1 rfl rfl)) ?_
              refine ASL.q (v := (.int .i64 a21.a)) rfl rfl (Light.quiet (kAt hS (j := 0) rfl rfl aggA_3 rfl rfl)) ?_
              obtain ⟨a53, ha53, hF⟩ := bindE hF
              refine ASL.q (v := (ptrTo v15 a21.a.toNat 1)) rfl rfl (Light.quiet (kIxOx hS (j := 1) rfl ha53 rfl rfl rfl elemA_32 sizeA_3)) ?_
              refine ASL.q (v := (.int .i64 a53)) rfl rfl (Light.quiet (kLd (f := (AV.int .i64)) hS (j := 1) rfl ha53 rfl aggA_3 rfl (fun _ => rfl))) ?_
              obtain ⟨m55, hm55, hF⟩ := bindE hF
              refine ASL.q (v := (ptrTo v15 m55 1)) rfl rfl (Light.quiet (kIxO hS (j := 1) rfl hm55 rfl rfl rfl elemA_32 sizeA_3)) ?_
              refine ASL.n rfl rfl (hSt (f := (AV.int .i64)) (a := a53) hS (j := 1) rfl hm55 rfl sizeA_3 rfl rfl ⟨rfl, rfl, rfl⟩ ?_); rintro G22 hS
              refine ASL.done ?_
              refine QBlock.nrm ?_
              refine QBlock.nrm ?_
              refine QThen.nrm ?_
              refine AWP.lastR rfl ?_
              refine ASL.q (v := (.int .i64 (W (x18_l0 + 1)))) rfl rfl (Light.quiet (opInt rfl rfl rfl rfl)) ?_
              refine ASL.q (v := (.int .i64 (W (x18_l0 + 1)))) rfl rfl (Light.quiet (opMove rfl rfl)) ?_
              refine ASL.done ?_
              refine QThen.nrm ?_
              exact ⟨((((y7.set m26 x18_l0)).set m55 a53), (W (x18_l0 + 1))), (), (someE hF).symm, ⟨rfl, rfl, rfl, rfl, rfl, rfl, trivial⟩, (hS.pick [1] rfl rfl)⟩
          · skip
            refine AWP.seqR rfl ?_
            refine ASL.q (v := (.bool (decide (a29 = 2)))) rfl rfl (Light.quiet (opInt rfl rfl rfl rfl)) ?_
            refine ASL.q (v := (.bool (decide (a29 = 2)))) rfl rfl (Light.quiet (opAssign rfl rfl)) ?_
            refine ASL.done ?_
            refine AWP.ifP hF rfl (fun hc23 hF => ?_) (fun hc23 hF => ?_)
            · skip
              refine AWP.seq ?_
              refine AWP.seqD [(0, false), (1, false), (2, false), (3, false), (4, false), (5, false), (6, false), (7, false), (8, false), (9, false), (10, false), (11, false), (12, false), (13, false), (14, false), (15, false), (16, false), (17, false), (18, false), (19, false), (20, false), (21, false), (22, false), (23, false), (24, false)] mixed (by kernel_rfl) rfl ?_
              refine ARL.q0 (v := (.int .i64 x18_l0)) rfl rfl (Light.quiet (opMove rfl rfl)) ?_
              refine ARL.q0 (v := (.bool (decide (x18_l0 = 0)))) rfl rfl (Light.quiet (opInt rfl rfl rfl rfl)) ?_
              obtain ⟨c60, hc60, hF⟩ := bndE hF
              refine ARL.q0 (v := (.bool c60)) rfl rfl ((Quiet.cast (Light.quiet (opMove rfl rfl)) (congrArg AV.bool hc60.symm))) ?_
              refine ARL.g (v := (.ptr b8 2)) (.bool c60) false rfl (wF _) rfl noneAlive (fun hG => by have q0 := gN hG; subst q0; exact Light.quiet (opFieldAddr rfl fieldA_59_2 rfl rfl)) ?_
              refine ARL.g (v := (.int .i64 a21.b)) (.bool c60) false rfl (wF _) rfl (hS.aliveC (k := 0) rfl) (fun hG => by have q0 := gN hG; subst q0; exact Light.quiet (kAt hS (j := 0) rfl rfl aggA_3 rfl rfl)) ?_
              refine ARL.g (v := (.int .i64 x18_l0)) (.bool c60) false rfl (wF _) rfl noneAlive (fun hG => by have q0 := gN hG; subst q0; exact Light.quiet (opMove rfl rfl)) ?_
              refine ARL.g (v := (.int .i64 (W (x18_l0 - 1)))) (.bool c60) false rfl (wF _) rfl noneAlive (fun hG => by have q0 := gN hG; subst q0; exact Light.quiet (opInt rfl rfl rfl rfl)) ?_
              refine ARL.g (v := (.bool (decide (a21.b ≠ ((W (x18_l0 - 1))))))) (.bool c60) false rfl (wF _) rfl noneAlive (fun hG => by have q0 := gN hG; subst q0; exact Light.quiet (opInt rfl rfl rfl rfl)) ?_
              refine ARL.q0 (v := (.bool (c60 || (decide (a21.b ≠ ((W (x18_l0 - 1)))))))) rfl rfl (Light.quiet (opPick (b := c60) rfl rfl (by cases c60 <;> rfl))) ?_
              obtain ⟨c67, hc67, hF⟩ := bndE hF
              refine ARL.q0 (v := (.bool c67)) rfl rfl ((Quiet.cast (Light.quiet (opMove rfl rfl)) (congrArg AV.bool hc67.symm))) ?_
              refine ARL.g (v := (.ptr b8 1)) (.bool c67) false rfl (wF _) rfl noneAlive (fun hG => by have q0 := gN hG; subst q0; exact Light.quiet (opFieldAddr rfl fieldA_59_1 rfl rfl)) ?_
              refine ARL.g (v := (.int .i64 a21.a)) (.bool c67) false rfl (wF _) rfl (hS.aliveC (k := 0) rfl) (fun hG => by have q0 := gN hG; subst q0; exact Light.quiet (kAt hS (j := 0) rfl rfl aggA_3 rfl rfl)) ?_
              refine ARL.g (v := v15) (.bool c67) false rfl (wF _) rfl noneAlive (fun hG => by have q0 := gN hG; subst q0; exact Light.quiet (opMove rfl rfl)) ?_
              refine ARL.g (v := (.int .i64 x18_l0)) (.bool c67) false rfl (wF _) rfl noneAlive (fun hG => by have q0 := gN hG; subst q0; exact Light.quiet (opMove rfl rfl)) ?_
              refine ARL.g (v := (.int .i64 (W (x18_l0 - 1)))) (.bool c67) false rfl (wF _) rfl noneAlive (fun hG => by have q0 := gN hG; subst q0; exact Light.quiet (opInt rfl rfl rfl rfl)) ?_
              obtain ⟨a73, ha73, hF⟩ := bindE hF
              refine ARL.g (v := (ptrTo v15 ((W (x18_l0 - 1))).toNat 1)) (.bool c67) false rfl (wF _) rfl noneAlive (fun hG => by have q0 := gN hG; subst q0; exact Light.quiet (kIxOx hS (j := 1) rfl (whenE ha73) rfl rfl rfl elemA_32 sizeA_3)) ?_
              refine ARL.g (v := (.int .i64 a73)) (.bool c67) false rfl (wF _) rfl (hS.aliveR (k := 1) rfl) (fun hG => by have q0 := gN hG; subst q0; exact Light.quiet (kLd (f := (AV.int .i64)) hS (j := 1) rfl (whenE ha73) rfl aggA_3 rfl (fun _ => rfl))) ?_
              refine ARL.g (v := (.int .i64 (W (a73 - 1)))) (.bool c67) false rfl (wF _) rfl noneAlive (fun hG => by have q0 := gN hG; subst q0; exact Light.quiet (opInt rfl rfl rfl rfl)) ?_
              refine ARL.g (v := (.bool (decide (a21.a ≠ ((W (a73 - 1))))))) (.bool c67) false rfl (wF _) rfl noneAlive (fun hG => by have q0 := gN hG; subst q0; exact Light.quiet (opInt rfl rfl rfl rfl)) ?_
              refine ARL.q0 (v := (.bool (c67 || (decide (a21.a ≠ ((W (a73 - 1)))))))) rfl rfl (Light.quiet (opPick (b := c67) rfl rfl (by cases c67 <;> rfl))) ?_
              obtain ⟨c78, hc78, hF⟩ := bndE hF
              refine ARL.q0 (v := (.bool c78)) rfl rfl ((Quiet.cast (Light.quiet (opMove rfl rfl)) (congrArg AV.bool hc78.symm))) ?_
              refine ARL.g (v := (.ptr b8 1)) (.bool c78) false rfl (wF _) rfl noneAlive (fun hG => by have q0 := gN hG; subst q0; exact Light.quiet (opFieldAddr rfl fieldA_59_1 rfl rfl)) ?_
              refine ARL.g (v := (.int .i64 a21.a)) (.bool c78) false rfl (wF _) rfl (hS.aliveC (k := 0) rfl) (fun hG => by have q0 := gN hG; subst q0; exact Light.quiet (kAt hS (j := 0) rfl rfl aggA_3 rfl rfl)) ?_
              refine ARL.g (v := (.bool (decide (a21.a < 0)))) (.bool c78) false rfl (wF _) rfl noneAlive (fun hG => by have q0 := gN hG; subst q0; exact Light.quiet (opInt rfl rfl rfl rfl)) ?_
              refine ARL.q0 (v := (.bool (c78 || (decide (a21.a < 0))))) rfl rfl (Light.quiet (opPick (b := c78) rfl rfl (by cases c78 <;> rfl))) ?_
              refine ARL.done ?_
              refine AWP.ifB hF rfl (fun hc24 hF => ?_) (fun hc24 hF => ?_)
              · skip
                refine AWP.seqR rfl ?_
                refine ASL.q (v := (.list 1 (List.map (AV.int .i64) []))) rfl rfl (Light.quiet (opNilL rfl rfl)) ?_
                refine ASL.q (v := (.bool false)) rfl rfl (Light.quiet (opAssign rfl rfl)) ?_
                refine ASL.done ?_
                refine AWP.ret ?_
                refine QThen.rt ?_
                refine QBlock.ret ?_
                refine QBlock.ret ?_
                refine QThen.rt ?_
                refine QThen.rt ?_
                refine QBlock.ret ?_
                refine QThen.rt ?_
                obtain rfl := (hx9 _ (someE hF).symm)
                have hF := hR12
                have hF := sumR hF
                obtain rfl := someE hF
                exact QRet.many (vs := [(.list 1 (List.map (AV.int .i64) [])), (.bool false)]) ⟨rfl, rfl, trivial⟩ (by simp) rfl
              · skip
                refine AWP.skip ?_
                refine QThen.nrm ?_
                refine AWP.lastR rfl ?_
                refine ASL.q (v := v15) rfl rfl (Light.quiet (opMove rfl rfl)) ?_
                refine ASL.q (v := (.int .i64 x18_l0)) rfl rfl (Light.quiet (opMove rfl rfl)) ?_
                refine ASL.q (v := v15) rfl rfl (Light.quiet (opMove rfl rfl)) ?_
                refine ASL.q (v := (.ptr b8 1)) rfl rfl (Light.quiet (opFieldAddr rfl fieldA_59_1 rfl rfl)) ?_
                refine ASL.q (v := (.int .i64 a21.a)) rfl rfl (Light.quiet (kAt hS (j := 0) rfl rfl aggA_3 rfl rfl)) ?_
                obtain ⟨a88, ha88, hF⟩ := bindE hF
                refine ASL.q (v := (ptrTo v15 a21.a.toNat 1)) rfl rfl (Light.quiet (kIxOx hS (j := 1) rfl ha88 rfl rfl rfl elemA_32 sizeA_3)) ?_
                refine ASL.q (v := (.int .i64 a88)) rfl rfl (Light.quiet (kLd (f := (AV.int .i64)) hS (j := 1) rfl ha88 rfl aggA_3 rfl (fun _ => rfl))) ?_
                obtain ⟨m90, hm90, hF⟩ := bindE hF
                refine ASL.q (v := (ptrTo v15 m90 1)) rfl rfl (Light.quiet (kIxO hS (j := 1) rfl hm90 rfl rfl rfl elemA_32 sizeA_3)) ?_
                refine ASL.n rfl rfl (hSt (f := (AV.int .i64)) (a := a88) hS (j := 1) rfl hm90 rfl sizeA_3 rfl rfl ⟨rfl, rfl, rfl⟩ ?_); rintro G25 hS
                refine ASL.done ?_
                refine QBlock.nrm ?_
                refine QBlock.nrm ?_
                refine QThen.nrm ?_
                refine AWP.lastR rfl ?_
                refine ASL.q (v := (.int .i64 (W (x18_l0 + 1)))) rfl rfl (Light.quiet (opInt rfl rfl rfl rfl)) ?_
                refine ASL.q (v := (.int .i64 (W (x18_l0 + 1)))) rfl rfl (Light.quiet (opMove rfl rfl)) ?_
                refine ASL.done ?_
                refine QThen.nrm ?_
                exact ⟨((((y7.set m26 x18_l0)).set m90 a88), (W (x18_l0 + 1))), (), (someE hF).symm, ⟨rfl, rfl, rfl, rfl, rfl, rfl, trivial⟩, (hS.pick [1] rfl rfl)⟩
            · skip
              refine AWP.seqR rfl ?_
              refine ASL.q (v := (.list 1 (List.map (AV.int .i64) []))) rfl rfl (Light.quiet (opNilL rfl rfl)) ?_
              refine ASL.q (v := (.bool false)) rfl rfl (Light.quiet (opAssign rfl rfl)) ?_
              refine ASL.done ?_
              refine AWP.ret ?_
              refine QBlock.ret ?_
              refine QBlock.ret ?_
              refine QThen.rt ?_
              refine QThen.rt ?_
              refine QBlock.ret ?_
              refine QThen.rt ?_
              obtain rfl := (hx9 _ (someE hF).symm)
              have hF := hR12
              have hF := sumR hF
              obtain rfl := someE hF
              exact QRet.many (vs := [(.list 1 (List.map (AV.int .i64) [])), (.bool false)]) ⟨rfl, rfl, trivial⟩ (by simp) rfl
      · skip
        refine AWP.exit ?_
        refine QThen.ext ?_
        refine QThen.ext ?_
        refine QBlock.hit ?_
        obtain rfl := (hx9 _ (someE hF).symm)
        have hF := hR12
        have hF := sumL hF
        refine QThen.nrm ?_
        exact ⟨y7, ⟨rfl, rfl, trivial⟩, (hS.pick [0] rfl rfl), hF⟩

set_option maxRecDepth 10000 in
theorem impl_isTree_ok {p0 : (List TNode)} {g1 : (TNode → Option Int)} {r : Bool} {k1 : Nat} (hcal1 : callable Try.prog k1 = true) (hg1 : ∀ q0 y, g1 q0 = some y → PC Try.prog k1 [(TNode.av q0)] fun v => v = (.int .i64 y)) (hF : impl_isTree p0 g1 = some r) : PC Try.prog 60 [(.list 3 (List.map TNode.av p0)), (.fn (.func k1) [] [])] fun v => v = (.bool r) := by
  refine PC.enter Try.func60 rfl Try.ntmps60 (by simp) ?_
  have hS := Sep.void; unfold impl_isTree at hF
  refine AWP.seqR rfl ?_
  refine ASL.q (v := (.bool false)) rfl rfl (Light.quiet (opAssign rfl rfl)) ?_
  refine ASL.done ?_
  refine AWP.seqR rfl ?_
  refine ASL.q (v := (.list 3 (List.map TNode.av p0))) rfl rfl (Light.quiet (opMove rfl rfl)) ?_
  refine ASL.q (v := (.fn (.func k1) [] [])) rfl rfl (Light.quiet (opMove rfl rfl)) ?_
  obtain ⟨a10, ha10, hF⟩ := bindE hF
  refine ASL.q (v := (.tup [(.list 1 (List.map (AV.int .i64) a10.1)), (.bool a10.2)])) rfl rfl ((qCall rfl rfl call_100 (impl_begins_ok hcal1 hg1 ha10) rfl)) ?_
  refine ASL.q (v := (.tup [(.list 1 (List.map (AV.int .i64) a10.1)), (.bool a10.2)])) rfl rfl (Light.quiet (opMove rfl rfl)) ?_
  refine ASL.q (v := (.list 1 (List.map (AV.int .i64) a10.1))) rfl rfl (Light.quiet (opExtract rfl rfl rfl)) ?_
  refine ASL.q (v := (.bool a10.2)) rfl rfl (Light.quiet (opExtract rfl rfl rfl)) ?_
  refine ASL.q (v := (.list 1 (List.map (AV.int .i64) a10.1))) rfl rfl (Light.quiet (opAssign rfl rfl)) ?_
  refine ASL.q (v := (.bool a10.2)) rfl rfl (Light.quiet (opAssign rfl rfl)) ?_
  refine ASL.done ?_
  refine AWP.seqR rfl ?_
  refine ASL.q (v := (.bool a10.2)) rfl rfl (Light.quiet (opMove rfl rfl)) ?_
  refine ASL.q (v := (.bool a10.2)) rfl rfl (Light.quiet (opAssign rfl rfl)) ?_
  refine ASL.done ?_
  refine AWP.ret ?_
  obtain rfl := someE hF
  exact QRet.sole (v := (.bool a10.2)) ⟨rfl, trivial⟩ rfl

set_option maxRecDepth 10000 in
theorem impl_leaf_ok (p0 : TNode) (p1 : Int) : PC Try.prog 119 [(TNode.av p0), (.int .i64 p1)] fun v => v = (.int .i64 (impl_leaf p0 p1)) := by
  generalize hF : impl_leaf p0 p1 = r
  refine PC.enter Try.func119 rfl Try.ntmps119 (by simp) ?_
  have hS := Sep.void; unfold impl_leaf at hF
  refine AWP.seqR rfl ?_
  refine ASL.q (v := (.rptr [(.int .i64 p0.kind), (.int .i64 p0.a), (.int .i64 p0.b)])) rfl rfl ((qBoxI (v := (TNode.av p0)) rfl rfl rfl rfl)) ?_
  refine ASL.q (v := (.int .i64 0)) rfl rfl (Light.quiet (opAssign rfl rfl)) ?_
  refine ASL.done ?_
  refine AWP.seq ?_
  refine AWP.seqR rfl ?_
  refine ASL.q (v := (.rptr [(.int .i64 p0.b)])) rfl rfl (Light.quiet (opFieldAddrR rfl fieldA_59_2 rfl rfl)) ?_
  refine ASL.q (v := (.int .i64 p0.b)) rfl rfl (Light.quiet (opLoadR rfl aggA_3 rfl rfl)) ?_
  refine ASL.q (v := (.bool (decide (p0.b = 0)))) rfl rfl (Light.quiet (opInt rfl rfl rfl rfl)) ?_
  obtain ⟨c8, hc8, hF⟩ := bndE hF
  refine ASL.q (v := (.bool c8)) rfl rfl ((Quiet.cast (Light.quiet (opMove rfl rfl)) (congrArg AV.bool hc8.symm))) ?_
  refine ASL.g (v := (.rptr [(.int .i64 p0.a), (.int .i64 p0.b)])) (.bool c8) true rfl (wT _) rfl (fun hG => by have q0 := hG; subst q0; exact Light.quiet (opFieldAddrR rfl fieldA_59_1 rfl rfl)) ?_
  refine ASL.g (v := (.int .i64 p0.a)) (.bool c8) true rfl (wT _) rfl (fun hG => by have q0 := hG; subst q0; exact Light.quiet (opLoadR rfl aggA_3 rfl rfl)) ?_
  refine ASL.g (v := (.int .i64 p1)) (.bool c8) true rfl (wT _) rfl (fun hG => by have q0 := hG; subst q0; exact Light.quiet (opMove rfl rfl)) ?_
  refine ASL.g (v := (.bool (impl_inRange p0.a 0 p1))) (.bool c8) true rfl (wT _) rfl (fun hG => by have q0 := hG; subst q0; exact (qCall rfl rfl call_90 (impl_inRange_ok p0.a 0 p1) rfl)) ?_
  refine ASL.q (v := (.bool (c8 && (impl_inRange p0.a 0 p1)))) rfl rfl (Light.quiet (opPick (b := c8) rfl rfl (by cases c8 <;> rfl))) ?_
  refine ASL.done ?_
  refine AWP.ifB hF rfl (fun hc1 hF => ?_) (fun hc1 hF => ?_)
  · skip
    refine AWP.seqR rfl ?_
    refine ASL.q (v := (.int .i64 0)) rfl rfl (Light.quiet (opAssign rfl rfl)) ?_
    refine ASL.done ?_
    refine AWP.ret ?_
    refine QThen.rt ?_
    obtain rfl := hF
    exact QRet.sole (v := (.int .i64 0)) ⟨rfl, trivial⟩ rfl
  · skip
    refine AWP.skip ?_
    refine QThen.nrm ?_
    refine AWP.seqR rfl ?_
    refine ASL.q (v := (.int .i64 (-1))) rfl rfl (Light.quiet (opAssign rfl rfl)) ?_
    refine ASL.done ?_
    refine AWP.ret ?_
    obtain rfl := hF
    exact QRet.sole (v := (.int .i64 (-1))) ⟨rfl, trivial⟩ rfl

set_option maxRecDepth 10000 in
theorem impl_exprParts_ok (p0 : TNode) : PC Try.prog 99 [(TNode.av p0)] fun v => v = (.int .i64 (impl_exprParts p0)) := by
  generalize hF : impl_exprParts p0 = r
  refine PC.enter Try.func99 rfl Try.ntmps99 (by simp) ?_
  have hS := Sep.void; unfold impl_exprParts at hF
  refine AWP.seqR rfl ?_
  refine ASL.q (v := (.rptr [(.int .i64 p0.kind), (.int .i64 p0.a), (.int .i64 p0.b)])) rfl rfl ((qBoxI (v := (TNode.av p0)) rfl rfl rfl rfl)) ?_
  refine ASL.q (v := (.int .i64 0)) rfl rfl (Light.quiet (opAssign rfl rfl)) ?_
  refine ASL.done ?_
  refine AWP.seq ?_
  refine AWP.seqR rfl ?_
  refine ASL.q (v := (.rptr [(.int .i64 p0.kind), (.int .i64 p0.a), (.int .i64 p0.b)])) rfl rfl (Light.quiet (opFieldAddrR rfl fieldA_59_0 rfl rfl)) ?_
  refine ASL.q (v := (.int .i64 p0.kind)) rfl rfl (Light.quiet (opLoadR rfl aggA_3 rfl rfl)) ?_
  refine ASL.done ?_
  refine AWP.block ?_
  refine AWP.seqM (fun e H => ∃ x5_1 : Bool, E.Told e [(1, (.rptr [(.int .i64 p0.kind), (.int .i64 p0.a), (.int .i64 p0.b)])), (4, (.int .i64 p0.kind)), (5, (.bool x5_1))] ∧ E.Sep H [] ∧ impl_exprParts.k0 p0 x5_1 = r) ?_ ?_
  · rintro e0 G7 ⟨x5_1, hT, hS, hF⟩; refine AWP.only _ hT ?_; unfold impl_exprParts.k0 at hF
    refine AWP.ifB hF rfl (fun hc1 hF => ?_) (fun hc1 hF => ?_)
    · skip
      refine AWP.seqR rfl ?_
      refine ASL.q (v := (TNode.av p0)) rfl rfl (Light.quiet (opLoadRA rfl aggA_59 sizeA_59 rfl (nlt rfl) rfl)) ?_
      refine ASL.q (v := (.int .i64 (impl_leaf p0 0))) rfl rfl ((qCall rfl rfl call_119 (impl_leaf_ok p0 0) rfl)) ?_
      refine ASL.q (v := (.int .i64 (impl_leaf p0 0))) rfl rfl (Light.quiet (opAssign rfl rfl)) ?_
      refine ASL.done ?_
      refine AWP.ret ?_
      refine QBlock.ret ?_
      refine QThen.rt ?_
      obtain rfl := hF
      exact QRet.sole (v := (.int .i64 (impl_leaf p0 0))) ⟨rfl, trivial⟩ rfl
    · skip
      refine AWP.seqR rfl ?_
      refine ASL.q (v := (.bool (decide (p0.kind = 3)))) rfl rfl (Light.quiet (opInt rfl rfl rfl rfl)) ?_
      refine ASL.q (v := (.bool (decide (p0.kind = 3)))) rfl rfl (Light.quiet (opAssign rfl rfl)) ?_
      refine ASL.done ?_
      refine AWP.ifP hF rfl (fun hc2 hF => ?_) (fun hc2 hF => ?_)
      · skip
        refine AWP.seqR rfl ?_
        refine ASL.q (v := (TNode.av p0)) rfl rfl (Light.quiet (opLoadRA rfl aggA_59 sizeA_59 rfl (nlt rfl) rfl)) ?_
        refine ASL.q (v := (.int .i64 (impl_leaf p0 2))) rfl rfl ((qCall rfl rfl call_119 (impl_leaf_ok p0 2) rfl)) ?_
        refine ASL.q (v := (.int .i64 (impl_leaf p0 2))) rfl rfl (Light.quiet (opAssign rfl rfl)) ?_
        refine ASL.done ?_
        refine AWP.ret ?_
        refine QBlock.ret ?_
        refine QThen.rt ?_
        obtain rfl := hF
        exact QRet.sole (v := (.int .i64 (impl_leaf p0 2))) ⟨rfl, trivial⟩ rfl
      · skip
        refine AWP.seqR rfl ?_
        refine ASL.q (v := (.bool (decide (p0.kind = 4)))) rfl rfl (Light.quiet (opInt rfl rfl rfl rfl)) ?_
        refine ASL.q (v := (.bool (decide (p0.kind = 4)))) rfl rfl (Light.quiet (opAssign rfl rfl)) ?_
        refine ASL.done ?_
        refine AWP.ifP hF rfl (fun hc3 hF => ?_) (fun hc3 hF => ?_)
        · skip
          refine AWP.seqR rfl ?_
          refine ASL.q (v := (.int .i64 1)) rfl rfl (Light.quiet (opAssign rfl rfl)) ?_
          refine ASL.done ?_
          refine AWP.ret ?_
          refine QBlock.ret ?_
          refine QThen.rt ?_
          obtain rfl := hF
          exact QRet.sole (v := (.int .i64 1)) ⟨rfl, trivial⟩ rfl
        · skip
          refine AWP.seq ?_
          refine AWP.seqR rfl ?_
          refine ASL.q (v := (.bool (decide (p0.kind = 5)))) rfl rfl (Light.quiet (opInt rfl rfl rfl rfl)) ?_
          refine ASL.q (v := (.bool (decide (p0.kind = 5)))) rfl rfl (Light.quiet (opAssign rfl rfl)) ?_
          refine ASL.done ?_
          refine AWP.ifP hF rfl (fun hc4 hF => ?_) (fun hc4 hF => ?_)
          · skip
            refine AWP.skip ?_
            refine QThen.nrm ?_
            refine AWP.ifP hF rfl (fun hc5 hF => ?_) (fun hc5 hF => ?_)
            · skip
              refine AWP.seqR rfl ?_
              refine ASL.q (v := (.int .i64 2)) rfl rfl (Light.quiet (opAssign rfl rfl)) ?_
              refine ASL.done ?_
              refine AWP.ret ?_
              refine QBlock.ret ?_
              refine QThen.rt ?_
              obtain rfl := hF
              exact QRet.sole (v := (.int .i64 2)) ⟨rfl, trivial⟩ rfl
            · skip
              refine AWP.skip ?_
              refine QBlock.nrm ?_
              refine QThen.nrm ?_
              refine AWP.seqR rfl ?_
              refine ASL.q (v := (.int .i64 (-1))) rfl rfl (Light.quiet (opAssign rfl rfl)) ?_
              refine ASL.done ?_
              refine AWP.ret ?_
              obtain rfl := hF
              exact QRet.sole (v := (.int .i64 (-1))) ⟨rfl, trivial⟩ rfl
          · skip
            refine AWP.lastR rfl ?_
            refine ASL.q (v := (.bool (decide (p0.kind = 6)))) rfl rfl (Light.quiet (opInt rfl rfl rfl rfl)) ?_
            refine ASL.q (v := (.bool (decide (p0.kind = 6)))) rfl rfl (Light.quiet (opAssign rfl rfl)) ?_
            refine ASL.done ?_
            refine QThen.nrm ?_
            refine AWP.ifP hF rfl (fun hc6 hF => ?_) (fun hc6 hF => ?_)
            · skip
              refine AWP.seqR rfl ?_
              refine ASL.q (v := (.int .i64 2)) rfl rfl (Light.quiet (opAssign rfl rfl)) ?_
              refine ASL.done ?_
              refine AWP.ret ?_
              refine QBlock.ret ?_
              refine QThen.rt ?_
              obtain rfl := hF
              exact QRet.sole (v := (.int .i64 2)) ⟨rfl, trivial⟩ rfl
            · skip
              refine AWP.skip ?_
              refine QBlock.nrm ?_
              refine QThen.nrm ?_
              refine AWP.seqR rfl ?_
              refine ASL.q (v := (.int .i64 (-1))) rfl rfl (Light.quiet (opAssign rfl rfl)) ?_
              refine ASL.done ?_
              refine AWP.ret ?_
              obtain rfl := hF
              exact QRet.sole (v := (.int .i64 (-1))) ⟨rfl, trivial⟩ rfl
  · skip
    refine AWP.seqR rfl ?_
    refine ASL.q (v := (.bool (decide (p0.kind = 1)))) rfl rfl (Light.quiet (opInt rfl rfl rfl rfl)) ?_
    refine ASL.q (v := (.bool (decide (p0.kind = 1)))) rfl rfl (Light.quiet (opAssign rfl rfl)) ?_
    refine ASL.done ?_
    refine AWP.ifP hF rfl (fun hc8 hF => ?_) (fun hc8 hF => ?_)
    · skip
      refine AWP.skip ?_
      refine QThen.nrm ?_
      exact ⟨(decide (p0.kind = 1)), ⟨rfl, rfl, rfl, trivial⟩, (hS.pick [] rfl rfl), hF⟩
    · skip
      refine AWP.lastR rfl ?_
      refine ASL.q (v := (.bool (decide (p0.kind = 2)))) rfl rfl (Light.quiet (opInt rfl rfl rfl rfl)) ?_
      refine ASL.q (v := (.bool (decide (p0.kind = 2)))) rfl rfl (Light.quiet (opAssign rfl rfl)) ?_
      refine ASL.done ?_
      refine QThen.nrm ?_
      exact ⟨(decide (p0.kind = 2)), ⟨rfl, rfl, rfl, trivial⟩, (hS.pick [] rfl rfl), hF⟩

set_option maxRecDepth 10000 in
theorem impl_ltlParts_ok (p0 : TNode) : PC Try.prog 53 [(TNode.av p0)] fun v => v = (.int .i64 (impl_ltlParts p0)) := by
  generalize hF : impl_ltlParts p0 = r
  refine PC.enter Try.func53 rfl Try.ntmps53 (by simp) ?_
  have hS := Sep.void; unfold impl_ltlParts at hF
  refine AWP.seqR rfl ?_
  refine ASL.q (v := (.rptr [(.int .i64 p0.kind), (.int .i64 p0.a), (.int .i64 p0.b)])) rfl rfl ((qBoxI (v := (TNode.av p0)) rfl rfl rfl rfl)) ?_
  refine ASL.q (v := (.int .i64 0)) rfl rfl (Light.quiet (opAssign rfl rfl)) ?_
  refine ASL.done ?_
  refine AWP.seq ?_
  refine AWP.seqR rfl ?_
  refine ASL.q (v := (.rptr [(.int .i64 p0.kind), (.int .i64 p0.a), (.int .i64 p0.b)])) rfl rfl (Light.quiet (opFieldAddrR rfl fieldA_59_0 rfl rfl)) ?_
  refine ASL.q (v := (.int .i64 p0.kind)) rfl rfl (Light.quiet (opLoadR rfl aggA_3 rfl rfl)) ?_
  refine ASL.done ?_
  refine AWP.block ?_
  refine AWP.seq ?_
  refine AWP.seqR rfl ?_
  refine ASL.q (v := (.bool (decide (p0.kind = 7)))) rfl rfl (Light.quiet (opInt rfl rfl rfl rfl)) ?_
  refine ASL.q (v := (.bool (decide (p0.kind = 7)))) rfl rfl (Light.quiet (opAssign rfl rfl)) ?_
  refine ASL.done ?_
  refine AWP.ifP hF rfl (fun hc1 hF => ?_) (fun hc1 hF => ?_)
  · skip
    refine AWP.skip ?_
    refine QThen.nrm ?_
    refine AWP.ifP hF rfl (fun hc2 hF => ?_) (fun hc2 hF => ?_)
    · skip
      refine AWP.seqR rfl ?_
      refine ASL.q (v := (.int .i64 1)) rfl rfl (Light.quiet (opAssign rfl rfl)) ?_
      refine ASL.done ?_
      refine AWP.ret ?_
      refine QBlock.ret ?_
      refine QThen.rt ?_
      obtain rfl := hF
      exact QRet.sole (v := (.int .i64 1)) ⟨rfl, trivial⟩ rfl
    · skip
      refine AWP.seq ?_
      refine AWP.seqR rfl ?_
      refine ASL.q (v := (.bool (decide (p0.kind = 8)))) rfl rfl (Light.quiet (opInt rfl rfl rfl rfl)) ?_
      refine ASL.q (v := (.bool (decide (p0.kind = 8)))) rfl rfl (Light.quiet (opAssign rfl rfl)) ?_
      refine ASL.done ?_
      refine AWP.ifP hF rfl (fun hc3 hF => ?_) (fun hc3 hF => ?_)
      · skip
        refine AWP.skip ?_
        refine QThen.nrm ?_
        refine AWP.ifP hF rfl (fun hc4 hF => ?_) (fun hc4 hF => ?_)
        · skip
          refine AWP.seqR rfl ?_
          refine ASL.q (v := (.int .i64 2)) rfl rfl (Light.quiet (opAssign rfl rfl)) ?_
          refine ASL.done ?_
          refine AWP.ret ?_
          refine QBlock.ret ?_
          refine QThen.rt ?_
          obtain rfl := hF
          exact QRet.sole (v := (.int .i64 2)) ⟨rfl, trivial⟩ rfl
        · skip
          refine AWP.skip ?_
          refine QBlock.nrm ?_
          refine QThen.nrm ?_
          refine AWP.seqR rfl ?_
          refine ASL.q (v := (TNode.av p0)) rfl rfl (Light.quiet (opLoadRA rfl aggA_59 sizeA_59 rfl (nlt rfl) rfl)) ?_
          refine ASL.q (v := (.int .i64 (impl_exprParts p0))) rfl rfl ((qCall rfl rfl call_99 (impl_exprParts_ok p0) rfl)) ?_
          refine ASL.q (v := (.int .i64 (impl_exprParts p0))) rfl rfl (Light.quiet (opAssign rfl rfl)) ?_
          refine ASL.done ?_
          refine AWP.ret ?_
          obtain rfl := hF
          exact QRet.sole (v := (.int .i64 (impl_exprParts p0))) ⟨rfl, trivial⟩ rfl
      · skip
        refine AWP.lastR rfl ?_
        refine ASL.q (v := (.bool (decide (p0.kind = 9)))) rfl rfl (Light.quiet (opInt rfl rfl rfl rfl)) ?_
        refine ASL.q (v := (.bool (decide (p0.kind = 9)))) rfl rfl (Light.quiet (opAssign rfl rfl)) ?_
        refine ASL.done ?_
        refine QThen.nrm ?_
        refine AWP.ifP hF rfl (fun hc5 hF => ?_) (fun hc5 hF => ?_)
        · skip
          refine AWP.seqR rfl ?_
          refine ASL.q (v := (.int .i64 2)) rfl rfl (Light.quiet (opAssign rfl rfl)) ?_
          refine ASL.done ?_
          refine AWP.ret ?_
          refine QBlock.ret ?_
          refine QThen.rt ?_
          obtain rfl := hF
          exact QRet.sole (v := (.int .i64 2)) ⟨rfl, trivial⟩ rfl
        · skip
          refine AWP.skip ?_
          refine QBlock.nrm ?_
          refine QThen.nrm ?_
          refine AWP.seqR rfl ?_
          refine ASL.q (v := (TNode.av p0)) rfl rfl (Light.quiet (opLoadRA rfl aggA_59 sizeA_59 rfl (nlt rfl) rfl)) ?_
          refine ASL.q (v := (.int .i64 (impl_exprParts p0))) rfl rfl ((qCall rfl rfl call_99 (impl_exprParts_ok p0) rfl)) ?_
          refine ASL.q (v := (.int .i64 (impl_exprParts p0))) rfl rfl (Light.quiet (opAssign rfl rfl)) ?_
          refine ASL.done ?_
          refine AWP.ret ?_
          obtain rfl := hF
          exact QRet.sole (v := (.int .i64 (impl_exprParts p0))) ⟨rfl, trivial⟩ rfl
  · skip
    refine AWP.seqR rfl ?_
    refine ASL.q (v := (.bool (decide (p0.kind = 10)))) rfl rfl (Light.quiet (opInt rfl rfl rfl rfl)) ?_
    refine ASL.q (v := (.bool (decide (p0.kind = 10)))) rfl rfl (Light.quiet (opAssign rfl rfl)) ?_
    refine ASL.done ?_
    refine AWP.ifP hF rfl (fun hc6 hF => ?_) (fun hc6 hF => ?_)
    · skip
      refine AWP.skip ?_
      refine QThen.nrm ?_
      refine AWP.ifP hF rfl (fun hc7 hF => ?_) (fun hc7 hF => ?_)
      · skip
        refine AWP.seqR rfl ?_
        refine ASL.q (v := (.int .i64 1)) rfl rfl (Light.quiet (opAssign rfl rfl)) ?_
        refine ASL.done ?_
        refine AWP.ret ?_
        refine QBlock.ret ?_
        refine QThen.rt ?_
        obtain rfl := hF
        exact QRet.sole (v := (.int .i64 1)) ⟨rfl, trivial⟩ rfl
      · skip
        refine AWP.seq ?_
        refine AWP.seqR rfl ?_
        refine ASL.q (v := (.bool (decide (p0.kind = 8)))) rfl rfl (Light.quiet (opInt rfl rfl rfl rfl)) ?_
        refine ASL.q (v := (.bool (decide (p0.kind = 8)))) rfl rfl (Light.quiet (opAssign rfl rfl)) ?_
        refine ASL.done ?_
        refine AWP.ifP hF rfl (fun hc8 hF => ?_) (fun hc8 hF => ?_)
        · skip
          refine AWP.skip ?_
          refine QThen.nrm ?_
          refine AWP.ifP hF rfl (fun hc9 hF => ?_) (fun hc9 hF => ?_)
          · skip
            refine AWP.seqR rfl ?_
            refine ASL.q (v := (.int .i64 2)) rfl rfl (Light.quiet (opAssign rfl rfl)) ?_
            refine ASL.done ?_
            refine AWP.ret ?_
            refine QBlock.ret ?_
            refine QThen.rt ?_
            obtain rfl := hF
            exact QRet.sole (v := (.int .i64 2)) ⟨rfl, trivial⟩ rfl
          · skip
            refine AWP.skip ?_
            refine QBlock.nrm ?_
            refine QThen.nrm ?_
            refine AWP.seqR rfl ?_
            refine ASL.q (v := (TNode.av p0)) rfl rfl (Light.quiet (opLoadRA rfl aggA_59 sizeA_59 rfl (nlt rfl) rfl)) ?_
            refine ASL.q (v := (.int .i64 (impl_exprParts p0))) rfl rfl ((qCall rfl rfl call_99 (impl_exprParts_ok p0) rfl)) ?_
            refine ASL.q (v := (.int .i64 (impl_exprParts p0))) rfl rfl (Light.quiet (opAssign rfl rfl)) ?_
            refine ASL.done ?_
            refine AWP.ret ?_
            obtain rfl := hF
            exact QRet.sole (v := (.int .i64 (impl_exprParts p0))) ⟨rfl, trivial⟩ rfl
        · skip
          refine AWP.lastR rfl ?_
          refine ASL.q (v := (.bool (decide (p0.kind = 9)))) rfl rfl (Light.quiet (opInt rfl rfl rfl rfl)) ?_
          refine ASL.q (v := (.bool (decide (p0.kind = 9)))) rfl rfl (Light.quiet (opAssign rfl rfl)) ?_
          refine ASL.done ?_
          refine QThen.nrm ?_
          refine AWP.ifP hF rfl (fun hc10 hF => ?_) (fun hc10 hF => ?_)
          · skip
            refine AWP.seqR rfl ?_
            refine ASL.q (v := (.int .i64 2)) rfl rfl (Light.quiet (opAssign rfl rfl)) ?_
            refine ASL.done ?_
            refine AWP.ret ?_
            refine QBlock.ret ?_
            refine QThen.rt ?_
            obtain rfl := hF
            exact QRet.sole (v := (.int .i64 2)) ⟨rfl, trivial⟩ rfl
          · skip
            refine AWP.skip ?_
            refine QBlock.nrm ?_
            refine QThen.nrm ?_
            refine AWP.seqR rfl ?_
            refine ASL.q (v := (TNode.av p0)) rfl rfl (Light.quiet (opLoadRA rfl aggA_59 sizeA_59 rfl (nlt rfl) rfl)) ?_
            refine ASL.q (v := (.int .i64 (impl_exprParts p0))) rfl rfl ((qCall rfl rfl call_99 (impl_exprParts_ok p0) rfl)) ?_
            refine ASL.q (v := (.int .i64 (impl_exprParts p0))) rfl rfl (Light.quiet (opAssign rfl rfl)) ?_
            refine ASL.done ?_
            refine AWP.ret ?_
            obtain rfl := hF
            exact QRet.sole (v := (.int .i64 (impl_exprParts p0))) ⟨rfl, trivial⟩ rfl
    · skip
      refine AWP.lastR rfl ?_
      refine ASL.q (v := (.bool (decide (p0.kind = 11)))) rfl rfl (Light.quiet (opInt rfl rfl rfl rfl)) ?_
      refine ASL.q (v := (.bool (decide (p0.kind = 11)))) rfl rfl (Light.quiet (opAssign rfl rfl)) ?_
      refine ASL.done ?_
      refine QThen.nrm ?_
      refine AWP.ifP hF rfl (fun hc11 hF => ?_) (fun hc11 hF => ?_)
      · skip
        refine AWP.seqR rfl ?_
        refine ASL.q (v := (.int .i64 1)) rfl rfl (Light.quiet (opAssign rfl rfl)) ?_
        refine ASL.done ?_
        refine AWP.ret ?_
        refine QBlock.ret ?_
        refine QThen.rt ?_
        obtain rfl := hF
        exact QRet.sole (v := (.int .i64 1)) ⟨rfl, trivial⟩ rfl
      · skip
        refine AWP.seq ?_
        refine AWP.seqR rfl ?_
        refine ASL.q (v := (.bool (decide (p0.kind = 8)))) rfl rfl (Light.quiet (opInt rfl rfl rfl rfl)) ?_
        refine ASL.q (v := (.bool (decide (p0.kind = 8)))) rfl rfl (Light.quiet (opAssign rfl rfl)) ?_
        refine ASL.done ?_
        refine AWP.ifP hF rfl (fun hc12 hF => ?_) (fun hc12 hF => ?_)
        · skip
          refine AWP.skip ?_
          refine QThen.nrm ?_
          refine AWP.ifP hF rfl (fun hc13 hF => ?_) (fun hc13 hF => ?_)
          · skip
            refine AWP.seqR rfl ?_
            refine ASL.q (v := (.int .i64 2)) rfl rfl (Light.quiet (opAssign rfl rfl)) ?_
            refine ASL.done ?_
            refine AWP.ret ?_
            refine QBlock.ret ?_
            refine QThen.rt ?_
            obtain rfl := hF
            exact QRet.sole (v := (.int .i64 2)) ⟨rfl, trivial⟩ rfl
          · skip
            refine AWP.skip ?_
            refine QBlock.nrm ?_
            refine QThen.nrm ?_
            refine AWP.seqR rfl ?_
            refine ASL.q (v := (TNode.av p0)) rfl rfl (Light.quiet (opLoadRA rfl aggA_59 sizeA_59 rfl (nlt rfl) rfl)) ?_
            refine ASL.q (v := (.int .i64 (impl_exprParts p0))) rfl rfl ((qCall rfl rfl call_99 (impl_exprParts_ok p0) rfl)) ?_
            refine ASL.q (v := (.int .i64 (impl_exprParts p0))) rfl rfl (Light.quiet (opAssign rfl rfl)) ?_
            refine ASL.done ?_
            refine AWP.ret ?_
            obtain rfl := hF
            exact QRet.sole (v := (.int .i64 (impl_exprParts p0))) ⟨rfl, trivial⟩ rfl
        · skip
          refine AWP.lastR rfl ?_
          refine ASL.q (v := (.bool (decide (p0.kind = 9)))) rfl rfl (Light.quiet (opInt rfl rfl rfl rfl)) ?_
          refine ASL.q (v := (.bool (decide (p0.kind = 9)))) rfl rfl (Light.quiet (opAssign rfl rfl)) ?_
          refine ASL.done ?_
          refine QThen.nrm ?_
          refine AWP.ifP hF rfl (fun hc14 hF => ?_) (fun hc14 hF => ?_)
          · skip
            refine AWP.seqR rfl ?_
            refine ASL.q (v := (.int .i64 2)) rfl rfl (Light.quiet (opAssign rfl rfl)) ?_
            refine ASL.done ?_
            refine AWP.ret ?_
            refine QBlock.ret ?_
            refine QThen.rt ?_
            obtain rfl := hF
            exact QRet.sole (v := (.int .i64 2)) ⟨rfl, trivial⟩ rfl
          · skip
            refine AWP.skip ?_
            refine QBlock.nrm ?_
            refine QThen.nrm ?_
            refine AWP.seqR rfl ?_
            refine ASL.q (v := (TNode.av p0)) rfl rfl (Light.quiet (opLoadRA rfl aggA_59 sizeA_59 rfl (nlt rfl) rfl)) ?_
            refine ASL.q (v := (.int .i64 (impl_exprParts p0))) rfl rfl ((qCall rfl rfl call_99 (impl_exprParts_ok p0) rfl)) ?_
            refine ASL.q (v := (.int .i64 (impl_exprParts p0))) rfl rfl (Light.quiet (opAssign rfl rfl)) ?_
            refine ASL.done ?_
            refine AWP.ret ?_
            obtain rfl := hF
            exact QRet.sole (v := (.int .i64 (impl_exprParts p0))) ⟨rfl, trivial⟩ rfl

set_option maxRecDepth 10000 in
theorem impl_LtlOk_ok {p0 : (List TNode)} {r : Bool} (hF : impl_LtlOk p0 = some r) : PC Try.prog 16 [(.list 3 (List.map TNode.av p0))] fun v => v = (.bool r) := by
  refine PC.enter Try.func16 rfl Try.ntmps16 (by simp) ?_
  have hS := Sep.void; unfold impl_LtlOk at hF
  refine AWP.seqR rfl ?_
  refine ASL.q (v := (.bool false)) rfl rfl (Light.quiet (opAssign rfl rfl)) ?_
  refine ASL.done ?_
  refine AWP.seqR rfl ?_
  refine ASL.q (v := (.list 3 (List.map TNode.av p0))) rfl rfl (Light.quiet (opMove rfl rfl)) ?_
  obtain ⟨a4, ha4, hF⟩ := bindE hF
  refine ASL.q (v := (.bool a4)) rfl rfl ((qCall rfl rfl call_60 (impl_isTree_ok call_53 (fun q0 y h => by obtain rfl := someE h; exact impl_ltlParts_ok q0) ha4) rfl)) ?_
  refine ASL.q (v := (.bool a4)) rfl rfl (Light.quiet (opAssign rfl rfl)) ?_
  refine ASL.done ?_
  refine AWP.ret ?_
  obtain rfl := someE hF
  exact QRet.sole (v := (.bool a4)) ⟨rfl, trivial⟩ rfl

set_option maxRecDepth 10000 in
theorem impl_isLetters_ok (p0 : Int) : PC Try.prog 120 [(.int .i64 p0)] fun v => v = (.bool (impl_isLetters p0)) := by
  generalize hF : impl_isLetters p0 = r
  refine PC.enter Try.func120 rfl Try.ntmps120 (by simp) ?_
  have hS := Sep.void; unfold impl_isLetters at hF
  refine AWP.seqR rfl ?_
  refine ASL.q (v := (.bool false)) rfl rfl (Light.quiet (opAssign rfl rfl)) ?_
  refine ASL.done ?_
  refine AWP.seqR rfl ?_
  refine ASL.q (v := (.int .i64 p0)) rfl rfl (Light.quiet (opMove rfl rfl)) ?_
  refine ASL.q (v := (.bool (impl_inRange p0 1 8))) rfl rfl ((qCall rfl rfl call_90 (impl_inRange_ok p0 1 8) rfl)) ?_
  refine ASL.q (v := (.bool (impl_inRange p0 1 8))) rfl rfl (Light.quiet (opAssign rfl rfl)) ?_
  refine ASL.done ?_
  refine AWP.ret ?_
  obtain rfl := hF
  exact QRet.sole (v := (.bool (impl_inRange p0 1 8))) ⟨rfl, trivial⟩ rfl

set_option maxRecDepth 10000 in
theorem impl_areLetters_ok {p0 : (List Int)} {p1 : Int} {r : Bool} (hF : impl_areLetters p0 p1 = some r) : PC Try.prog 121 [(.list 1 (List.map (AV.int .i64) p0)), (.int .i64 p1)] fun v => v = (.bool r) := by
  refine PC.enter Try.func121 rfl Try.ntmps121 (by simp) ?_
  have hS := Sep.void; unfold impl_areLetters at hF
  refine AWP.seqR rfl ?_
  refine ASL.q (v := (.bool false)) rfl rfl (Light.quiet (opAssign rfl rfl)) ?_
  refine ASL.done ?_
  refine AWP.seqM (fun e H => E.Told e [] ∧ E.Sep H [] ∧ impl_areLetters.k0 = some r) ?_ ?_
  · rintro e0 G1 ⟨hT, hS, hF⟩; refine AWP.only _ hT ?_; unfold impl_areLetters.k0 at hF
    refine AWP.seqR rfl ?_
    refine ASL.q (v := (.bool true)) rfl rfl (Light.quiet (opAssign rfl rfl)) ?_
    refine ASL.done ?_
    refine AWP.ret ?_
    obtain rfl := someE hF
    exact QRet.sole (v := (.bool true)) ⟨rfl, trivial⟩ rfl
  · skip
    refine AWP.seqR rfl ?_
    refine ASL.q (v := (.list 1 (List.map (AV.int .i64) p0))) rfl rfl (Light.quiet (opMove rfl rfl)) ?_
    refine ASL.q (v := (.int .i64 (p0.length : Int))) rfl rfl (Light.quiet (opLenMap (f := (AV.int .i64)) rfl rfl rfl lenT_32 rfl)) ?_
    refine ASL.q (v := (.int .i64 0)) rfl rfl (Light.quiet (opMove rfl rfl)) ?_
    refine ASL.done ?_
    refine AWP.block ?_
    obtain ⟨o5, hL4, hR6⟩ := bindE hF
    refine AWP.loopF (ω := Unit) hL4 (fun s w => [(1, (.int .i64 p1)), (7, (.list 1 (List.map (AV.int .i64) p0))), (8, (.int .i64 (p0.length : Int))), (9, (.int .i64 s))]) (fun s w => []) () ⟨rfl, rfl, rfl, rfl, trivial⟩ (hS.pick [] rfl rfl) ?_
    rintro x9_l0 _ G7 hS x2 hF hx3
    try dsimp only at hS ⊢
    have hF : impl_areLetters.b0 p0 p1 x9_l0 = some x2 := hF; unfold impl_areLetters.b0 at hF
    refine AWP.seqR rfl ?_
    refine ASL.q (v := (.bool (decide (x9_l0 < ((p0.length : Int)))))) rfl rfl (Light.quiet (opInt rfl rfl rfl rfl)) ?_
    refine ASL.done ?_
    refine AWP.seq ?_
    refine AWP.ifP hF rfl (fun hc8 hF => ?_) (fun hc8 hF => ?_)
    · skip
      refine AWP.skip ?_
      refine QThen.nrm ?_
      refine AWP.seq ?_
      refine AWP.block ?_
      refine AWP.seqR rfl ?_
      obtain ⟨a11, ha11, hF⟩ := bindE hF
      refine ASL.q (v := (.rptr [(.int .i64 a11)])) rfl rfl (Light.quiet (kIx (f := (AV.int .i64)) ha11 rfl rfl rfl elemA_32 sizeA_3 rfl)) ?_
      refine ASL.q (v := (.int .i64 a11)) rfl rfl (Light.quiet (opLoadR rfl aggA_3 rfl rfl)) ?_
      refine ASL.q (v := (.int .i64 a11)) rfl rfl (Light.quiet (opAssign rfl rfl)) ?_
      refine ASL.done ?_
      refine AWP.seqR rfl ?_
      refine ASL.q (v := (.int .i64 a11)) rfl rfl (Light.quiet (opMove rfl rfl)) ?_
      refine ASL.q (v := (.int .i64 p1)) rfl rfl (Light.quiet (opMove rfl rfl)) ?_
      refine ASL.q (v := (.int .i64 (W (p1 - 1)))) rfl rfl (Light.quiet (opInt rfl rfl rfl rfl)) ?_
      refine ASL.q (v := (.bool (impl_inRange a11 0 ((W (p1 - 1)))))) rfl rfl ((qCall rfl rfl call_90 (impl_inRange_ok a11 0 ((W (p1 - 1)))) rfl)) ?_
      refine ASL.q (v := (.bool (!(impl_inRange a11 0 ((W (p1 - 1))))))) rfl rfl (Light.quiet (opNot rfl rfl)) ?_
      refine ASL.done ?_
      refine AWP.ifB hF rfl (fun hc9 hF => ?_) (fun hc9 hF => ?_)
      · skip
        refine AWP.seqR rfl ?_
        refine ASL.q (v := (.bool false)) rfl rfl (Light.quiet (opAssign rfl rfl)) ?_
        refine ASL.done ?_
        refine AWP.ret ?_
        refine QBlock.ret ?_
        refine QThen.rt ?_
        refine QThen.rt ?_
        refine QBlock.ret ?_
        refine QThen.rt ?_
        obtain rfl := (hx3 _ (someE hF).symm)
        have hF := hR6
        have hF := sumR hF
        obtain rfl := someE hF
        exact QRet.sole (v := (.bool false)) ⟨rfl, trivial⟩ rfl
      · skip
        refine AWP.skip ?_
        refine QBlock.nrm ?_
        refine QThen.nrm ?_
        refine AWP.lastR rfl ?_
        refine ASL.q (v := (.int .i64 (W (x9_l0 + 1)))) rfl rfl (Light.quiet (opInt rfl rfl rfl rfl)) ?_
        refine ASL.q (v := (.int .i64 (W (x9_l0 + 1)))) rfl rfl (Light.quiet (opMove rfl rfl)) ?_
        refine ASL.done ?_
        refine QThen.nrm ?_
        exact ⟨(W (x9_l0 + 1)), (), (someE hF).symm, ⟨rfl, rfl, rfl, rfl, trivial⟩, (hS.pick [] rfl rfl)⟩
    · skip
      refine AWP.exit ?_
      refine QThen.ext ?_
      refine QThen.ext ?_
      refine QBlock.hit ?_
      obtain rfl := (hx3 _ (someE hF).symm)
      have hF := hR6
      have hF := sumL hF
      refine QThen.nrm ?_
      exact ⟨trivial, (hS.pick [] rfl rfl), hF⟩

set_option maxRecDepth 10000 in
theorem impl_WordOk_ok {p0 : TWord} {p1 : Int} {r : Bool} (hF : impl_WordOk p0 p1 = some r) : PC Try.prog 103 [(TWord.av p0), (.int .i64 p1)] fun v => v = (.bool r) := by
  refine PC.enter Try.func103 rfl Try.ntmps103 (by simp) ?_
  have hS := Sep.void; unfold impl_WordOk at hF
  refine AWP.seqR rfl ?_
  refine ASL.q (v := (.rptr [(.list 1 (List.map (AV.int .i64) p0.stem)), (.list 1 (List.map (AV.int .i64) p0.loop))])) rfl rfl ((qBoxI (v := (TWord.av p0)) rfl rfl rfl rfl)) ?_
  refine ASL.q (v := (.bool false)) rfl rfl (Light.quiet (opAssign rfl rfl)) ?_
  refine ASL.done ?_
  refine AWP.seq ?_
  refine AWP.seqR rfl ?_
  refine ASL.q (v := (.int .i64 p1)) rfl rfl (Light.quiet (opMove rfl rfl)) ?_
  refine ASL.q (v := (.bool (impl_isLetters p1))) rfl rfl ((qCall rfl rfl call_120 (impl_isLetters_ok p1) rfl)) ?_
  refine ASL.q (v := (.bool (!(impl_isLetters p1)))) rfl rfl (Light.quiet (opNot rfl rfl)) ?_
  obtain ⟨c8, hc8, hF⟩ := bndE hF
  refine ASL.q (v := (.bool c8)) rfl rfl ((Quiet.cast (Light.quiet (opMove rfl rfl)) (congrArg AV.bool hc8.symm))) ?_
  refine ASL.g (v := (.rptr [(.list 1 (List.map (AV.int .i64) p0.stem)), (.list 1 (List.map (AV.int .i64) p0.loop))])) (.bool c8) false rfl (wF _) rfl (fun hG => by have q0 := gN hG; subst q0; exact Light.quiet (opFieldAddrR rfl fieldA_41_0 rfl rfl)) ?_
  refine ASL.g (v := (.list 1 (List.map (AV.int .i64) p0.stem))) (.bool c8) false rfl (wF _) rfl (fun hG => by have q0 := gN hG; subst q0; exact Light.quiet (opLoadR rfl aggA_32 rfl rfl)) ?_
  refine ASL.g (v := (.int .i64 (p0.stem.length : Int))) (.bool c8) false rfl (wF _) rfl (fun hG => by have q0 := gN hG; subst q0; exact Light.quiet (opLenMap (f := (AV.int .i64)) rfl rfl rfl lenT_32 rfl)) ?_
  refine ASL.g (v := (.bool (decide (((p0.stem.length : Int)) > 40)))) (.bool c8) false rfl (wF _) rfl (fun hG => by have q0 := gN hG; subst q0; exact Light.quiet (opInt rfl rfl rfl rfl)) ?_
  refine ASL.q (v := (.bool (c8 || (decide (((p0.stem.length : Int)) > 40))))) rfl rfl (Light.quiet (opPick (b := c8) rfl rfl (by cases c8 <;> rfl))) ?_
  obtain ⟨c14, hc14, hF⟩ := bndE hF
  refine ASL.q (v := (.bool c14)) rfl rfl ((Quiet.cast (Light.quiet (opMove rfl rfl)) (congrArg AV.bool hc14.symm))) ?_
  refine ASL.g (v := (.rptr [(.list 1 (List.map (AV.int .i64) p0.loop))])) (.bool c14) false rfl (wF _) rfl (fun hG => by have q0 := gN hG; subst q0; exact Light.quiet (opFieldAddrR rfl fieldA_41_1 rfl rfl)) ?_
  refine ASL.g (v := (.list 1 (List.map (AV.int .i64) p0.loop))) (.bool c14) false rfl (wF _) rfl (fun hG => by have q0 := gN hG; subst q0; exact Light.quiet (opLoadR rfl aggA_32 rfl rfl)) ?_
  refine ASL.g (v := (.int .i64 (p0.loop.length : Int))) (.bool c14) false rfl (wF _) rfl (fun hG => by have q0 := gN hG; subst q0; exact Light.quiet (opLenMap (f := (AV.int .i64)) rfl rfl rfl lenT_32 rfl)) ?_
  refine ASL.g (v := (.bool (impl_inRange ((p0.loop.length : Int)) 1 40))) (.bool c14) false rfl (wF _) rfl (fun hG => by have q0 := gN hG; subst q0; exact (qCall rfl rfl call_90 (impl_inRange_ok ((p0.loop.length : Int)) 1 40) rfl)) ?_
  refine ASL.g (v := (.bool (!(impl_inRange ((p0.loop.length : Int)) 1 40)))) (.bool c14) false rfl (wF _) rfl (fun hG => by have q0 := gN hG; subst q0; exact Light.quiet (opNot rfl rfl)) ?_
  refine ASL.q (v := (.bool (c14 || (!(impl_inRange ((p0.loop.length : Int)) 1 40))))) rfl rfl (Light.quiet (opPick (b := c14) rfl rfl (by cases c14 <;> rfl))) ?_
  refine ASL.done ?_
  refine AWP.ifB hF rfl (fun hc1 hF => ?_) (fun hc1 hF => ?_)
  · skip
    refine AWP.seqR rfl ?_
    refine ASL.q (v := (.bool false)) rfl rfl (Light.quiet (opAssign rfl rfl)) ?_
    refine ASL.done ?_
    refine AWP.ret ?_
    refine QThen.rt ?_
    obtain rfl := someE hF
    exact QRet.sole (v := (.bool false)) ⟨rfl, trivial⟩ rfl
  · skip
    refine AWP.skip ?_
    refine QThen.nrm ?_
    refine AWP.seqR rfl ?_
    refine ASL.q (v := (.rptr [(.list 1 (List.map (AV.int .i64) p0.stem)), (.list 1 (List.map (AV.int .i64) p0.loop))])) rfl rfl (Light.quiet (opFieldAddrR rfl fieldA_41_0 rfl rfl)) ?_
    refine ASL.q (v := (.list 1 (List.map (AV.int .i64) p0.stem))) rfl rfl (Light.quiet (opLoadR rfl aggA_32 rfl rfl)) ?_
    refine ASL.q (v := (.int .i64 p1)) rfl rfl (Light.quiet (opMove rfl rfl)) ?_
    obtain ⟨a24, ha24, hF⟩ := bindE hF
    refine ASL.q (v := (.bool a24)) rfl rfl ((qCall rfl rfl call_121 (impl_areLetters_ok ha24) rfl)) ?_
    refine ASL.q (v := (.bool a24)) rfl rfl (Light.quiet (opMove rfl rfl)) ?_
    refine ASL.g (v := (.rptr [(.list 1 (List.map (AV.int .i64) p0.loop))])) (.bool a24) true rfl (wT _) rfl (fun hG => by have q0 := hG; subst q0; exact Light.quiet (opFieldAddrR rfl fieldA_41_1 rfl rfl)) ?_
    refine ASL.g (v := (.list 1 (List.map (AV.int .i64) p0.loop))) (.bool a24) true rfl (wT _) rfl (fun hG => by have q0 := hG; subst q0; exact Light.quiet (opLoadR rfl aggA_32 rfl rfl)) ?_
    refine ASL.g (v := (.int .i64 p1)) (.bool a24) true rfl (wT _) rfl (fun hG => by have q0 := hG; subst q0; exact Light.quiet (opMove rfl rfl)) ?_
    obtain ⟨a29, ha29, hF⟩ := bindE hF
    refine ASL.g (v := (.bool a29)) (.bool a24) true rfl (wT _) rfl (fun hG => by have q0 := hG; subst q0; exact (qCall rfl rfl call_121 (impl_areLetters_ok (whenE ha29)) rfl)) ?_
    refine ASL.q (v := (.bool (a24 && a29))) rfl rfl (Light.quiet (opPick (b := a24) rfl rfl (by cases a24 <;> rfl))) ?_
    refine ASL.q (v := (.bool (a24 && a29))) rfl rfl (Light.quiet (opAssign rfl rfl)) ?_
    refine ASL.done ?_
    refine AWP.ret ?_
    obtain rfl := someE hF
    exact QRet.sole (v := (.bool (a24 && a29))) ⟨rfl, trivial⟩ rfl

set_option maxRecDepth 10000 in
theorem impl_isRight_ok {p0 : TWord} {r : Bool} (hF : impl_isRight p0 = some r) : PC Try.prog 67 [(TWord.av p0)] fun v => v = (.bool r) := by
  refine PC.enter Try.func67 rfl Try.ntmps67 (by simp) ?_
  have hS := Sep.void; unfold impl_isRight at hF
  refine AWP.seqR rfl ?_
  refine ASL.q (v := (.rptr [(.list 1 (List.map (AV.int .i64) p0.stem)), (.list 1 (List.map (AV.int .i64) p0.loop))])) rfl rfl ((qBoxI (v := (TWord.av p0)) rfl rfl rfl rfl)) ?_
  refine ASL.q (v := (.bool false)) rfl rfl (Light.quiet (opAssign rfl rfl)) ?_
  refine ASL.done ?_
  refine AWP.seqR rfl ?_
  refine ASL.q (v := (TWord.av p0)) rfl rfl (Light.quiet (opLoadRA rfl aggA_41 sizeA_41 rfl (nlt rfl) rfl)) ?_
  obtain ⟨a4, ha4, hF⟩ := bindE hF
  refine ASL.q (v := (.bool a4)) rfl rfl ((qCall rfl rfl call_103 (impl_WordOk_ok ha4) rfl)) ?_
  refine ASL.q (v := (.bool a4)) rfl rfl (Light.quiet (opAssign rfl rfl)) ?_
  refine ASL.done ?_
  refine AWP.ret ?_
  obtain rfl := someE hF
  exact QRet.sole (v := (.bool a4)) ⟨rfl, trivial⟩ rfl

set_option maxRecDepth 10000 in
theorem impl_Word_places_ok (p0 : TWord) : PC Try.prog 122 [(.rptr [(.list 1 (List.map (AV.int .i64) p0.stem)), (.list 1 (List.map (AV.int .i64) p0.loop))])] fun v => v = (.int .i64 (impl_Word_places p0)) := by
  generalize hF : impl_Word_places p0 = r
  refine PC.enter Try.func122 rfl Try.ntmps122 (by simp) ?_
  have hS := Sep.void; unfold impl_Word_places at hF
  refine AWP.seqR rfl ?_
  refine ASL.q (v := (.int .i64 0)) rfl rfl (Light.quiet (opAssign rfl rfl)) ?_
  refine ASL.done ?_
  refine AWP.seqD [(0, false), (1, false), (2, false), (3, false), (4, false), (5, false), (6, false), (7, false), (8, false), (9, false), (10, false), (11, false)] mixed (by kernel_rfl) rfl ?_
  refine ARL.q0 (v := (.rptr [(.list 1 (List.map (AV.int .i64) p0.stem)), (.list 1 (List.map (AV.int .i64) p0.loop))])) rfl rfl (Light.quiet (opMove rfl rfl)) ?_
  refine ARL.q0 (v := (.rptr [(.list 1 (List.map (AV.int .i64) p0.stem)), (.list 1 (List.map (AV.int .i64) p0.loop))])) rfl rfl (Light.quiet (opNil rfl rfl rfl)) ?_
  refine ARL.q0 (v := (.rptr [(.list 1 (List.map (AV.int .i64) p0.stem)), (.list 1 (List.map (AV.int .i64) p0.loop))])) rfl rfl (Light.quiet (opFieldAddrR rfl fieldA_41_0 rfl rfl)) ?_
  refine ARL.q0 (v := (.list 1 (List.map (AV.int .i64) p0.stem))) rfl rfl (Light.quiet (opLoadR rfl aggA_32 rfl rfl)) ?_
  refine ARL.q0 (v := (.int .i64 (p0.stem.length : Int))) rfl rfl (Light.quiet (opLenMap (f := (AV.int .i64)) rfl rfl rfl lenT_32 rfl)) ?_
  refine ARL.q0 (v := (.rptr [(.list 1 (List.map (AV.int .i64) p0.stem)), (.list 1 (List.map (AV.int .i64) p0.loop))])) rfl rfl (Light.quiet (opMove rfl rfl)) ?_
  refine ARL.q0 (v := (.rptr [(.list 1 (List.map (AV.int .i64) p0.stem)), (.list 1 (List.map (AV.int .i64) p0.loop))])) rfl rfl (Light.quiet (opNil rfl rfl rfl)) ?_
  refine ARL.q0 (v := (.rptr [(.list 1 (List.map (AV.int .i64) p0.loop))])) rfl rfl (Light.quiet (opFieldAddrR rfl fieldA_41_1 rfl rfl)) ?_
  refine ARL.q0 (v := (.list 1 (List.map (AV.int .i64) p0.loop))) rfl rfl (Light.quiet (opLoadR rfl aggA_32 rfl rfl)) ?_
  refine ARL.q0 (v := (.int .i64 (p0.loop.length : Int))) rfl rfl (Light.quiet (opLenMap (f := (AV.int .i64)) rfl rfl rfl lenT_32 rfl)) ?_
  refine ARL.q0 (v := (.int .i64 (W (((p0.stem.length : Int)) + ((p0.loop.length : Int)))))) rfl rfl (Light.quiet (opInt rfl rfl rfl rfl)) ?_
  refine ARL.q0 (v := (.int .i64 (W (((p0.stem.length : Int)) + ((p0.loop.length : Int)))))) rfl rfl (Light.quiet (opAssign rfl rfl)) ?_
  refine ARL.done ?_
  refine AWP.ret ?_
  obtain rfl := hF
  exact QRet.sole (v := (.int .i64 (W (((p0.stem.length : Int)) + ((p0.loop.length : Int)))))) ⟨rfl, trivial⟩ rfl

set_option maxRecDepth 10000 in
theorem impl_Word_next_ok (p0 : TWord) (p1 : Int) : PC Try.prog 123 [(.rptr [(.list 1 (List.map (AV.int .i64) p0.stem)), (.list 1 (List.map (AV.int .i64) p0.loop))]), (.int .i64 p1)] fun v => v = (.int .i64 (impl_Word_next p0 p1)) := by
  generalize hF : impl_Word_next p0 p1 = r
  refine PC.enter Try.func123 rfl Try.ntmps123 (by simp) ?_
  have hS := Sep.void; unfold impl_Word_next at hF
  refine AWP.seqR rfl ?_
  refine ASL.q (v := (.int .i64 0)) rfl rfl (Light.quiet (opAssign rfl rfl)) ?_
  refine ASL.done ?_
  refine AWP.seq ?_
  refine AWP.seqR rfl ?_
  refine ASL.q (v := (.int .i64 p1)) rfl rfl (Light.quiet (opMove rfl rfl)) ?_
  refine ASL.q (v := (.int .i64 (W (p1 + 1)))) rfl rfl (Light.quiet (opInt rfl rfl rfl rfl)) ?_
  refine ASL.q (v := (.rptr [(.list 1 (List.map (AV.int .i64) p0.stem)), (.list 1 (List.map (AV.int .i64) p0.loop))])) rfl rfl (Light.quiet (opMove rfl rfl)) ?_
  refine ASL.q (v := (.int .i64 (impl_Word_places p0))) rfl rfl ((qCall rfl rfl call_122 (impl_Word_places_ok p0) rfl)) ?_
  refine ASL.q (v := (.bool (decide (((W (p1 + 1))) = ((impl_Word_places p0)))))) rfl rfl (Light.quiet (opInt rfl rfl rfl rfl)) ?_
  refine ASL.done ?_
  refine AWP.ifP hF rfl (fun hc1 hF => ?_) (fun hc1 hF => ?_)
  · skip
    refine AWP.seqR rfl ?_
    refine ASL.q (v := (.rptr [(.list 1 (List.map (AV.int .i64) p0.stem)), (.list 1 (List.map (AV.int .i64) p0.loop))])) rfl rfl (Light.quiet (opMove rfl rfl)) ?_
    refine ASL.q (v := (.rptr [(.list 1 (List.map (AV.int .i64) p0.stem)), (.list 1 (List.map (AV.int .i64) p0.loop))])) rfl rfl (Light.quiet (opNil rfl rfl rfl)) ?_
    refine ASL.q (v := (.rptr [(.list 1 (List.map (AV.int .i64) p0.stem)), (.list 1 (List.map (AV.int .i64) p0.loop))])) rfl rfl (Light.quiet (opFieldAddrR rfl fieldA_41_0 rfl rfl)) ?_
    refine ASL.q (v := (.list 1 (List.map (AV.int .i64) p0.stem))) rfl rfl (Light.quiet (opLoadR rfl aggA_32 rfl rfl)) ?_
    refine ASL.q (v := (.int .i64 (p0.stem.length : Int))) rfl rfl (Light.quiet (opLenMap (f := (AV.int .i64)) rfl rfl rfl lenT_32 rfl)) ?_
    refine ASL.q (v := (.int .i64 (p0.stem.length : Int))) rfl rfl (Light.quiet (opAssign rfl rfl)) ?_
    refine ASL.done ?_
    refine AWP.ret ?_
    refine QThen.rt ?_
    obtain rfl := hF
    exact QRet.sole (v := (.int .i64 (p0.stem.length : Int))) ⟨rfl, trivial⟩ rfl
  · skip
    refine AWP.skip ?_
    refine QThen.nrm ?_
    refine AWP.seqR rfl ?_
    refine ASL.q (v := (.int .i64 p1)) rfl rfl (Light.quiet (opMove rfl rfl)) ?_
    refine ASL.q (v := (.int .i64 (W (p1 + 1)))) rfl rfl (Light.quiet (opInt rfl rfl rfl rfl)) ?_
    refine ASL.q (v := (.int .i64 (W (p1 + 1)))) rfl rfl (Light.quiet (opAssign rfl rfl)) ?_
    refine ASL.done ?_
    refine AWP.ret ?_
    obtain rfl := hF
    exact QRet.sole (v := (.int .i64 (W (p1 + 1)))) ⟨rfl, trivial⟩ rfl

end Go.Proofs.Ytjjlkncefgfljaa
