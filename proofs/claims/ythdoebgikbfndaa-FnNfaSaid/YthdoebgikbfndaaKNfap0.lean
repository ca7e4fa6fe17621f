/- Each of these functions of the program comes to just what its plain function says: FnNfa. -/
import Derived.Test.YthdoebgikbfndaaDNfa
import Derived.Test.YthdoebgikbfndaaFa
import Derived.Test.YthdoebgikbfndaaSL127
namespace Go.Proofs.Ythdoebgikbfndaa
open Go Go.RowKit E
set_option linter.unusedVariables false
set_option maxRecDepth 10000 in
theorem laws_big_ok (p0 : (List Int)) : PC Try.prog 20 [(.list 1 (List.map (AV.int .u8) p0))] fun v => v = (.bool (laws_big p0)) := by
  generalize hF : laws_big p0 = r
  refine PC.enter Try.func20 rfl Try.ntmps20 (by simp) ?_
  have hS := Sep.void; unfold laws_big at hF
  refine AWP.seqR rfl ?_
  refine ASL.q (v := (.bool false)) rfl rfl (Light.quiet (opAssign rfl rfl)) ?_
  refine ASL.done ?_
  refine AWP.seqR rfl ?_
  refine ASL.q (v := (.list 1 (List.map (AV.int .u8) p0))) rfl rfl (Light.quiet (opMove rfl rfl)) ?_
  refine ASL.q (v := (.int .i64 (p0.length : Int))) rfl rfl (Light.quiet (opLenMap (f := (AV.int .u8)) rfl rfl rfl lenT_45 rfl)) ?_
  refine ASL.q (v := (.bool (decide (((p0.length : Int)) > 1048576)))) rfl rfl (Light.quiet (opInt rfl rfl rfl rfl)) ?_
  refine ASL.q (v := (.bool (decide (((p0.length : Int)) > 1048576)))) rfl rfl (Light.quiet (opAssign rfl rfl)) ?_
  refine ASL.done ?_
  refine AWP.ret ?_
  obtain rfl := hF
  exact QRet.sole (v := (.bool (decide (((p0.length : Int)) > 1048576)))) ⟨rfl, trivial⟩ rfl

set_option maxRecDepth 10000 in
theorem spec_l1New_ok {p0 : (List Int)} {r : Tl1Cur} (hF : spec_l1New p0 = some r) : HS Try.prog 60 [(.list 1 (List.map (AV.int .u8) p0))] [] fun v L' => ∃ o0 : Nat, v = (.ptr o0 0) ∧ L' = [.cell o0 [(.list 1 (List.map (AV.int .u8) r.b)), (.int .i64 r.i), (.int .i64 r.h)]] := by
  intro H S hS
  refine HC.enter Try.func60 rfl Try.ntmps60 (by simp) ?_
  simp only [List.cons_append, List.nil_append] at hS
  unfold spec_l1New at hF
  refine AWP.seqR rfl ?_
  refine ASL.q (v := .nilptr) rfl rfl (Light.quiet (opAssign rfl rfl)) ?_
  refine ASL.done ?_
  refine AWP.seqR rfl ?_
  refine ASL.q (v := (.list 1 (List.map (AV.int .u8) p0))) rfl rfl (Light.quiet (opMove rfl rfl)) ?_
  refine ASL.q (v := (.int .i64 (p0.length : Int))) rfl rfl (Light.quiet (opLenMap (f := (AV.int .u8)) rfl rfl rfl lenT_45 rfl)) ?_
  refine ASL.q (v := (.int .i64 (W (10277 + ((p0.length : Int)))))) rfl rfl (Light.quiet (opInt rfl rfl rfl rfl)) ?_
  refine ASL.q (v := (.int .i64 (W (10277 + ((p0.length : Int)))))) rfl rfl (Light.quiet (opAssign rfl rfl)) ?_
  refine ASL.done ?_
  refine AWP.seqM (fun e H => ∃ x3_1 : Int, E.Told e [(0, (.list 1 (List.map (AV.int .u8) p0))), (3, (.int .i64 x3_1))] ∧ E.Sep H [.snap S] ∧ spec_l1New.k0 p0 x3_1 = some r) ?_ ?_
  · rintro e0 G3 ⟨x3_1, hT, hS, hF⟩; refine AWP.only _ hT ?_; unfold spec_l1New.k0 at hF
    refine AWP.seqR rfl ?_
    refine ASL.q (v := (.list 1 (List.map (AV.int .u8) p0))) rfl rfl (Light.quiet (opMove rfl rfl)) ?_
    refine ASL.q (v := (.int .i64 x3_1)) rfl rfl (Light.quiet (opMove rfl rfl)) ?_
    refine ASL.q (v := (.agg [(.list 1 (List.map (AV.int .u8) p0)), (.int .i64 0), (.int .i64 x3_1)])) rfl rfl (Light.quiet (opBuildZ (zs := [(.list 1 (List.map (AV.int .u8) [])), (.int .i64 0), (.int .i64 0)]) rfl plan_119 zeroA_119 ⟨.inr ⟨_, rfl, rfl⟩, .inl rfl, .inl rfl, trivial⟩ rfl)) ?_
    refine ASL.x rfl rfl (hBox hS rfl rfl rfl ?_); rintro b31 G1 hK hS
    refine ASL.q (v := (.ptr b31 0)) rfl rfl (Light.quiet (opAssign rfl rfl)) ?_
    refine ASL.done ?_
    refine AWP.ret ?_
    obtain rfl := someE hF
    exact QRet.sole (v := (.ptr b31 0)) ⟨rfl, trivial⟩ ⟨_, ⟨b31, rfl, rfl⟩, hS.pick [0, 1] rfl rfl⟩
  · skip
    refine AWP.seqR rfl ?_
    refine ASL.q (v := (.int .i64 0)) rfl rfl (Light.quiet (opAssign rfl rfl)) ?_
    refine ASL.done ?_
    refine AWP.block ?_
    obtain ⟨o7, hL6, hR8⟩ := bindE hF
    refine AWP.loopF (ω := Unit) hL6 (fun s w => [(0, (.list 1 (List.map (AV.int .u8) p0))), (3, (.int .i64 s.1)), (4, (.int .i64 s.2))]) (fun s w => [.snap S]) () ⟨rfl, rfl, rfl, trivial⟩ (hS.pick [0] rfl rfl) ?_
    rintro ⟨x3_l0, x4_l0⟩ _ G9 hS x4 hF hx5
    try dsimp only at hS ⊢
    have hF : spec_l1New.b0 p0 x3_l0 x4_l0 = some x4 := hF; unfold spec_l1New.b0 at hF
    refine AWP.seq ?_
    refine AWP.seqR rfl ?_
    refine ASL.q (v := (.int .i64 x4_l0)) rfl rfl (Light.quiet (opMove rfl rfl)) ?_
    refine ASL.q (v := (.list 1 (List.map (AV.int .u8) p0))) rfl rfl (Light.quiet (opMove rfl rfl)) ?_
    refine ASL.q (v := (.int .i64 (p0.length : Int))) rfl rfl (Light.quiet (opLenMap (f := (AV.int .u8)) rfl rfl rfl lenT_45 rfl)) ?_
    refine ASL.q (v := (.bool (decide (x4_l0 < ((p0.length : Int)))))) rfl rfl (Light.quiet (opInt rfl rfl rfl rfl)) ?_
    obtain ⟨c12, hc12, hF⟩ := bndE hF
    refine ASL.q (v := (.bool c12)) rfl rfl ((Quiet.cast (Light.quiet (opMove rfl rfl)) (congrArg AV.bool hc12.symm))) ?_
    refine ASL.g (v := (.int .i64 x4_l0)) (.bool c12) true rfl (wT _) rfl (fun hG => by have q0 := hG; subst q0; exact Light.quiet (opMove rfl rfl)) ?_
    refine ASL.g (v := (.bool (decide (x4_l0 < 4000)))) (.bool c12) true rfl (wT _) rfl (fun hG => by have q0 := hG; subst q0; exact Light.quiet (opInt rfl rfl rfl rfl)) ?_
    refine ASL.q (v := (.bool (c12 && (decide (x4_l0 < 4000))))) rfl rfl (Light.quiet (opPick (b := c12) rfl rfl (by cases c12 <;> rfl))) ?_
    refine ASL.done ?_
    refine AWP.ifB hF rfl (fun hc10 hF => ?_) (fun hc10 hF => ?_)
    · skip
      refine AWP.skip ?_
      refine QThen.nrm ?_
      refine AWP.seq ?_
      refine AWP.block ?_
      refine AWP.lastR rfl ?_
      refine ASL.q (v := (.int .i64 x3_l0)) rfl rfl (Light.quiet (opMove rfl rfl)) ?_
      refine ASL.q (v := (.int .i64 (W (x3_l0 * 131)))) rfl rfl (Light.quiet (opInt rfl rfl rfl rfl)) ?_
      refine ASL.q (v := (.list 1 (List.map (AV.int .u8) p0))) rfl rfl (Light.quiet (opMove rfl rfl)) ?_
      refine ASL.q (v := (.int .i64 x4_l0)) rfl rfl (Light.quiet (opMove rfl rfl)) ?_
      obtain ⟨a22, ha22, hF⟩ := bindE hF
      refine ASL.q (v := (.rptr [(.int .u8 a22)])) rfl rfl (Light.quiet (kIx (f := (AV.int .u8)) ha22 rfl rfl rfl elemA_45 sizeA_5 rfl)) ?_
      refine ASL.q (v := (.int .u8 a22)) rfl rfl (Light.quiet (opLoadR rfl aggA_5 rfl rfl)) ?_
      refine ASL.q (v := (.int .i64 (IntKind.i64.wrap a22))) rfl rfl (Light.quiet (opConv rfl rfl und_5 und_3 rfl)) ?_
      refine ASL.q (v := (.int .i64 (W (((W (x3_l0 * 131))) + ((IntKind.i64.wrap a22)))))) rfl rfl (Light.quiet (opInt rfl rfl rfl rfl)) ?_
      refine ASL.q (v := (.int .i64 (W (((W (((W (x3_l0 * 131))) + ((IntKind.i64.wrap a22))))) + 7)))) rfl rfl (Light.quiet (opInt rfl rfl rfl rfl)) ?_
      refine ASL.q (v := (.int .i64 (bAnd .i64 ((W (((W (((W (x3_l0 * 131))) + ((IntKind.i64.wrap a22))))) + 7))) 1073741823))) rfl rfl (Light.quiet (opInt rfl rfl rfl rfl)) ?_
      refine ASL.q (v := (.int .i64 (bAnd .i64 ((W (((W (((W (x3_l0 * 131))) + ((IntKind.i64.wrap a22))))) + 7))) 1073741823))) rfl rfl (Light.quiet (opAssign rfl rfl)) ?_
      refine ASL.done ?_
      refine QBlock.nrm ?_
      refine QThen.nrm ?_
      refine AWP.lastR rfl ?_
      refine ASL.q (v := (.int .i64 x4_l0)) rfl rfl (Light.quiet (opMove rfl rfl)) ?_
      refine ASL.q (v := (.int .i64 (W (x4_l0 + 1)))) rfl rfl (Light.quiet (opInt rfl rfl rfl rfl)) ?_
      refine ASL.q (v := (.int .i64 (W (x4_l0 + 1)))) rfl rfl (Light.quiet (opAssign rfl rfl)) ?_
      refine ASL.done ?_
      refine QThen.nrm ?_
      exact ⟨((bAnd .i64 ((W (((W (((W (x3_l0 * 131))) + ((IntKind.i64.wrap a22))))) + 7))) 1073741823), (W (x4_l0 + 1))), (), (someE hF).symm, ⟨rfl, rfl, rfl, trivial⟩, (hS.pick [0] rfl rfl)⟩
    · skip
      refine AWP.exit ?_
      refine QThen.ext ?_
      refine QThen.ext ?_
      refine QBlock.hit ?_
      obtain rfl := (hx5 _ (someE hF).symm)
      have hF := hR8
      refine QThen.nrm ?_
      exact ⟨x3_l0, ⟨rfl, rfl, trivial⟩, (hS.pick [0] rfl rfl), hF⟩

set_option maxRecDepth 10000 in
theorem spec_l1Byte_ok {p0 : Tl1Cur} {r : (Int × Tl1Cur)} {bp0 : Nat} (hF : spec_l1Byte p0 = some r) : HS Try.prog 101 [(.ptr bp0 0)] [.cell bp0 [(.list 1 (List.map (AV.int .u8) p0.b)), (.int .i64 p0.i), (.int .i64 p0.h)]] fun v L' => v = (.int .i64 r.1) ∧ L' = [.cell bp0 [(.list 1 (List.map (AV.int .u8) r.2.b)), (.int .i64 r.2.i), (.int .i64 r.2.h)]] := by
  intro H S hS
  refine HC.enter Try.func101 rfl Try.ntmps101 (by simp) ?_
  simp only [List.cons_append, List.nil_append] at hS
  unfold spec_l1Byte at hF
  refine AWP.seqR rfl ?_
  refine ASL.q (v := (.int .i64 0)) rfl rfl (Light.quiet (opAssign rfl rfl)) ?_
  refine ASL.done ?_
  refine AWP.seqR rfl ?_
  refine ASL.q (v := (.ptr bp0 0)) rfl rfl (Light.quiet (opMove rfl rfl)) ?_
  refine ASL.q (v := (.ptr bp0 0)) rfl rfl (Light.quiet (opMove rfl rfl)) ?_
  refine ASL.q (v := (.ptr bp0 0)) rfl rfl (Light.quiet (opNil rfl rfl rfl)) ?_
  refine ASL.q (v := (.ptr bp0 2)) rfl rfl (Light.quiet (opFieldAddr rfl fieldA_119_2 rfl rfl)) ?_
  refine ASL.q (v := (.int .i64 p0.h)) rfl rfl (Light.quiet (kAt hS (j := 0) rfl rfl aggA_3 rfl rfl)) ?_
  refine ASL.q (v := (.int .i64 (W (p0.h * 6364136223846793005)))) rfl rfl (Light.quiet (opInt rfl rfl rfl rfl)) ?_
  refine ASL.q (v := (.int .i64 (W (((W (p0.h * 6364136223846793005))) + 1442695040888963407)))) rfl rfl (Light.quiet (opInt rfl rfl rfl rfl)) ?_
  refine ASL.q (v := (.ptr bp0 0)) rfl rfl (Light.quiet (opNil rfl rfl rfl)) ?_
  refine ASL.q (v := (.ptr bp0 2)) rfl rfl (Light.quiet (opFieldAddr rfl fieldA_119_2 rfl rfl)) ?_
  refine ASL.n rfl rfl (hPut hS (j := 0) rfl rfl sizeA_3 rfl rfl rfl (nlt rfl) ?_); rintro G2 hS
  refine ASL.done ?_
  refine AWP.seqD [(0, false), (1, false), (2, false), (3, false), (4, false), (5, false), (6, false), (7, false), (8, false), (9, false), (10, false), (11, false), (12, false)] mixed (by kernel_rfl) rfl ?_
  refine ARL.q0 (v := (.ptr bp0 0)) rfl rfl (Light.quiet (opMove rfl rfl)) ?_
  refine ARL.q0 (v := (.ptr bp0 0)) rfl rfl (Light.quiet (opNil rfl rfl rfl)) ?_
  refine ARL.q0 (v := (.ptr bp0 2)) rfl rfl (Light.quiet (opFieldAddr rfl fieldA_119_2 rfl rfl)) ?_
  refine ARL.q (v := (.int .i64 (W (((W (p0.h * 6364136223846793005))) + 1442695040888963407)))) rfl rfl (hS.aliveC (k := 0) rfl) (Light.quiet (kAt hS (j := 0) rfl rfl aggA_3 rfl rfl)) ?_
  refine ARL.q0 (v := (.int .i64 (shr .i64 ((W (((W (p0.h * 6364136223846793005))) + 1442695040888963407))) 33))) rfl rfl (Light.quiet (opShr rfl rfl rfl (by decide) rfl)) ?_
  refine ARL.q0 (v := (.ptr bp0 0)) rfl rfl (Light.quiet (opMove rfl rfl)) ?_
  refine ARL.q0 (v := (.ptr bp0 0)) rfl rfl (Light.quiet (opNil rfl rfl rfl)) ?_
  refine ARL.q0 (v := (.ptr bp0 2)) rfl rfl (Light.quiet (opFieldAddr rfl fieldA_119_2 rfl rfl)) ?_
  refine ARL.q (v := (.int .i64 (W (((W (p0.h * 6364136223846793005))) + 1442695040888963407)))) rfl rfl (hS.aliveC (k := 0) rfl) (Light.quiet (kAt hS (j := 0) rfl rfl aggA_3 rfl rfl)) ?_
  refine ARL.q0 (v := (.int .i64 (shr .i64 ((W (((W (p0.h * 6364136223846793005))) + 1442695040888963407))) 45))) rfl rfl (Light.quiet (opShr rfl rfl rfl (by decide) rfl)) ?_
  refine ARL.q0 (v := (.int .i64 (bXor .i64 ((shr .i64 ((W (((W (p0.h * 6364136223846793005))) + 1442695040888963407))) 33)) ((shr .i64 ((W (((W (p0.h * 6364136223846793005))) + 1442695040888963407))) 45))))) rfl rfl (Light.quiet (opInt rfl rfl rfl rfl)) ?_
  refine ARL.q0 (v := (.int .i64 (bAnd .i64 ((bXor .i64 ((shr .i64 ((W (((W (p0.h * 6364136223846793005))) + 1442695040888963407))) 33)) ((shr .i64 ((W (((W (p0.h * 6364136223846793005))) + 1442695040888963407))) 45)))) 255))) rfl rfl (Light.quiet (opInt rfl rfl rfl rfl)) ?_
  refine ARL.q0 (v := (.int .i64 (bAnd .i64 ((bXor .i64 ((shr .i64 ((W (((W (p0.h * 6364136223846793005))) + 1442695040888963407))) 33)) ((shr .i64 ((W (((W (p0.h * 6364136223846793005))) + 1442695040888963407))) 45)))) 255))) rfl rfl (Light.quiet (opAssign rfl rfl)) ?_
  refine ARL.done ?_
  refine AWP.seq ?_
  refine AWP.seqD [(0, false), (1, false), (2, false), (3, false), (4, false), (5, false), (6, false), (7, false), (8, false), (9, false)] mixed (by kernel_rfl) rfl ?_
  refine ARL.q0 (v := (.ptr bp0 0)) rfl rfl (Light.quiet (opMove rfl rfl)) ?_
  refine ARL.q0 (v := (.ptr bp0 0)) rfl rfl (Light.quiet (opNil rfl rfl rfl)) ?_
  refine ARL.q0 (v := (.ptr bp0 1)) rfl rfl (Light.quiet (opFieldAddr rfl fieldA_119_1 rfl rfl)) ?_
  refine ARL.q (v := (.int .i64 p0.i)) rfl rfl (hS.aliveC (k := 0) rfl) (Light.quiet (kAt hS (j := 0) rfl rfl aggA_3 rfl rfl)) ?_
  refine ARL.q0 (v := (.ptr bp0 0)) rfl rfl (Light.quiet (opMove rfl rfl)) ?_
  refine ARL.q0 (v := (.ptr bp0 0)) rfl rfl (Light.quiet (opNil rfl rfl rfl)) ?_
  refine ARL.q0 (v := (.ptr bp0 0)) rfl rfl (Light.quiet (opFieldAddr rfl fieldA_119_0 rfl rfl)) ?_
  refine ARL.q (v := (.list 1 (List.map (AV.int .u8) p0.b))) rfl rfl (hS.aliveC (k := 0) rfl) (Light.quiet (kAt hS (j := 0) rfl rfl aggA_45 rfl rfl)) ?_
  refine ARL.q0 (v := (.int .i64 (p0.b.length : Int))) rfl rfl (Light.quiet (opLenMap (f := (AV.int .u8)) rfl rfl rfl lenT_45 rfl)) ?_
  refine ARL.q0 (v := (.bool (decide (p0.i < ((p0.b.length : Int)))))) rfl rfl (Light.quiet (opInt rfl rfl rfl rfl)) ?_
  refine ARL.done ?_
  refine AWP.ifP hF rfl (fun hc3 hF => ?_) (fun hc3 hF => ?_)
  · skip
    refine AWP.seqD [(0, false), (1, false), (2, false), (3, false), (4, false), (5, false), (6, false), (7, false), (8, false), (9, false), (10, false), (11, false), (12, false), (13, false), (14, false)] mixed (by kernel_rfl) rfl ?_
    refine ARL.q0 (v := (.int .i64 (bAnd .i64 ((bXor .i64 ((shr .i64 ((W (((W (p0.h * 6364136223846793005))) + 1442695040888963407))) 33)) ((shr .i64 ((W (((W (p0.h * 6364136223846793005))) + 1442695040888963407))) 45)))) 255))) rfl rfl (Light.quiet (opMove rfl rfl)) ?_
    refine ARL.q0 (v := (.ptr bp0 0)) rfl rfl (Light.quiet (opMove rfl rfl)) ?_
    refine ARL.q0 (v := (.ptr bp0 0)) rfl rfl (Light.quiet (opNil rfl rfl rfl)) ?_
    refine ARL.q0 (v := (.ptr bp0 0)) rfl rfl (Light.quiet (opFieldAddr rfl fieldA_119_0 rfl rfl)) ?_
    refine ARL.q (v := (.list 1 (List.map (AV.int .u8) p0.b))) rfl rfl (hS.aliveC (k := 0) rfl) (Light.quiet (kAt hS (j := 0) rfl rfl aggA_45 rfl rfl)) ?_
    refine ARL.q0 (v := (.ptr bp0 0)) rfl rfl (Light.quiet (opMove rfl rfl)) ?_
    refine ARL.q0 (v := (.ptr bp0 0)) rfl rfl (Light.quiet (opNil rfl rfl rfl)) ?_
    refine ARL.q0 (v := (.ptr bp0 1)) rfl rfl (Light.quiet (opFieldAddr rfl fieldA_119_1 rfl rfl)) ?_
    refine ARL.q (v := (.int .i64 p0.i)) rfl rfl (hS.aliveC (k := 0) rfl) (Light.quiet (kAt hS (j := 0) rfl rfl aggA_3 rfl rfl)) ?_
    obtain ⟨a44, ha44, hF⟩ := bindE hF
    refine ARL.q0 (v := (.rptr [(.int .u8 a44)])) rfl rfl (Light.quiet (kIx (f := (AV.int .u8)) ha44 rfl rfl rfl elemA_45 sizeA_5 rfl)) ?_
    refine ARL.q0 (v := (.int .u8 a44)) rfl rfl (Light.quiet (opLoadR rfl aggA_5 rfl rfl)) ?_
    refine ARL.q0 (v := (.int .i64 (IntKind.i64.wrap a44))) rfl rfl (Light.quiet (opConv rfl rfl und_5 und_3 rfl)) ?_
    refine ARL.q0 (v := (.int .i64 (W (((bAnd .i64 ((bXor .i64 ((shr .i64 ((W (((W (p0.h * 6364136223846793005))) + 1442695040888963407))) 33)) ((shr .i64 ((W (((W (p0.h * 6364136223846793005))) + 1442695040888963407))) 45)))) 255)) + ((IntKind.i64.wrap a44)))))) rfl rfl (Light.quiet (opInt rfl rfl rfl rfl)) ?_
    refine ARL.q0 (v := (.int .i64 (bAnd .i64 ((W (((bAnd .i64 ((bXor .i64 ((shr .i64 ((W (((W (p0.h * 6364136223846793005))) + 1442695040888963407))) 33)) ((shr .i64 ((W (((W (p0.h * 6364136223846793005))) + 1442695040888963407))) 45)))) 255)) + ((IntKind.i64.wrap a44))))) 255))) rfl rfl (Light.quiet (opInt rfl rfl rfl rfl)) ?_
    refine ARL.q0 (v := (.int .i64 (bAnd .i64 ((W (((bAnd .i64 ((bXor .i64 ((shr .i64 ((W (((W (p0.h * 6364136223846793005))) + 1442695040888963407))) 33)) ((shr .i64 ((W (((W (p0.h * 6364136223846793005))) + 1442695040888963407))) 45)))) 255)) + ((IntKind.i64.wrap a44))))) 255))) rfl rfl (Light.quiet (opAssign rfl rfl)) ?_
    refine ARL.done ?_
    refine AWP.lastR rfl ?_
    refine ASL.q (v := (.ptr bp0 0)) rfl rfl (Light.quiet (opMove rfl rfl)) ?_
    refine ASL.q (v := (.ptr bp0 0)) rfl rfl (Light.quiet (opMove rfl rfl)) ?_
    refine ASL.q (v := (.ptr bp0 0)) rfl rfl (Light.quiet (opNil rfl rfl rfl)) ?_
    refine ASL.q (v := (.ptr bp0 1)) rfl rfl (Light.quiet (opFieldAddr rfl fieldA_119_1 rfl rfl)) ?_
    refine ASL.q (v := (.int .i64 p0.i)) rfl rfl (Light.quiet (kAt hS (j := 0) rfl rfl aggA_3 rfl rfl)) ?_
    refine ASL.q (v := (.int .i64 (W (p0.i + 1)))) rfl rfl (Light.quiet (opInt rfl rfl rfl rfl)) ?_
    refine ASL.q (v := (.ptr bp0 0)) rfl rfl (Light.quiet (opNil rfl rfl rfl)) ?_
    refine ASL.q (v := (.ptr bp0 1)) rfl rfl (Light.quiet (opFieldAddr rfl fieldA_119_1 rfl rfl)) ?_
    refine ASL.n rfl rfl (hPut hS (j := 0) rfl rfl sizeA_3 rfl rfl rfl (nlt rfl) ?_); rintro G4 hS
    refine ASL.done ?_
    refine QThen.nrm ?_
    refine AWP.seqR rfl ?_
    refine ASL.q (v := (.int .i64 (bAnd .i64 ((W (((bAnd .i64 ((bXor .i64 ((shr .i64 ((W (((W (p0.h * 6364136223846793005))) + 1442695040888963407))) 33)) ((shr .i64 ((W (((W (p0.h * 6364136223846793005))) + 1442695040888963407))) 45)))) 255)) + ((IntKind.i64.wrap a44))))) 255))) rfl rfl (Light.quiet (opMove rfl rfl)) ?_
    refine ASL.q (v := (.int .i64 (bAnd .i64 ((W (((bAnd .i64 ((bXor .i64 ((shr .i64 ((W (((W (p0.h * 6364136223846793005))) + 1442695040888963407))) 33)) ((shr .i64 ((W (((W (p0.h * 6364136223846793005))) + 1442695040888963407))) 45)))) 255)) + ((IntKind.i64.wrap a44))))) 255))) rfl rfl (Light.quiet (opAssign rfl rfl)) ?_
    refine ASL.done ?_
    refine AWP.ret ?_
    obtain rfl := someE hF
    exact QRet.sole (v := (.int .i64 (bAnd .i64 ((W (((bAnd .i64 ((bXor .i64 ((shr .i64 ((W (((W (p0.h * 6364136223846793005))) + 1442695040888963407))) 33)) ((shr .i64 ((W (((W (p0.h * 6364136223846793005))) + 1442695040888963407))) 45)))) 255)) + ((IntKind.i64.wrap a44))))) 255))) ⟨rfl, trivial⟩ ⟨_, ⟨rfl, rfl⟩, hS.pick [0, 1] rfl rfl⟩
  · skip
    refine AWP.skip ?_
    refine QThen.nrm ?_
    refine AWP.seqR rfl ?_
    refine ASL.q (v := (.int .i64 (bAnd .i64 ((bXor .i64 ((shr .i64 ((W (((W (p0.h * 6364136223846793005))) + 1442695040888963407))) 33)) ((shr .i64 ((W (((W (p0.h * 6364136223846793005))) + 1442695040888963407))) 45)))) 255))) rfl rfl (Light.quiet (opMove rfl rfl)) ?_
    refine ASL.q (v := (.int .i64 (bAnd .i64 ((bXor .i64 ((shr .i64 ((W (((W (p0.h * 6364136223846793005))) + 1442695040888963407))) 33)) ((shr .i64 ((W (((W (p0.h * 6364136223846793005))) + 1442695040888963407))) 45)))) 255))) rfl rfl (Light.quiet (opAssign rfl rfl)) ?_
    refine ASL.done ?_
    refine AWP.ret ?_
    obtain rfl := someE hF
    exact QRet.sole (v := (.int .i64 (bAnd .i64 ((bXor .i64 ((shr .i64 ((W (((W (p0.h * 6364136223846793005))) + 1442695040888963407))) 33)) ((shr .i64 ((W (((W (p0.h * 6364136223846793005))) + 1442695040888963407))) 45)))) 255))) ⟨rfl, trivial⟩ ⟨_, ⟨rfl, rfl⟩, hS.pick [0, 1] rfl rfl⟩

set_option maxRecDepth 10000 in
theorem spec_l1Below_ok {p0 : Tl1Cur} {p1 : Int} {r : (Int × Tl1Cur)} {bp0 : Nat} (hF : spec_l1Below p0 p1 = some r) : HS Try.prog 63 [(.ptr bp0 0), (.int .i64 p1)] [.cell bp0 [(.list 1 (List.map (AV.int .u8) p0.b)), (.int .i64 p0.i), (.int .i64 p0.h)]] fun v L' => v = (.int .i64 r.1) ∧ L' = [.cell bp0 [(.list 1 (List.map (AV.int .u8) r.2.b)), (.int .i64 r.2.i), (.int .i64 r.2.h)]] := by
  intro H S hS
  refine HC.enter Try.func63 rfl Try.ntmps63 (by simp) ?_
  simp only [List.cons_append, List.nil_append] at hS
  unfold spec_l1Below at hF
  refine AWP.seqR rfl ?_
  refine ASL.q (v := (.int .i64 0)) rfl rfl (Light.quiet (opAssign rfl rfl)) ?_
  refine ASL.done ?_
  refine AWP.seq ?_
  refine AWP.seqR rfl ?_
  refine ASL.q (v := (.int .i64 p1)) rfl rfl (Light.quiet (opMove rfl rfl)) ?_
  refine ASL.q (v := (.bool (decide (p1 ≤ 0)))) rfl rfl (Light.quiet (opInt rfl rfl rfl rfl)) ?_
  refine ASL.done ?_
  refine AWP.ifP hF rfl (fun hc2 hF => ?_) (fun hc2 hF => ?_)
  · skip
    refine AWP.seqR rfl ?_
    refine ASL.q (v := (.int .i64 0)) rfl rfl (Light.quiet (opAssign rfl rfl)) ?_
    refine ASL.done ?_
    refine AWP.ret ?_
    refine QThen.rt ?_
    obtain rfl := someE hF
    exact QRet.sole (v := (.int .i64 0)) ⟨rfl, trivial⟩ ⟨_, ⟨rfl, rfl⟩, hS.pick [0, 1] rfl rfl⟩
  · skip
    refine AWP.skip ?_
    refine QThen.nrm ?_
    refine AWP.seq ?_
    refine AWP.seqR rfl ?_
    refine ASL.q (v := (.int .i64 p1)) rfl rfl (Light.quiet (opMove rfl rfl)) ?_
    refine ASL.q (v := (.bool (decide (p1 ≤ 256)))) rfl rfl (Light.quiet (opInt rfl rfl rfl rfl)) ?_
    refine ASL.done ?_
    refine AWP.ifP hF rfl (fun hc3 hF => ?_) (fun hc3 hF => ?_)
    · skip
      refine AWP.seqR rfl ?_
      refine ASL.q (v := (.ptr bp0 0)) rfl rfl (Light.quiet (opMove rfl rfl)) ?_
      obtain ⟨a14, ha14, hF⟩ := bindE hF
      refine ASL.x rfl rfl (hCallS hS [0, 1] (F := [.snap S]) rfl rfl rfl call_101 (spec_l1Byte_ok ha14) rfl rfl ?_); rintro _ _ G4 ⟨rfl, rfl⟩ hS
      refine ASL.q (v := (.int .i64 p1)) rfl rfl (Light.quiet (opMove rfl rfl)) ?_
      obtain ⟨u5, hu5, hF⟩ := bindE hF
      refine ASL.q (v := (.int .i64 (Int.tmod a14.1 p1))) rfl rfl (Light.quiet (opRem rfl rfl rfl (of_decide_eq_true (chkE hu5)) rfl)) ?_
      refine ASL.q (v := (.int .i64 (Int.tmod a14.1 p1))) rfl rfl (Light.quiet (opAssign rfl rfl)) ?_
      refine ASL.done ?_
      refine AWP.ret ?_
      refine QThen.rt ?_
      obtain rfl := someE hF
      exact QRet.sole (v := (.int .i64 (Int.tmod a14.1 p1))) ⟨rfl, trivial⟩ ⟨_, ⟨rfl, rfl⟩, hS.pick [0, 1] rfl rfl⟩
    · skip
      refine AWP.skip ?_
      refine QThen.nrm ?_
      refine AWP.seqR rfl ?_
      refine ASL.q (v := (.ptr bp0 0)) rfl rfl (Light.quiet (opMove rfl rfl)) ?_
      obtain ⟨a18, ha18, hF⟩ := bindE hF
      refine ASL.x rfl rfl (hCallS hS [0, 1] (F := [.snap S]) rfl rfl rfl call_101 (spec_l1Byte_ok ha18) rfl rfl ?_); rintro _ _ G6 ⟨rfl, rfl⟩ hS
      refine ASL.q (v := (.int .i64 a18.1)) rfl rfl (Light.quiet (opAssign rfl rfl)) ?_
      refine ASL.done ?_
      refine AWP.seqR rfl ?_
      refine ASL.q (v := (.ptr bp0 0)) rfl rfl (Light.quiet (opMove rfl rfl)) ?_
      obtain ⟨a20, ha20, hF⟩ := bindE hF
      refine ASL.x rfl rfl (hCallS hS [0, 1] (F := [.snap S]) rfl rfl rfl call_101 (spec_l1Byte_ok ha20) rfl rfl ?_); rintro _ _ G7 ⟨rfl, rfl⟩ hS
      refine ASL.q (v := (.int .i64 a20.1)) rfl rfl (Light.quiet (opAssign rfl rfl)) ?_
      refine ASL.done ?_
      refine AWP.seqR rfl ?_
      refine ASL.q (v := (.ptr bp0 0)) rfl rfl (Light.quiet (opMove rfl rfl)) ?_
      obtain ⟨a22, ha22, hF⟩ := bindE hF
      refine ASL.x rfl rfl (hCallS hS [0, 1] (F := [.snap S]) rfl rfl rfl call_101 (spec_l1Byte_ok ha22) rfl rfl ?_); rintro _ _ G8 ⟨rfl, rfl⟩ hS
      refine ASL.q (v := (.int .i64 a22.1)) rfl rfl (Light.quiet (opAssign rfl rfl)) ?_
      refine ASL.done ?_
      refine AWP.seqR rfl ?_
      refine ASL.q (v := (.ptr bp0 0)) rfl rfl (Light.quiet (opMove rfl rfl)) ?_
      obtain ⟨a24, ha24, hF⟩ := bindE hF
      refine ASL.x rfl rfl (hCallS hS [0, 1] (F := [.snap S]) rfl rfl rfl call_101 (spec_l1Byte_ok ha24) rfl rfl ?_); rintro _ _ G9 ⟨rfl, rfl⟩ hS
      refine ASL.q (v := (.int .i64 a24.1)) rfl rfl (Light.quiet (opAssign rfl rfl)) ?_
      refine ASL.done ?_
      refine AWP.seqR rfl ?_
      refine ASL.q (v := (.int .i64 a18.1)) rfl rfl (Light.quiet (opMove rfl rfl)) ?_
      refine ASL.q (v := (.int .i64 (W (a18.1 * 16777216)))) rfl rfl (Light.quiet (opInt rfl rfl rfl rfl)) ?_
      refine ASL.q (v := (.int .i64 a20.1)) rfl rfl (Light.quiet (opMove rfl rfl)) ?_
      refine ASL.q (v := (.int .i64 (W (a20.1 * 65536)))) rfl rfl (Light.quiet (opInt rfl rfl rfl rfl)) ?_
      refine ASL.q (v := (.int .i64 (W (((W (a18.1 * 16777216))) + ((W (a20.1 * 65536))))))) rfl rfl (Light.quiet (opInt rfl rfl rfl rfl)) ?_
      refine ASL.q (v := (.int .i64 a22.1)) rfl rfl (Light.quiet (opMove rfl rfl)) ?_
      refine ASL.q (v := (.int .i64 (W (a22.1 * 256)))) rfl rfl (Light.quiet (opInt rfl rfl rfl rfl)) ?_
      refine ASL.q (v := (.int .i64 (W (((W (((W (a18.1 * 16777216))) + ((W (a20.1 * 65536)))))) + ((W (a22.1 * 256))))))) rfl rfl (Light.quiet (opInt rfl rfl rfl rfl)) ?_
      refine ASL.q (v := (.int .i64 a24.1)) rfl rfl (Light.quiet (opMove rfl rfl)) ?_
      refine ASL.q (v := (.int .i64 (W (((W (((W (((W (a18.1 * 16777216))) + ((W (a20.1 * 65536)))))) + ((W (a22.1 * 256)))))) + a24.1)))) rfl rfl (Light.quiet (opInt rfl rfl rfl rfl)) ?_
      refine ASL.q (v := (.int .i64 p1)) rfl rfl (Light.quiet (opMove rfl rfl)) ?_
      obtain ⟨u10, hu10, hF⟩ := bindE hF
      refine ASL.q (v := (.int .i64 (Int.tmod ((W (((W (((W (((W (a18.1 * 16777216))) + ((W (a20.1 * 65536)))))) + ((W (a22.1 * 256)))))) + a24.1))) p1))) rfl rfl (Light.quiet (opRem rfl rfl rfl (of_decide_eq_true (chkE hu10)) rfl)) ?_
      refine ASL.q (v := (.int .i64 (Int.tmod ((W (((W (((W (((W (a18.1 * 16777216))) + ((W (a20.1 * 65536)))))) + ((W (a22.1 * 256)))))) + a24.1))) p1))) rfl rfl (Light.quiet (opAssign rfl rfl)) ?_
      refine ASL.done ?_
      refine AWP.ret ?_
      obtain rfl := someE hF
      exact QRet.sole (v := (.int .i64 (Int.tmod ((W (((W (((W (((W (a18.1 * 16777216))) + ((W (a20.1 * 65536)))))) + ((W (a22.1 * 256)))))) + a24.1))) p1))) ⟨rfl, trivial⟩ ⟨_, ⟨rfl, rfl⟩, hS.pick [0, 1] rfl rfl⟩

set_option maxRecDepth 10000 in
theorem spec_l11DrawTree.body_ok {p0 : Tl1Cur} {p1 : Int} {p2 : (List TNode)} {r : ((List TNode) × Tl1Cur)} {bp0 : Nat} {vp2 : AV} {rec_spec_l11DrawTree : Tl1Cur → Int → (List TNode) → Option ((List TNode) × Tl1Cur)} (ih_spec_l11DrawTree : ∀ {p0 : Tl1Cur} {p1 : Int} {p2 : (List TNode)} {r : ((List TNode) × Tl1Cur)} {bp0 : Nat} {vp2 : AV} , rec_spec_l11DrawTree p0 p1 p2 = some r → HS Try.prog 129 [(.ptr bp0 0), (.int .i64 p1), vp2] [.cell bp0 [(.list 1 (List.map (AV.int .u8) p0.b)), (.int .i64 p0.i), (.int .i64 p0.h)], .row 3 vp2 (List.map TNode.av p2)] fun v L' => ∃ o0 : AV, v = o0 ∧ L' = [.row 3 o0 (List.map TNode.av r.1), .cell bp0 [(.list 1 (List.map (AV.int .u8) r.2.b)), (.int .i64 r.2.i), (.int .i64 r.2.h)]]) (hF : spec_l11DrawTree.body rec_spec_l11DrawTree p0 p1 p2 = some r) : HS Try.prog 129 [(.ptr bp0 0), (.int .i64 p1), vp2] [.cell bp0 [(.list 1 (List.map (AV.int .u8) p0.b)), (.int .i64 p0.i), (.int .i64 p0.h)], .row 3 vp2 (List.map TNode.av p2)] fun v L' => ∃ o0 : AV, v = o0 ∧ L' = [.row 3 o0 (List.map TNode.av r.1), .cell bp0 [(.list 1 (List.map (AV.int .u8) r.2.b)), (.int .i64 r.2.i), (.int .i64 r.2.h)]] := by
  intro H S hS
  refine HC.enter Try.func129 rfl Try.ntmps129 (by simp) ?_
  simp only [List.cons_append, List.nil_append] at hS
  unfold spec_l11DrawTree.body at hF
  refine AWP.seqR rfl ?_
  have hS := hNil (s := 3) (f := TNode.av) hS
  refine ASL.q (v := .nil) rfl rfl (Light.quiet (opAssign rfl rfl)) ?_
  refine ASL.done ?_
  refine AWP.seqR rfl ?_
  refine ASL.q (v := (.ptr bp0 0)) rfl rfl (Light.quiet (opMove rfl rfl)) ?_
  obtain ⟨a10, ha10, hF⟩ := bindE hF
  refine ASL.x rfl rfl (hCallS hS [1, 0, 2, 3] (F := [.row 3 .nil (List.map TNode.av ([])), .row 3 vp2 (List.map TNode.av p2), .snap S]) rfl rfl rfl call_63 (spec_l1Below_ok ha10) rfl rfl ?_); rintro _ _ G4 ⟨rfl, rfl⟩ hS
  refine ASL.q (v := (.int .i64 a10.1)) rfl rfl (Light.quiet (opAssign rfl rfl)) ?_
  refine ASL.done ?_
  refine AWP.seqM (fun e H => ∃ y5 : (List Int), ∃ y6 : Int, ∃ y7 : Int, ∃ x7_1 : Int, E.Told e [(0, (.ptr bp0 0)), (1, (.int .i64 p1)), (2, vp2), (7, (.int .i64 x7_1))] ∧ E.Sep H [.cell bp0 [(.list 1 (List.map (AV.int .u8) y5)), (.int .i64 y6), (.int .i64 y7)], .row 3 vp2 (List.map TNode.av p2), .snap S] ∧ spec_l11DrawTree.k0 p2 rec_spec_l11DrawTree p1 y5 y6 y7 x7_1 = some r) ?_ ?_
  · rintro e0 G35 ⟨y5, y6, y7, x7_1, hT, hS, hF⟩; refine AWP.only _ hT ?_; unfold spec_l11DrawTree.k0 at hF
    refine AWP.seq ?_
    refine AWP.block ?_
    refine AWP.seqR rfl ?_
    refine ASL.q (v := (.int .i64 x7_1)) rfl rfl (Light.quiet (opMove rfl rfl)) ?_
    refine ASL.q (v := (.bool (decide (x7_1 < 3)))) rfl rfl (Light.quiet (opInt rfl rfl rfl rfl)) ?_
    refine ASL.q (v := (.bool (decide (x7_1 < 3)))) rfl rfl (Light.quiet (opAssign rfl rfl)) ?_
    refine ASL.done ?_
    refine AWP.ifP hF rfl (fun hc8 hF => ?_) (fun hc8 hF => ?_)
    · skip
      refine AWP.seqR rfl ?_
      refine ASL.q (v := vp2) rfl rfl (Light.quiet (opMove rfl rfl)) ?_
      refine ASL.q (v := (.ptr bp0 0)) rfl rfl (Light.quiet (opMove rfl rfl)) ?_
      obtain ⟨a20, ha20, hF⟩ := bindE hF
      refine ASL.x rfl rfl (hCallS hS [0, 1, 2] (F := [.row 3 vp2 (List.map TNode.av p2), .snap S]) rfl rfl rfl call_63 (spec_l1Below_ok ha20) rfl rfl ?_); rintro _ _ G9 ⟨rfl, rfl⟩ hS
      refine ASL.q (v := (.agg [(.int .i64 3), (.int .i64 a20.1), (.int .i64 0)])) rfl rfl (Light.quiet (opBuildZ (zs := [(.int .i64 0), (.int .i64 0), (.int .i64 0)]) rfl plan_65 zeroA_65 ⟨.inl rfl, .inl rfl, .inl rfl, trivial⟩ rfl)) ?_
      refine ASL.q (v := (.list 3 (List.map TNode.av [(TNode.mk 3 a20.1 0)]))) rfl rfl ((qLit (xs := [(.agg [(.int .i64 3), (.int .i64 a20.1), (.int .i64 0)])]) rfl elemA_29 sizeA_65 zeroA_65 rfl rfl rfl rfl (by simp [cells, TNode.av]) (nlt rfl))) ?_
      obtain ⟨z23, hz23, hF⟩ := bindE hF
      refine ASL.x rfl rfl (hApp (f := TNode.av) (ws := [(TNode.mk 3 a20.1 0)]) hS (j := 1) rfl hz23 rfl elemA_29 rfl sizeA_65 bytesA_65 zeroA_65 rfl rfl rfl (fun _ => rfl) ?_); rintro v23 G10 hS
      refine ASL.q (v := v23) rfl rfl (Light.quiet (opAssign rfl rfl)) ?_
      refine ASL.done ?_
      refine AWP.ret ?_
      refine QBlock.ret ?_
      refine QThen.rt ?_
      obtain rfl := someE hF
      exact QRet.sole (v := v23) ⟨rfl, trivial⟩ ⟨_, ⟨v23, rfl, rfl⟩, hS.pick [1, 0, 2] rfl rfl⟩
    · skip
      refine AWP.seqR rfl ?_
      refine ASL.q (v := (.int .i64 x7_1)) rfl rfl (Light.quiet (opMove rfl rfl)) ?_
      refine ASL.q (v := (.bool (decide (x7_1 = 3)))) rfl rfl (Light.quiet (opInt rfl rfl rfl rfl)) ?_
      refine ASL.q (v := (.bool (decide (x7_1 = 3)))) rfl rfl (Light.quiet (opAssign rfl rfl)) ?_
      refine ASL.done ?_
      refine AWP.ifP hF rfl (fun hc12 hF => ?_) (fun hc12 hF => ?_)
      · skip
        refine AWP.seqR rfl ?_
        refine ASL.q (v := vp2) rfl rfl (Light.quiet (opMove rfl rfl)) ?_
        refine ASL.q (v := (.ptr bp0 0)) rfl rfl (Light.quiet (opMove rfl rfl)) ?_
        obtain ⟨a29, ha29, hF⟩ := bindE hF
        refine ASL.x rfl rfl (hCallS hS [0, 1, 2] (F := [.row 3 vp2 (List.map TNode.av p2), .snap S]) rfl rfl rfl call_63 (spec_l1Below_ok ha29) rfl rfl ?_); rintro _ _ G13 ⟨rfl, rfl⟩ hS
        refine ASL.q (v := (.int .i64 (quo .i64 a29.1 3))) rfl rfl (Light.quiet (opQuo rfl rfl rfl (by decide) rfl)) ?_
        refine ASL.q (v := (.int .i64 (W (2 - ((quo .i64 a29.1 3)))))) rfl rfl (Light.quiet (opInt rfl rfl rfl rfl)) ?_
        refine ASL.q (v := (.agg [(.int .i64 (W (2 - ((quo .i64 a29.1 3))))), (.int .i64 0), (.int .i64 0)])) rfl rfl (Light.quiet (opBuildZ (zs := [(.int .i64 0), (.int .i64 0), (.int .i64 0)]) rfl plan_65 zeroA_65 ⟨.inl rfl, .inl rfl, .inl rfl, trivial⟩ rfl)) ?_
        refine ASL.q (v := (.list 3 (List.map TNode.av [(TNode.mk ((W (2 - ((quo .i64 a29.1 3))))) 0 0)]))) rfl rfl ((qLit (xs := [(.agg [(.int .i64 (W (2 - ((quo .i64 a29.1 3))))), (.int .i64 0), (.int .i64 0)])]) rfl elemA_29 sizeA_65 zeroA_65 rfl rfl rfl rfl (by simp [cells, TNode.av]) (nlt rfl))) ?_
        obtain ⟨z34, hz34, hF⟩ := bindE hF
        refine ASL.x rfl rfl (hApp (f := TNode.av) (ws := [(TNode.mk ((W (2 - ((quo .i64 a29.1 3))))) 0 0)]) hS (j := 1) rfl hz34 rfl elemA_29 rfl sizeA_65 bytesA_65 zeroA_65 rfl rfl rfl (fun _ => rfl) ?_); rintro v34 G14 hS
        refine ASL.q (v := v34) rfl rfl (Light.quiet (opAssign rfl rfl)) ?_
        refine ASL.done ?_
        refine AWP.ret ?_
        refine QBlock.ret ?_
        refine QThen.rt ?_
        obtain rfl := someE hF
        exact QRet.sole (v := v34) ⟨rfl, trivial⟩ ⟨_, ⟨v34, rfl, rfl⟩, hS.pick [1, 0, 2] rfl rfl⟩
      · skip
        refine AWP.seqR rfl ?_
        refine ASL.q (v := (.int .i64 x7_1)) rfl rfl (Light.quiet (opMove rfl rfl)) ?_
        refine ASL.q (v := (.bool (decide (x7_1 = 4)))) rfl rfl (Light.quiet (opInt rfl rfl rfl rfl)) ?_
        refine ASL.q (v := (.bool (decide (x7_1 = 4)))) rfl rfl (Light.quiet (opAssign rfl rfl)) ?_
        refine ASL.done ?_
        refine AWP.ifP hF rfl (fun hc16 hF => ?_) (fun hc16 hF => ?_)
        · skip
          refine AWP.seqR rfl ?_
          refine ASL.q (v := vp2) rfl rfl (Light.quiet (opMove rfl rfl)) ?_
          refine ASL.q (v := (.ptr bp0 0)) rfl rfl (Light.quiet (opMove rfl rfl)) ?_
          obtain ⟨a40, ha40, hF⟩ := bindE hF
          refine ASL.x rfl rfl (hCallS hS [0, 1, 2] (F := [.row 3 vp2 (List.map TNode.av p2), .snap S]) rfl rfl rfl call_63 (spec_l1Below_ok ha40) rfl rfl ?_); rintro _ _ G17 ⟨rfl, rfl⟩ hS
          refine ASL.q (v := (.agg [(.int .i64 3), (.int .i64 a40.1), (.int .i64 0)])) rfl rfl (Light.quiet (opBuildZ (zs := [(.int .i64 0), (.int .i64 0), (.int .i64 0)]) rfl plan_65 zeroA_65 ⟨.inl rfl, .inl rfl, .inl rfl, trivial⟩ rfl)) ?_
          refine ASL.q (v := (.list 3 (List.map TNode.av [(TNode.mk 3 a40.1 0)]))) rfl rfl ((qLit (xs := [(.agg [(.int .i64 3), (.int .i64 a40.1), (.int .i64 0)])]) rfl elemA_29 sizeA_65 zeroA_65 rfl rfl rfl rfl (by simp [cells, TNode.av]) (nlt rfl))) ?_
          obtain ⟨z43, hz43, hF⟩ := bindE hF
          refine ASL.x rfl rfl (hApp (f := TNode.av) (ws := [(TNode.mk 3 a40.1 0)]) hS (j := 1) rfl hz43 rfl elemA_29 rfl sizeA_65 bytesA_65 zeroA_65 rfl rfl rfl (fun _ => rfl) ?_); rintro v43 G18 hS
          refine ASL.q (v := v43) rfl rfl (Light.quiet (opAssign rfl rfl)) ?_
          refine ASL.done ?_
          refine AWP.ret ?_
          refine QBlock.ret ?_
          refine QThen.rt ?_
          obtain rfl := someE hF
          exact QRet.sole (v := v43) ⟨rfl, trivial⟩ ⟨_, ⟨v43, rfl, rfl⟩, hS.pick [1, 0, 2] rfl rfl⟩
        · skip
          refine AWP.seqR rfl ?_
          refine ASL.q (v := (.int .i64 x7_1)) rfl rfl (Light.quiet (opMove rfl rfl)) ?_
          refine ASL.q (v := (.bool (decide (x7_1 < 7)))) rfl rfl (Light.quiet (opInt rfl rfl rfl rfl)) ?_
          refine ASL.q (v := (.bool (decide (x7_1 < 7)))) rfl rfl (Light.quiet (opAssign rfl rfl)) ?_
          refine ASL.done ?_
          refine AWP.ifP hF rfl (fun hc20 hF => ?_) (fun hc20 hF => ?_)
          · skip
            refine AWP.seqR rfl ?_
            refine ASL.q (v := (.ptr bp0 0)) rfl rfl (Light.quiet (opMove rfl rfl)) ?_
            refine ASL.q (v := (.int .i64 p1)) rfl rfl (Light.quiet (opMove rfl rfl)) ?_
            refine ASL.q (v := (.int .i64 (W (p1 - 1)))) rfl rfl (Light.quiet (opInt rfl rfl rfl rfl)) ?_
            refine ASL.q (v := vp2) rfl rfl (Light.quiet (opMove rfl rfl)) ?_
            obtain ⟨a51, ha51, hF⟩ := bindE hF
            refine ASL.x rfl rfl (hCallS hS [0, 1, 2] (F := [.snap S]) rfl rfl rfl call_129 (ih_spec_l11DrawTree ha51) rfl rfl ?_); rintro w21 _ G23 ⟨_, rfl, rfl⟩ hS
            refine ASL.q (v := w21) rfl rfl (Light.quiet (opAssign rfl rfl)) ?_
            refine ASL.done ?_
            refine AWP.seqR rfl ?_
            refine ASL.q (v := w21) rfl rfl (Light.quiet (opMove rfl rfl)) ?_
            refine ASL.q (v := w21) rfl rfl (Light.quiet (opMove rfl rfl)) ?_
            refine ASL.q (v := (.int .i64 (a51.1.length : Int))) rfl rfl (Light.quiet (kLen hS (j := 0) rfl rfl rfl rfl lenT_29 rfl)) ?_
            refine ASL.q (v := (.int .i64 (W (((a51.1.length : Int)) - 1)))) rfl rfl (Light.quiet (opInt rfl rfl rfl rfl)) ?_
            refine ASL.q (v := (.agg [(.int .i64 4), (.int .i64 (W (((a51.1.length : Int)) - 1))), (.int .i64 0)])) rfl rfl (Light.quiet (opBuildZ (zs := [(.int .i64 0), (.int .i64 0), (.int .i64 0)]) rfl plan_65 zeroA_65 ⟨.inl rfl, .inl rfl, .inl rfl, trivial⟩ rfl)) ?_
            refine ASL.q (v := (.list 3 (List.map TNode.av [(TNode.mk 4 ((W (((a51.1.length : Int)) - 1))) 0)]))) rfl rfl ((qLit (xs := [(.agg [(.int .i64 4), (.int .i64 (W (((a51.1.length : Int)) - 1))), (.int .i64 0)])]) rfl elemA_29 sizeA_65 zeroA_65 rfl rfl rfl rfl (by simp [cells, TNode.av]) (nlt rfl))) ?_
            obtain ⟨z58, hz58, hF⟩ := bindE hF
            refine ASL.x rfl rfl (hApp (f := TNode.av) (ws := [(TNode.mk 4 ((W (((a51.1.length : Int)) - 1))) 0)]) hS (j := 0) rfl hz58 rfl elemA_29 rfl sizeA_65 bytesA_65 zeroA_65 rfl rfl rfl (fun _ => rfl) ?_); rintro v58 G24 hS
            refine ASL.q (v := v58) rfl rfl (Light.quiet (opAssign rfl rfl)) ?_
            refine ASL.done ?_
            refine AWP.ret ?_
            refine QBlock.ret ?_
            refine QThen.rt ?_
            obtain rfl := someE hF
            exact QRet.sole (v := v58) ⟨rfl, trivial⟩ ⟨_, ⟨v58, rfl, rfl⟩, hS.pick [0, 1, 2] rfl rfl⟩
          · skip
            refine AWP.skip ?_
            refine QBlock.nrm ?_
            refine QThen.nrm ?_
            refine AWP.seqR rfl ?_
            refine ASL.q (v := (.ptr bp0 0)) rfl rfl (Light.quiet (opMove rfl rfl)) ?_
            refine ASL.q (v := (.int .i64 p1)) rfl rfl (Light.quiet (opMove rfl rfl)) ?_
            refine ASL.q (v := (.int .i64 (W (p1 - 1)))) rfl rfl (Light.quiet (opInt rfl rfl rfl rfl)) ?_
            refine ASL.q (v := vp2) rfl rfl (Light.quiet (opMove rfl rfl)) ?_
            obtain ⟨a63, ha63, hF⟩ := bindE hF
            refine ASL.x rfl rfl (hCallS hS [0, 1, 2] (F := [.snap S]) rfl rfl rfl call_129 (ih_spec_l11DrawTree ha63) rfl rfl ?_); rintro w26 _ G28 ⟨_, rfl, rfl⟩ hS
            refine ASL.q (v := w26) rfl rfl (Light.quiet (opAssign rfl rfl)) ?_
            refine ASL.done ?_
            refine AWP.seqR rfl ?_
            refine ASL.q (v := w26) rfl rfl (Light.quiet (opMove rfl rfl)) ?_
            refine ASL.q (v := (.int .i64 (a63.1.length : Int))) rfl rfl (Light.quiet (kLen hS (j := 0) rfl rfl rfl rfl lenT_29 rfl)) ?_
            refine ASL.q (v := (.int .i64 (W (((a63.1.length : Int)) - 1)))) rfl rfl (Light.quiet (opInt rfl rfl rfl rfl)) ?_
            refine ASL.q (v := (.int .i64 (W (((a63.1.length : Int)) - 1)))) rfl rfl (Light.quiet (opAssign rfl rfl)) ?_
            refine ASL.done ?_
            refine AWP.seqR rfl ?_
            refine ASL.q (v := (.ptr bp0 0)) rfl rfl (Light.quiet (opMove rfl rfl)) ?_
            refine ASL.q (v := (.int .i64 p1)) rfl rfl (Light.quiet (opMove rfl rfl)) ?_
            refine ASL.q (v := (.int .i64 (W (p1 - 1)))) rfl rfl (Light.quiet (opInt rfl rfl rfl rfl)) ?_
            refine ASL.q (v := w26) rfl rfl (Light.quiet (opMove rfl rfl)) ?_
            obtain ⟨a71, ha71, hF⟩ := bindE hF
            refine ASL.x rfl rfl (hCallS hS [1, 0, 2] (F := [.snap S]) rfl rfl rfl call_129 (ih_spec_l11DrawTree ha71) rfl rfl ?_); rintro w29 _ G31 ⟨_, rfl, rfl⟩ hS
            refine ASL.q (v := w29) rfl rfl (Light.quiet (opAssign rfl rfl)) ?_
            refine ASL.done ?_
            refine AWP.seqR rfl ?_
            refine ASL.q (v := w29) rfl rfl (Light.quiet (opMove rfl rfl)) ?_
            refine ASL.q (v := (.ptr bp0 0)) rfl rfl (Light.quiet (opMove rfl rfl)) ?_
            obtain ⟨a74, ha74, hF⟩ := bindE hF
            refine ASL.x rfl rfl (hCallS hS [1, 0, 2] (F := [.row 3 w29 (List.map TNode.av a71.1), .snap S]) rfl rfl rfl call_63 (spec_l1Below_ok ha74) rfl rfl ?_); rintro _ _ G32 ⟨rfl, rfl⟩ hS
            refine ASL.q (v := (.int .i64 (W (5 + a74.1)))) rfl rfl (Light.quiet (opInt rfl rfl rfl rfl)) ?_
            refine ASL.q (v := (.int .i64 (W (((a63.1.length : Int)) - 1)))) rfl rfl (Light.quiet (opMove rfl rfl)) ?_
            refine ASL.q (v := w29) rfl rfl (Light.quiet (opMove rfl rfl)) ?_
            refine ASL.q (v := (.int .i64 (a71.1.length : Int))) rfl rfl (Light.quiet (kLen hS (j := 1) rfl rfl rfl rfl lenT_29 rfl)) ?_
            refine ASL.q (v := (.int .i64 (W (((a71.1.length : Int)) - 1)))) rfl rfl (Light.quiet (opInt rfl rfl rfl rfl)) ?_
            refine ASL.q (v := (.agg [(.int .i64 (W (5 + a74.1))), (.int .i64 (W (((a63.1.length : Int)) - 1))), (.int .i64 (W (((a71.1.length : Int)) - 1)))])) rfl rfl (Light.quiet (opBuildZ (zs := [(.int .i64 0), (.int .i64 0), (.int .i64 0)]) rfl plan_65 zeroA_65 ⟨.inl rfl, .inl rfl, .inl rfl, trivial⟩ rfl)) ?_
            refine ASL.q (v := (.list 3 (List.map TNode.av [(TNode.mk ((W (5 + a74.1))) ((W (((a63.1.length : Int)) - 1))) ((W (((a71.1.length : Int)) - 1))))]))) rfl rfl ((qLit (xs := [(.agg [(.int .i64 (W (5 + a74.1))), (.int .i64 (W (((a63.1.length : Int)) - 1))), (.int .i64 (W (((a71.1.length : Int)) - 1)))])]) rfl elemA_29 sizeA_65 zeroA_65 rfl rfl rfl rfl (by simp [cells, TNode.av]) (nlt rfl))) ?_
            obtain ⟨z82, hz82, hF⟩ := bindE hF
            refine ASL.x rfl rfl (hApp (f := TNode.av) (ws := [(TNode.mk ((W (5 + a74.1))) ((W (((a63.1.length : Int)) - 1))) ((W (((a71.1.length : Int)) - 1))))]) hS (j := 1) rfl hz82 rfl elemA_29 rfl sizeA_65 bytesA_65 zeroA_65 rfl rfl rfl (fun _ => rfl) ?_); rintro v82 G33 hS
            refine ASL.q (v := v82) rfl rfl (Light.quiet (opAssign rfl rfl)) ?_
            refine ASL.done ?_
            refine AWP.ret ?_
            obtain rfl := someE hF
            exact QRet.sole (v := v82) ⟨rfl, trivial⟩ ⟨_, ⟨v82, rfl, rfl⟩, hS.pick [1, 0, 2] rfl rfl⟩
  · skip
    refine AWP.seqR rfl ?_
    refine ASL.q (v := (.int .i64 p1)) rfl rfl (Light.quiet (opMove rfl rfl)) ?_
    refine ASL.q (v := (.bool (decide (p1 = 0)))) rfl rfl (Light.quiet (opInt rfl rfl rfl rfl)) ?_
    refine ASL.done ?_
    refine AWP.ifP hF rfl (fun hc36 hF => ?_) (fun hc36 hF => ?_)
    · skip
      refine AWP.lastR rfl ?_
      refine ASL.q (v := (.ptr bp0 0)) rfl rfl (Light.quiet (opMove rfl rfl)) ?_
      obtain ⟨a14, ha14, hF⟩ := bindE hF
      refine ASL.x rfl rfl (hCallS hS [0, 1, 2, 3] (F := [.row 3 .nil (List.map TNode.av ([])), .row 3 vp2 (List.map TNode.av p2), .snap S]) rfl rfl rfl call_63 (spec_l1Below_ok ha14) rfl rfl ?_); rintro _ _ G37 ⟨rfl, rfl⟩ hS
      refine ASL.q (v := (.int .i64 a14.1)) rfl rfl (Light.quiet (opAssign rfl rfl)) ?_
      refine ASL.done ?_
      refine QThen.nrm ?_
      exact ⟨a14.2.b, a14.2.i, a14.2.h, a14.1, ⟨rfl, rfl, rfl, rfl, trivial⟩, (hS.pick [0, 2, 3] rfl rfl), hF⟩
    · skip
      refine AWP.skip ?_
      refine QThen.nrm ?_
      exact ⟨a10.2.b, a10.2.i, a10.2.h, a10.1, ⟨rfl, rfl, rfl, rfl, trivial⟩, (hS.pick [0, 2, 3] rfl rfl), hF⟩
theorem spec_l11DrawTree_ok {K : Nat} : ∀ {p0 : Tl1Cur} {p1 : Int} {p2 : (List TNode)} {r : ((List TNode) × Tl1Cur)} {bp0 : Nat} {vp2 : AV} , spec_l11DrawTree K p0 p1 p2 = some r → HS Try.prog 129 [(.ptr bp0 0), (.int .i64 p1), vp2] [.cell bp0 [(.list 1 (List.map (AV.int .u8) p0.b)), (.int .i64 p0.i), (.int .i64 p0.h)], .row 3 vp2 (List.map TNode.av p2)] fun v L' => ∃ o0 : AV, v = o0 ∧ L' = [.row 3 o0 (List.map TNode.av r.1), .cell bp0 [(.list 1 (List.map (AV.int .u8) r.2.b)), (.int .i64 r.2.i), (.int .i64 r.2.h)]] := by
  induction K with
  | zero => intros; rename_i h; cases h
  | succ K ih => intros; rename_i h; exact spec_l11DrawTree.body_ok ih h

set_option maxRecDepth 10000 in
theorem spec_l11DrawRight_ok {K : Nat} {p0 : Tl1Cur} {r : ((List TNode) × Tl1Cur)} {bp0 : Nat} (hF : spec_l11DrawRight K p0 = some r) : HS Try.prog 100 [(.ptr bp0 0)] [.cell bp0 [(.list 1 (List.map (AV.int .u8) p0.b)), (.int .i64 p0.i), (.int .i64 p0.h)]] fun v L' => ∃ o0 : AV, v = o0 ∧ L' = [.row 3 o0 (List.map TNode.av r.1), .cell bp0 [(.list 1 (List.map (AV.int .u8) r.2.b)), (.int .i64 r.2.i), (.int .i64 r.2.h)]] := by
  intro H S hS
  refine HC.enter Try.func100 rfl Try.ntmps100 (by simp) ?_
  simp only [List.cons_append, List.nil_append] at hS
  unfold spec_l11DrawRight at hF
  refine AWP.seqR rfl ?_
  have hS := hNil (s := 3) (f := TNode.av) hS
  refine ASL.q (v := .nil) rfl rfl (Light.quiet (opAssign rfl rfl)) ?_
  refine ASL.done ?_
  refine AWP.seqR rfl ?_
  refine ASL.q (v := (.ptr bp0 0)) rfl rfl (Light.quiet (opMove rfl rfl)) ?_
  refine ASL.q (v := (.ptr bp0 0)) rfl rfl (Light.quiet (opMove rfl rfl)) ?_
  obtain ⟨a5, ha5, hF⟩ := bindE hF
  refine ASL.x rfl rfl (hCallS hS [1, 0, 2] (F := [.row 3 .nil (List.map TNode.av ([])), .snap S]) rfl rfl rfl call_63 (spec_l1Below_ok ha5) rfl rfl ?_); rintro _ _ G3 ⟨rfl, rfl⟩ hS
  refine ASL.q (v := (.int .i64 (W (1 + a5.1)))) rfl rfl (Light.quiet (opInt rfl rfl rfl rfl)) ?_
  refine ASL.x rfl rfl (hLit (f := TNode.av) (zs := []) hS rfl rfl elemA_29 sizeA_65 zeroA_65 rfl rfl rfl rfl (by simp [cells, TNode.av]) (nlt rfl) ?_); rintro v7 G4 hK hS
  obtain ⟨a8, ha8, hF⟩ := bindE hF
  refine ASL.x rfl rfl (hCallS hS [1, 0, 2, 3] (F := [.row 3 .nil (List.map TNode.av ([])), .snap S]) rfl rfl rfl call_129 (spec_l11DrawTree_ok ha8) rfl rfl ?_); rintro w6 _ G8 ⟨_, rfl, rfl⟩ hS
  refine ASL.q (v := w6) rfl rfl (Light.quiet (opAssign rfl rfl)) ?_
  refine ASL.done ?_
  refine AWP.ret ?_
  obtain rfl := someE hF
  exact QRet.sole (v := w6) ⟨rfl, trivial⟩ ⟨_, ⟨w6, rfl, rfl⟩, hS.pick [0, 1, 3] rfl rfl⟩

set_option maxRecDepth 10000 in
theorem spec_l11DrawAny_ok {K : Nat} {p0 : Tl1Cur} {r : ((List TNode) × Tl1Cur)} {bp0 : Nat} (hF : spec_l11DrawAny K p0 = some r) : HS Try.prog 61 [(.ptr bp0 0)] [.cell bp0 [(.list 1 (List.map (AV.int .u8) p0.b)), (.int .i64 p0.i), (.int .i64 p0.h)]] fun v L' => ∃ o0 : AV, v = o0 ∧ L' = [.row 3 o0 (List.map TNode.av r.1), .cell bp0 [(.list 1 (List.map (AV.int .u8) r.2.b)), (.int .i64 r.2.i), (.int .i64 r.2.h)]] := by
  intro H S hS
  refine HC.enter Try.func61 rfl Try.ntmps61 (by simp) ?_
  simp only [List.cons_append, List.nil_append] at hS
  unfold spec_l11DrawAny at hF
  refine AWP.seqR rfl ?_
  have hS := hNil (s := 3) (f := TNode.av) hS
  refine ASL.q (v := .nil) rfl rfl (Light.quiet (opAssign rfl rfl)) ?_
  refine ASL.done ?_
  refine AWP.seqR rfl ?_
  refine ASL.q (v := (.ptr bp0 0)) rfl rfl (Light.quiet (opMove rfl rfl)) ?_
  obtain ⟨a6, ha6, hF⟩ := bindE hF
  refine ASL.x rfl rfl (hCallS hS [1, 0, 2] (F := [.row 3 .nil (List.map TNode.av ([])), .snap S]) rfl rfl rfl call_100 (spec_l11DrawRight_ok ha6) rfl rfl ?_); rintro w3 _ G5 ⟨_, rfl, rfl⟩ hS
  refine ASL.q (v := w3) rfl rfl (Light.quiet (opAssign rfl rfl)) ?_
  refine ASL.done ?_
  refine AWP.seqR rfl ?_
  refine ASL.q (v := (.ptr bp0 0)) rfl rfl (Light.quiet (opMove rfl rfl)) ?_
  refine ASL.q (v := w3) rfl rfl (Light.quiet (opMove rfl rfl)) ?_
  refine ASL.q (v := (.int .i64 (a6.1.length : Int))) rfl rfl (Light.quiet (kLen hS (j := 0) rfl rfl rfl rfl lenT_29 rfl)) ?_
  obtain ⟨a10, ha10, hF⟩ := bindE hF
  refine ASL.x rfl rfl (hCallS hS [1, 0, 2, 3] (F := [.row 3 w3 (List.map TNode.av a6.1), .row 3 .nil (List.map TNode.av ([])), .snap S]) rfl rfl rfl call_63 (spec_l1Below_ok ha10) rfl rfl ?_); rintro _ _ G6 ⟨rfl, rfl⟩ hS
  refine ASL.q (v := (.int .i64 a10.1)) rfl rfl (Light.quiet (opAssign rfl rfl)) ?_
  refine ASL.done ?_
  refine AWP.seqM (fun e H => ∃ y7 : (List TNode), ∃ y10 : (List Int), ∃ y11 : Int, ∃ y12 : Int, ∃ w8 : AV, E.Told e [(3, w8)] ∧ E.Sep H [.row 3 w8 (List.map TNode.av y7), .cell bp0 [(.list 1 (List.map (AV.int .u8) y10)), (.int .i64 y11), (.int .i64 y12)], .snap S] ∧ spec_l11DrawAny.k0 y7 y10 y11 y12 = some r) ?_ ?_
  · rintro e0 G13 ⟨y7, y10, y11, y12, w8, hT, hS, hF⟩; refine AWP.only _ hT ?_; unfold spec_l11DrawAny.k0 at hF
    refine AWP.seqR rfl ?_
    refine ASL.q (v := w8) rfl rfl (Light.quiet (opMove rfl rfl)) ?_
    refine ASL.q (v := w8) rfl rfl (Light.quiet (opAssign rfl rfl)) ?_
    refine ASL.done ?_
    refine AWP.ret ?_
    obtain rfl := someE hF
    exact QRet.sole (v := w8) ⟨rfl, trivial⟩ ⟨_, ⟨w8, rfl, rfl⟩, hS.pick [0, 1, 2] rfl rfl⟩
  · skip
    refine AWP.seqR rfl ?_
    refine ASL.q (v := (.ptr bp0 0)) rfl rfl (Light.quiet (opMove rfl rfl)) ?_
    obtain ⟨a12, ha12, hF⟩ := bindE hF
    refine ASL.x rfl rfl (hCallS hS [0, 1, 2, 3] (F := [.row 3 w3 (List.map TNode.av a6.1), .row 3 .nil (List.map TNode.av ([])), .snap S]) rfl rfl rfl call_63 (spec_l1Below_ok ha12) rfl rfl ?_); rintro _ _ G14 ⟨rfl, rfl⟩ hS
    refine ASL.done ?_
    refine AWP.block ?_
    refine AWP.seqR rfl ?_
    refine ASL.q (v := (.bool (decide (a12.1 = 0)))) rfl rfl (Light.quiet (opInt rfl rfl rfl rfl)) ?_
    refine ASL.q (v := (.bool (decide (a12.1 = 0)))) rfl rfl (Light.quiet (opAssign rfl rfl)) ?_
    refine ASL.done ?_
    refine AWP.ifP hF rfl (fun hc15 hF => ?_) (fun hc15 hF => ?_)
    · skip
      refine AWP.lastR rfl ?_
      refine ASL.q (v := w3) rfl rfl (Light.quiet (opMove rfl rfl)) ?_
      refine ASL.q (v := (.int .i64 a10.1)) rfl rfl (Light.quiet (opMove rfl rfl)) ?_
      refine ASL.q (v := (.ptr bp0 0)) rfl rfl (Light.quiet (opMove rfl rfl)) ?_
      obtain ⟨a18, ha18, hF⟩ := bindE hF
      refine ASL.x rfl rfl (hCallS hS [0, 1, 2, 3] (F := [.row 3 w3 (List.map TNode.av a6.1), .row 3 .nil (List.map TNode.av ([])), .snap S]) rfl rfl rfl call_63 (spec_l1Below_ok ha18) rfl rfl ?_); rintro _ _ G16 ⟨rfl, rfl⟩ hS
      obtain ⟨m19, hm19, hF⟩ := bindE hF
      refine ASL.q (v := (ptrTo w3 m19 3)) rfl rfl (Light.quiet (kIxO hS (j := 1) rfl hm19 rfl rfl rfl elemA_29 sizeA_65)) ?_
      refine ASL.q (v := (ptrOff w3 m19 3 0)) rfl rfl (Light.quiet (kFldC (p := 0) hS (j := 1) rfl hm19 rfl fieldA_65_0 rfl)) ?_
      refine ASL.n rfl rfl (hStF (f := TNode.av) (g := (fun q : TNode => { q with kind := a18.1 })) (p := 0) hS (j := 1) rfl hm19 rfl sizeA_3 rfl rfl (fun _ => ⟨_, rfl, nlt rfl, rfl⟩) rfl ?_); rintro G17 hS
      refine ASL.done ?_
      refine QBlock.nrm ?_
      refine QThen.nrm ?_
      exact ⟨(a6.1.set m19 ((fun q : TNode => { q with kind := a18.1 }) (a6.1.getD m19 default))), a18.2.b, a18.2.i, a18.2.h, w3, ⟨rfl, trivial⟩, (hS.pick [1, 0, 3] rfl rfl), hF⟩
    · skip
      refine AWP.seqR rfl ?_
      refine ASL.q (v := (.bool (decide (a12.1 = 1)))) rfl rfl (Light.quiet (opInt rfl rfl rfl rfl)) ?_
      refine ASL.q (v := (.bool (decide (a12.1 = 1)))) rfl rfl (Light.quiet (opAssign rfl rfl)) ?_
      refine ASL.done ?_
      refine AWP.ifP hF rfl (fun hc18 hF => ?_) (fun hc18 hF => ?_)
      · skip
        refine AWP.lastR rfl ?_
        refine ASL.q (v := w3) rfl rfl (Light.quiet (opMove rfl rfl)) ?_
        refine ASL.q (v := (.int .i64 a10.1)) rfl rfl (Light.quiet (opMove rfl rfl)) ?_
        refine ASL.q (v := w3) rfl rfl (Light.quiet (opMove rfl rfl)) ?_
        refine ASL.q (v := (.int .i64 a10.1)) rfl rfl (Light.quiet (opMove rfl rfl)) ?_
        obtain ⟨a27, ha27, hF⟩ := bindE hF
        refine ASL.q (v := (ptrTo w3 a10.1.toNat 3)) rfl rfl (Light.quiet (kIxOx hS (j := 1) rfl ha27 rfl rfl rfl elemA_29 sizeA_65)) ?_
        refine ASL.q (v := (ptrOff w3 a10.1.toNat 3 1)) rfl rfl (Light.quiet (kFldO (p := 1) hS (j := 1) rfl ha27 rfl fieldA_65_1 rfl)) ?_
        refine ASL.q (v := (.int .i64 a27.a)) rfl rfl (Light.quiet (kLdP (f := TNode.av) hS (j := 1) rfl ha27 rfl aggA_3 rfl rfl)) ?_
        refine ASL.q (v := (.int .i64 (W (a27.a + 1)))) rfl rfl (Light.quiet (opInt rfl rfl rfl rfl)) ?_
        obtain ⟨m31, hm31, hF⟩ := bindE hF
        refine ASL.q (v := (ptrTo w3 m31 3)) rfl rfl (Light.quiet (kIxO hS (j := 1) rfl hm31 rfl rfl rfl elemA_29 sizeA_65)) ?_
        refine ASL.q (v := (ptrOff w3 m31 3 1)) rfl rfl (Light.quiet (kFldC (p := 1) hS (j := 1) rfl hm31 rfl fieldA_65_1 rfl)) ?_
        refine ASL.n rfl rfl (hStF (f := TNode.av) (g := (fun q : TNode => { q with a := (W (a27.a + 1)) })) (p := 1) hS (j := 1) rfl hm31 rfl sizeA_3 rfl rfl (fun _ => ⟨_, rfl, nlt rfl, rfl⟩) rfl ?_); rintro G19 hS
        refine ASL.done ?_
        refine QBlock.nrm ?_
        refine QThen.nrm ?_
        exact ⟨(a6.1.set m31 ((fun q : TNode => { q with a := (W (a27.a + 1)) }) (a6.1.getD m31 default))), a12.2.b, a12.2.i, a12.2.h, w3, ⟨rfl, trivial⟩, (hS.pick [1, 0, 3] rfl rfl), hF⟩
      · skip
        refine AWP.seqR rfl ?_
        refine ASL.q (v := (.bool (decide (a12.1 = 2)))) rfl rfl (Light.quiet (opInt rfl rfl rfl rfl)) ?_
        refine ASL.q (v := (.bool (decide (a12.1 = 2)))) rfl rfl (Light.quiet (opAssign rfl rfl)) ?_
        refine ASL.done ?_
        refine AWP.ifP hF rfl (fun hc20 hF => ?_) (fun hc20 hF => ?_)
        · skip
          refine AWP.lastR rfl ?_
          refine ASL.q (v := w3) rfl rfl (Light.quiet (opMove rfl rfl)) ?_
          refine ASL.q (v := (.int .i64 a10.1)) rfl rfl (Light.quiet (opMove rfl rfl)) ?_
          refine ASL.q (v := (.ptr bp0 0)) rfl rfl (Light.quiet (opMove rfl rfl)) ?_
          refine ASL.q (v := w3) rfl rfl (Light.quiet (opMove rfl rfl)) ?_
          refine ASL.q (v := (.int .i64 (a6.1.length : Int))) rfl rfl (Light.quiet (kLen hS (j := 1) rfl rfl rfl rfl lenT_29 rfl)) ?_
          obtain ⟨a40, ha40, hF⟩ := bindE hF
          refine ASL.x rfl rfl (hCallS hS [0, 1, 2, 3] (F := [.row 3 w3 (List.map TNode.av a6.1), .row 3 .nil (List.map TNode.av ([])), .snap S]) rfl rfl rfl call_63 (spec_l1Below_ok ha40) rfl rfl ?_); rintro _ _ G21 ⟨rfl, rfl⟩ hS
          obtain ⟨m41, hm41, hF⟩ := bindE hF
          refine ASL.q (v := (ptrTo w3 m41 3)) rfl rfl (Light.quiet (kIxO hS (j := 1) rfl hm41 rfl rfl rfl elemA_29 sizeA_65)) ?_
          refine ASL.q (v := (ptrOff w3 m41 3 2)) rfl rfl (Light.quiet (kFldC (p := 2) hS (j := 1) rfl hm41 rfl fieldA_65_2 rfl)) ?_
          refine ASL.n rfl rfl (hStF (f := TNode.av) (g := (fun q : TNode => { q with b := a40.1 })) (p := 2) hS (j := 1) rfl hm41 rfl sizeA_3 rfl rfl (fun _ => ⟨_, rfl, nlt rfl, rfl⟩) rfl ?_); rintro G22 hS
          refine ASL.done ?_
          refine QBlock.nrm ?_
          refine QThen.nrm ?_
          exact ⟨(a6.1.set m41 ((fun q : TNode => { q with b := a40.1 }) (a6.1.getD m41 default))), a40.2.b, a40.2.i, a40.2.h, w3, ⟨rfl, trivial⟩, (hS.pick [1, 0, 3] rfl rfl), hF⟩
        · skip
          refine AWP.seqR rfl ?_
          refine ASL.q (v := (.bool (decide (a12.1 = 3)))) rfl rfl (Light.quiet (opInt rfl rfl rfl rfl)) ?_
          refine ASL.q (v := (.bool (decide (a12.1 = 3)))) rfl rfl (Light.quiet (opAssign rfl rfl)) ?_
          refine ASL.done ?_
          refine AWP.ifP hF rfl (fun hc23 hF => ?_) (fun hc23 hF => ?_)
          · skip
            refine AWP.lastR rfl ?_
            refine ASL.q (v := w3) rfl rfl (Light.quiet (opMove rfl rfl)) ?_
            refine ASL.q (v := (.agg [(.int .i64 2), (.int .i64 0), (.int .i64 0)])) rfl rfl (Light.quiet (opBuildZ (zs := [(.int .i64 0), (.int .i64 0), (.int .i64 0)]) rfl plan_65 zeroA_65 ⟨.inl rfl, .inl rfl, .inl rfl, trivial⟩ rfl)) ?_
            refine ASL.q (v := (.list 3 (List.map TNode.av [(TNode.mk 2 0 0)]))) rfl rfl ((qLit (xs := [(.agg [(.int .i64 2), (.int .i64 0), (.int .i64 0)])]) rfl elemA_29 sizeA_65 zeroA_65 rfl rfl rfl rfl (by simp [cells, TNode.av]) (nlt rfl))) ?_
            obtain ⟨z48, hz48, hF⟩ := bindE hF
            refine ASL.x rfl rfl (hApp (f := TNode.av) (ws := [(TNode.mk 2 0 0)]) hS (j := 1) rfl hz48 rfl elemA_29 rfl sizeA_65 bytesA_65 zeroA_65 rfl rfl rfl (fun _ => rfl) ?_); rintro v48 G24 hS
            refine ASL.q (v := v48) rfl rfl (Light.quiet (opAssign rfl rfl)) ?_
            refine ASL.done ?_
            refine QBlock.nrm ?_
            refine QThen.nrm ?_
            exact ⟨z48, a12.2.b, a12.2.i, a12.2.h, v48, ⟨rfl, trivial⟩, (hS.pick [1, 0, 3] rfl rfl), hF⟩
          · skip
            refine AWP.seqR rfl ?_
            refine ASL.q (v := (.bool (decide (a12.1 = 4)))) rfl rfl (Light.quiet (opInt rfl rfl rfl rfl)) ?_
            refine ASL.q (v := (.bool (decide (a12.1 = 4)))) rfl rfl (Light.quiet (opAssign rfl rfl)) ?_
            refine ASL.done ?_
            refine AWP.ifP hF rfl (fun hc26 hF => ?_) (fun hc26 hF => ?_)
            · skip
              refine AWP.lastR rfl ?_
              have hS := hNil (s := 3) (f := TNode.av) hS
              refine ASL.q (v := .nil) rfl rfl (Light.quiet (opAssign rfl rfl)) ?_
              refine ASL.done ?_
              refine QBlock.nrm ?_
              refine QThen.nrm ?_
              exact ⟨[], a12.2.b, a12.2.i, a12.2.h, .nil, ⟨rfl, trivial⟩, (hS.pick [0, 1, 4] rfl rfl), hF⟩
            · skip
              refine AWP.skip ?_
              refine QBlock.nrm ?_
              refine QThen.nrm ?_
              exact ⟨a6.1, a12.2.b, a12.2.i, a12.2.h, w3, ⟨rfl, trivial⟩, (hS.pick [1, 0, 3] rfl rfl), hF⟩

set_option maxRecDepth 10000 in
theorem spec_l1Once_ok {p0 : Tl1Cur} {p1 : Int} {r : (Bool × Tl1Cur)} {bp0 : Nat} (hF : spec_l1Once p0 p1 = some r) : HS Try.prog 62 [(.ptr bp0 0), (.int .i64 p1)] [.cell bp0 [(.list 1 (List.map (AV.int .u8) p0.b)), (.int .i64 p0.i), (.int .i64 p0.h)]] fun v L' => v = (.bool r.1) ∧ L' = [.cell bp0 [(.list 1 (List.map (AV.int .u8) r.2.b)), (.int .i64 r.2.i), (.int .i64 r.2.h)]] := by
  intro H S hS
  refine HC.enter Try.func62 rfl Try.ntmps62 (by simp) ?_
  simp only [List.cons_append, List.nil_append] at hS
  unfold spec_l1Once at hF
  refine AWP.seqR rfl ?_
  refine ASL.q (v := (.bool false)) rfl rfl (Light.quiet (opAssign rfl rfl)) ?_
  refine ASL.done ?_
  refine AWP.seqR rfl ?_
  refine ASL.q (v := (.ptr bp0 0)) rfl rfl (Light.quiet (opMove rfl rfl)) ?_
  refine ASL.q (v := (.int .i64 p1)) rfl rfl (Light.quiet (opMove rfl rfl)) ?_
  obtain ⟨a7, ha7, hF⟩ := bindE hF
  refine ASL.x rfl rfl (hCallS hS [0, 1] (F := [.snap S]) rfl rfl rfl call_63 (spec_l1Below_ok ha7) rfl rfl ?_); rintro _ _ G2 ⟨rfl, rfl⟩ hS
  refine ASL.q (v := (.bool (decide (a7.1 = 0)))) rfl rfl (Light.quiet (opInt rfl rfl rfl rfl)) ?_
  refine ASL.q (v := (.bool (decide (a7.1 = 0)))) rfl rfl (Light.quiet (opAssign rfl rfl)) ?_
  refine ASL.done ?_
  refine AWP.ret ?_
  obtain rfl := someE hF
  exact QRet.sole (v := (.bool (decide (a7.1 = 0)))) ⟨rfl, trivial⟩ ⟨_, ⟨rfl, rfl⟩, hS.pick [0, 1] rfl rfl⟩

set_option maxRecDepth 10000 in
theorem spec_l3DrawLetters_ok {p0 : Tl1Cur} {p1 : Int} {p2 : Int} {r : ((List Int) × Tl1Cur)} {bp0 : Nat} (hF : spec_l3DrawLetters p0 p1 p2 = some r) : HS Try.prog 64 [(.ptr bp0 0), (.int .i64 p1), (.int .i64 p2)] [.cell bp0 [(.list 1 (List.map (AV.int .u8) p0.b)), (.int .i64 p0.i), (.int .i64 p0.h)]] fun v L' => ∃ o0 : AV, v = o0 ∧ L' = [.row 1 o0 (List.map (AV.int .i64) r.1), .cell bp0 [(.list 1 (List.map (AV.int .u8) r.2.b)), (.int .i64 r.2.i), (.int .i64 r.2.h)]] := by
  intro H S hS
  refine HC.enter Try.func64 rfl Try.ntmps64 (by simp) ?_
  simp only [List.cons_append, List.nil_append] at hS
  unfold spec_l3DrawLetters at hF
  refine AWP.seqR rfl ?_
  have hS := hNil (s := 1) (f := (AV.int .i64)) hS
  refine ASL.q (v := .nil) rfl rfl (Light.quiet (opAssign rfl rfl)) ?_
  refine ASL.done ?_
  refine AWP.seqR rfl ?_
  refine ASL.x rfl rfl (hLit (f := (AV.int .i64)) (zs := []) hS rfl rfl elemA_47 sizeA_3 zeroA_3 rfl rfl rfl rfl (by simp [cells]) (nlt rfl) ?_); rintro v10 G3 hK hS
  refine ASL.q (v := v10) rfl rfl (Light.quiet (opAssign rfl rfl)) ?_
  refine ASL.done ?_
  refine AWP.seqR rfl ?_
  refine ASL.q (v := (.ptr bp0 0)) rfl rfl (Light.quiet (opMove rfl rfl)) ?_
  refine ASL.q (v := (.int .i64 p1)) rfl rfl (Light.quiet (opMove rfl rfl)) ?_
  refine ASL.q (v := (.int .i64 (W (p1 + 1)))) rfl rfl (Light.quiet (opInt rfl rfl rfl rfl)) ?_
  obtain ⟨a14, ha14, hF⟩ := bindE hF
  refine ASL.x rfl rfl (hCallS hS [2, 0, 1, 3] (F := [.row 1 v10 (List.map (AV.int .i64) ([])), .row 1 .nil (List.map (AV.int .i64) ([])), .snap S]) rfl rfl rfl call_63 (spec_l1Below_ok ha14) rfl rfl ?_); rintro _ _ G5 ⟨rfl, rfl⟩ hS
  refine ASL.q (v := (.int .i64 a14.1)) rfl rfl (Light.quiet (opAssign rfl rfl)) ?_
  refine ASL.done ?_
  refine AWP.seqM (fun e H => ∃ y6 : (List Int), ∃ y9 : (List Int), ∃ y10 : Int, ∃ y11 : Int, ∃ w7 : AV, E.Told e [(7, w7)] ∧ E.Sep H [.row 1 w7 (List.map (AV.int .i64) y6), .cell bp0 [(.list 1 (List.map (AV.int .u8) y9)), (.int .i64 y10), (.int .i64 y11)], .snap S] ∧ spec_l3DrawLetters.k0 y6 y9 y10 y11 = some r) ?_ ?_
  · rintro e0 G12 ⟨y6, y9, y10, y11, w7, hT, hS, hF⟩; refine AWP.only _ hT ?_; unfold spec_l3DrawLetters.k0 at hF
    refine AWP.seqR rfl ?_
    refine ASL.q (v := w7) rfl rfl (Light.quiet (opMove rfl rfl)) ?_
    refine ASL.q (v := w7) rfl rfl (Light.quiet (opAssign rfl rfl)) ?_
    refine ASL.done ?_
    refine AWP.ret ?_
    obtain rfl := someE hF
    exact QRet.sole (v := w7) ⟨rfl, trivial⟩ ⟨_, ⟨w7, rfl, rfl⟩, hS.pick [0, 1, 2] rfl rfl⟩
  · skip
    refine AWP.seqR rfl ?_
    refine ASL.q (v := (.int .i64 0)) rfl rfl (Light.quiet (opAssign rfl rfl)) ?_
    refine ASL.done ?_
    refine AWP.block ?_
    obtain ⟨o22, hL21, hR23⟩ := bindE hF
    refine AWP.loopF (ω := AV) hL21 (fun s w => [(0, (.ptr bp0 0)), (2, (.int .i64 p2)), (7, w), (8, (.int .i64 a14.1)), (9, (.int .i64 s.2.2.2.2))]) (fun s w => [.cell bp0 [(.list 1 (List.map (AV.int .u8) s.1)), (.int .i64 s.2.1), (.int .i64 s.2.2.1)], .row 1 w (List.map (AV.int .i64) s.2.2.2.1), .snap S]) v10 ⟨rfl, rfl, rfl, rfl, rfl, trivial⟩ (hS.pick [0, 1, 3] rfl rfl) ?_
    rintro ⟨y13, y14, y15, y16, x9_l0⟩ w17 G24 hS x19 hF hx20
    try dsimp only at hS ⊢
    have hF : spec_l3DrawLetters.b0 a14 p2 y13 y14 y15 y16 x9_l0 = some x19 := hF; unfold spec_l3DrawLetters.b0 at hF
    refine AWP.seq ?_
    refine AWP.seqR rfl ?_
    refine ASL.q (v := (.int .i64 x9_l0)) rfl rfl (Light.quiet (opMove rfl rfl)) ?_
    refine ASL.q (v := (.int .i64 a14.1)) rfl rfl (Light.quiet (opMove rfl rfl)) ?_
    refine ASL.q (v := (.bool (decide (x9_l0 < a14.1)))) rfl rfl (Light.quiet (opInt rfl rfl rfl rfl)) ?_
    refine ASL.done ?_
    refine AWP.ifP hF rfl (fun hc25 hF => ?_) (fun hc25 hF => ?_)
    · skip
      refine AWP.skip ?_
      refine QThen.nrm ?_
      refine AWP.seq ?_
      refine AWP.block ?_
      refine AWP.lastR rfl ?_
      refine ASL.q (v := w17) rfl rfl (Light.quiet (opMove rfl rfl)) ?_
      refine ASL.q (v := (.ptr bp0 0)) rfl rfl (Light.quiet (opMove rfl rfl)) ?_
      refine ASL.q (v := (.int .i64 p2)) rfl rfl (Light.quiet (opMove rfl rfl)) ?_
      obtain ⟨a23, ha23, hF⟩ := bindE hF
      refine ASL.x rfl rfl (hCallS hS [0, 1, 2] (F := [.row 1 w17 (List.map (AV.int .i64) y16), .snap S]) rfl rfl rfl call_63 (spec_l1Below_ok ha23) rfl rfl ?_); rintro _ _ G26 ⟨rfl, rfl⟩ hS
      refine ASL.q (v := (.list 1 (List.map (AV.int .i64) [a23.1]))) rfl rfl ((qLit (xs := [(.int .i64 a23.1)]) rfl elemA_47 sizeA_3 zeroA_3 rfl rfl rfl rfl (by simp [cells]) (nlt rfl))) ?_
      obtain ⟨z25, hz25, hF⟩ := bindE hF
      refine ASL.x rfl rfl (hApp (f := (AV.int .i64)) (ws := [a23.1]) hS (j := 1) rfl hz25 rfl elemA_47 rfl sizeA_3 bytesA_3 zeroA_3 rfl rfl rfl (fun _ => rfl) ?_); rintro v25 G27 hS
      refine ASL.q (v := v25) rfl rfl (Light.quiet (opAssign rfl rfl)) ?_
      refine ASL.done ?_
      refine QBlock.nrm ?_
      refine QThen.nrm ?_
      refine AWP.lastR rfl ?_
      refine ASL.q (v := (.int .i64 x9_l0)) rfl rfl (Light.quiet (opMove rfl rfl)) ?_
      refine ASL.q (v := (.int .i64 (W (x9_l0 + 1)))) rfl rfl (Light.quiet (opInt rfl rfl rfl rfl)) ?_
      refine ASL.q (v := (.int .i64 (W (x9_l0 + 1)))) rfl rfl (Light.quiet (opAssign rfl rfl)) ?_
      refine ASL.done ?_
      refine QThen.nrm ?_
      exact ⟨(a23.2.b, a23.2.i, a23.2.h, z25, (W (x9_l0 + 1))), v25, (someE hF).symm, ⟨rfl, rfl, rfl, rfl, rfl, trivial⟩, (hS.pick [0, 1, 2] rfl rfl)⟩
    · skip
      refine AWP.exit ?_
      refine QThen.ext ?_
      refine QThen.ext ?_
      refine QBlock.hit ?_
      obtain rfl := (hx20 _ (someE hF).symm)
      have hF := hR23
      refine QThen.nrm ?_
      exact ⟨y16, y13, y14, y15, w17, ⟨rfl, trivial⟩, (hS.pick [1, 0, 2] rfl rfl), hF⟩

set_option maxRecDepth 10000 in
theorem spec_DrawReTakes_ok {K : Nat} {p0 : (List Int)} {r : ((List TNode) × (List Int))} (hF : spec_DrawReTakes K p0 = some r) : PC Try.prog 21 [(.list 1 (List.map (AV.int .u8) p0))] fun v => v = .tup [(.list 3 (List.map TNode.av r.1)), (.list 1 (List.map (AV.int .i64) r.2))] := by
  refine PC.enter Try.func21 rfl Try.ntmps21 (by simp) ?_
  have hS := Sep.void; unfold spec_DrawReTakes at hF
  refine AWP.seqR rfl ?_
  refine ASL.q (v := (.list 3 (List.map TNode.av []))) rfl rfl (Light.quiet (opNilL rfl rfl)) ?_
  have hS := hNil (s := 1) (f := (AV.int .i64)) hS
  refine ASL.q (v := .nil) rfl rfl (Light.quiet (opAssign rfl rfl)) ?_
  refine ASL.done ?_
  refine AWP.seqR rfl ?_
  refine ASL.q (v := (.list 1 (List.map (AV.int .u8) p0))) rfl rfl (Light.quiet (opMove rfl rfl)) ?_
  obtain ⟨a7, ha7, hF⟩ := bindE hF
  refine ASL.x rfl rfl (hCallS hS [0] (F := [.row 1 .nil (List.map (AV.int .i64) ([]))]) rfl rfl rfl call_60 (spec_l1New_ok ha7) rfl rfl ?_); rintro _ _ G4 ⟨bq2, rfl, rfl⟩ hS
  refine ASL.q (v := (.ptr bq2 0)) rfl rfl (Light.quiet (opAssign rfl rfl)) ?_
  refine ASL.done ?_
  refine AWP.seqR rfl ?_
  refine ASL.q (v := (.ptr bq2 0)) rfl rfl (Light.quiet (opMove rfl rfl)) ?_
  obtain ⟨a9, ha9, hF⟩ := bindE hF
  refine ASL.x rfl rfl (hCallS hS [0, 1] (F := [.row 1 .nil (List.map (AV.int .i64) ([]))]) rfl rfl rfl call_61 (spec_l11DrawAny_ok ha9) rfl rfl ?_); rintro w5 _ G7 ⟨_, rfl, rfl⟩ hS
  refine ASL.q (v := w5) rfl rfl (Light.quiet (opAssign rfl rfl)) ?_
  refine ASL.done ?_
  refine AWP.seq ?_
  refine AWP.seqR rfl ?_
  refine ASL.q (v := (.ptr bq2 0)) rfl rfl (Light.quiet (opMove rfl rfl)) ?_
  obtain ⟨a11, ha11, hF⟩ := bindE hF
  refine ASL.x rfl rfl (hCallS hS [1, 0, 2] (F := [.row 3 w5 (List.map TNode.av a9.1), .row 1 .nil (List.map (AV.int .i64) ([]))]) rfl rfl rfl call_62 (spec_l1Once_ok ha11) rfl rfl ?_); rintro _ _ G8 ⟨rfl, rfl⟩ hS
  refine ASL.done ?_
  refine AWP.ifB hF rfl (fun hc9 hF => ?_) (fun hc9 hF => ?_)
  · skip
    refine AWP.frz (L' := [.cell bq2 [(.list 1 (List.map (AV.int .u8) a11.2.b)), (.int .i64 a11.2.i), (.int .i64 a11.2.h)], .row 1 .nil (List.map (AV.int .i64) ([]))]) hS (k := 1) rfl [(4, (.ptr bq2 0)), (5, (.list 3 (List.map TNode.av a9.1)))] ⟨.inl rfl, .inr (.inl ⟨rfl, rfl⟩), trivial⟩ ⟨⟨_, rfl, ⟨.inl rfl, .inl rfl, .inl rfl, trivial⟩⟩, rfl, trivial⟩ (fun G10 hS => ?_)
    refine AWP.seqD [(0, false), (1, false), (2, true), (3, false), (5, false), (4, true), (6, false)] mixed (by kernel_rfl) rfl ?_
    refine ARL.q0 (v := (.list 3 (List.map TNode.av a9.1))) rfl rfl (Light.quiet (opMove rfl rfl)) ?_
    refine ARL.q0 (v := (.ptr bq2 0)) rfl rfl (Light.quiet (opMove rfl rfl)) ?_
    obtain ⟨a14, ha14, hF⟩ := bindE hF
    refine ARL.y rfl rfl rfl rfl (hCallS hS [0, 1] (F := [.row 1 .nil (List.map (AV.int .i64) ([]))]) rfl rfl rfl call_63 (spec_l1Below_ok ha14) rfl rfl ?_); rintro _ _ G11 ⟨rfl, rfl⟩ hS
    refine ARL.q0 (v := (.int .i64 (W (60 + a14.1)))) rfl rfl (Light.quiet (opInt rfl rfl rfl rfl)) ?_
    refine ARL.q0 (v := (.list 3 (List.map TNode.av a9.1))) rfl rfl (Light.quiet (opAssign rfl rfl)) ?_
    obtain ⟨z16, hz16, hF⟩ := bindE hF
    refine ARL.x rfl rfl rfl (hMk (f := (AV.int .i64)) hS hz16 (by decide) rfl elemA_47 sizeA_3 bytesA_3 zeroA_3 rfl rfl (by decide) rfl rfl ?_); rintro v16 G12 hK hS; refine ⟨hK, ?_⟩
    refine ARL.q0 (v := v16) rfl rfl (Light.quiet (opAssign rfl rfl)) ?_
    refine ARL.done ?_
    refine AWP.frz (L' := [.cell bq2 [(.list 1 (List.map (AV.int .u8) a14.2.b)), (.int .i64 a14.2.i), (.int .i64 a14.2.h)], .row 1 .nil (List.map (AV.int .i64) ([]))]) hS (k := 0) rfl [(2, (.list 3 (List.map TNode.av a9.1))), (3, (.list 1 (List.map (AV.int .i64) z16))), (4, (.ptr bq2 0)), (5, (.list 3 (List.map TNode.av a9.1)))] ⟨.inl rfl, .inr (.inl ⟨rfl, rfl⟩), .inl rfl, .inl rfl, trivial⟩ ⟨⟨_, rfl, ⟨.inl rfl, .inl rfl, .inl rfl, trivial⟩⟩, rfl, trivial⟩ (fun G14 hS => ?_)
    refine AWP.ret ?_
    refine QThen.rt ?_
    obtain rfl := someE hF
    exact QRet.many (vs := [(.list 3 (List.map TNode.av a9.1)), (.list 1 (List.map (AV.int .i64) z16))]) ⟨rfl, rfl, trivial⟩ (by simp) rfl
  · skip
    refine AWP.skip ?_
    refine QThen.nrm ?_
    refine AWP.frz (L' := [.cell bq2 [(.list 1 (List.map (AV.int .u8) a11.2.b)), (.int .i64 a11.2.i), (.int .i64 a11.2.h)], .row 1 .nil (List.map (AV.int .i64) ([]))]) hS (k := 1) rfl [(4, (.ptr bq2 0)), (5, (.list 3 (List.map TNode.av a9.1)))] ⟨.inl rfl, .inr (.inl ⟨rfl, rfl⟩), trivial⟩ ⟨⟨_, rfl, ⟨.inl rfl, .inl rfl, .inl rfl, trivial⟩⟩, rfl, trivial⟩ (fun G15 hS => ?_)
    refine AWP.seqR rfl ?_
    refine ASL.q (v := (.list 3 (List.map TNode.av a9.1))) rfl rfl (Light.quiet (opMove rfl rfl)) ?_
    refine ASL.q (v := (.ptr bq2 0)) rfl rfl (Light.quiet (opMove rfl rfl)) ?_
    obtain ⟨a19, ha19, hF⟩ := bindE hF
    refine ASL.x rfl rfl (hCallS hS [0, 1] (F := [.row 1 .nil (List.map (AV.int .i64) ([]))]) rfl rfl rfl call_64 (spec_l3DrawLetters_ok ha19) rfl rfl ?_); rintro w16 _ G18 ⟨_, rfl, rfl⟩ hS
    refine ASL.q (v := (.list 3 (List.map TNode.av a9.1))) rfl rfl (Light.quiet (opAssign rfl rfl)) ?_
    refine ASL.q (v := w16) rfl rfl (Light.quiet (opAssign rfl rfl)) ?_
    refine ASL.done ?_
    refine AWP.frz (L' := [.cell bq2 [(.list 1 (List.map (AV.int .u8) a19.2.b)), (.int .i64 a19.2.i), (.int .i64 a19.2.h)], .row 1 .nil (List.map (AV.int .i64) ([]))]) hS (k := 0) rfl [(2, (.list 3 (List.map TNode.av a9.1))), (3, (.list 1 (List.map (AV.int .i64) a19.1))), (4, (.ptr bq2 0)), (5, (.list 3 (List.map TNode.av a9.1)))] ⟨.inl rfl, .inr (.inl ⟨rfl, rfl⟩), .inl rfl, .inl rfl, trivial⟩ ⟨⟨_, rfl, ⟨.inl rfl, .inl rfl, .inl rfl, trivial⟩⟩, rfl, trivial⟩ (fun G19 hS => ?_)
    refine AWP.ret ?_
    obtain rfl := someE hF
    exact QRet.many (vs := [(.list 3 (List.map TNode.av a9.1)), (.list 1 (List.map (AV.int .i64) a19.1))]) ⟨rfl, rfl, trivial⟩ (by simp) rfl

set_option maxRecDepth 10000 in
theorem impl_inRange_ok (p0 : Int) (p1 : Int) (p2 : Int) : PC Try.prog 78 [(.int .i64 p0), (.int .i64 p1), (.int .i64 p2)] fun v => v = (.bool (impl_inRange p0 p1 p2)) := by
  generalize hF : impl_inRange p0 p1 p2 = r
  refine PC.enter Try.func78 rfl Try.ntmps78 (by simp) ?_
  have hS := Sep.void; unfold impl_inRange at hF
  refine AWP.seqR rfl ?_
  refine ASL.q (v := (.bool false)) rfl rfl (Light.quiet (opAssign rfl rfl)) ?_
  refine ASL.done ?_
  refine AWP.seqR rfl ?_
  refine ASL.q (v := (.int .i64 p0)) rfl rfl (Light.quiet (opMove rfl rfl)) ?_
  refine ASL.q (v := (.int .i64 p1)) rfl rfl (Light.quiet (opMove rfl rfl)) ?_
  refine ASL.q (v := (.bool (decide (p0 ≥ p1)))) rfl rfl (Light.quiet (opInt rfl rfl rfl rfl)) ?_
  obtain ⟨c10, hc10, hF⟩ := bndE hF
  refine ASL.q (v := (.bool c10)) rfl rfl ((Quiet.cast (Light.quiet (opMove rfl rfl)) (congrArg AV.bool hc10.symm))) ?_
  refine ASL.g (v := (.int .i64 p0)) (.bool c10) true rfl (wT _) rfl (fun hG => by have q0 := hG; subst q0; exact Light.quiet (opMove rfl rfl)) ?_
  refine ASL.g (v := (.int .i64 p2)) (.bool c10) true rfl (wT _) rfl (fun hG => by have q0 := hG; subst q0; exact Light.quiet (opMove rfl rfl)) ?_
  refine ASL.g (v := (.bool (decide (p0 ≤ p2)))) (.bool c10) true rfl (wT _) rfl (fun hG => by have q0 := hG; subst q0; exact Light.quiet (opInt rfl rfl rfl rfl)) ?_
  refine ASL.q (v := (.bool (c10 && (decide (p0 ≤ p2))))) rfl rfl (Light.quiet (opPick (b := c10) rfl rfl (by cases c10 <;> rfl))) ?_
  refine ASL.q (v := (.bool (c10 && (decide (p0 ≤ p2))))) rfl rfl (Light.quiet (opAssign rfl rfl)) ?_
  refine ASL.done ?_
  refine AWP.ret ?_
  obtain rfl := hF
  exact QRet.sole (v := (.bool (c10 && (decide (p0 ≤ p2))))) ⟨rfl, trivial⟩ rfl

set_option maxRecDepth 10000 in
theorem impl_begins_ok {p0 : (List TNode)} {g1 : (TNode → Option Int)} {r : ((List Int) × Bool)} {k1 : Nat} (hcal1 : callable Try.prog k1 = true) (hg1 : ∀ q0 y, g1 q0 = some y → PC Try.prog k1 [(TNode.av q0)] fun v => v = (.int .i64 y)) (hF : impl_begins p0 g1 = some r) : PC Try.prog 106 [(.list 3 (List.map TNode.av p0)), (.fn (.func k1) [] [])] fun v => v = .tup [(.list 1 (List.map (AV.int .i64) r.1)), (.bool r.2)] := by
  refine PC.enter Try.func106 rfl Try.ntmps106 (by simp) ?_
  have hS := Sep.void; unfold impl_begins at hF
  refine AWP.seqR rfl ?_
  refine ASL.q (v := (.list 1 (List.map (AV.int .i64) []))) rfl rfl (Light.quiet (opNilL rfl rfl)) ?_
  refine ASL.q (v := (.bool false)) rfl rfl (Light.quiet (opAssign rfl rfl)) ?_
  refine ASL.done ?_
  refine AWP.seq ?_
  refine AWP.seqR rfl ?_
  refine ASL.q (v := (.list 3 (List.map TNode.av p0))) rfl rfl (Light.quiet (opMove rfl rfl)) ?_
  refine ASL.q (v := (.int .i64 (p0.length : Int))) rfl rfl (Light.quiet (opLenMap (f := TNode.av) rfl rfl rfl lenT_29 rfl)) ?_
  refine ASL.q (v := (.bool (impl_inRange ((p0.length : Int)) 1 31))) rfl rfl ((qCall rfl rfl call_78 (impl_inRange_ok ((p0.length : Int)) 1 31) rfl)) ?_
  refine ASL.q (v := (.bool (!(impl_inRange ((p0.length : Int)) 1 31)))) rfl rfl (Light.quiet (opNot rfl rfl)) ?_
  refine ASL.done ?_
  refine AWP.ifB hF rfl (fun hc1 hF => ?_) (fun hc1 hF => ?_)
  · skip
    refine AWP.seqR rfl ?_
    refine ASL.q (v := (.list 1 (List.map (AV.int .i64) []))) rfl rfl (Light.quiet (opNilL rfl rfl)) ?_
    refine ASL.q (v := (.bool false)) rfl rfl (Light.quiet (opAssign rfl rfl)) ?_
    refine ASL.done ?_
    refine AWP.ret ?_
    refine QThen.rt ?_
    obtain rfl := someE hF
    exact QRet.many (vs := [(.list 1 (List.map (AV.int .i64) [])), (.bool false)]) ⟨rfl, rfl, trivial⟩ (by simp) rfl
  · skip
    refine AWP.skip ?_
    refine QThen.nrm ?_
    refine AWP.seqR rfl ?_
    refine ASL.q (v := (.list 3 (List.map TNode.av p0))) rfl rfl (Light.quiet (opMove rfl rfl)) ?_
    refine ASL.q (v := (.int .i64 (p0.length : Int))) rfl rfl (Light.quiet (opLenMap (f := TNode.av) rfl rfl rfl lenT_29 rfl)) ?_
    obtain ⟨z15, hz15, hF⟩ := bindE hF
    refine ASL.x rfl rfl (hMk (f := (AV.int .i64)) hS hz15 (by decide) rfl elemA_47 sizeA_3 bytesA_3 zeroA_3 rfl rfl (by decide) rfl rfl ?_); rintro v15 G2 hK hS
    refine ASL.q (v := v15) rfl rfl (Light.quiet (opAssign rfl rfl)) ?_
    refine ASL.done ?_
    refine AWP.seqM (fun e H => ∃ y4 : (List Int), E.Told e [(0, (.list 3 (List.map TNode.av p0))), (6, v15)] ∧ E.Sep H [.row 1 v15 (List.map (AV.int .i64) y4)] ∧ impl_begins.k0 p0 y4 = some r) ?_ ?_
    · rintro e0 G6 ⟨y4, hT, hS, hF⟩; refine AWP.only _ hT ?_; unfold impl_begins.k0 at hF
      refine AWP.frz (L' := []) hS (k := 0) rfl [(0, (.list 3 (List.map TNode.av p0))), (6, (.list 1 (List.map (AV.int .i64) y4)))] ⟨.inl rfl, .inr (.inl ⟨rfl, rfl⟩), trivial⟩ trivial (fun G5 hS => ?_)
      refine AWP.seqD [(0, false), (1, false), (2, false), (3, false), (4, false), (5, false), (6, false), (7, false), (8, false), (9, false)] mixed (by kernel_rfl) rfl ?_
      refine ARL.q0 (v := (.list 1 (List.map (AV.int .i64) y4))) rfl rfl (Light.quiet (opMove rfl rfl)) ?_
      refine ARL.q0 (v := (.list 1 (List.map (AV.int .i64) y4))) rfl rfl (Light.quiet (opMove rfl rfl)) ?_
      refine ARL.q0 (v := (.list 3 (List.map TNode.av p0))) rfl rfl (Light.quiet (opMove rfl rfl)) ?_
      refine ARL.q0 (v := (.int .i64 (p0.length : Int))) rfl rfl (Light.quiet (opLenMap (f := TNode.av) rfl rfl rfl lenT_29 rfl)) ?_
      refine ARL.q0 (v := (.int .i64 (W (((p0.length : Int)) - 1)))) rfl rfl (Light.quiet (opInt rfl rfl rfl rfl)) ?_
      obtain ⟨a97, ha97, hF⟩ := bindE hF
      refine ARL.q0 (v := (.rptr [(.int .i64 a97)])) rfl rfl (Light.quiet (kIx (f := (AV.int .i64)) ha97 rfl rfl rfl elemA_47 sizeA_3 rfl)) ?_
      refine ARL.q0 (v := (.int .i64 a97)) rfl rfl (Light.quiet (opLoadR rfl aggA_3 rfl rfl)) ?_
      refine ARL.q0 (v := (.bool (decide (a97 = 0)))) rfl rfl (Light.quiet (opInt rfl rfl rfl rfl)) ?_
      refine ARL.q0 (v := (.list 1 (List.map (AV.int .i64) y4))) rfl rfl (Light.quiet (opAssign rfl rfl)) ?_
      refine ARL.q0 (v := (.bool (decide (a97 = 0)))) rfl rfl (Light.quiet (opAssign rfl rfl)) ?_
      refine ARL.done ?_
      refine AWP.ret ?_
      obtain rfl := someE hF
      exact QRet.many (vs := [(.list 1 (List.map (AV.int .i64) y4)), (.bool (decide (a97 = 0)))]) ⟨rfl, rfl, trivial⟩ (by simp) rfl
    · skip
      refine AWP.seqR rfl ?_
      refine ASL.q (v := (.list 3 (List.map TNode.av p0))) rfl rfl (Light.quiet (opMove rfl rfl)) ?_
      refine ASL.q (v := (.int .i64 (p0.length : Int))) rfl rfl (Light.quiet (opLenMap (f := TNode.av) rfl rfl rfl lenT_29 rfl)) ?_
      refine ASL.q (v := (.int .i64 0)) rfl rfl (Light.quiet (opMove rfl rfl)) ?_
      refine ASL.done ?_
      refine AWP.block ?_
      obtain ⟨o11, hL10, hR12⟩ := bindE hF
      refine AWP.loopF (ω := Unit) hL10 (fun s w => [(0, (.list 3 (List.map TNode.av p0))), (1, (.fn (.func k1) [] [])), (6, v15), (16, (.list 3 (List.map TNode.av p0))), (17, (.int .i64 (p0.length : Int))), (18, (.int .i64 s.2))]) (fun s w => [.row 1 v15 (List.map (AV.int .i64) s.1)]) () ⟨rfl, rfl, rfl, rfl, rfl, rfl, trivial⟩ (hS.pick [0] rfl rfl) ?_
      rintro ⟨y7, x18_l0⟩ _ G13 hS x8 hF hx9
      try dsimp only at hS ⊢
      have hF : impl_begins.b0 p0 g1 y7 x18_l0 = some x8 := hF; unfold impl_begins.b0 at hF
      refine AWP.seqR rfl ?_
      refine ASL.q (v := (.bool (decide (x18_l0 < ((p0.length : Int)))))) rfl rfl (Light.quiet (opInt rfl rfl rfl rfl)) ?_
      refine ASL.done ?_
      refine AWP.seq ?_
      refine AWP.ifP hF rfl (fun hc14 hF => ?_) (fun hc14 hF => ?_)
      · skip
        refine AWP.skip ?_
        refine QThen.nrm ?_
        refine AWP.seq ?_
        refine AWP.block ?_
        refine AWP.seqR rfl ?_
        refine ASL.q (v := (.int .i64 x18_l0)) rfl rfl (Light.quiet (opMove rfl rfl)) ?_
        obtain ⟨a21, ha21, hF⟩ := bindE hF
        refine ASL.q (v := (.rptr [(.int .i64 a21.kind), (.int .i64 a21.a), (.int .i64 a21.b)])) rfl rfl (Light.quiet (kIx (f := TNode.av) ha21 rfl rfl rfl elemA_29 sizeA_65 rfl)) ?_
        refine ASL.q (v := (TNode.av a21)) rfl rfl (Light.quiet (opLoadRA rfl aggA_65 sizeA_65 rfl (nlt rfl) rfl)) ?_
        refine ASL.x rfl rfl (hNewZ hS [(.int .i64 0), (.int .i64 0), (.int .i64 0)] rfl zeroA_65 ⟨.inl rfl, .inl rfl, .inl rfl, trivial⟩ ?_); rintro b8 G15 hK hS
        refine ASL.q (v := (.int .i64 x18_l0)) rfl rfl (Light.quiet (opAssign rfl rfl)) ?_
        refine ASL.n rfl rfl (hPutA hS (j := 0) rfl rfl sizeA_65 rfl rfl rfl rfl rfl (nlt rfl) ?_); rintro G17 hS
        refine ASL.done ?_
        refine AWP.seqR rfl ?_
        refine ASL.q (v := v15) rfl rfl (Light.quiet (opMove rfl rfl)) ?_
        refine ASL.q (v := (.int .i64 x18_l0)) rfl rfl (Light.quiet (opMove rfl rfl)) ?_
        refine ASL.q (v := (.int .i64 x18_l0)) rfl rfl (Light.quiet (opMove rfl rfl)) ?_
        obtain ⟨m26, hm26, hF⟩ := bindE hF
        refine ASL.q (v := (ptrTo v15 m26 1)) rfl rfl (Light.quiet (kIxO hS (j := 1) rfl hm26 rfl rfl rfl elemA_47 sizeA_3)) ?_
        refine ASL.n rfl rfl (hSt (f := (AV.int .i64)) (a := x18_l0) hS (j := 1) rfl hm26 rfl sizeA_3 rfl rfl ⟨rfl, rfl, rfl⟩ ?_); rintro G18 hS
        refine ASL.done ?_
        refine AWP.seqR rfl ?_
        refine ASL.q (v := (.fn (.func k1) [] [])) rfl rfl (Light.quiet (opMove rfl rfl)) ?_
        refine ASL.q (v := (TNode.av a21)) rfl rfl (Light.quiet (kAtA hS (j := 0) rfl rfl aggA_65 sizeA_65 rfl (nlt rfl) rfl)) ?_
        obtain ⟨a29, ha29, hF⟩ := bindE hF
        refine ASL.q (v := (.int .i64 a29)) rfl rfl ((qCall rfl rfl hcal1 ((hg1 _ _) ha29) rfl)) ?_
        refine ASL.done ?_
        refine AWP.block ?_
        refine AWP.seqR rfl ?_
        refine ASL.q (v := (.bool (decide (a29 = 0)))) rfl rfl (Light.quiet (opInt rfl rfl rfl rfl)) ?_
        refine ASL.q (v := (.bool (decide (a29 = 0)))) rfl rfl (Light.quiet (opAssign rfl rfl)) ?_
        refine ASL.done ?_
        refine AWP.ifP hF rfl (fun hc19 hF => ?_) (fun hc19 hF => ?_)
        · skip
          refine AWP.exit ?_
          refine QBlock.miss rfl ?_
          refine QBlock.hit ?_
          refine QThen.nrm ?_
          refine AWP.lastR rfl ?_
          refine ASL.q (v := (.int .i64 (W (x18_l0 + 1)))) rfl rfl (Light.quiet (opInt rfl rfl rfl rfl)) ?_
          refine ASL.q (v := (.int .i64 (W (x18_l0 + 1)))) rfl rfl (Light.quiet (opMove rfl rfl)) ?_
          refine ASL.done ?_
          refine QThen.nrm ?_
          exact ⟨((y7.set m26 x18_l0), (W (x18_l0 + 1))), (), (someE hF).symm, ⟨rfl, rfl, rfl, rfl, rfl, rfl, trivial⟩, (hS.pick [1] rfl rfl)⟩
        · skip
          refine AWP.seqR rfl ?_
          refine ASL.q (v := (.bool (decide (a29 = 1)))) rfl rfl (Light.quiet (opInt rfl rfl rfl rfl)) ?_
          refine ASL.q (v := (.bool (decide (a29 = 1)))) rfl rfl (Light.quiet (opAssign rfl rfl)) ?_
          refine ASL.done ?_
          refine AWP.ifP hF rfl (fun hc20 hF => ?_) (fun hc20 hF => ?_)
          · skip
            refine AWP.seq ?_
            refine AWP.seqR rfl ?_
            refine ASL.q (v := (.int .i64 x18_l0)) rfl rfl (Light.quiet (opMove rfl rfl)) ?_
            refine ASL.q (v := (.bool (decide (x18_l0 = 0)))) rfl rfl (Light.quiet (opInt rfl rfl rfl rfl)) ?_
            obtain ⟨c36, hc36, hF⟩ := bndE hF
            refine ASL.q (v := (.bool c36)) rfl rfl ((Quiet.cast (Light.quiet (opMove rfl rfl)) (congrArg AV.bool hc36.symm))) ?_
            refine ASL.g (v := (.ptr b8 1)) (.bool c36) false rfl (wF _) rfl (fun hG => by have q0 := gN hG; subst q0; exact Light.quiet (opFieldAddr rfl fieldA_65_1 rfl rfl)) ?_
            refine ASL.g (v := (.int .i64 a21.a)) (.bool c36) false rfl (wF _) rfl (fun hG => by have q0 := gN hG; subst q0; exact Light.quiet (kAt hS (j := 0) rfl rfl aggA_3 rfl rfl)) ?_
            refine ASL.g (v := (.int .i64 x18_l0)) (.bool c36) false rfl (wF _) rfl (fun hG => by have q0 := gN hG; subst q0; exact Light.quiet (opMove rfl rfl)) ?_
            refine ASL.g (v := (.int .i64 (W (x18_l0 - 1)))) (.bool c36) false rfl (wF _) rfl (fun hG => by have q0 := gN hG; subst q0; exact Light.quiet (opInt rfl rfl rfl rfl)) ?_
            refine ASL.g (v := (.bool (decide (a21.a ≠ ((W (x18_l0 - 1))))))) (.bool c36) false rfl (wF _) rfl (fun hG => by have q0 := gN hG; subst q0; exact Light.quiet (opInt rfl rfl rfl rfl)) ?_
            refine ASL.q (v := (.bool (c36 || (decide (a21.a ≠ ((W (x18_l0 - 1)))))))) rfl rfl (Light.quiet (opPick (b := c36) rfl rfl (by cases c36 <;> rfl))) ?_
            obtain ⟨c43, hc43, hF⟩ := bndE hF
            refine ASL.q (v := (.bool c43)) rfl rfl ((Quiet.cast (Light.quiet (opMove rfl rfl)) (congrArg AV.bool hc43.symm))) ?_
            refine ASL.g (v := (.ptr b8 2)) (.bool c43) false rfl (wF _) rfl (fun hG => by have q0 := gN hG; subst q0; exact Light.quiet (opFieldAddr rfl fieldA_65_2 rfl rfl)) ?_
            refine ASL.g (v := (.int .i64 a21.b)) (.bool c43) false rfl (wF _) rfl (fun hG => by have q0 := gN hG; subst q0; exact Light.quiet (kAt hS (j := 0) rfl rfl aggA_3 rfl rfl)) ?_
            refine ASL.g (v := (.bool (decide (a21.b ≠ 0)))) (.bool c43) false rfl (wF _) rfl (fun hG => by have q0 := gN hG; subst q0; exact Light.quiet (opInt rfl rfl rfl rfl)) ?_
            refine ASL.q (v := (.bool (c43 || (decide (a21.b ≠ 0))))) rfl rfl (Light.quiet (opPick (b := c43) rfl rfl (by cases c43 <;> rfl))) ?_
            refine ASL.done ?_
            refine AWP.ifB hF rfl (fun hc21 hF => ?_) (fun hc21 hF => ?_)
            · skip
              refine AWP.seqR rfl ?_
              refine ASL.q (v := (.list 1 (List.map (AV.int .i64) []))) rfl rfl (Light.quiet (opNilL rfl rfl)) ?_
              refine ASL.q (v := (.bool false)) rfl rfl (Light.quiet (opAssign rfl rfl)) ?_
              refine ASL.done ?_
              refine AWP.ret ?_
              refine QThen.rt ?_
              refine QBlock.ret ?_
              refine QBlock.ret ?_
              refine QThen.rt ?_
              refine QThen.rt ?_
              refine QBlock.ret ?_
              refine QThen.rt ?_
              obtain rfl := (hx9 _ (someE hF).symm)
              have hF := hR12
              have hF := sumR hF
              obtain rfl := someE hF
              exact QRet.many (vs := [(.list 1 (List.map (AV.int .i64) [])), (.bool false)]) ⟨rfl, rfl, trivial⟩ (by simp) rfl
            · skip
              refine AWP.skip ?_
              refine QThen.nrm ?_
              refine AWP.lastR rfl ?_
              refine ASL.q (v := v15) rfl rfl (Light.quiet (opMove rfl rfl)) ?_
              refine ASL.q (v := (.int .i64 x18_l0)) rfl rfl (Light.quiet (opMove rfl rfl)) ?_
              refine ASL.q (v := v15) rfl rfl (Light.quiet (opMove rfl rfl)) ?_
              refine ASL.q (v := (.ptr b8 1)) rfl rfl (Light.quiet (opFieldAddr rfl fieldA_65_1 rfl rfl)) ?_
              refine ASL.q (v := (.int .i64 a21.a)) rfl rfl (Light.quiet (kAt hS (j := 0) rfl rfl aggA_3 rfl rfl)) ?_
              obtain ⟨a53, ha53, hF⟩ := bindE hF
              refine ASL.q (v := (ptrTo v15 a21.a.toNat 1)) rfl rfl (Light.quiet (kIxOx hS (j := 1) rfl ha53 rfl rfl rfl elemA_47 sizeA_3)) ?_
              refine ASL.q (v := (.int .i64 a53)) rfl rfl (Light.quiet (kLd (f := (AV.int .i64)) hS (j := 1) rfl ha53 rfl aggA_3 rfl (fun _ => rfl))) ?_
              obtain ⟨m55, hm55, hF⟩ := bindE hF
              refine ASL.q (v := (ptrTo v15 m55 1)) rfl rfl (Light.quiet (kIxO hS (j := 1) rfl hm55 rfl rfl rfl elemA_47 sizeA_3)) ?_
              refine ASL.n rfl rfl (hSt (f := (AV.int .i64)) (a := a53) hS (j := 1) rfl hm55 rfl sizeA_3 rfl rfl ⟨rfl, rfl, rfl⟩ ?_); rintro G22 hS
              refine ASL.done ?_
              refine QBlock.nrm ?_
              refine QBlock.nrm ?_
              refine QThen.nrm ?_
              refine AWP.lastR rfl ?_
              refine ASL.q (v := (.int .i64 (W (x18_l0 + 1)))) rfl rfl (Light.quiet (opInt rfl rfl rfl rfl)) ?_
              refine ASL.q (v := (.int .i64 (W (x18_l0 + 1)))) rfl rfl (Light.quiet (opMove rfl rfl)) ?_
              refine ASL.done ?_
              refine QThen.nrm ?_
              exact ⟨((((y7.set m26 x18_l0)).set m55 a53), (W (x18_l0 + 1))), (), (someE hF).symm, ⟨rfl, rfl, rfl, rfl, rfl, rfl, trivial⟩, (hS.pick [1] rfl rfl)⟩
          · skip
            refine AWP.seqR rfl ?_
            refine ASL.q (v := (.bool (decide (a29 = 2)))) rfl rfl (Light.quiet (opInt rfl rfl rfl rfl)) ?_
            refine ASL.q (v := (.bool (decide (a29 = 2)))) rfl rfl (Light.quiet (opAssign rfl rfl)) ?_
            refine ASL.done ?_
            refine AWP.ifP hF rfl (fun hc23 hF => ?_) (fun hc23 hF => ?_)
            · skip
              refine AWP.seq ?_
              refine AWP.seqD [(0, false), (1, false), (2, false), (3, false), (4, false), (5, false), (6, false), (7, false), (8, false), (9, false), (10, false), (11, false), (12, false), (13, false), (14, false), (15, false), (16, false), (17, false), (18, false), (19, false), (20, false), (21, false), (22, false), (23, false), (24, false)] mixed (by kernel_rfl) rfl ?_
              refine ARL.q0 (v := (.int .i64 x18_l0)) rfl rfl (Light.quiet (opMove rfl rfl)) ?_
              refine ARL.q0 (v := (.bool (decide (x18_l0 = 0)))) rfl rfl (Light.quiet (opInt rfl rfl rfl rfl)) ?_
              obtain ⟨c60, hc60, hF⟩ := bndE hF
              refine ARL.q0 (v := (.bool c60)) rfl rfl ((Quiet.cast (Light.quiet (opMove rfl rfl)) (congrArg AV.bool hc60.symm))) ?_
              refine ARL.g (v := (.ptr b8 2)) (.bool c60) false rfl (wF _) rfl noneAlive (fun hG => by have q0 := gN hG; subst q0; exact Light.quiet (opFieldAddr rfl fieldA_65_2 rfl rfl)) ?_
              refine ARL.g (v := (.int .i64 a21.b)) (.bool c60) false rfl (wF _) rfl (hS.aliveC (k := 0) rfl) (fun hG => by have q0 := gN hG; subst q0; exact Light.quiet (kAt hS (j := 0) rfl rfl aggA_3 rfl rfl)) ?_
              refine ARL.g (v := (.int .i64 x18_l0)) (.bool c60) false rfl (wF _) rfl noneAlive (fun hG => by have q0 := gN hG; subst q0; exact Light.quiet (opMove rfl rfl)) ?_
              refine ARL.g (v := (.int .i64 (W (x18_l0 - 1)))) (.bool c60) false rfl (wF _) rfl noneAlive (fun hG => by have q0 := gN hG; subst q0; exact Light.quiet (opInt rfl rfl rfl rfl)) ?_
              refine ARL.g (v := (.bool (decide (a21.b ≠ ((W (x18_l0 - 1))))))) (.bool c60) false rfl (wF _) rfl noneAlive (fun hG => by have q0 := gN hG; subst q0; exact Light.quiet (opInt rfl rfl rfl rfl)) ?_
              refine ARL.q0 (v := (.bool (c60 || (decide (a21.b ≠ ((W (x18_l0 - 1)))))))) rfl rfl (Light.quiet (opPick (b := c60) rfl rfl (by cases c60 <;> rfl))) ?_
              obtain ⟨c67, hc67, hF⟩ := bndE hF
              refine ARL.q0 (v := (.bool c67)) rfl rfl ((Quiet.cast (Light.quiet (opMove rfl rfl)) (congrArg AV.bool hc67.symm))) ?_
              refine ARL.g (v := (.ptr b8 1)) (.bool c67) false rfl (wF _) rfl noneAlive (fun hG => by have q0 := gN hG; subst q0; exact Light.quiet (opFieldAddr rfl fieldA_65_1 rfl rfl)) ?_
              refine ARL.g (v := (.int .i64 a21.a)) (.bool c67) false rfl (wF _) rfl (hS.aliveC (k := 0) rfl) (fun hG => by have q0 := gN hG; subst q0; exact Light.quiet (kAt hS (j := 0) rfl rfl aggA_3 rfl rfl)) ?_
              refine ARL.g (v := v15) (.bool c67) false rfl (wF _) rfl noneAlive (fun hG => by have q0 := gN hG; subst q0; exact Light.quiet (opMove rfl rfl)) ?_
              refine ARL.g (v := (.int .i64 x18_l0)) (.bool c67) false rfl (wF _) rfl noneAlive (fun hG => by have q0 := gN hG; subst q0; exact Light.quiet (opMove rfl rfl)) ?_
              refine ARL.g (v := (.int .i64 (W (x18_l0 - 1)))) (.bool c67) false rfl (wF _) rfl noneAlive (fun hG => by have q0 := gN hG; subst q0; exact Light.quiet (opInt rfl rfl rfl rfl)) ?_
              obtain ⟨a73, ha73, hF⟩ := bindE hF
              refine ARL.g (v := (ptrTo v15 ((W (x18_l0 - 1))).toNat 1)) (.bool c67) false rfl (wF _) rfl noneAlive (fun hG => by have q0 := gN hG; subst q0; exact Light.quiet (kIxOx hS (j := 1) rfl (whenE ha73) rfl rfl rfl elemA_47 sizeA_3)) ?_
              refine ARL.g (v := (.int .i64 a73)) (.bool c67) false rfl (wF _) rfl (hS.aliveR (k := 1) rfl) (fun hG => by have q0 := gN hG; subst q0; exact Light.quiet (kLd (f := (AV.int .i64)) hS (j := 1) rfl (whenE ha73) rfl aggA_3 rfl (fun _ => rfl))) ?_
              refine ARL.g (v := (.int .i64 (W (a73 - 1)))) (.bool c67) false rfl (wF _) rfl noneAlive (fun hG => by have q0 := gN hG; subst q0; exact Light.quiet (opInt rfl rfl rfl rfl)) ?_
              refine ARL.g (v := (.bool (decide (a21.a ≠ ((W (a73 - 1))))))) (.bool c67) false rfl (wF _) rfl noneAlive (fun hG => by have q0 := gN hG; subst q0; exact Light.quiet (opInt rfl rfl rfl rfl)) ?_
              refine ARL.q0 (v := (.bool (c67 || (decide (a21.a ≠ ((W (a73 - 1)))))))) rfl rfl (Light.quiet (opPick (b := c67) rfl rfl (by cases c67 <;> rfl))) ?_
              obtain ⟨c78, hc78, hF⟩ := bndE hF
              refine ARL.q0 (v := (.bool c78)) rfl rfl ((Quiet.cast (Light.quiet (opMove rfl rfl)) (congrArg AV.bool hc78.symm))) ?_
              refine ARL.g (v := (.ptr b8 1)) (.bool c78) false rfl (wF _) rfl noneAlive (fun hG => by have q0 := gN hG; subst q0; exact Light.quiet (opFieldAddr rfl fieldA_65_1 rfl rfl)) ?_
              refine ARL.g (v := (.int .i64 a21.a)) (.bool c78) false rfl (wF _) rfl (hS.aliveC (k := 0) rfl) (fun hG => by have q0 := gN hG; subst q0; exact Light.quiet (kAt hS (j := 0) rfl rfl aggA_3 rfl rfl)) ?_
              refine ARL.g (v := (.bool (decide (a21.a < 0)))) (.bool c78) false rfl (wF _) rfl noneAlive (fun hG => by have q0 := gN hG; subst q0; exact Light.quiet (opInt rfl rfl rfl rfl)) ?_
              refine ARL.q0 (v := (.bool (c78 || (decide (a21.a < 0))))) rfl rfl (Light.quiet (opPick (b := c78) rfl rfl (by cases c78 <;> rfl))) ?_
              refine ARL.done ?_
              refine AWP.ifB hF rfl (fun hc24 hF => ?_) (fun hc24 hF => ?_)
              · skip
                refine AWP.seqR rfl ?_
                refine ASL.q (v := (.list 1 (List.map (AV.int .i64) []))) rfl rfl (Light.quiet (opNilL rfl rfl)) ?_
                refine ASL.q (v := (.bool false)) rfl rfl (Light.quiet (opAssign rfl rfl)) ?_
                refine ASL.done ?_
                refine AWP.ret ?_
                refine QThen.rt ?_
                refine QBlock.ret ?_
                refine QBlock.ret ?_
                refine QThen.rt ?_
                refine QThen.rt ?_
                refine QBlock.ret ?_
                refine QThen.rt ?_
                obtain rfl := (hx9 _ (someE hF).symm)
                have hF := hR12
                have hF := sumR hF
                obtain rfl := someE hF
                exact QRet.many (vs := [(.list 1 (List.map (AV.int .i64) [])), (.bool false)]) ⟨rfl, rfl, trivial⟩ (by simp) rfl
              · skip
                refine AWP.skip ?_
                refine QThen.nrm ?_
                refine AWP.lastR rfl ?_
                refine ASL.q (v := v15) rfl rfl (Light.quiet (opMove rfl rfl)) ?_
                refine ASL.q (v := (.int .i64 x18_l0)) rfl rfl (Light.quiet (opMove rfl rfl)) ?_
                refine ASL.q (v := v15) rfl rfl (Light.quiet (opMove rfl rfl)) ?_
                refine ASL.q (v := (.ptr b8 1)) rfl rfl (Light.quiet (opFieldAddr rfl fieldA_65_1 rfl rfl)) ?_
                refine ASL.q (v := (.int .i64 a21.a)) rfl rfl (Light.quiet (kAt hS (j := 0) rfl rfl aggA_3 rfl rfl)) ?_
                obtain ⟨a88, ha88, hF⟩ := bindE hF
                refine ASL.q (v := (ptrTo v15 a21.a.toNat 1)) rfl rfl (Light.quiet (kIxOx hS (j := 1) rfl ha88 rfl rfl rfl elemA_47 sizeA_3)) ?_
                refine ASL.q (v := (.int .i64 a88)) rfl rfl (Light.quiet (kLd (f := (AV.int .i64)) hS (j := 1) rfl ha88 rfl aggA_3 rfl (fun _ => rfl))) ?_
                obtain ⟨m90, hm90, hF⟩ := bindE hF
                refine ASL.q (v := (ptrTo v15 m90 1)) rfl rfl (Light.quiet (kIxO hS (j := 1) rfl hm90 rfl rfl rfl elemA_47 sizeA_3)) ?_
                refine ASL.n rfl rfl (hSt (f := (AV.int .i64)) (a := a88) hS (j := 1) rfl hm90 rfl sizeA_3 rfl rfl ⟨rfl, rfl, rfl⟩ ?_); rintro G25 hS
                refine ASL.done ?_
                refine QBlock.nrm ?_
                refine QBlock.nrm ?_
                refine QThen.nrm ?_
                refine AWP.lastR rfl ?_
                refine ASL.q (v := (.int .i64 (W (x18_l0 + 1)))) rfl rfl (Light.quiet (opInt rfl rfl rfl rfl)) ?_
                refine ASL.q (v := (.int .i64 (W (x18_l0 + 1)))) rfl rfl (Light.quiet (opMove rfl rfl)) ?_
                refine ASL.done ?_
                refine QThen.nrm ?_
                exact ⟨((((y7.set m26 x18_l0)).set m90 a88), (W (x18_l0 + 1))), (), (someE hF).symm, ⟨rfl, rfl, rfl, rfl, rfl, rfl, trivial⟩, (hS.pick [1] rfl rfl)⟩
            · skip
              refine AWP.seqR rfl ?_
              refine ASL.q (v := (.list 1 (List.map (AV.int .i64) []))) rfl rfl (Light.quiet (opNilL rfl rfl)) ?_
              refine ASL.q (v := (.bool false)) rfl rfl (Light.quiet (opAssign rfl rfl)) ?_
              refine ASL.done ?_
              refine AWP.ret ?_
              refine QBlock.ret ?_
              refine QBlock.ret ?_
              refine QThen.rt ?_
              refine QThen.rt ?_
              refine QBlock.ret ?_
              refine QThen.rt ?_
              obtain rfl := (hx9 _ (someE hF).symm)
              have hF := hR12
              have hF := sumR hF
              obtain rfl := someE hF
              exact QRet.many (vs := [(.list 1 (List.map (AV.int .i64) [])), (.bool false)]) ⟨rfl, rfl, trivial⟩ (by simp) rfl
      · skip
        refine AWP.exit ?_
        refine QThen.ext ?_
        refine QThen.ext ?_
        refine QBlock.hit ?_
        obtain rfl := (hx9 _ (someE hF).symm)
        have hF := hR12
        have hF := sumL hF
        refine QThen.nrm ?_
        exact ⟨y7, ⟨rfl, rfl, trivial⟩, (hS.pick [0] rfl rfl), hF⟩

set_option maxRecDepth 10000 in
theorem impl_isTree_ok {p0 : (List TNode)} {g1 : (TNode → Option Int)} {r : Bool} {k1 : Nat} (hcal1 : callable Try.prog k1 = true) (hg1 : ∀ q0 y, g1 q0 = some y → PC Try.prog k1 [(TNode.av q0)] fun v => v = (.int .i64 y)) (hF : impl_isTree p0 g1 = some r) : PC Try.prog 76 [(.list 3 (List.map TNode.av p0)), (.fn (.func k1) [] [])] fun v => v = (.bool r) := by
  refine PC.enter Try.func76 rfl Try.ntmps76 (by simp) ?_
  have hS := Sep.void; unfold impl_isTree at hF
  refine AWP.seqR rfl ?_
  refine ASL.q (v := (.bool false)) rfl rfl (Light.quiet (opAssign rfl rfl)) ?_
  refine ASL.done ?_
  refine AWP.seqR rfl ?_
  refine ASL.q (v := (.list 3 (List.map TNode.av p0))) rfl rfl (Light.quiet (opMove rfl rfl)) ?_
  refine ASL.q (v := (.fn (.func k1) [] [])) rfl rfl (Light.quiet (opMove rfl rfl)) ?_
  obtain ⟨a10, ha10, hF⟩ := bindE hF
  refine ASL.q (v := (.tup [(.list 1 (List.map (AV.int .i64) a10.1)), (.bool a10.2)])) rfl rfl ((qCall rfl rfl call_106 (impl_begins_ok hcal1 hg1 ha10) rfl)) ?_
  refine ASL.q (v := (.tup [(.list 1 (List.map (AV.int .i64) a10.1)), (.bool a10.2)])) rfl rfl (Light.quiet (opMove rfl rfl)) ?_
  refine ASL.q (v := (.list 1 (List.map (AV.int .i64) a10.1))) rfl rfl (Light.quiet (opExtract rfl rfl rfl)) ?_
  refine ASL.q (v := (.bool a10.2)) rfl rfl (Light.quiet (opExtract rfl rfl rfl)) ?_
  refine ASL.q (v := (.list 1 (List.map (AV.int .i64) a10.1))) rfl rfl (Light.quiet (opAssign rfl rfl)) ?_
  refine ASL.q (v := (.bool a10.2)) rfl rfl (Light.quiet (opAssign rfl rfl)) ?_
  refine ASL.done ?_
  refine AWP.seqR rfl ?_
  refine ASL.q (v := (.bool a10.2)) rfl rfl (Light.quiet (opMove rfl rfl)) ?_
  refine ASL.q (v := (.bool a10.2)) rfl rfl (Light.quiet (opAssign rfl rfl)) ?_
  refine ASL.done ?_
  refine AWP.ret ?_
  obtain rfl := someE hF
  exact QRet.sole (v := (.bool a10.2)) ⟨rfl, trivial⟩ rfl

set_option maxRecDepth 10000 in
theorem impl_leaf_ok (p0 : TNode) (p1 : Int) : PC Try.prog 122 [(TNode.av p0), (.int .i64 p1)] fun v => v = (.int .i64 (impl_leaf p0 p1)) := by
  generalize hF : impl_leaf p0 p1 = r
  refine PC.enter Try.func122 rfl Try.ntmps122 (by simp) ?_
  have hS := Sep.void; unfold impl_leaf at hF
  refine AWP.seqR rfl ?_
  refine ASL.q (v := (.rptr [(.int .i64 p0.kind), (.int .i64 p0.a), (.int .i64 p0.b)])) rfl rfl ((qBoxI (v := (TNode.av p0)) rfl rfl rfl rfl)) ?_
  refine ASL.q (v := (.int .i64 0)) rfl rfl (Light.quiet (opAssign rfl rfl)) ?_
  refine ASL.done ?_
  refine AWP.seq ?_
  refine AWP.seqR rfl ?_
  refine ASL.q (v := (.rptr [(.int .i64 p0.b)])) rfl rfl (Light.quiet (opFieldAddrR rfl fieldA_65_2 rfl rfl)) ?_
  refine ASL.q (v := (.int .i64 p0.b)) rfl rfl (Light.quiet (opLoadR rfl aggA_3 rfl rfl)) ?_
  refine ASL.q (v := (.bool (decide (p0.b = 0)))) rfl rfl (Light.quiet (opInt rfl rfl rfl rfl)) ?_
  obtain ⟨c8, hc8, hF⟩ := bndE hF
  refine ASL.q (v := (.bool c8)) rfl rfl ((Quiet.cast (Light.quiet (opMove rfl rfl)) (congrArg AV.bool hc8.symm))) ?_
  refine ASL.g (v := (.rptr [(.int .i64 p0.a), (.int .i64 p0.b)])) (.bool c8) true rfl (wT _) rfl (fun hG => by have q0 := hG; subst q0; exact Light.quiet (opFieldAddrR rfl fieldA_65_1 rfl rfl)) ?_
  refine ASL.g (v := (.int .i64 p0.a)) (.bool c8) true rfl (wT _) rfl (fun hG => by have q0 := hG; subst q0; exact Light.quiet (opLoadR rfl aggA_3 rfl rfl)) ?_
  refine ASL.g (v := (.int .i64 p1)) (.bool c8) true rfl (wT _) rfl (fun hG => by have q0 := hG; subst q0; exact Light.quiet (opMove rfl rfl)) ?_
  refine ASL.g (v := (.bool (impl_inRange p0.a 0 p1))) (.bool c8) true rfl (wT _) rfl (fun hG => by have q0 := hG; subst q0; exact (qCall rfl rfl call_78 (impl_inRange_ok p0.a 0 p1) rfl)) ?_
  refine ASL.q (v := (.bool (c8 && (impl_inRange p0.a 0 p1)))) rfl rfl (Light.quiet (opPick (b := c8) rfl rfl (by cases c8 <;> rfl))) ?_
  refine ASL.done ?_
  refine AWP.ifB hF rfl (fun hc1 hF => ?_) (fun hc1 hF => ?_)
  · skip
    refine AWP.seqR rfl ?_
    refine ASL.q (v := (.int .i64 0)) rfl rfl (Light.quiet (opAssign rfl rfl)) ?_
    refine ASL.done ?_
    refine AWP.ret ?_
    refine QThen.rt ?_
    obtain rfl := hF
    exact QRet.sole (v := (.int .i64 0)) ⟨rfl, trivial⟩ rfl
  · skip
    refine AWP.skip ?_
    refine QThen.nrm ?_
    refine AWP.seqR rfl ?_
    refine ASL.q (v := (.int .i64 (-1))) rfl rfl (Light.quiet (opAssign rfl rfl)) ?_
    refine ASL.done ?_
    refine AWP.ret ?_
    obtain rfl := hF
    exact QRet.sole (v := (.int .i64 (-1))) ⟨rfl, trivial⟩ rfl

set_option maxRecDepth 10000 in
theorem impl_reParts_ok (p0 : TNode) : PC Try.prog 93 [(TNode.av p0)] fun v => v = (.int .i64 (impl_reParts p0)) := by
  generalize hF : impl_reParts p0 = r
  refine PC.enter Try.func93 rfl Try.ntmps93 (by simp) ?_
  have hS := Sep.void; unfold impl_reParts at hF
  refine AWP.seqR rfl ?_
  refine ASL.q (v := (.rptr [(.int .i64 p0.kind), (.int .i64 p0.a), (.int .i64 p0.b)])) rfl rfl ((qBoxI (v := (TNode.av p0)) rfl rfl rfl rfl)) ?_
  refine ASL.q (v := (.int .i64 0)) rfl rfl (Light.quiet (opAssign rfl rfl)) ?_
  refine ASL.done ?_
  refine AWP.seq ?_
  refine AWP.seqR rfl ?_
  refine ASL.q (v := (.rptr [(.int .i64 p0.kind), (.int .i64 p0.a), (.int .i64 p0.b)])) rfl rfl (Light.quiet (opFieldAddrR rfl fieldA_65_0 rfl rfl)) ?_
  refine ASL.q (v := (.int .i64 p0.kind)) rfl rfl (Light.quiet (opLoadR rfl aggA_3 rfl rfl)) ?_
  refine ASL.done ?_
  refine AWP.block ?_
  refine AWP.seqM (fun e H => ∃ x5_1 : Bool, E.Told e [(1, (.rptr [(.int .i64 p0.kind), (.int .i64 p0.a), (.int .i64 p0.b)])), (4, (.int .i64 p0.kind)), (5, (.bool x5_1))] ∧ E.Sep H [] ∧ impl_reParts.k0 p0 x5_1 = r) ?_ ?_
  · rintro e0 G7 ⟨x5_1, hT, hS, hF⟩; refine AWP.only _ hT ?_; unfold impl_reParts.k0 at hF
    refine AWP.ifB hF rfl (fun hc1 hF => ?_) (fun hc1 hF => ?_)
    · skip
      refine AWP.seqR rfl ?_
      refine ASL.q (v := (TNode.av p0)) rfl rfl (Light.quiet (opLoadRA rfl aggA_65 sizeA_65 rfl (nlt rfl) rfl)) ?_
      refine ASL.q (v := (.int .i64 (impl_leaf p0 0))) rfl rfl ((qCall rfl rfl call_122 (impl_leaf_ok p0 0) rfl)) ?_
      refine ASL.q (v := (.int .i64 (impl_leaf p0 0))) rfl rfl (Light.quiet (opAssign rfl rfl)) ?_
      refine ASL.done ?_
      refine AWP.ret ?_
      refine QBlock.ret ?_
      refine QThen.rt ?_
      obtain rfl := hF
      exact QRet.sole (v := (.int .i64 (impl_leaf p0 0))) ⟨rfl, trivial⟩ rfl
    · skip
      refine AWP.seqR rfl ?_
      refine ASL.q (v := (.bool (decide (p0.kind = 3)))) rfl rfl (Light.quiet (opInt rfl rfl rfl rfl)) ?_
      refine ASL.q (v := (.bool (decide (p0.kind = 3)))) rfl rfl (Light.quiet (opAssign rfl rfl)) ?_
      refine ASL.done ?_
      refine AWP.ifP hF rfl (fun hc2 hF => ?_) (fun hc2 hF => ?_)
      · skip
        refine AWP.seqR rfl ?_
        refine ASL.q (v := (TNode.av p0)) rfl rfl (Light.quiet (opLoadRA rfl aggA_65 sizeA_65 rfl (nlt rfl) rfl)) ?_
        refine ASL.q (v := (.int .i64 (impl_leaf p0 7))) rfl rfl ((qCall rfl rfl call_122 (impl_leaf_ok p0 7) rfl)) ?_
        refine ASL.q (v := (.int .i64 (impl_leaf p0 7))) rfl rfl (Light.quiet (opAssign rfl rfl)) ?_
        refine ASL.done ?_
        refine AWP.ret ?_
        refine QBlock.ret ?_
        refine QThen.rt ?_
        obtain rfl := hF
        exact QRet.sole (v := (.int .i64 (impl_leaf p0 7))) ⟨rfl, trivial⟩ rfl
      · skip
        refine AWP.seqR rfl ?_
        refine ASL.q (v := (.bool (decide (p0.kind = 4)))) rfl rfl (Light.quiet (opInt rfl rfl rfl rfl)) ?_
        refine ASL.q (v := (.bool (decide (p0.kind = 4)))) rfl rfl (Light.quiet (opAssign rfl rfl)) ?_
        refine ASL.done ?_
        refine AWP.ifP hF rfl (fun hc3 hF => ?_) (fun hc3 hF => ?_)
        · skip
          refine AWP.seqR rfl ?_
          refine ASL.q (v := (.int .i64 1)) rfl rfl (Light.quiet (opAssign rfl rfl)) ?_
          refine ASL.done ?_
          refine AWP.ret ?_
          refine QBlock.ret ?_
          refine QThen.rt ?_
          obtain rfl := hF
          exact QRet.sole (v := (.int .i64 1)) ⟨rfl, trivial⟩ rfl
        · skip
          refine AWP.seq ?_
          refine AWP.seqR rfl ?_
          refine ASL.q (v := (.bool (decide (p0.kind = 5)))) rfl rfl (Light.quiet (opInt rfl rfl rfl rfl)) ?_
          refine ASL.q (v := (.bool (decide (p0.kind = 5)))) rfl rfl (Light.quiet (opAssign rfl rfl)) ?_
          refine ASL.done ?_
          refine AWP.ifP hF rfl (fun hc4 hF => ?_) (fun hc4 hF => ?_)
          · skip
            refine AWP.skip ?_
            refine QThen.nrm ?_
            refine AWP.ifP hF rfl (fun hc5 hF => ?_) (fun hc5 hF => ?_)
            · skip
              refine AWP.seqR rfl ?_
              refine ASL.q (v := (.int .i64 2)) rfl rfl (Light.quiet (opAssign rfl rfl)) ?_
              refine ASL.done ?_
              refine AWP.ret ?_
              refine QBlock.ret ?_
              refine QThen.rt ?_
              obtain rfl := hF
              exact QRet.sole (v := (.int .i64 2)) ⟨rfl, trivial⟩ rfl
            · skip
              refine AWP.skip ?_
              refine QBlock.nrm ?_
              refine QThen.nrm ?_
              refine AWP.seqR rfl ?_
              refine ASL.q (v := (.int .i64 (-1))) rfl rfl (Light.quiet (opAssign rfl rfl)) ?_
              refine ASL.done ?_
              refine AWP.ret ?_
              obtain rfl := hF
              exact QRet.sole (v := (.int .i64 (-1))) ⟨rfl, trivial⟩ rfl
          · skip
            refine AWP.lastR rfl ?_
            refine ASL.q (v := (.bool (decide (p0.kind = 6)))) rfl rfl (Light.quiet (opInt rfl rfl rfl rfl)) ?_
            refine ASL.q (v := (.bool (decide (p0.kind = 6)))) rfl rfl (Light.quiet (opAssign rfl rfl)) ?_
            refine ASL.done ?_
            refine QThen.nrm ?_
            refine AWP.ifP hF rfl (fun hc6 hF => ?_) (fun hc6 hF => ?_)
            · skip
              refine AWP.seqR rfl ?_
              refine ASL.q (v := (.int .i64 2)) rfl rfl (Light.quiet (opAssign rfl rfl)) ?_
              refine ASL.done ?_
              refine AWP.ret ?_
              refine QBlock.ret ?_
              refine QThen.rt ?_
              obtain rfl := hF
              exact QRet.sole (v := (.int .i64 2)) ⟨rfl, trivial⟩ rfl
            · skip
              refine AWP.skip ?_
              refine QBlock.nrm ?_
              refine QThen.nrm ?_
              refine AWP.seqR rfl ?_
              refine ASL.q (v := (.int .i64 (-1))) rfl rfl (Light.quiet (opAssign rfl rfl)) ?_
              refine ASL.done ?_
              refine AWP.ret ?_
              obtain rfl := hF
              exact QRet.sole (v := (.int .i64 (-1))) ⟨rfl, trivial⟩ rfl
  · skip
    refine AWP.seqR rfl ?_
    refine ASL.q (v := (.bool (decide (p0.kind = 1)))) rfl rfl (Light.quiet (opInt rfl rfl rfl rfl)) ?_
    refine ASL.q (v := (.bool (decide (p0.kind = 1)))) rfl rfl (Light.quiet (opAssign rfl rfl)) ?_
    refine ASL.done ?_
    refine AWP.ifP hF rfl (fun hc8 hF => ?_) (fun hc8 hF => ?_)
    · skip
      refine AWP.skip ?_
      refine QThen.nrm ?_
      exact ⟨(decide (p0.kind = 1)), ⟨rfl, rfl, rfl, trivial⟩, (hS.pick [] rfl rfl), hF⟩
    · skip
      refine AWP.lastR rfl ?_
      refine ASL.q (v := (.bool (decide (p0.kind = 2)))) rfl rfl (Light.quiet (opInt rfl rfl rfl rfl)) ?_
      refine ASL.q (v := (.bool (decide (p0.kind = 2)))) rfl rfl (Light.quiet (opAssign rfl rfl)) ?_
      refine ASL.done ?_
      refine QThen.nrm ?_
      exact ⟨(decide (p0.kind = 2)), ⟨rfl, rfl, rfl, trivial⟩, (hS.pick [] rfl rfl), hF⟩

set_option maxRecDepth 10000 in
theorem impl_ReOk_ok {p0 : (List TNode)} {r : Bool} (hF : impl_ReOk p0 = some r) : PC Try.prog 55 [(.list 3 (List.map TNode.av p0))] fun v => v = (.bool r) := by
  refine PC.enter Try.func55 rfl Try.ntmps55 (by simp) ?_
  have hS := Sep.void; unfold impl_ReOk at hF
  refine AWP.seqR rfl ?_
  refine ASL.q (v := (.bool false)) rfl rfl (Light.quiet (opAssign rfl rfl)) ?_
  refine ASL.done ?_
  refine AWP.seqR rfl ?_
  refine ASL.q (v := (.list 3 (List.map TNode.av p0))) rfl rfl (Light.quiet (opMove rfl rfl)) ?_
  obtain ⟨a4, ha4, hF⟩ := bindE hF
  refine ASL.q (v := (.bool a4)) rfl rfl ((qCall rfl rfl call_76 (impl_isTree_ok call_93 (fun q0 y h => by obtain rfl := someE h; exact impl_reParts_ok q0) ha4) rfl)) ?_
  refine ASL.q (v := (.bool a4)) rfl rfl (Light.quiet (opAssign rfl rfl)) ?_
  refine ASL.done ?_
  refine AWP.ret ?_
  obtain rfl := someE hF
  exact QRet.sole (v := (.bool a4)) ⟨rfl, trivial⟩ rfl

set_option maxRecDepth 10000 in
theorem impl_ends.body_ok {p0 : (List TNode)} {p1 : Int} {p2 : (List Int)} {p3 : Int} {r : Int} {rec_impl_ends : (List TNode) → Int → (List Int) → Int → Option Int} (ih_impl_ends : ∀ {p0 : (List TNode)} {p1 : Int} {p2 : (List Int)} {p3 : Int} {r : Int} , rec_impl_ends p0 p1 p2 p3 = some r → PC Try.prog 65 [(.list 3 (List.map TNode.av p0)), (.int .i64 p1), (.list 1 (List.map (AV.int .i64) p2)), (.int .u64 p3)] fun v => v = (.int .u64 r)) (hF : impl_ends.body rec_impl_ends p0 p1 p2 p3 = some r) : PC Try.prog 65 [(.list 3 (List.map TNode.av p0)), (.int .i64 p1), (.list 1 (List.map (AV.int .i64) p2)), (.int .u64 p3)] fun v => v = (.int .u64 r) := by
  refine PC.enter Try.func65 rfl Try.ntmps65 (by simp) ?_
  have hS := Sep.void; unfold impl_ends.body at hF
  refine AWP.seqR rfl ?_
  refine ASL.q (v := (.int .u64 0)) rfl rfl (Light.quiet (opAssign rfl rfl)) ?_
  refine ASL.done ?_
  refine AWP.seqR rfl ?_
  refine ASL.q (v := (.list 3 (List.map TNode.av p0))) rfl rfl (Light.quiet (opMove rfl rfl)) ?_
  refine ASL.q (v := (.int .i64 p1)) rfl rfl (Light.quiet (opMove rfl rfl)) ?_
  obtain ⟨a16, ha16, hF⟩ := bindE hF
  refine ASL.q (v := (.rptr [(.int .i64 a16.kind), (.int .i64 a16.a), (.int .i64 a16.b)])) rfl rfl (Light.quiet (kIx (f := TNode.av) ha16 rfl rfl rfl elemA_29 sizeA_65 rfl)) ?_
  refine ASL.q (v := (TNode.av a16)) rfl rfl (Light.quiet (opLoadRA rfl aggA_65 sizeA_65 rfl (nlt rfl) rfl)) ?_
  refine ASL.x rfl rfl (hNewZ hS [(.int .i64 0), (.int .i64 0), (.int .i64 0)] rfl zeroA_65 ⟨.inl rfl, .inl rfl, .inl rfl, trivial⟩ ?_); rintro b9 G1 hK hS
  refine ASL.n rfl rfl (hPutA hS (j := 0) rfl rfl sizeA_65 rfl rfl rfl rfl rfl (nlt rfl) ?_); rintro G3 hS
  refine ASL.done ?_
  refine AWP.seqM (fun e H => E.Told e [] ∧ E.Sep H [] ∧ impl_ends.k0 = some r) ?_ ?_
  · rintro e0 G4 ⟨hT, hS, hF⟩; refine AWP.only _ hT ?_; unfold impl_ends.k0 at hF
    refine AWP.seqR rfl ?_
    refine ASL.q (v := (.int .u64 0)) rfl rfl (Light.quiet (opAssign rfl rfl)) ?_
    refine ASL.done ?_
    refine AWP.ret ?_
    obtain rfl := someE hF
    exact QRet.sole (v := (.int .u64 0)) ⟨rfl, trivial⟩ rfl
  · skip
    refine AWP.seqR rfl ?_
    refine ASL.q (v := (.ptr b9 0)) rfl rfl (Light.quiet (opFieldAddr rfl fieldA_65_0 rfl rfl)) ?_
    refine ASL.q (v := (.int .i64 a16.kind)) rfl rfl (Light.quiet (kAt hS (j := 0) rfl rfl aggA_3 rfl rfl)) ?_
    refine ASL.done ?_
    refine AWP.block ?_
    refine AWP.seqR rfl ?_
    refine ASL.q (v := (.bool (decide (a16.kind = 2)))) rfl rfl (Light.quiet (opInt rfl rfl rfl rfl)) ?_
    refine ASL.q (v := (.bool (decide (a16.kind = 2)))) rfl rfl (Light.quiet (opAssign rfl rfl)) ?_
    refine ASL.done ?_
    refine AWP.ifP hF rfl (fun hc5 hF => ?_) (fun hc5 hF => ?_)
    · skip
      refine AWP.seqR rfl ?_
      refine ASL.q (v := (.int .u64 p3)) rfl rfl (Light.quiet (opMove rfl rfl)) ?_
      refine ASL.q (v := (.int .u64 p3)) rfl rfl (Light.quiet (opAssign rfl rfl)) ?_
      refine ASL.done ?_
      refine AWP.ret ?_
      refine QBlock.ret ?_
      refine QThen.rt ?_
      obtain rfl := someE hF
      exact QRet.sole (v := (.int .u64 p3)) ⟨rfl, trivial⟩ rfl
    · skip
      refine AWP.seqR rfl ?_
      refine ASL.q (v := (.bool (decide (a16.kind = 3)))) rfl rfl (Light.quiet (opInt rfl rfl rfl rfl)) ?_
      refine ASL.q (v := (.bool (decide (a16.kind = 3)))) rfl rfl (Light.quiet (opAssign rfl rfl)) ?_
      refine ASL.done ?_
      refine AWP.ifP hF rfl (fun hc6 hF => ?_) (fun hc6 hF => ?_)
      · skip
        refine AWP.seqR rfl ?_
        refine ASL.q (v := (.int .u64 0)) rfl rfl (Light.quiet (opAssign rfl rfl)) ?_
        refine ASL.done ?_
        refine AWP.seqM (fun e H => ∃ x10_2 : Int, E.Told e [(10, (.int .u64 x10_2))] ∧ E.Sep H [] ∧ impl_ends.k1 x10_2 = some r) ?_ ?_
        · rintro e0 G7 ⟨x10_2, hT, hS, hF⟩; refine AWP.only _ hT ?_; unfold impl_ends.k1 at hF
          refine AWP.seqR rfl ?_
          refine ASL.q (v := (.int .u64 x10_2)) rfl rfl (Light.quiet (opMove rfl rfl)) ?_
          refine ASL.q (v := (.int .u64 x10_2)) rfl rfl (Light.quiet (opAssign rfl rfl)) ?_
          refine ASL.done ?_
          refine AWP.ret ?_
          refine QBlock.ret ?_
          refine QThen.rt ?_
          obtain rfl := someE hF
          exact QRet.sole (v := (.int .u64 x10_2)) ⟨rfl, trivial⟩ rfl
        · skip
          refine AWP.seqR rfl ?_
          refine ASL.q (v := (.list 1 (List.map (AV.int .i64) p2))) rfl rfl (Light.quiet (opMove rfl rfl)) ?_
          refine ASL.q (v := (.int .i64 (p2.length : Int))) rfl rfl (Light.quiet (opLenMap (f := (AV.int .i64)) rfl rfl rfl lenT_47 rfl)) ?_
          refine ASL.q (v := (.int .i64 0)) rfl rfl (Light.quiet (opMove rfl rfl)) ?_
          refine ASL.done ?_
          refine AWP.block ?_
          obtain ⟨o11, hL10, hR12⟩ := bindE hF
          refine AWP.loopF (ω := Unit) hL10 (fun s w => [(3, (.int .u64 p3)), (9, (.ptr b9 0)), (10, (.int .u64 s.1)), (25, (.list 1 (List.map (AV.int .i64) p2))), (26, (.int .i64 (p2.length : Int))), (27, (.int .i64 s.2))]) (fun s w => [.cell b9 [(.int .i64 a16.kind), (.int .i64 a16.a), (.int .i64 a16.b)]]) () ⟨rfl, rfl, rfl, rfl, rfl, rfl, trivial⟩ (hS.pick [0] rfl rfl) ?_
          rintro ⟨x10_l0, x27_l0⟩ _ G13 hS x8 hF hx9
          try dsimp only at hS ⊢
          have hF : impl_ends.b0 p2 a16 p3 x10_l0 x27_l0 = some x8 := hF; unfold impl_ends.b0 at hF
          refine AWP.seqR rfl ?_
          refine ASL.q (v := (.bool (decide (x27_l0 < ((p2.length : Int)))))) rfl rfl (Light.quiet (opInt rfl rfl rfl rfl)) ?_
          refine ASL.done ?_
          refine AWP.seq ?_
          refine AWP.ifP hF rfl (fun hc14 hF => ?_) (fun hc14 hF => ?_)
          · skip
            refine AWP.skip ?_
            refine QThen.nrm ?_
            refine AWP.seq ?_
            refine AWP.block ?_
            refine AWP.seqR rfl ?_
            refine ASL.q (v := (.int .i64 x27_l0)) rfl rfl (Light.quiet (opMove rfl rfl)) ?_
            obtain ⟨a30, ha30, hF⟩ := bindE hF
            refine ASL.q (v := (.rptr [(.int .i64 a30)])) rfl rfl (Light.quiet (kIx (f := (AV.int .i64)) ha30 rfl rfl rfl elemA_47 sizeA_3 rfl)) ?_
            refine ASL.q (v := (.int .i64 a30)) rfl rfl (Light.quiet (opLoadR rfl aggA_3 rfl rfl)) ?_
            refine ASL.q (v := (.int .i64 x27_l0)) rfl rfl (Light.quiet (opAssign rfl rfl)) ?_
            refine ASL.q (v := (.int .i64 a30)) rfl rfl (Light.quiet (opAssign rfl rfl)) ?_
            refine ASL.done ?_
            refine AWP.seqR rfl ?_
            refine ASL.q (v := (.int .i64 a30)) rfl rfl (Light.quiet (opMove rfl rfl)) ?_
            refine ASL.q (v := (.ptr b9 1)) rfl rfl (Light.quiet (opFieldAddr rfl fieldA_65_1 rfl rfl)) ?_
            refine ASL.q (v := (.int .i64 a16.a)) rfl rfl (Light.quiet (kAt hS (j := 0) rfl rfl aggA_3 rfl rfl)) ?_
            refine ASL.q (v := (.bool (decide (a30 = a16.a)))) rfl rfl (Light.quiet (opInt rfl rfl rfl rfl)) ?_
            obtain ⟨c36, hc36, hF⟩ := bndE hF
            refine ASL.q (v := (.bool c36)) rfl rfl ((Quiet.cast (Light.quiet (opMove rfl rfl)) (congrArg AV.bool hc36.symm))) ?_
            refine ASL.g (v := (.int .u64 p3)) (.bool c36) true rfl (wT _) rfl (fun hG => by have q0 := hG; subst q0; exact Light.quiet (opMove rfl rfl)) ?_
            refine ASL.g (v := (.int .i64 x27_l0)) (.bool c36) true rfl (wT _) rfl (fun hG => by have q0 := hG; subst q0; exact Light.quiet (opMove rfl rfl)) ?_
            refine ASL.g (v := (.int .u64 (IntKind.u64.wrap x27_l0))) (.bool c36) true rfl (wT _) rfl (fun hG => by have q0 := hG; subst q0; exact Light.quiet (opConv rfl rfl und_3 und_93 rfl)) ?_
            refine ASL.g (v := (.int .u64 (shr .u64 p3 ((IntKind.u64.wrap x27_l0))))) (.bool c36) true rfl (wT _) rfl (fun hG => by have q0 := hG; subst q0; exact Light.quiet (opShr rfl rfl rfl (wrapU_nn rfl _) rfl)) ?_
            refine ASL.g (v := (.int .u64 (bAnd .u64 ((shr .u64 p3 ((IntKind.u64.wrap x27_l0)))) 1))) (.bool c36) true rfl (wT _) rfl (fun hG => by have q0 := hG; subst q0; exact Light.quiet (opInt rfl rfl rfl rfl)) ?_
            refine ASL.g (v := (.bool (decide (((bAnd .u64 ((shr .u64 p3 ((IntKind.u64.wrap x27_l0)))) 1)) = 1)))) (.bool c36) true rfl (wT _) rfl (fun hG => by have q0 := hG; subst q0; exact Light.quiet (opInt rfl rfl rfl rfl)) ?_
            refine ASL.q (v := (.bool (c36 && (decide (((bAnd .u64 ((shr .u64 p3 ((IntKind.u64.wrap x27_l0)))) 1)) = 1))))) rfl rfl (Light.quiet (opPick (b := c36) rfl rfl (by cases c36 <;> rfl))) ?_
            refine ASL.done ?_
            refine AWP.ifB hF rfl (fun hc15 hF => ?_) (fun hc15 hF => ?_)
            · skip
              refine AWP.lastR rfl ?_
              refine ASL.q (v := (.int .u64 x10_l0)) rfl rfl (Light.quiet (opMove rfl rfl)) ?_
              refine ASL.q (v := (.int .i64 x27_l0)) rfl rfl (Light.quiet (opMove rfl rfl)) ?_
              refine ASL.q (v := (.int .i64 (W (x27_l0 + 1)))) rfl rfl (Light.quiet (opInt rfl rfl rfl rfl)) ?_
              refine ASL.q (v := (.int .u64 (IntKind.u64.wrap ((W (x27_l0 + 1)))))) rfl rfl (Light.quiet (opConv rfl rfl und_3 und_93 rfl)) ?_
              refine ASL.q (v := (.int .u64 (shl .u64 1 ((IntKind.u64.wrap ((W (x27_l0 + 1)))))))) rfl rfl (Light.quiet (opShl rfl rfl rfl (wrapU_nn rfl _) rfl)) ?_
              refine ASL.q (v := (.int .u64 (bOr .u64 x10_l0 ((shl .u64 1 ((IntKind.u64.wrap ((W (x27_l0 + 1)))))))))) rfl rfl (Light.quiet (opInt rfl rfl rfl rfl)) ?_
              refine ASL.q (v := (.int .u64 (bOr .u64 x10_l0 ((shl .u64 1 ((IntKind.u64.wrap ((W (x27_l0 + 1)))))))))) rfl rfl (Light.quiet (opAssign rfl rfl)) ?_
              refine ASL.done ?_
              refine QBlock.nrm ?_
              refine QThen.nrm ?_
              refine AWP.lastR rfl ?_
              refine ASL.q (v := (.int .i64 (W (x27_l0 + 1)))) rfl rfl (Light.quiet (opInt rfl rfl rfl rfl)) ?_
              refine ASL.q (v := (.int .i64 (W (x27_l0 + 1)))) rfl rfl (Light.quiet (opMove rfl rfl)) ?_
              refine ASL.done ?_
              refine QThen.nrm ?_
              exact ⟨((bOr .u64 x10_l0 ((shl .u64 1 ((IntKind.u64.wrap ((W (x27_l0 + 1)))))))), (W (x27_l0 + 1))), (), (someE hF).symm, ⟨rfl, rfl, rfl, rfl, rfl, rfl, trivial⟩, (hS.pick [0] rfl rfl)⟩
            · skip
              refine AWP.skip ?_
              refine QBlock.nrm ?_
              refine QThen.nrm ?_
              refine AWP.lastR rfl ?_
              refine ASL.q (v := (.int .i64 (W (x27_l0 + 1)))) rfl rfl (Light.quiet (opInt rfl rfl rfl rfl)) ?_
              refine ASL.q (v := (.int .i64 (W (x27_l0 + 1)))) rfl rfl (Light.quiet (opMove rfl rfl)) ?_
              refine ASL.done ?_
              refine QThen.nrm ?_
              exact ⟨(x10_l0, (W (x27_l0 + 1))), (), (someE hF).symm, ⟨rfl, rfl, rfl, rfl, rfl, rfl, trivial⟩, (hS.pick [0] rfl rfl)⟩
          · skip
            refine AWP.exit ?_
            refine QThen.ext ?_
            refine QThen.ext ?_
            refine QBlock.hit ?_
            obtain rfl := (hx9 _ (someE hF).symm)
            have hF := hR12
            refine QThen.nrm ?_
            exact ⟨x10_l0, ⟨rfl, trivial⟩, (hS.pick [] rfl rfl), hF⟩
      · skip
        refine AWP.seqR rfl ?_
        refine ASL.q (v := (.bool (decide (a16.kind = 4)))) rfl rfl (Light.quiet (opInt rfl rfl rfl rfl)) ?_
        refine ASL.q (v := (.bool (decide (a16.kind = 4)))) rfl rfl (Light.quiet (opAssign rfl rfl)) ?_
        refine ASL.done ?_
        refine AWP.ifP hF rfl (fun hc16 hF => ?_) (fun hc16 hF => ?_)
        · skip
          refine AWP.block ?_
          obtain ⟨o20, hL19, hR21⟩ := bindE hF
          refine AWP.loopF (ω := Unit) hL19 (fun s w => [(0, (.list 3 (List.map TNode.av p0))), (2, (.list 1 (List.map (AV.int .i64) p2))), (3, (.int .u64 s)), (9, (.ptr b9 0))]) (fun s w => [.cell b9 [(.int .i64 a16.kind), (.int .i64 a16.a), (.int .i64 a16.b)]]) () ⟨rfl, rfl, rfl, rfl, trivial⟩ (hS.pick [0] rfl rfl) ?_
          rintro x3_l1 _ G22 hS x17 hF hx18
          try dsimp only at hS ⊢
          have hF : impl_ends.b1 rec_impl_ends p0 a16 p2 x3_l1 = some x17 := hF; unfold impl_ends.b1 at hF
          refine AWP.block ?_
          refine AWP.seqR rfl ?_
          refine ASL.q (v := (.int .u64 x3_l1)) rfl rfl (Light.quiet (opMove rfl rfl)) ?_
          refine ASL.q (v := (.list 3 (List.map TNode.av p0))) rfl rfl (Light.quiet (opMove rfl rfl)) ?_
          refine ASL.q (v := (.ptr b9 1)) rfl rfl (Light.quiet (opFieldAddr rfl fieldA_65_1 rfl rfl)) ?_
          refine ASL.q (v := (.int .i64 a16.a)) rfl rfl (Light.quiet (kAt hS (j := 0) rfl rfl aggA_3 rfl rfl)) ?_
          refine ASL.q (v := (.list 1 (List.map (AV.int .i64) p2))) rfl rfl (Light.quiet (opMove rfl rfl)) ?_
          refine ASL.q (v := (.int .u64 x3_l1)) rfl rfl (Light.quiet (opMove rfl rfl)) ?_
          obtain ⟨a60, ha60, hF⟩ := bindE hF
          refine ASL.q (v := (.int .u64 a60)) rfl rfl ((qCall rfl rfl call_65 (ih_impl_ends ha60) rfl)) ?_
          refine ASL.q (v := (.int .u64 (bOr .u64 x3_l1 a60))) rfl rfl (Light.quiet (opInt rfl rfl rfl rfl)) ?_
          refine ASL.q (v := (.int .u64 (bOr .u64 x3_l1 a60))) rfl rfl (Light.quiet (opAssign rfl rfl)) ?_
          refine ASL.done ?_
          refine AWP.seq ?_
          refine AWP.seqR rfl ?_
          refine ASL.q (v := (.int .u64 (bOr .u64 x3_l1 a60))) rfl rfl (Light.quiet (opMove rfl rfl)) ?_
          refine ASL.q (v := (.int .u64 x3_l1)) rfl rfl (Light.quiet (opMove rfl rfl)) ?_
          refine ASL.q (v := (.bool (decide (((bOr .u64 x3_l1 a60)) = x3_l1)))) rfl rfl (Light.quiet (opInt rfl rfl rfl rfl)) ?_
          refine ASL.done ?_
          refine AWP.ifP hF rfl (fun hc23 hF => ?_) (fun hc23 hF => ?_)
          · skip
            refine AWP.seqR rfl ?_
            refine ASL.q (v := (.int .u64 x3_l1)) rfl rfl (Light.quiet (opMove rfl rfl)) ?_
            refine ASL.q (v := (.int .u64 x3_l1)) rfl rfl (Light.quiet (opAssign rfl rfl)) ?_
            refine ASL.done ?_
            refine AWP.ret ?_
            refine QThen.rt ?_
            refine QBlock.ret ?_
            refine QThen.rt ?_
            refine QBlock.ret ?_
            refine QBlock.ret ?_
            refine QThen.rt ?_
            obtain rfl := (hx18 _ (someE hF).symm)
            have hF := hR21
            obtain rfl := someE hF
            exact QRet.sole (v := (.int .u64 x3_l1)) ⟨rfl, trivial⟩ rfl
          · skip
            refine AWP.skip ?_
            refine QThen.nrm ?_
            refine AWP.lastR rfl ?_
            refine ASL.q (v := (.int .u64 (bOr .u64 x3_l1 a60))) rfl rfl (Light.quiet (opMove rfl rfl)) ?_
            refine ASL.q (v := (.int .u64 (bOr .u64 x3_l1 a60))) rfl rfl (Light.quiet (opAssign rfl rfl)) ?_
            refine ASL.done ?_
            refine QBlock.nrm ?_
            refine QThen.nrm ?_
            exact ⟨(bOr .u64 x3_l1 a60), (), (someE hF).symm, ⟨rfl, rfl, rfl, rfl, trivial⟩, (hS.pick [0] rfl rfl)⟩
        · skip
          refine AWP.seqR rfl ?_
          refine ASL.q (v := (.bool (decide (a16.kind = 5)))) rfl rfl (Light.quiet (opInt rfl rfl rfl rfl)) ?_
          refine ASL.q (v := (.bool (decide (a16.kind = 5)))) rfl rfl (Light.quiet (opAssign rfl rfl)) ?_
          refine ASL.done ?_
          refine AWP.ifP hF rfl (fun hc24 hF => ?_) (fun hc24 hF => ?_)
          · skip
            refine AWP.seqD [(0, false), (1, false), (2, false), (3, false), (4, false), (5, false), (6, false), (7, false), (8, false), (9, false), (10, false), (11, false)] mixed (by kernel_rfl) rfl ?_
            refine ARL.q0 (v := (.list 3 (List.map TNode.av p0))) rfl rfl (Light.quiet (opMove rfl rfl)) ?_
            refine ARL.q0 (v := (.ptr b9 2)) rfl rfl (Light.quiet (opFieldAddr rfl fieldA_65_2 rfl rfl)) ?_
            refine ARL.q (v := (.int .i64 a16.b)) rfl rfl (hS.aliveC (k := 0) rfl) (Light.quiet (kAt hS (j := 0) rfl rfl aggA_3 rfl rfl)) ?_
            refine ARL.q0 (v := (.list 1 (List.map (AV.int .i64) p2))) rfl rfl (Light.quiet (opMove rfl rfl)) ?_
            refine ARL.q0 (v := (.list 3 (List.map TNode.av p0))) rfl rfl (Light.quiet (opMove rfl rfl)) ?_
            refine ARL.q0 (v := (.ptr b9 1)) rfl rfl (Light.quiet (opFieldAddr rfl fieldA_65_1 rfl rfl)) ?_
            refine ARL.q (v := (.int .i64 a16.a)) rfl rfl (hS.aliveC (k := 0) rfl) (Light.quiet (kAt hS (j := 0) rfl rfl aggA_3 rfl rfl)) ?_
            refine ARL.q0 (v := (.list 1 (List.map (AV.int .i64) p2))) rfl rfl (Light.quiet (opMove rfl rfl)) ?_
            refine ARL.q0 (v := (.int .u64 p3)) rfl rfl (Light.quiet (opMove rfl rfl)) ?_
            obtain ⟨a78, ha78, hF⟩ := bindE hF
            refine ARL.q0 (v := (.int .u64 a78)) rfl rfl ((qCall rfl rfl call_65 (ih_impl_ends ha78) rfl)) ?_
            obtain ⟨a79, ha79, hF⟩ := bindE hF
            refine ARL.q0 (v := (.int .u64 a79)) rfl rfl ((qCall rfl rfl call_65 (ih_impl_ends ha79) rfl)) ?_
            refine ARL.q0 (v := (.int .u64 a79)) rfl rfl (Light.quiet (opAssign rfl rfl)) ?_
            refine ARL.done ?_
            refine AWP.ret ?_
            refine QBlock.ret ?_
            refine QThen.rt ?_
            obtain rfl := someE hF
            exact QRet.sole (v := (.int .u64 a79)) ⟨rfl, trivial⟩ rfl
          · skip
            refine AWP.seqR rfl ?_
            refine ASL.q (v := (.bool (decide (a16.kind = 6)))) rfl rfl (Light.quiet (opInt rfl rfl rfl rfl)) ?_
            refine ASL.q (v := (.bool (decide (a16.kind = 6)))) rfl rfl (Light.quiet (opAssign rfl rfl)) ?_
            refine ASL.done ?_
            refine AWP.ifP hF rfl (fun hc25 hF => ?_) (fun hc25 hF => ?_)
            · skip
              refine AWP.seqD [(0, false), (1, false), (2, false), (3, false), (4, false), (5, false), (6, false), (7, false), (8, false), (9, false), (10, false), (11, false), (12, false), (13, false)] mixed (by kernel_rfl) rfl ?_
              refine ARL.q0 (v := (.list 3 (List.map TNode.av p0))) rfl rfl (Light.quiet (opMove rfl rfl)) ?_
              refine ARL.q0 (v := (.ptr b9 1)) rfl rfl (Light.quiet (opFieldAddr rfl fieldA_65_1 rfl rfl)) ?_
              refine ARL.q (v := (.int .i64 a16.a)) rfl rfl (hS.aliveC (k := 0) rfl) (Light.quiet (kAt hS (j := 0) rfl rfl aggA_3 rfl rfl)) ?_
              refine ARL.q0 (v := (.list 1 (List.map (AV.int .i64) p2))) rfl rfl (Light.quiet (opMove rfl rfl)) ?_
              refine ARL.q0 (v := (.int .u64 p3)) rfl rfl (Light.quiet (opMove rfl rfl)) ?_
              obtain ⟨a87, ha87, hF⟩ := bindE hF
              refine ARL.q0 (v := (.int .u64 a87)) rfl rfl ((qCall rfl rfl call_65 (ih_impl_ends ha87) rfl)) ?_
              refine ARL.q0 (v := (.list 3 (List.map TNode.av p0))) rfl rfl (Light.quiet (opMove rfl rfl)) ?_
              refine ARL.q0 (v := (.ptr b9 2)) rfl rfl (Light.quiet (opFieldAddr rfl fieldA_65_2 rfl rfl)) ?_
              refine ARL.q (v := (.int .i64 a16.b)) rfl rfl (hS.aliveC (k := 0) rfl) (Light.quiet (kAt hS (j := 0) rfl rfl aggA_3 rfl rfl)) ?_
              refine ARL.q0 (v := (.list 1 (List.map (AV.int .i64) p2))) rfl rfl (Light.quiet (opMove rfl rfl)) ?_
              refine ARL.q0 (v := (.int .u64 p3)) rfl rfl (Light.quiet (opMove rfl rfl)) ?_
              obtain ⟨a93, ha93, hF⟩ := bindE hF
              refine ARL.q0 (v := (.int .u64 a93)) rfl rfl ((qCall rfl rfl call_65 (ih_impl_ends ha93) rfl)) ?_
              refine ARL.q0 (v := (.int .u64 (bOr .u64 a87 a93))) rfl rfl (Light.quiet (opInt rfl rfl rfl rfl)) ?_
              refine ARL.q0 (v := (.int .u64 (bOr .u64 a87 a93))) rfl rfl (Light.quiet (opAssign rfl rfl)) ?_
              refine ARL.done ?_
              refine AWP.ret ?_
              refine QBlock.ret ?_
              refine QThen.rt ?_
              obtain rfl := someE hF
              exact QRet.sole (v := (.int .u64 (bOr .u64 a87 a93))) ⟨rfl, trivial⟩ rfl
            · skip
              refine AWP.skip ?_
              refine QBlock.nrm ?_
              refine QThen.nrm ?_
              exact ⟨trivial, (hS.pick [] rfl rfl), hF⟩
theorem impl_ends_ok {K : Nat} : ∀ {p0 : (List TNode)} {p1 : Int} {p2 : (List Int)} {p3 : Int} {r : Int} , impl_ends K p0 p1 p2 p3 = some r → PC Try.prog 65 [(.list 3 (List.map TNode.av p0)), (.int .i64 p1), (.list 1 (List.map (AV.int .i64) p2)), (.int .u64 p3)] fun v => v = (.int .u64 r) := by
  induction K with
  | zero => intros; rename_i h; cases h
  | succ K ih => intros; rename_i h; exact impl_ends.body_ok ih h

set_option maxRecDepth 10000 in
theorem impl_ReTakes_ok {K : Nat} {p0 : (List TNode)} {p1 : (List Int)} {r : Bool} (hF : impl_ReTakes K p0 p1 = some r) : PC Try.prog 22 [(.list 3 (List.map TNode.av p0)), (.list 1 (List.map (AV.int .i64) p1))] fun v => v = (.bool r) := by
  refine PC.enter Try.func22 rfl Try.ntmps22 (by simp) ?_
  have hS := Sep.void; unfold impl_ReTakes at hF
  refine AWP.seqR rfl ?_
  refine ASL.q (v := (.bool false)) rfl rfl (Light.quiet (opAssign rfl rfl)) ?_
  refine ASL.done ?_
  refine AWP.seq ?_
  refine AWP.seqR rfl ?_
  refine ASL.q (v := (.list 1 (List.map (AV.int .i64) p1))) rfl rfl (Light.quiet (opMove rfl rfl)) ?_
  refine ASL.q (v := (.int .i64 (p1.length : Int))) rfl rfl (Light.quiet (opLenMap (f := (AV.int .i64)) rfl rfl rfl lenT_47 rfl)) ?_
  refine ASL.q (v := (.bool (decide (((p1.length : Int)) > 60)))) rfl rfl (Light.quiet (opInt rfl rfl rfl rfl)) ?_
  obtain ⟨c8, hc8, hF⟩ := bndE hF
  refine ASL.q (v := (.bool c8)) rfl rfl ((Quiet.cast (Light.quiet (opMove rfl rfl)) (congrArg AV.bool hc8.symm))) ?_
  refine ASL.g (v := (.list 3 (List.map TNode.av p0))) (.bool c8) false rfl (wF _) rfl (fun hG => by have q0 := gN hG; subst q0; exact Light.quiet (opMove rfl rfl)) ?_
  obtain ⟨a10, ha10, hF⟩ := bindE hF
  refine ASL.g (v := (.bool a10)) (.bool c8) false rfl (wF _) rfl (fun hG => by have q0 := gN hG; subst q0; exact (qCall rfl rfl call_55 (impl_ReOk_ok (whenE ha10)) rfl)) ?_
  refine ASL.g (v := (.bool (!a10))) (.bool c8) false rfl (wF _) rfl (fun hG => by have q0 := gN hG; subst q0; exact Light.quiet (opNot rfl rfl)) ?_
  refine ASL.q (v := (.bool (c8 || (!a10)))) rfl rfl (Light.quiet (opPick (b := c8) rfl rfl (by cases c8 <;> rfl))) ?_
  refine ASL.done ?_
  refine AWP.ifB hF rfl (fun hc1 hF => ?_) (fun hc1 hF => ?_)
  · skip
    refine AWP.seqR rfl ?_
    refine ASL.q (v := (.bool false)) rfl rfl (Light.quiet (opAssign rfl rfl)) ?_
    refine ASL.done ?_
    refine AWP.ret ?_
    refine QThen.rt ?_
    obtain rfl := someE hF
    exact QRet.sole (v := (.bool false)) ⟨rfl, trivial⟩ rfl
  · skip
    refine AWP.skip ?_
    refine QThen.nrm ?_
    refine AWP.seqR rfl ?_
    refine ASL.q (v := (.list 3 (List.map TNode.av p0))) rfl rfl (Light.quiet (opMove rfl rfl)) ?_
    refine ASL.q (v := (.list 3 (List.map TNode.av p0))) rfl rfl (Light.quiet (opMove rfl rfl)) ?_
    refine ASL.q (v := (.int .i64 (p0.length : Int))) rfl rfl (Light.quiet (opLenMap (f := TNode.av) rfl rfl rfl lenT_29 rfl)) ?_
    refine ASL.q (v := (.int .i64 (W (((p0.length : Int)) - 1)))) rfl rfl (Light.quiet (opInt rfl rfl rfl rfl)) ?_
    refine ASL.q (v := (.list 1 (List.map (AV.int .i64) p1))) rfl rfl (Light.quiet (opMove rfl rfl)) ?_
    obtain ⟨a18, ha18, hF⟩ := bindE hF
    refine ASL.q (v := (.int .u64 a18)) rfl rfl ((qCall rfl rfl call_65 (impl_ends_ok ha18) rfl)) ?_
    refine ASL.q (v := (.list 1 (List.map (AV.int .i64) p1))) rfl rfl (Light.quiet (opMove rfl rfl)) ?_
    refine ASL.q (v := (.int .i64 (p1.length : Int))) rfl rfl (Light.quiet (opLenMap (f := (AV.int .i64)) rfl rfl rfl lenT_47 rfl)) ?_
    refine ASL.q (v := (.int .u64 (IntKind.u64.wrap ((p1.length : Int))))) rfl rfl (Light.quiet (opConv rfl rfl und_3 und_93 rfl)) ?_
    refine ASL.q (v := (.int .u64 (shr .u64 a18 ((IntKind.u64.wrap ((p1.length : Int))))))) rfl rfl (Light.quiet (opShr rfl rfl rfl (wrapU_nn rfl _) rfl)) ?_
    refine ASL.q (v := (.int .u64 (bAnd .u64 ((shr .u64 a18 ((IntKind.u64.wrap ((p1.length : Int)))))) 1))) rfl rfl (Light.quiet (opInt rfl rfl rfl rfl)) ?_
    refine ASL.q (v := (.bool (decide (((bAnd .u64 ((shr .u64 a18 ((IntKind.u64.wrap ((p1.length : Int)))))) 1)) = 1)))) rfl rfl (Light.quiet (opInt rfl rfl rfl rfl)) ?_
    refine ASL.q (v := (.bool (decide (((bAnd .u64 ((shr .u64 a18 ((IntKind.u64.wrap ((p1.length : Int)))))) 1)) = 1)))) rfl rfl (Light.quiet (opAssign rfl rfl)) ?_
    refine ASL.done ?_
    refine AWP.ret ?_
    obtain rfl := someE hF
    exact QRet.sole (v := (.bool (decide (((bAnd .u64 ((shr .u64 a18 ((IntKind.u64.wrap ((p1.length : Int)))))) 1)) = 1)))) ⟨rfl, trivial⟩ rfl

set_option maxRecDepth 10000 in
theorem spec_l1In_ok (p0 : Int) (p1 : Int) (p2 : Int) : PC Try.prog 29 [(.int .i64 p0), (.int .i64 p1), (.int .i64 p2)] fun v => v = (.bool (spec_l1In p0 p1 p2)) := by
  generalize hF : spec_l1In p0 p1 p2 = r
  refine PC.enter Try.func29 rfl Try.ntmps29 (by simp) ?_
  have hS := Sep.void; unfold spec_l1In at hF
  refine AWP.seqR rfl ?_
  refine ASL.q (v := (.bool false)) rfl rfl (Light.quiet (opAssign rfl rfl)) ?_
  refine ASL.done ?_
  refine AWP.seqR rfl ?_
  refine ASL.q (v := (.int .i64 p0)) rfl rfl (Light.quiet (opMove rfl rfl)) ?_
  refine ASL.q (v := (.int .i64 p1)) rfl rfl (Light.quiet (opMove rfl rfl)) ?_
  refine ASL.q (v := (.bool (decide (p0 ≥ p1)))) rfl rfl (Light.quiet (opInt rfl rfl rfl rfl)) ?_
  obtain ⟨c10, hc10, hF⟩ := bndE hF
  refine ASL.q (v := (.bool c10)) rfl rfl ((Quiet.cast (Light.quiet (opMove rfl rfl)) (congrArg AV.bool hc10.symm))) ?_
  refine ASL.g (v := (.int .i64 p0)) (.bool c10) true rfl (wT _) rfl (fun hG => by have q0 := hG; subst q0; exact Light.quiet (opMove rfl rfl)) ?_
  refine ASL.g (v := (.int .i64 p2)) (.bool c10) true rfl (wT _) rfl (fun hG => by have q0 := hG; subst q0; exact Light.quiet (opMove rfl rfl)) ?_
  refine ASL.g (v := (.bool (decide (p0 ≤ p2)))) (.bool c10) true rfl (wT _) rfl (fun hG => by have q0 := hG; subst q0; exact Light.quiet (opInt rfl rfl rfl rfl)) ?_
  refine ASL.q (v := (.bool (c10 && (decide (p0 ≤ p2))))) rfl rfl (Light.quiet (opPick (b := c10) rfl rfl (by cases c10 <;> rfl))) ?_
  refine ASL.q (v := (.bool (c10 && (decide (p0 ≤ p2))))) rfl rfl (Light.quiet (opAssign rfl rfl)) ?_
  refine ASL.done ?_
  refine AWP.ret ?_
  obtain rfl := hF
  exact QRet.sole (v := (.bool (c10 && (decide (p0 ≤ p2))))) ⟨rfl, trivial⟩ rfl

set_option maxRecDepth 10000 in
theorem spec_l11Parts_ok (p0 : Int) : PC Try.prog 87 [(.int .i64 p0)] fun v => v = (.int .i64 (spec_l11Parts p0)) := by
  generalize hF : spec_l11Parts p0 = r
  refine PC.enter Try.func87 rfl Try.ntmps87 (by simp) ?_
  have hS := Sep.void; unfold spec_l11Parts at hF
  refine AWP.seqR rfl ?_
  refine ASL.q (v := (.int .i64 0)) rfl rfl (Light.quiet (opAssign rfl rfl)) ?_
  refine ASL.done ?_
  refine AWP.seq ?_
  refine AWP.seqR rfl ?_
  refine ASL.q (v := (.int .i64 p0)) rfl rfl (Light.quiet (opMove rfl rfl)) ?_
  refine ASL.done ?_
  refine AWP.block ?_
  refine AWP.seqM (fun e H => ∃ x4_1 : Bool, E.Told e [(3, (.int .i64 p0)), (4, (.bool x4_1))] ∧ E.Sep H [] ∧ spec_l11Parts.k0 p0 x4_1 = r) ?_ ?_
  · rintro e0 G6 ⟨x4_1, hT, hS, hF⟩; refine AWP.only _ hT ?_; unfold spec_l11Parts.k0 at hF
    refine AWP.ifB hF rfl (fun hc1 hF => ?_) (fun hc1 hF => ?_)
    · skip
      refine AWP.seqR rfl ?_
      refine ASL.q (v := (.int .i64 0)) rfl rfl (Light.quiet (opAssign rfl rfl)) ?_
      refine ASL.done ?_
      refine AWP.ret ?_
      refine QBlock.ret ?_
      refine QThen.rt ?_
      obtain rfl := hF
      exact QRet.sole (v := (.int .i64 0)) ⟨rfl, trivial⟩ rfl
    · skip
      refine AWP.seqR rfl ?_
      refine ASL.q (v := (.bool (decide (p0 = 4)))) rfl rfl (Light.quiet (opInt rfl rfl rfl rfl)) ?_
      refine ASL.q (v := (.bool (decide (p0 = 4)))) rfl rfl (Light.quiet (opAssign rfl rfl)) ?_
      refine ASL.done ?_
      refine AWP.ifP hF rfl (fun hc2 hF => ?_) (fun hc2 hF => ?_)
      · skip
        refine AWP.seqR rfl ?_
        refine ASL.q (v := (.int .i64 1)) rfl rfl (Light.quiet (opAssign rfl rfl)) ?_
        refine ASL.done ?_
        refine AWP.ret ?_
        refine QBlock.ret ?_
        refine QThen.rt ?_
        obtain rfl := hF
        exact QRet.sole (v := (.int .i64 1)) ⟨rfl, trivial⟩ rfl
      · skip
        refine AWP.seq ?_
        refine AWP.seqR rfl ?_
        refine ASL.q (v := (.bool (decide (p0 = 5)))) rfl rfl (Light.quiet (opInt rfl rfl rfl rfl)) ?_
        refine ASL.q (v := (.bool (decide (p0 = 5)))) rfl rfl (Light.quiet (opAssign rfl rfl)) ?_
        refine ASL.done ?_
        refine AWP.ifP hF rfl (fun hc3 hF => ?_) (fun hc3 hF => ?_)
        · skip
          refine AWP.skip ?_
          refine QThen.nrm ?_
          refine AWP.ifP hF rfl (fun hc4 hF => ?_) (fun hc4 hF => ?_)
          · skip
            refine AWP.seqR rfl ?_
            refine ASL.q (v := (.int .i64 2)) rfl rfl (Light.quiet (opAssign rfl rfl)) ?_
            refine ASL.done ?_
            refine AWP.ret ?_
            refine QBlock.ret ?_
            refine QThen.rt ?_
            obtain rfl := hF
            exact QRet.sole (v := (.int .i64 2)) ⟨rfl, trivial⟩ rfl
          · skip
            refine AWP.skip ?_
            refine QBlock.nrm ?_
            refine QThen.nrm ?_
            refine AWP.seqR rfl ?_
            refine ASL.q (v := (.int .i64 (-1))) rfl rfl (Light.quiet (opAssign rfl rfl)) ?_
            refine ASL.done ?_
            refine AWP.ret ?_
            obtain rfl := hF
            exact QRet.sole (v := (.int .i64 (-1))) ⟨rfl, trivial⟩ rfl
        · skip
          refine AWP.lastR rfl ?_
          refine ASL.q (v := (.bool (decide (p0 = 6)))) rfl rfl (Light.quiet (opInt rfl rfl rfl rfl)) ?_
          refine ASL.q (v := (.bool (decide (p0 = 6)))) rfl rfl (Light.quiet (opAssign rfl rfl)) ?_
          refine ASL.done ?_
          refine QThen.nrm ?_
          refine AWP.ifP hF rfl (fun hc5 hF => ?_) (fun hc5 hF => ?_)
          · skip
            refine AWP.seqR rfl ?_
            refine ASL.q (v := (.int .i64 2)) rfl rfl (Light.quiet (opAssign rfl rfl)) ?_
            refine ASL.done ?_
            refine AWP.ret ?_
            refine QBlock.ret ?_
            refine QThen.rt ?_
            obtain rfl := hF
            exact QRet.sole (v := (.int .i64 2)) ⟨rfl, trivial⟩ rfl
          · skip
            refine AWP.skip ?_
            refine QBlock.nrm ?_
            refine QThen.nrm ?_
            refine AWP.seqR rfl ?_
            refine ASL.q (v := (.int .i64 (-1))) rfl rfl (Light.quiet (opAssign rfl rfl)) ?_
            refine ASL.done ?_
            refine AWP.ret ?_
            obtain rfl := hF
            exact QRet.sole (v := (.int .i64 (-1))) ⟨rfl, trivial⟩ rfl
  · skip
    refine AWP.seqR rfl ?_
    refine ASL.q (v := (.bool (decide (p0 = 1)))) rfl rfl (Light.quiet (opInt rfl rfl rfl rfl)) ?_
    refine ASL.q (v := (.bool (decide (p0 = 1)))) rfl rfl (Light.quiet (opAssign rfl rfl)) ?_
    refine ASL.done ?_
    refine AWP.ifP hF rfl (fun hc7 hF => ?_) (fun hc7 hF => ?_)
    · skip
      refine AWP.skip ?_
      refine QThen.nrm ?_
      exact ⟨(decide (p0 = 1)), ⟨rfl, rfl, trivial⟩, (hS.pick [] rfl rfl), hF⟩
    · skip
      refine AWP.seqR rfl ?_
      refine ASL.q (v := (.bool (decide (p0 = 2)))) rfl rfl (Light.quiet (opInt rfl rfl rfl rfl)) ?_
      refine ASL.q (v := (.bool (decide (p0 = 2)))) rfl rfl (Light.quiet (opAssign rfl rfl)) ?_
      refine ASL.done ?_
      refine AWP.ifP hF rfl (fun hc8 hF => ?_) (fun hc8 hF => ?_)
      · skip
        refine AWP.skip ?_
        refine QThen.nrm ?_
        exact ⟨(decide (p0 = 2)), ⟨rfl, rfl, trivial⟩, (hS.pick [] rfl rfl), hF⟩
      · skip
        refine AWP.lastR rfl ?_
        refine ASL.q (v := (.bool (decide (p0 = 3)))) rfl rfl (Light.quiet (opInt rfl rfl rfl rfl)) ?_
        refine ASL.q (v := (.bool (decide (p0 = 3)))) rfl rfl (Light.quiet (opAssign rfl rfl)) ?_
        refine ASL.done ?_
        refine QThen.nrm ?_
        exact ⟨(decide (p0 = 3)), ⟨rfl, rfl, trivial⟩, (hS.pick [] rfl rfl), hF⟩

set_option maxRecDepth 10000 in
theorem spec_l2Letter_ok (p0 : Int) : PC Try.prog 88 [(.int .i64 p0)] fun v => v = (.bool (spec_l2Letter p0)) := by
  generalize hF : spec_l2Letter p0 = r
  refine PC.enter Try.func88 rfl Try.ntmps88 (by simp) ?_
  have hS := Sep.void; unfold spec_l2Letter at hF
  refine AWP.seqR rfl ?_
  refine ASL.q (v := (.bool false)) rfl rfl (Light.quiet (opAssign rfl rfl)) ?_
  refine ASL.done ?_
  refine AWP.seqR rfl ?_
  refine ASL.q (v := (.int .i64 p0)) rfl rfl (Light.quiet (opMove rfl rfl)) ?_
  refine ASL.q (v := (.bool (spec_l1In p0 0 7))) rfl rfl ((qCall rfl rfl call_29 (spec_l1In_ok p0 0 7) rfl)) ?_
  refine ASL.q (v := (.bool (spec_l1In p0 0 7))) rfl rfl (Light.quiet (opAssign rfl rfl)) ?_
  refine ASL.done ?_
  refine AWP.ret ?_
  obtain rfl := hF
  exact QRet.sole (v := (.bool (spec_l1In p0 0 7))) ⟨rfl, trivial⟩ rfl

set_option maxRecDepth 10000 in
theorem spec_l2Sizes_ok {p0 : (List TNode)} {p1 : (List Int)} {r : (List Int)} (hF : spec_l2Sizes p0 p1 = some r) : PO Try.prog 74 [(.list 3 (List.map TNode.av p0)), (.list 1 (List.map (AV.int .i64) p1))] 1 (List.map (AV.int .i64) r) := by
  refine HC.enter Try.func74 rfl Try.ntmps74 (by simp) ?_
  have hS := Sep.void; unfold spec_l2Sizes at hF
  refine AWP.seqR rfl ?_
  have hS := hNil (s := 1) (f := (AV.int .i64)) hS
  refine ASL.q (v := .nil) rfl rfl (Light.quiet (opAssign rfl rfl)) ?_
  refine ASL.done ?_
  refine AWP.seqR rfl ?_
  refine ASL.x rfl rfl (hLit (f := (AV.int .i64)) (zs := []) hS rfl rfl elemA_47 sizeA_3 zeroA_3 rfl rfl rfl rfl (by simp [cells]) (nlt rfl) ?_); rintro v10 G2 hK hS
  refine ASL.q (v := v10) rfl rfl (Light.quiet (opAssign rfl rfl)) ?_
  refine ASL.done ?_
  refine AWP.seqM (fun e H => ∃ y4 : (List Int), ∃ w5 : AV, E.Told e [(5, w5)] ∧ E.Sep H [.row 1 w5 (List.map (AV.int .i64) y4)] ∧ spec_l2Sizes.k0 y4 = some r) ?_ ?_
  · rintro e0 G7 ⟨y4, w5, hT, hS, hF⟩; refine AWP.only _ hT ?_; unfold spec_l2Sizes.k0 at hF
    refine AWP.seqR rfl ?_
    refine ASL.q (v := w5) rfl rfl (Light.quiet (opMove rfl rfl)) ?_
    refine ASL.q (v := w5) rfl rfl (Light.quiet (opAssign rfl rfl)) ?_
    refine ASL.done ?_
    refine AWP.ret ?_
    obtain rfl := someE hF
    exact QRet.sole (v := w5) ⟨rfl, trivial⟩ (hS.get (k := 0) rfl)
  · skip
    refine AWP.seqR rfl ?_
    refine ASL.q (v := (.int .i64 0)) rfl rfl (Light.quiet (opAssign rfl rfl)) ?_
    refine ASL.done ?_
    refine AWP.block ?_
    obtain ⟨o14, hL13, hR15⟩ := bindE hF
    refine AWP.loopF (ω := AV) hL13 (fun s w => [(0, (.list 3 (List.map TNode.av p0))), (1, (.list 1 (List.map (AV.int .i64) p1))), (5, w), (6, (.int .i64 s.2))]) (fun s w => [.row 1 w (List.map (AV.int .i64) s.1)]) v10 ⟨rfl, rfl, rfl, rfl, trivial⟩ (hS.pick [0] rfl rfl) ?_
    rintro ⟨y8, x6_l0⟩ w9 G16 hS x11 hF hx12
    try dsimp only at hS ⊢
    have hF : spec_l2Sizes.b0 p0 p1 y8 x6_l0 = some x11 := hF; unfold spec_l2Sizes.b0 at hF
    refine AWP.seq ?_
    refine AWP.seqR rfl ?_
    refine ASL.q (v := (.int .i64 x6_l0)) rfl rfl (Light.quiet (opMove rfl rfl)) ?_
    refine ASL.q (v := (.list 3 (List.map TNode.av p0))) rfl rfl (Light.quiet (opMove rfl rfl)) ?_
    refine ASL.q (v := (.int .i64 (p0.length : Int))) rfl rfl (Light.quiet (opLenMap (f := TNode.av) rfl rfl rfl lenT_29 rfl)) ?_
    refine ASL.q (v := (.bool (decide (x6_l0 < ((p0.length : Int)))))) rfl rfl (Light.quiet (opInt rfl rfl rfl rfl)) ?_
    refine ASL.done ?_
    refine AWP.ifP hF rfl (fun hc17 hF => ?_) (fun hc17 hF => ?_)
    · skip
      refine AWP.skip ?_
      refine QThen.nrm ?_
      refine AWP.seq ?_
      refine AWP.block ?_
      refine AWP.seqR rfl ?_
      refine ASL.q (v := (.list 3 (List.map TNode.av p0))) rfl rfl (Light.quiet (opMove rfl rfl)) ?_
      refine ASL.q (v := (.int .i64 x6_l0)) rfl rfl (Light.quiet (opMove rfl rfl)) ?_
      obtain ⟨a19, ha19, hF⟩ := bindE hF
      refine ASL.q (v := (.rptr [(.int .i64 a19.kind), (.int .i64 a19.a), (.int .i64 a19.b)])) rfl rfl (Light.quiet (kIx (f := TNode.av) ha19 rfl rfl rfl elemA_29 sizeA_65 rfl)) ?_
      refine ASL.q (v := (TNode.av a19)) rfl rfl (Light.quiet (opLoadRA rfl aggA_65 sizeA_65 rfl (nlt rfl) rfl)) ?_
      refine ASL.x rfl rfl (hNewZ hS [(.int .i64 0), (.int .i64 0), (.int .i64 0)] rfl zeroA_65 ⟨.inl rfl, .inl rfl, .inl rfl, trivial⟩ ?_); rintro b7 G18 hK hS
      refine ASL.n rfl rfl (hPutA hS (j := 0) rfl rfl sizeA_65 rfl rfl rfl rfl rfl (nlt rfl) ?_); rintro G20 hS
      refine ASL.done ?_
      refine AWP.seqR rfl ?_
      refine ASL.q (v := (.int .i64 1)) rfl rfl (Light.quiet (opAssign rfl rfl)) ?_
      refine ASL.done ?_
      refine AWP.seq ?_
      refine AWP.seqR rfl ?_
      refine ASL.q (v := (.list 1 (List.map (AV.int .i64) p1))) rfl rfl (Light.quiet (opMove rfl rfl)) ?_
      refine ASL.q (v := (.int .i64 x6_l0)) rfl rfl (Light.quiet (opMove rfl rfl)) ?_
      obtain ⟨a23, ha23, hF⟩ := bindE hF
      refine ASL.q (v := (.rptr [(.int .i64 a23)])) rfl rfl (Light.quiet (kIx (f := (AV.int .i64)) ha23 rfl rfl rfl elemA_47 sizeA_3 rfl)) ?_
      refine ASL.q (v := (.int .i64 a23)) rfl rfl (Light.quiet (opLoadR rfl aggA_3 rfl rfl)) ?_
      refine ASL.done ?_
      refine AWP.block ?_
      refine AWP.seqR rfl ?_
      refine ASL.q (v := (.bool (decide (a23 = 1)))) rfl rfl (Light.quiet (opInt rfl rfl rfl rfl)) ?_
      refine ASL.q (v := (.bool (decide (a23 = 1)))) rfl rfl (Light.quiet (opAssign rfl rfl)) ?_
      refine ASL.done ?_
      refine AWP.ifP hF rfl (fun hc21 hF => ?_) (fun hc21 hF => ?_)
      · skip
        refine AWP.seq ?_
        refine AWP.seqR rfl ?_
        refine ASL.q (v := (.int .i64 x6_l0)) rfl rfl (Light.quiet (opMove rfl rfl)) ?_
        refine ASL.q (v := (.bool (decide (x6_l0 < 1)))) rfl rfl (Light.quiet (opInt rfl rfl rfl rfl)) ?_
        obtain ⟨c33, hc33, hF⟩ := bndE hF
        refine ASL.q (v := (.bool c33)) rfl rfl ((Quiet.cast (Light.quiet (opMove rfl rfl)) (congrArg AV.bool hc33.symm))) ?_
        refine ASL.g (v := (.ptr b7 1)) (.bool c33) false rfl (wF _) rfl (fun hG => by have q0 := gN hG; subst q0; exact Light.quiet (opFieldAddr rfl fieldA_65_1 rfl rfl)) ?_
        refine ASL.g (v := (.int .i64 a19.a)) (.bool c33) false rfl (wF _) rfl (fun hG => by have q0 := gN hG; subst q0; exact Light.quiet (kAt hS (j := 0) rfl rfl aggA_3 rfl rfl)) ?_
        refine ASL.g (v := (.int .i64 x6_l0)) (.bool c33) false rfl (wF _) rfl (fun hG => by have q0 := gN hG; subst q0; exact Light.quiet (opMove rfl rfl)) ?_
        refine ASL.g (v := (.int .i64 (W (x6_l0 - 1)))) (.bool c33) false rfl (wF _) rfl (fun hG => by have q0 := gN hG; subst q0; exact Light.quiet (opInt rfl rfl rfl rfl)) ?_
        refine ASL.g (v := (.bool (decide (a19.a ≠ ((W (x6_l0 - 1))))))) (.bool c33) false rfl (wF _) rfl (fun hG => by have q0 := gN hG; subst q0; exact Light.quiet (opInt rfl rfl rfl rfl)) ?_
        refine ASL.q (v := (.bool (c33 || (decide (a19.a ≠ ((W (x6_l0 - 1)))))))) rfl rfl (Light.quiet (opPick (b := c33) rfl rfl (by cases c33 <;> rfl))) ?_
        obtain ⟨c40, hc40, hF⟩ := bndE hF
        refine ASL.q (v := (.bool c40)) rfl rfl ((Quiet.cast (Light.quiet (opMove rfl rfl)) (congrArg AV.bool hc40.symm))) ?_
        refine ASL.g (v := (.ptr b7 2)) (.bool c40) false rfl (wF _) rfl (fun hG => by have q0 := gN hG; subst q0; exact Light.quiet (opFieldAddr rfl fieldA_65_2 rfl rfl)) ?_
        refine ASL.g (v := (.int .i64 a19.b)) (.bool c40) false rfl (wF _) rfl (fun hG => by have q0 := gN hG; subst q0; exact Light.quiet (kAt hS (j := 0) rfl rfl aggA_3 rfl rfl)) ?_
        refine ASL.g (v := (.bool (decide (a19.b ≠ 0)))) (.bool c40) false rfl (wF _) rfl (fun hG => by have q0 := gN hG; subst q0; exact Light.quiet (opInt rfl rfl rfl rfl)) ?_
        refine ASL.q (v := (.bool (c40 || (decide (a19.b ≠ 0))))) rfl rfl (Light.quiet (opPick (b := c40) rfl rfl (by cases c40 <;> rfl))) ?_
        refine ASL.done ?_
        refine AWP.ifB hF rfl (fun hc22 hF => ?_) (fun hc22 hF => ?_)
        · skip
          refine AWP.seqR rfl ?_
          refine ASL.x rfl rfl (hLit (f := (AV.int .i64)) (zs := []) hS rfl rfl elemA_47 sizeA_3 zeroA_3 rfl rfl rfl rfl (by simp [cells]) (nlt rfl) ?_); rintro v45 G23 hK hS
          refine ASL.q (v := v45) rfl rfl (Light.quiet (opAssign rfl rfl)) ?_
          refine ASL.done ?_
          refine AWP.ret ?_
          refine QThen.rt ?_
          refine QBlock.ret ?_
          refine QThen.rt ?_
          refine QBlock.ret ?_
          refine QThen.rt ?_
          refine QThen.rt ?_
          refine QBlock.ret ?_
          refine QThen.rt ?_
          obtain rfl := (hx12 _ (someE hF).symm)
          have hF := hR15
          have hF := sumR hF
          obtain rfl := someE hF
          exact QRet.sole (v := v45) ⟨rfl, trivial⟩ (hS.get (k := 0) rfl)
        · skip
          refine AWP.skip ?_
          refine QThen.nrm ?_
          refine AWP.lastR rfl ?_
          refine ASL.q (v := w9) rfl rfl (Light.quiet (opMove rfl rfl)) ?_
          refine ASL.q (v := (.int .i64 x6_l0)) rfl rfl (Light.quiet (opMove rfl rfl)) ?_
          refine ASL.q (v := (.int .i64 (W (x6_l0 - 1)))) rfl rfl (Light.quiet (opInt rfl rfl rfl rfl)) ?_
          obtain ⟨a49, ha49, hF⟩ := bindE hF
          refine ASL.q (v := (ptrTo w9 ((W (x6_l0 - 1))).toNat 1)) rfl rfl (Light.quiet (kIxOx hS (j := 1) rfl ha49 rfl rfl rfl elemA_47 sizeA_3)) ?_
          refine ASL.q (v := (.int .i64 a49)) rfl rfl (Light.quiet (kLd (f := (AV.int .i64)) hS (j := 1) rfl ha49 rfl aggA_3 rfl (fun _ => rfl))) ?_
          refine ASL.q (v := (.int .i64 (W (1 + a49)))) rfl rfl (Light.quiet (opInt rfl rfl rfl rfl)) ?_
          refine ASL.q (v := (.int .i64 (W (1 + a49)))) rfl rfl (Light.quiet (opAssign rfl rfl)) ?_
          refine ASL.done ?_
          refine QBlock.nrm ?_
          refine QThen.nrm ?_
          refine AWP.lastR rfl ?_
          refine ASL.q (v := w9) rfl rfl (Light.quiet (opMove rfl rfl)) ?_
          refine ASL.q (v := (.int .i64 (W (1 + a49)))) rfl rfl (Light.quiet (opMove rfl rfl)) ?_
          refine ASL.q (v := (.list 1 (List.map (AV.int .i64) [(W (1 + a49))]))) rfl rfl ((qLit (xs := [(.int .i64 (W (1 + a49)))]) rfl elemA_47 sizeA_3 zeroA_3 rfl rfl rfl rfl (by simp [cells]) (nlt rfl))) ?_
          obtain ⟨z95, hz95, hF⟩ := bindE hF
          refine ASL.x rfl rfl (hApp (f := (AV.int .i64)) (ws := [(W (1 + a49))]) hS (j := 1) rfl hz95 rfl elemA_47 rfl sizeA_3 bytesA_3 zeroA_3 rfl rfl rfl (fun _ => rfl) ?_); rintro v95 G25 hS
          refine ASL.q (v := v95) rfl rfl (Light.quiet (opAssign rfl rfl)) ?_
          refine ASL.done ?_
          refine QBlock.nrm ?_
          refine QThen.nrm ?_
          refine AWP.lastR rfl ?_
          refine ASL.q (v := (.int .i64 x6_l0)) rfl rfl (Light.quiet (opMove rfl rfl)) ?_
          refine ASL.q (v := (.int .i64 (W (x6_l0 + 1)))) rfl rfl (Light.quiet (opInt rfl rfl rfl rfl)) ?_
          refine ASL.q (v := (.int .i64 (W (x6_l0 + 1)))) rfl rfl (Light.quiet (opAssign rfl rfl)) ?_
          refine ASL.done ?_
          refine QThen.nrm ?_
          exact ⟨(z95, (W (x6_l0 + 1))), v95, (someE hF).symm, ⟨rfl, rfl, rfl, rfl, trivial⟩, (hS.pick [1] rfl rfl)⟩
      · skip
        refine AWP.seqR rfl ?_
        refine ASL.q (v := (.bool (decide (a23 = 2)))) rfl rfl (Light.quiet (opInt rfl rfl rfl rfl)) ?_
        refine ASL.q (v := (.bool (decide (a23 = 2)))) rfl rfl (Light.quiet (opAssign rfl rfl)) ?_
        refine ASL.done ?_
        refine AWP.ifP hF rfl (fun hc27 hF => ?_) (fun hc27 hF => ?_)
        · skip
          refine AWP.seq ?_
          refine AWP.seqR rfl ?_
          refine ASL.q (v := (.int .i64 x6_l0)) rfl rfl (Light.quiet (opMove rfl rfl)) ?_
          refine ASL.q (v := (.bool (decide (x6_l0 < 2)))) rfl rfl (Light.quiet (opInt rfl rfl rfl rfl)) ?_
          obtain ⟨c56, hc56, hF⟩ := bndE hF
          refine ASL.q (v := (.bool c56)) rfl rfl ((Quiet.cast (Light.quiet (opMove rfl rfl)) (congrArg AV.bool hc56.symm))) ?_
          refine ASL.g (v := (.ptr b7 2)) (.bool c56) false rfl (wF _) rfl (fun hG => by have q0 := gN hG; subst q0; exact Light.quiet (opFieldAddr rfl fieldA_65_2 rfl rfl)) ?_
          refine ASL.g (v := (.int .i64 a19.b)) (.bool c56) false rfl (wF _) rfl (fun hG => by have q0 := gN hG; subst q0; exact Light.quiet (kAt hS (j := 0) rfl rfl aggA_3 rfl rfl)) ?_
          refine ASL.g (v := (.int .i64 x6_l0)) (.bool c56) false rfl (wF _) rfl (fun hG => by have q0 := gN hG; subst q0; exact Light.quiet (opMove rfl rfl)) ?_
          refine ASL.g (v := (.int .i64 (W (x6_l0 - 1)))) (.bool c56) false rfl (wF _) rfl (fun hG => by have q0 := gN hG; subst q0; exact Light.quiet (opInt rfl rfl rfl rfl)) ?_
          refine ASL.g (v := (.bool (decide (a19.b ≠ ((W (x6_l0 - 1))))))) (.bool c56) false rfl (wF _) rfl (fun hG => by have q0 := gN hG; subst q0; exact Light.quiet (opInt rfl rfl rfl rfl)) ?_
          refine ASL.q (v := (.bool (c56 || (decide (a19.b ≠ ((W (x6_l0 - 1)))))))) rfl rfl (Light.quiet (opPick (b := c56) rfl rfl (by cases c56 <;> rfl))) ?_
          refine ASL.done ?_
          refine AWP.ifB hF rfl (fun hc28 hF => ?_) (fun hc28 hF => ?_)
          · skip
            refine AWP.seqR rfl ?_
            refine ASL.x rfl rfl (hLit (f := (AV.int .i64)) (zs := []) hS rfl rfl elemA_47 sizeA_3 zeroA_3 rfl rfl rfl rfl (by simp [cells]) (nlt rfl) ?_); rintro v63 G29 hK hS
            refine ASL.q (v := v63) rfl rfl (Light.quiet (opAssign rfl rfl)) ?_
            refine ASL.done ?_
            refine AWP.ret ?_
            refine QThen.rt ?_
            refine QBlock.ret ?_
            refine QThen.rt ?_
            refine QBlock.ret ?_
            refine QThen.rt ?_
            refine QThen.rt ?_
            refine QBlock.ret ?_
            refine QThen.rt ?_
            obtain rfl := (hx12 _ (someE hF).symm)
            have hF := hR15
            have hF := sumR hF
            obtain rfl := someE hF
            exact QRet.sole (v := v63) ⟨rfl, trivial⟩ (hS.get (k := 0) rfl)
          · skip
            refine AWP.skip ?_
            refine QThen.nrm ?_
            refine AWP.seqR rfl ?_
            refine ASL.q (v := (.int .i64 x6_l0)) rfl rfl (Light.quiet (opMove rfl rfl)) ?_
            refine ASL.q (v := (.int .i64 (W (x6_l0 - 1)))) rfl rfl (Light.quiet (opInt rfl rfl rfl rfl)) ?_
            refine ASL.q (v := w9) rfl rfl (Light.quiet (opMove rfl rfl)) ?_
            refine ASL.q (v := (.int .i64 x6_l0)) rfl rfl (Light.quiet (opMove rfl rfl)) ?_
            refine ASL.q (v := (.int .i64 (W (x6_l0 - 1)))) rfl rfl (Light.quiet (opInt rfl rfl rfl rfl)) ?_
            obtain ⟨a69, ha69, hF⟩ := bindE hF
            refine ASL.q (v := (ptrTo w9 ((W (x6_l0 - 1))).toNat 1)) rfl rfl (Light.quiet (kIxOx hS (j := 1) rfl ha69 rfl rfl rfl elemA_47 sizeA_3)) ?_
            refine ASL.q (v := (.int .i64 a69)) rfl rfl (Light.quiet (kLd (f := (AV.int .i64)) hS (j := 1) rfl ha69 rfl aggA_3 rfl (fun _ => rfl))) ?_
            refine ASL.q (v := (.int .i64 (W (((W (x6_l0 - 1))) - a69)))) rfl rfl (Light.quiet (opInt rfl rfl rfl rfl)) ?_
            refine ASL.q (v := (.int .i64 (W (((W (x6_l0 - 1))) - a69)))) rfl rfl (Light.quiet (opAssign rfl rfl)) ?_
            refine ASL.done ?_
            refine AWP.seq ?_
            refine AWP.seqR rfl ?_
            refine ASL.q (v := (.int .i64 (W (((W (x6_l0 - 1))) - a69)))) rfl rfl (Light.quiet (opMove rfl rfl)) ?_
            refine ASL.q (v := (.bool (decide (((W (((W (x6_l0 - 1))) - a69))) < 0)))) rfl rfl (Light.quiet (opInt rfl rfl rfl rfl)) ?_
            obtain ⟨c74, hc74, hF⟩ := bndE hF
            refine ASL.q (v := (.bool c74)) rfl rfl ((Quiet.cast (Light.quiet (opMove rfl rfl)) (congrArg AV.bool hc74.symm))) ?_
            refine ASL.g (v := (.ptr b7 1)) (.bool c74) false rfl (wF _) rfl (fun hG => by have q0 := gN hG; subst q0; exact Light.quiet (opFieldAddr rfl fieldA_65_1 rfl rfl)) ?_
            refine ASL.g (v := (.int .i64 a19.a)) (.bool c74) false rfl (wF _) rfl (fun hG => by have q0 := gN hG; subst q0; exact Light.quiet (kAt hS (j := 0) rfl rfl aggA_3 rfl rfl)) ?_
            refine ASL.g (v := (.int .i64 (W (((W (x6_l0 - 1))) - a69)))) (.bool c74) false rfl (wF _) rfl (fun hG => by have q0 := gN hG; subst q0; exact Light.quiet (opMove rfl rfl)) ?_
            refine ASL.g (v := (.bool (decide (a19.a ≠ ((W (((W (x6_l0 - 1))) - a69))))))) (.bool c74) false rfl (wF _) rfl (fun hG => by have q0 := gN hG; subst q0; exact Light.quiet (opInt rfl rfl rfl rfl)) ?_
            refine ASL.q (v := (.bool (c74 || (decide (a19.a ≠ ((W (((W (x6_l0 - 1))) - a69)))))))) rfl rfl (Light.quiet (opPick (b := c74) rfl rfl (by cases c74 <;> rfl))) ?_
            refine ASL.done ?_
            refine AWP.ifB hF rfl (fun hc31 hF => ?_) (fun hc31 hF => ?_)
            · skip
              refine AWP.seqR rfl ?_
              refine ASL.x rfl rfl (hLit (f := (AV.int .i64)) (zs := []) hS rfl rfl elemA_47 sizeA_3 zeroA_3 rfl rfl rfl rfl (by simp [cells]) (nlt rfl) ?_); rintro v80 G32 hK hS
              refine ASL.q (v := v80) rfl rfl (Light.quiet (opAssign rfl rfl)) ?_
              refine ASL.done ?_
              refine AWP.ret ?_
              refine QThen.rt ?_
              refine QBlock.ret ?_
              refine QThen.rt ?_
              refine QBlock.ret ?_
              refine QThen.rt ?_
              refine QThen.rt ?_
              refine QBlock.ret ?_
              refine QThen.rt ?_
              obtain rfl := (hx12 _ (someE hF).symm)
              have hF := hR15
              have hF := sumR hF
              obtain rfl := someE hF
              exact QRet.sole (v := v80) ⟨rfl, trivial⟩ (hS.get (k := 0) rfl)
            · skip
              refine AWP.skip ?_
              refine QThen.nrm ?_
              refine AWP.lastD [(0, false), (1, false), (2, false), (3, false), (4, false), (5, false), (6, false), (7, false), (8, false), (9, false), (10, false), (11, false)] mixed (by kernel_rfl) rfl ?_
              refine ARL.q0 (v := w9) rfl rfl (Light.quiet (opMove rfl rfl)) ?_
              refine ARL.q0 (v := (.int .i64 x6_l0)) rfl rfl (Light.quiet (opMove rfl rfl)) ?_
              refine ARL.q0 (v := (.int .i64 (W (x6_l0 - 1)))) rfl rfl (Light.quiet (opInt rfl rfl rfl rfl)) ?_
              obtain ⟨a84, ha84, hF⟩ := bindE hF
              refine ARL.q0 (v := (ptrTo w9 ((W (x6_l0 - 1))).toNat 1)) rfl rfl (Light.quiet (kIxOx hS (j := 1) rfl ha84 rfl rfl rfl elemA_47 sizeA_3)) ?_
              refine ARL.q (v := (.int .i64 a84)) rfl rfl (hS.aliveR (k := 1) rfl) (Light.quiet (kLd (f := (AV.int .i64)) hS (j := 1) rfl ha84 rfl aggA_3 rfl (fun _ => rfl))) ?_
              refine ARL.q0 (v := (.int .i64 (W (1 + a84)))) rfl rfl (Light.quiet (opInt rfl rfl rfl rfl)) ?_
              refine ARL.q0 (v := w9) rfl rfl (Light.quiet (opMove rfl rfl)) ?_
              refine ARL.q0 (v := (.int .i64 (W (((W (x6_l0 - 1))) - a69)))) rfl rfl (Light.quiet (opMove rfl rfl)) ?_
              obtain ⟨a89, ha89, hF⟩ := bindE hF
              refine ARL.q0 (v := (ptrTo w9 ((W (((W (x6_l0 - 1))) - a69))).toNat 1)) rfl rfl (Light.quiet (kIxOx hS (j := 1) rfl ha89 rfl rfl rfl elemA_47 sizeA_3)) ?_
              refine ARL.q (v := (.int .i64 a89)) rfl rfl (hS.aliveR (k := 1) rfl) (Light.quiet (kLd (f := (AV.int .i64)) hS (j := 1) rfl ha89 rfl aggA_3 rfl (fun _ => rfl))) ?_
              refine ARL.q0 (v := (.int .i64 (W (((W (1 + a84))) + a89)))) rfl rfl (Light.quiet (opInt rfl rfl rfl rfl)) ?_
              refine ARL.q0 (v := (.int .i64 (W (((W (1 + a84))) + a89)))) rfl rfl (Light.quiet (opAssign rfl rfl)) ?_
              refine ARL.done ?_
              refine QBlock.nrm ?_
              refine QThen.nrm ?_
              refine AWP.lastR rfl ?_
              refine ASL.q (v := w9) rfl rfl (Light.quiet (opMove rfl rfl)) ?_
              refine ASL.q (v := (.int .i64 (W (((W (1 + a84))) + a89)))) rfl rfl (Light.quiet (opMove rfl rfl)) ?_
              refine ASL.q (v := (.list 1 (List.map (AV.int .i64) [(W (((W (1 + a84))) + a89))]))) rfl rfl ((qLit (xs := [(.int .i64 (W (((W (1 + a84))) + a89)))]) rfl elemA_47 sizeA_3 zeroA_3 rfl rfl rfl rfl (by simp [cells]) (nlt rfl))) ?_
              obtain ⟨z95, hz95, hF⟩ := bindE hF
              refine ASL.x rfl rfl (hApp (f := (AV.int .i64)) (ws := [(W (((W (1 + a84))) + a89))]) hS (j := 1) rfl hz95 rfl elemA_47 rfl sizeA_3 bytesA_3 zeroA_3 rfl rfl rfl (fun _ => rfl) ?_); rintro v95 G34 hS
              refine ASL.q (v := v95) rfl rfl (Light.quiet (opAssign rfl rfl)) ?_
              refine ASL.done ?_
              refine QBlock.nrm ?_
              refine QThen.nrm ?_
              refine AWP.lastR rfl ?_
              refine ASL.q (v := (.int .i64 x6_l0)) rfl rfl (Light.quiet (opMove rfl rfl)) ?_
              refine ASL.q (v := (.int .i64 (W (x6_l0 + 1)))) rfl rfl (Light.quiet (opInt rfl rfl rfl rfl)) ?_
              refine ASL.q (v := (.int .i64 (W (x6_l0 + 1)))) rfl rfl (Light.quiet (opAssign rfl rfl)) ?_
              refine ASL.done ?_
              refine QThen.nrm ?_
              exact ⟨(z95, (W (x6_l0 + 1))), v95, (someE hF).symm, ⟨rfl, rfl, rfl, rfl, trivial⟩, (hS.pick [1] rfl rfl)⟩
        · skip
          refine AWP.seqR rfl ?_
          refine ASL.q (v := (.ptr b7 2)) rfl rfl (Light.quiet (opFieldAddr rfl fieldA_65_2 rfl rfl)) ?_
          refine ASL.q (v := (.int .i64 a19.b)) rfl rfl (Light.quiet (kAt hS (j := 0) rfl rfl aggA_3 rfl rfl)) ?_
          refine ASL.q (v := (.bool (decide (a19.b ≠ 0)))) rfl rfl (Light.quiet (opInt rfl rfl rfl rfl)) ?_
          refine ASL.done ?_
          refine AWP.ifP hF rfl (fun hc36 hF => ?_) (fun hc36 hF => ?_)
          · skip
            refine AWP.seqR rfl ?_
            refine ASL.x rfl rfl (hLit (f := (AV.int .i64)) (zs := []) hS rfl rfl elemA_47 sizeA_3 zeroA_3 rfl rfl rfl rfl (by simp [cells]) (nlt rfl) ?_); rintro v28 G37 hK hS
            refine ASL.q (v := v28) rfl rfl (Light.quiet (opAssign rfl rfl)) ?_
            refine ASL.done ?_
            refine AWP.ret ?_
            refine QBlock.ret ?_
            refine QThen.rt ?_
            refine QBlock.ret ?_
            refine QThen.rt ?_
            refine QThen.rt ?_
            refine QBlock.ret ?_
            refine QThen.rt ?_
            obtain rfl := (hx12 _ (someE hF).symm)
            have hF := hR15
            have hF := sumR hF
            obtain rfl := someE hF
            exact QRet.sole (v := v28) ⟨rfl, trivial⟩ (hS.get (k := 0) rfl)
          · skip
            refine AWP.skip ?_
            refine QBlock.nrm ?_
            refine QThen.nrm ?_
            refine AWP.lastR rfl ?_
            refine ASL.q (v := w9) rfl rfl (Light.quiet (opMove rfl rfl)) ?_
            refine ASL.q (v := (.int .i64 1)) rfl rfl (Light.quiet (opMove rfl rfl)) ?_
            refine ASL.q (v := (.list 1 (List.map (AV.int .i64) [1]))) rfl rfl ((qLit (xs := [(.int .i64 1)]) rfl elemA_47 sizeA_3 zeroA_3 rfl rfl rfl rfl (by simp [cells]) (nlt rfl))) ?_
            obtain ⟨z95, hz95, hF⟩ := bindE hF
            refine ASL.x rfl rfl (hApp (f := (AV.int .i64)) (ws := [1]) hS (j := 1) rfl hz95 rfl elemA_47 rfl sizeA_3 bytesA_3 zeroA_3 rfl rfl rfl (fun _ => rfl) ?_); rintro v95 G39 hS
            refine ASL.q (v := v95) rfl rfl (Light.quiet (opAssign rfl rfl)) ?_
            refine ASL.done ?_
            refine QBlock.nrm ?_
            refine QThen.nrm ?_
            refine AWP.lastR rfl ?_
            refine ASL.q (v := (.int .i64 x6_l0)) rfl rfl (Light.quiet (opMove rfl rfl)) ?_
            refine ASL.q (v := (.int .i64 (W (x6_l0 + 1)))) rfl rfl (Light.quiet (opInt rfl rfl rfl rfl)) ?_
            refine ASL.q (v := (.int .i64 (W (x6_l0 + 1)))) rfl rfl (Light.quiet (opAssign rfl rfl)) ?_
            refine ASL.done ?_
            refine QThen.nrm ?_
            exact ⟨(z95, (W (x6_l0 + 1))), v95, (someE hF).symm, ⟨rfl, rfl, rfl, rfl, trivial⟩, (hS.pick [1] rfl rfl)⟩
    · skip
      refine AWP.exit ?_
      refine QThen.ext ?_
      refine QThen.ext ?_
      refine QBlock.hit ?_
      obtain rfl := (hx12 _ (someE hF).symm)
      have hF := hR15
      have hF := sumL hF
      refine QThen.nrm ?_
      exact ⟨y8, w9, ⟨rfl, trivial⟩, (hS.pick [0] rfl rfl), hF⟩

set_option maxRecDepth 10000 in
theorem spec_ReOk_ok {p0 : (List TNode)} {r : Bool} (hF : spec_ReOk p0 = some r) : PC Try.prog 49 [(.list 3 (List.map TNode.av p0))] fun v => v = (.bool r) := by
  refine PC.enter Try.func49 rfl Try.ntmps49 (by simp) ?_
  have hS := Sep.void; unfold spec_ReOk at hF
  refine AWP.seqR rfl ?_
  refine ASL.q (v := (.bool false)) rfl rfl (Light.quiet (opAssign rfl rfl)) ?_
  refine ASL.done ?_
  refine AWP.seq ?_
  refine AWP.seqR rfl ?_
  refine ASL.q (v := (.list 3 (List.map TNode.av p0))) rfl rfl (Light.quiet (opMove rfl rfl)) ?_
  refine ASL.q (v := (.int .i64 (p0.length : Int))) rfl rfl (Light.quiet (opLenMap (f := TNode.av) rfl rfl rfl lenT_29 rfl)) ?_
  refine ASL.q (v := (.bool (spec_l1In ((p0.length : Int)) 1 31))) rfl rfl ((qCall rfl rfl call_29 (spec_l1In_ok ((p0.length : Int)) 1 31) rfl)) ?_
  refine ASL.q (v := (.bool (!(spec_l1In ((p0.length : Int)) 1 31)))) rfl rfl (Light.quiet (opNot rfl rfl)) ?_
  refine ASL.done ?_
  refine AWP.ifB hF rfl (fun hc1 hF => ?_) (fun hc1 hF => ?_)
  · skip
    refine AWP.seqR rfl ?_
    refine ASL.q (v := (.bool false)) rfl rfl (Light.quiet (opAssign rfl rfl)) ?_
    refine ASL.done ?_
    refine AWP.ret ?_
    refine QThen.rt ?_
    obtain rfl := someE hF
    exact QRet.sole (v := (.bool false)) ⟨rfl, trivial⟩ rfl
  · skip
    refine AWP.skip ?_
    refine QThen.nrm ?_
    refine AWP.seqR rfl ?_
    refine ASL.x rfl rfl (hLit (f := (AV.int .i64)) (zs := []) hS rfl rfl elemA_47 sizeA_3 zeroA_3 rfl rfl rfl rfl (by simp [cells]) (nlt rfl) ?_); rintro v12 G2 hK hS
    refine ASL.q (v := v12) rfl rfl (Light.quiet (opAssign rfl rfl)) ?_
    refine ASL.done ?_
    refine AWP.seqM (fun e H => ∃ y4 : (List Int), ∃ w5 : AV, E.Told e [(0, (.list 3 (List.map TNode.av p0))), (3, w5)] ∧ E.Sep H [.row 1 w5 (List.map (AV.int .i64) y4)] ∧ spec_ReOk.k0 p0 y4 = some r) ?_ ?_
    · rintro e0 G7 ⟨y4, w5, hT, hS, hF⟩; refine AWP.only _ hT ?_; unfold spec_ReOk.k0 at hF
      refine AWP.seqR rfl ?_
      refine ASL.q (v := (.list 3 (List.map TNode.av p0))) rfl rfl (Light.quiet (opMove rfl rfl)) ?_
      refine ASL.q (v := w5) rfl rfl (Light.quiet (opMove rfl rfl)) ?_
      obtain ⟨a59, ha59, hF⟩ := bindE hF
      refine ASL.q (v := (.list 1 (List.map (AV.int .i64) a59))) rfl rfl ((qCallRL hS rfl rfl call_74 (spec_l2Sizes_ok ha59) ⟨.same _, .row (k := 0) rfl, trivial⟩ (Scal.ints _ _))) ?_
      refine ASL.q (v := (.list 1 (List.map (AV.int .i64) a59))) rfl rfl (Light.quiet (opAssign rfl rfl)) ?_
      refine ASL.done ?_
      refine AWP.seqR rfl ?_
      refine ASL.q (v := (.list 1 (List.map (AV.int .i64) a59))) rfl rfl (Light.quiet (opMove rfl rfl)) ?_
      refine ASL.q (v := (.int .i64 (a59.length : Int))) rfl rfl (Light.quiet (opLenMap (f := (AV.int .i64)) rfl rfl rfl lenT_47 rfl)) ?_
      refine ASL.q (v := (.list 3 (List.map TNode.av p0))) rfl rfl (Light.quiet (opMove rfl rfl)) ?_
      refine ASL.q (v := (.int .i64 (p0.length : Int))) rfl rfl (Light.quiet (opLenMap (f := TNode.av) rfl rfl rfl lenT_29 rfl)) ?_
      refine ASL.q (v := (.bool (decide (((a59.length : Int)) = ((p0.length : Int)))))) rfl rfl (Light.quiet (opInt rfl rfl rfl rfl)) ?_
      obtain ⟨c65, hc65, hF⟩ := bndE hF
      refine ASL.q (v := (.bool c65)) rfl rfl ((Quiet.cast (Light.quiet (opMove rfl rfl)) (congrArg AV.bool hc65.symm))) ?_
      refine ASL.g (v := (.list 1 (List.map (AV.int .i64) a59))) (.bool c65) true rfl (wT _) rfl (fun hG => by have q0 := hG; subst q0; exact Light.quiet (opMove rfl rfl)) ?_
      refine ASL.g (v := (.list 3 (List.map TNode.av p0))) (.bool c65) true rfl (wT _) rfl (fun hG => by have q0 := hG; subst q0; exact Light.quiet (opMove rfl rfl)) ?_
      refine ASL.g (v := (.int .i64 (p0.length : Int))) (.bool c65) true rfl (wT _) rfl (fun hG => by have q0 := hG; subst q0; exact Light.quiet (opLenMap (f := TNode.av) rfl rfl rfl lenT_29 rfl)) ?_
      refine ASL.g (v := (.int .i64 (W (((p0.length : Int)) - 1)))) (.bool c65) true rfl (wT _) rfl (fun hG => by have q0 := hG; subst q0; exact Light.quiet (opInt rfl rfl rfl rfl)) ?_
      obtain ⟨a70, ha70, hF⟩ := bindE hF
      refine ASL.g (v := (.rptr [(.int .i64 a70)])) (.bool c65) true rfl (wT _) rfl (fun hG => by have q0 := hG; subst q0; exact Light.quiet (kIx (f := (AV.int .i64)) (whenE ha70) rfl rfl rfl elemA_47 sizeA_3 rfl)) ?_
      refine ASL.g (v := (.int .i64 a70)) (.bool c65) true rfl (wT _) rfl (fun hG => by have q0 := hG; subst q0; exact Light.quiet (opLoadR rfl aggA_3 rfl rfl)) ?_
      refine ASL.g (v := (.list 3 (List.map TNode.av p0))) (.bool c65) true rfl (wT _) rfl (fun hG => by have q0 := hG; subst q0; exact Light.quiet (opMove rfl rfl)) ?_
      refine ASL.g (v := (.int .i64 (p0.length : Int))) (.bool c65) true rfl (wT _) rfl (fun hG => by have q0 := hG; subst q0; exact Light.quiet (opLenMap (f := TNode.av) rfl rfl rfl lenT_29 rfl)) ?_
      refine ASL.g (v := (.bool (decide (a70 = ((p0.length : Int)))))) (.bool c65) true rfl (wT _) rfl (fun hG => by have q0 := hG; subst q0; exact Light.quiet (opInt rfl rfl rfl rfl)) ?_
      refine ASL.q (v := (.bool (c65 && (decide (a70 = ((p0.length : Int))))))) rfl rfl (Light.quiet (opPick (b := c65) rfl rfl (by cases c65 <;> rfl))) ?_
      refine ASL.q (v := (.bool (c65 && (decide (a70 = ((p0.length : Int))))))) rfl rfl (Light.quiet (opAssign rfl rfl)) ?_
      refine ASL.done ?_
      refine AWP.ret ?_
      obtain rfl := someE hF
      exact QRet.sole (v := (.bool (c65 && (decide (a70 = ((p0.length : Int))))))) ⟨rfl, trivial⟩ rfl
    · skip
      refine AWP.seqR rfl ?_
      refine ASL.q (v := (.int .i64 0)) rfl rfl (Light.quiet (opAssign rfl rfl)) ?_
      refine ASL.done ?_
      refine AWP.block ?_
      obtain ⟨o14, hL13, hR15⟩ := bindE hF
      refine AWP.loopF (ω := AV) hL13 (fun s w => [(0, (.list 3 (List.map TNode.av p0))), (3, w), (4, (.int .i64 s.2))]) (fun s w => [.row 1 w (List.map (AV.int .i64) s.1)]) v12 ⟨rfl, rfl, rfl, trivial⟩ (hS.pick [0] rfl rfl) ?_
      rintro ⟨y8, x4_l0⟩ w9 G16 hS x11 hF hx12
      try dsimp only at hS ⊢
      have hF : spec_ReOk.b0 p0 y8 x4_l0 = some x11 := hF; unfold spec_ReOk.b0 at hF
      refine AWP.seq ?_
      refine AWP.seqR rfl ?_
      refine ASL.q (v := (.int .i64 x4_l0)) rfl rfl (Light.quiet (opMove rfl rfl)) ?_
      refine ASL.q (v := (.list 3 (List.map TNode.av p0))) rfl rfl (Light.quiet (opMove rfl rfl)) ?_
      refine ASL.q (v := (.int .i64 (p0.length : Int))) rfl rfl (Light.quiet (opLenMap (f := TNode.av) rfl rfl rfl lenT_29 rfl)) ?_
      refine ASL.q (v := (.bool (decide (x4_l0 < ((p0.length : Int)))))) rfl rfl (Light.quiet (opInt rfl rfl rfl rfl)) ?_
      refine ASL.done ?_
      refine AWP.ifP hF rfl (fun hc17 hF => ?_) (fun hc17 hF => ?_)
      · skip
        refine AWP.skip ?_
        refine QThen.nrm ?_
        refine AWP.seq ?_
        refine AWP.block ?_
        refine AWP.seqR rfl ?_
        refine ASL.q (v := (.list 3 (List.map TNode.av p0))) rfl rfl (Light.quiet (opMove rfl rfl)) ?_
        refine ASL.q (v := (.int .i64 x4_l0)) rfl rfl (Light.quiet (opMove rfl rfl)) ?_
        obtain ⟨a21, ha21, hF⟩ := bindE hF
        refine ASL.q (v := (.rptr [(.int .i64 a21.kind), (.int .i64 a21.a), (.int .i64 a21.b)])) rfl rfl (Light.quiet (kIx (f := TNode.av) ha21 rfl rfl rfl elemA_29 sizeA_65 rfl)) ?_
        refine ASL.q (v := (TNode.av a21)) rfl rfl (Light.quiet (opLoadRA rfl aggA_65 sizeA_65 rfl (nlt rfl) rfl)) ?_
        refine ASL.x rfl rfl (hNewZ hS [(.int .i64 0), (.int .i64 0), (.int .i64 0)] rfl zeroA_65 ⟨.inl rfl, .inl rfl, .inl rfl, trivial⟩ ?_); rintro b5 G18 hK hS
        refine ASL.n rfl rfl (hPutA hS (j := 0) rfl rfl sizeA_65 rfl rfl rfl rfl rfl (nlt rfl) ?_); rintro G20 hS
        refine ASL.done ?_
        refine AWP.seqR rfl ?_
        refine ASL.q (v := (.ptr b5 0)) rfl rfl (Light.quiet (opFieldAddr rfl fieldA_65_0 rfl rfl)) ?_
        refine ASL.q (v := (.int .i64 a21.kind)) rfl rfl (Light.quiet (kAt hS (j := 0) rfl rfl aggA_3 rfl rfl)) ?_
        refine ASL.q (v := (.int .i64 (spec_l11Parts a21.kind))) rfl rfl ((qCall rfl rfl call_87 (spec_l11Parts_ok a21.kind) rfl)) ?_
        refine ASL.q (v := (.int .i64 (spec_l11Parts a21.kind))) rfl rfl (Light.quiet (opAssign rfl rfl)) ?_
        refine ASL.done ?_
        refine AWP.seq ?_
        refine AWP.seqR rfl ?_
        refine ASL.q (v := (.int .i64 (spec_l11Parts a21.kind))) rfl rfl (Light.quiet (opMove rfl rfl)) ?_
        refine ASL.q (v := (.bool (decide (((spec_l11Parts a21.kind)) < 0)))) rfl rfl (Light.quiet (opInt rfl rfl rfl rfl)) ?_
        obtain ⟨c28, hc28, hF⟩ := bndE hF
        refine ASL.q (v := (.bool c28)) rfl rfl ((Quiet.cast (Light.quiet (opMove rfl rfl)) (congrArg AV.bool hc28.symm))) ?_
        refine ASL.g (v := (.int .i64 (spec_l11Parts a21.kind))) (.bool c28) false rfl (wF _) rfl (fun hG => by have q0 := gN hG; subst q0; exact Light.quiet (opMove rfl rfl)) ?_
        refine ASL.g (v := (.bool (decide (((spec_l11Parts a21.kind)) = 0)))) (.bool c28) false rfl (wF _) rfl (fun hG => by have q0 := gN hG; subst q0; exact Light.quiet (opInt rfl rfl rfl rfl)) ?_
        obtain ⟨c31, hc31, hF⟩ := bndE hF
        refine ASL.g (v := (.bool c31)) (.bool c28) false rfl (wF _) rfl (fun hG => by have q0 := gN hG; subst q0; exact (Quiet.cast (Light.quiet (opMove rfl rfl)) (congrArg AV.bool hc31.symm))) ?_
        refine ASL.g (v := (.ptr b5 0)) (bif (!c28) then (.bool c31) else .tup []) true rfl (wGT _ _) rfl (fun hG => by have q0 := gN (gA1 hG); have q1 := gA2 hG; subst q0; subst q1; exact Light.quiet (opFieldAddr rfl fieldA_65_0 rfl rfl)) ?_
        refine ASL.g (v := (.int .i64 a21.kind)) (bif (!c28) then (.bool c31) else .tup []) true rfl (wGT _ _) rfl (fun hG => by have q0 := gN (gA1 hG); have q1 := gA2 hG; subst q0; subst q1; exact Light.quiet (kAt hS (j := 0) rfl rfl aggA_3 rfl rfl)) ?_
        refine ASL.g (v := (.bool (decide (a21.kind = 3)))) (bif (!c28) then (.bool c31) else .tup []) true rfl (wGT _ _) rfl (fun hG => by have q0 := gN (gA1 hG); have q1 := gA2 hG; subst q0; subst q1; exact Light.quiet (opInt rfl rfl rfl rfl)) ?_
        obtain ⟨c35, hc35, hF⟩ := bndE hF
        refine ASL.g (v := (.bool c35)) (bif (!c28) then (.bool c31) else .tup []) true rfl (wGT _ _) rfl (fun hG => by have q0 := gN (gA1 hG); have q1 := gA2 hG; subst q0; subst q1; exact (Quiet.cast (Light.quiet (opMove rfl rfl)) (congrArg AV.bool hc35.symm))) ?_
        refine ASL.g (v := (.ptr b5 1)) (bif ((!c28) && c31) then (.bool c35) else .tup []) true rfl (wGT _ _) rfl (fun hG => by have q0 := gN (gA1 (gA1 hG)); have q1 := gA2 (gA1 hG); have q2 := gA2 hG; subst q0; subst q1; subst q2; exact Light.quiet (opFieldAddr rfl fieldA_65_1 rfl rfl)) ?_
        refine ASL.g (v := (.int .i64 a21.a)) (bif ((!c28) && c31) then (.bool c35) else .tup []) true rfl (wGT _ _) rfl (fun hG => by have q0 := gN (gA1 (gA1 hG)); have q1 := gA2 (gA1 hG); have q2 := gA2 hG; subst q0; subst q1; subst q2; exact Light.quiet (kAt hS (j := 0) rfl rfl aggA_3 rfl rfl)) ?_
        refine ASL.g (v := (.bool (spec_l2Letter a21.a))) (bif ((!c28) && c31) then (.bool c35) else .tup []) true rfl (wGT _ _) rfl (fun hG => by have q0 := gN (gA1 (gA1 hG)); have q1 := gA2 (gA1 hG); have q2 := gA2 hG; subst q0; subst q1; subst q2; exact (qCall rfl rfl call_88 (spec_l2Letter_ok a21.a) rfl)) ?_
        refine ASL.g (v := (.bool (!(spec_l2Letter a21.a)))) (bif ((!c28) && c31) then (.bool c35) else .tup []) true rfl (wGT _ _) rfl (fun hG => by have q0 := gN (gA1 (gA1 hG)); have q1 := gA2 (gA1 hG); have q2 := gA2 hG; subst q0; subst q1; subst q2; exact Light.quiet (opNot rfl rfl)) ?_
        refine ASL.g (v := (.bool (c35 && (!(spec_l2Letter a21.a))))) (bif (!c28) then (.bool c31) else .tup []) true rfl (wGT _ _) rfl (fun hG => by have q0 := gN (gA1 hG); have q1 := gA2 hG; subst q0; subst q1; exact Light.quiet (opPick (b := c35) rfl rfl (by cases c35 <;> rfl))) ?_
        obtain ⟨c41, hc41, hF⟩ := bndE hF
        refine ASL.g (v := (.bool c41)) (bif (!c28) then (.bool c31) else .tup []) true rfl (wGT _ _) rfl (fun hG => by have q0 := gN (gA1 hG); have q1 := gA2 hG; subst q0; subst q1; exact (Quiet.cast (Light.quiet (opMove rfl rfl)) (congrArg AV.bool hc41.symm))) ?_
        refine ASL.g (v := (.ptr b5 0)) (bif ((!c28) && c31) then (.bool c41) else .tup []) false rfl (wGF _ _) rfl (fun hG => by have q0 := gN (gA1 (gA1 hG)); have q1 := gA2 (gA1 hG); have q2 := gN (gA2 hG); subst q0; subst q1; subst q2; exact Light.quiet (opFieldAddr rfl fieldA_65_0 rfl rfl)) ?_
        refine ASL.g (v := (.int .i64 a21.kind)) (bif ((!c28) && c31) then (.bool c41) else .tup []) false rfl (wGF _ _) rfl (fun hG => by have q0 := gN (gA1 (gA1 hG)); have q1 := gA2 (gA1 hG); have q2 := gN (gA2 hG); subst q0; subst q1; subst q2; exact Light.quiet (kAt hS (j := 0) rfl rfl aggA_3 rfl rfl)) ?_
        refine ASL.g (v := (.bool (decide (a21.kind ≠ 3)))) (bif ((!c28) && c31) then (.bool c41) else .tup []) false rfl (wGF _ _) rfl (fun hG => by have q0 := gN (gA1 (gA1 hG)); have q1 := gA2 (gA1 hG); have q2 := gN (gA2 hG); subst q0; subst q1; subst q2; exact Light.quiet (opInt rfl rfl rfl rfl)) ?_
        obtain ⟨c45, hc45, hF⟩ := bndE hF
        refine ASL.g (v := (.bool c45)) (bif ((!c28) && c31) then (.bool c41) else .tup []) false rfl (wGF _ _) rfl (fun hG => by have q0 := gN (gA1 (gA1 hG)); have q1 := gA2 (gA1 hG); have q2 := gN (gA2 hG); subst q0; subst q1; subst q2; exact (Quiet.cast (Light.quiet (opMove rfl rfl)) (congrArg AV.bool hc45.symm))) ?_
        refine ASL.g (v := (.ptr b5 1)) (bif (((!c28) && c31) && (!c41)) then (.bool c45) else .tup []) true rfl (wGT _ _) rfl (fun hG => by have q0 := gN (gA1 (gA1 (gA1 hG))); have q1 := gA2 (gA1 (gA1 hG)); have q2 := gN (gA2 (gA1 hG)); have q3 := gA2 hG; subst q0; subst q1; subst q2; subst q3; exact Light.quiet (opFieldAddr rfl fieldA_65_1 rfl rfl)) ?_
        refine ASL.g (v := (.int .i64 a21.a)) (bif (((!c28) && c31) && (!c41)) then (.bool c45) else .tup []) true rfl (wGT _ _) rfl (fun hG => by have q0 := gN (gA1 (gA1 (gA1 hG))); have q1 := gA2 (gA1 (gA1 hG)); have q2 := gN (gA2 (gA1 hG)); have q3 := gA2 hG; subst q0; subst q1; subst q2; subst q3; exact Light.quiet (kAt hS (j := 0) rfl rfl aggA_3 rfl rfl)) ?_
        refine ASL.g (v := (.bool (decide (a21.a ≠ 0)))) (bif (((!c28) && c31) && (!c41)) then (.bool c45) else .tup []) true rfl (wGT _ _) rfl (fun hG => by have q0 := gN (gA1 (gA1 (gA1 hG))); have q1 := gA2 (gA1 (gA1 hG)); have q2 := gN (gA2 (gA1 hG)); have q3 := gA2 hG; subst q0; subst q1; subst q2; subst q3; exact Light.quiet (opInt rfl rfl rfl rfl)) ?_
        refine ASL.g (v := (.bool (c45 && (decide (a21.a ≠ 0))))) (bif ((!c28) && c31) then (.bool c41) else .tup []) false rfl (wGF _ _) rfl (fun hG => by have q0 := gN (gA1 (gA1 hG)); have q1 := gA2 (gA1 hG); have q2 := gN (gA2 hG); subst q0; subst q1; subst q2; exact Light.quiet (opPick (b := c45) rfl rfl (by cases c45 <;> rfl))) ?_
        refine ASL.g (v := (.bool (c41 || (c45 && (decide (a21.a ≠ 0)))))) (bif (!c28) then (.bool c31) else .tup []) true rfl (wGT _ _) rfl (fun hG => by have q0 := gN (gA1 hG); have q1 := gA2 hG; subst q0; subst q1; exact Light.quiet (opPick (b := c41) rfl rfl (by cases c41 <;> rfl))) ?_
        refine ASL.g (v := (.bool (c31 && (c41 || (c45 && (decide (a21.a ≠ 0))))))) (.bool c28) false rfl (wF _) rfl (fun hG => by have q0 := gN hG; subst q0; exact Light.quiet (opPick (b := c31) rfl rfl (by cases c31 <;> rfl))) ?_
        refine ASL.q (v := (.bool (c28 || (c31 && (c41 || (c45 && (decide (a21.a ≠ 0)))))))) rfl rfl (Light.quiet (opPick (b := c28) rfl rfl (by cases c28 <;> rfl))) ?_
        refine ASL.done ?_
        refine AWP.ifB hF rfl (fun hc21 hF => ?_) (fun hc21 hF => ?_)
        · skip
          refine AWP.seqR rfl ?_
          refine ASL.q (v := (.bool false)) rfl rfl (Light.quiet (opAssign rfl rfl)) ?_
          refine ASL.done ?_
          refine AWP.ret ?_
          refine QThen.rt ?_
          refine QBlock.ret ?_
          refine QThen.rt ?_
          refine QThen.rt ?_
          refine QBlock.ret ?_
          refine QThen.rt ?_
          obtain rfl := (hx12 _ (someE hF).symm)
          have hF := hR15
          have hF := sumR hF
          obtain rfl := someE hF
          exact QRet.sole (v := (.bool false)) ⟨rfl, trivial⟩ rfl
        · skip
          refine AWP.skip ?_
          refine QThen.nrm ?_
          refine AWP.lastR rfl ?_
          refine ASL.q (v := w9) rfl rfl (Light.quiet (opMove rfl rfl)) ?_
          refine ASL.q (v := (.int .i64 (spec_l11Parts a21.kind))) rfl rfl (Light.quiet (opMove rfl rfl)) ?_
          refine ASL.q (v := (.list 1 (List.map (AV.int .i64) [(spec_l11Parts a21.kind)]))) rfl rfl ((qLit (xs := [(.int .i64 (spec_l11Parts a21.kind))]) rfl elemA_47 sizeA_3 zeroA_3 rfl rfl rfl rfl (by simp [cells]) (nlt rfl))) ?_
          obtain ⟨z56, hz56, hF⟩ := bindE hF
          refine ASL.x rfl rfl (hApp (f := (AV.int .i64)) (ws := [(spec_l11Parts a21.kind)]) hS (j := 1) rfl hz56 rfl elemA_47 rfl sizeA_3 bytesA_3 zeroA_3 rfl rfl rfl (fun _ => rfl) ?_); rintro v56 G22 hS
          refine ASL.q (v := v56) rfl rfl (Light.quiet (opAssign rfl rfl)) ?_
          refine ASL.done ?_
          refine QBlock.nrm ?_
          refine QThen.nrm ?_
          refine AWP.lastR rfl ?_
          refine ASL.q (v := (.int .i64 x4_l0)) rfl rfl (Light.quiet (opMove rfl rfl)) ?_
          refine ASL.q (v := (.int .i64 (W (x4_l0 + 1)))) rfl rfl (Light.quiet (opInt rfl rfl rfl rfl)) ?_
          refine ASL.q (v := (.int .i64 (W (x4_l0 + 1)))) rfl rfl (Light.quiet (opAssign rfl rfl)) ?_
          refine ASL.done ?_
          refine QThen.nrm ?_
          exact ⟨(z56, (W (x4_l0 + 1))), v56, (someE hF).symm, ⟨rfl, rfl, rfl, trivial⟩, (hS.pick [1] rfl rfl)⟩
      · skip
        refine AWP.exit ?_
        refine QThen.ext ?_
        refine QThen.ext ?_
        refine QBlock.hit ?_
        obtain rfl := (hx12 _ (someE hF).symm)
        have hF := hR15
        have hF := sumL hF
        refine QThen.nrm ?_
        exact ⟨y8, w9, ⟨rfl, rfl, trivial⟩, (hS.pick [0] rfl rfl), hF⟩

set_option maxRecDepth 10000 in
theorem spec_l11Then_ok {p0 : (List Bool)} {p1 : (List Bool)} {p2 : Int} {r : (List Bool)} (hF : spec_l11Then p0 p1 p2 = some r) : PO Try.prog 102 [(.list 1 (List.map AV.bool p0)), (.list 1 (List.map AV.bool p1)), (.int .i64 p2)] 1 (List.map AV.bool r) := by
  refine HC.enter Try.func102 rfl Try.ntmps102 (by simp) ?_
  have hS := Sep.void; unfold spec_l11Then at hF
  refine AWP.seqR rfl ?_
  have hS := hNil (s := 1) (f := AV.bool) hS
  refine ASL.q (v := .nil) rfl rfl (Light.quiet (opAssign rfl rfl)) ?_
  refine ASL.done ?_
  refine AWP.seqR rfl ?_
  refine ASL.q (v := (.int .i64 p2)) rfl rfl (Light.quiet (opMove rfl rfl)) ?_
  refine ASL.q (v := (.int .i64 p2)) rfl rfl (Light.quiet (opMove rfl rfl)) ?_
  refine ASL.q (v := (.int .i64 (W (p2 * p2)))) rfl rfl (Light.quiet (opInt rfl rfl rfl rfl)) ?_
  obtain ⟨z14, hz14, hF⟩ := bindE hF
  refine ASL.x rfl rfl (hMk (f := AV.bool) hS hz14 (by decide) rfl elemA_57 sizeA_4 bytesA_4 zeroA_4 rfl rfl (by decide) rfl rfl ?_); rintro v14 G2 hK hS
  refine ASL.q (v := v14) rfl rfl (Light.quiet (opAssign rfl rfl)) ?_
  refine ASL.done ?_
  refine AWP.seqM (fun e H => ∃ y4 : (List Bool), E.Told e [(7, v14)] ∧ E.Sep H [.row 1 v14 (List.map AV.bool y4)] ∧ spec_l11Then.k0 y4 = some r) ?_ ?_
  · rintro e0 G5 ⟨y4, hT, hS, hF⟩; refine AWP.only _ hT ?_; unfold spec_l11Then.k0 at hF
    refine AWP.seqR rfl ?_
    refine ASL.q (v := v14) rfl rfl (Light.quiet (opMove rfl rfl)) ?_
    refine ASL.q (v := v14) rfl rfl (Light.quiet (opAssign rfl rfl)) ?_
    refine ASL.done ?_
    refine AWP.ret ?_
    obtain rfl := someE hF
    exact QRet.sole (v := v14) ⟨rfl, trivial⟩ (hS.get (k := 0) rfl)
  · skip
    refine AWP.seqR rfl ?_
    refine ASL.q (v := (.int .i64 0)) rfl rfl (Light.quiet (opAssign rfl rfl)) ?_
    refine ASL.done ?_
    refine AWP.block ?_
    obtain ⟨o10, hL9, hR11⟩ := bindE hF
    refine AWP.loopF (ω := Unit) hL9 (fun s w => [(0, (.list 1 (List.map AV.bool p0))), (1, (.list 1 (List.map AV.bool p1))), (2, (.int .i64 p2)), (7, v14), (8, (.int .i64 s.2))]) (fun s w => [.row 1 v14 (List.map AV.bool s.1)]) () ⟨rfl, rfl, rfl, rfl, rfl, trivial⟩ (hS.pick [0] rfl rfl) ?_
    rintro ⟨y6, x8_l0⟩ _ G12 hS x7 hF hx8
    try dsimp only at hS ⊢
    have hF : spec_l11Then.b0 p2 p0 p1 y6 x8_l0 = some x7 := hF; unfold spec_l11Then.b0 at hF
    refine AWP.seq ?_
    refine AWP.seqR rfl ?_
    refine ASL.q (v := (.int .i64 x8_l0)) rfl rfl (Light.quiet (opMove rfl rfl)) ?_
    refine ASL.q (v := (.int .i64 p2)) rfl rfl (Light.quiet (opMove rfl rfl)) ?_
    refine ASL.q (v := (.bool (decide (x8_l0 < p2)))) rfl rfl (Light.quiet (opInt rfl rfl rfl rfl)) ?_
    refine ASL.done ?_
    refine AWP.ifP hF rfl (fun hc13 hF => ?_) (fun hc13 hF => ?_)
    · skip
      refine AWP.skip ?_
      refine QThen.nrm ?_
      refine AWP.seqM (fun e H => ∃ y14 : (List Bool), E.Told e [(0, (.list 1 (List.map AV.bool p0))), (1, (.list 1 (List.map AV.bool p1))), (2, (.int .i64 p2)), (7, v14), (8, (.int .i64 x8_l0))] ∧ E.Sep H [.row 1 v14 (List.map AV.bool y14)] ∧ spec_l11Then.k1 x8_l0 y14 = some x7) ?_ ?_
      · rintro e0 G15 ⟨y14, hT, hS, hF⟩; refine AWP.only _ hT ?_; unfold spec_l11Then.k1 at hF
        refine AWP.lastR rfl ?_
        refine ASL.q (v := (.int .i64 x8_l0)) rfl rfl (Light.quiet (opMove rfl rfl)) ?_
        refine ASL.q (v := (.int .i64 (W (x8_l0 + 1)))) rfl rfl (Light.quiet (opInt rfl rfl rfl rfl)) ?_
        refine ASL.q (v := (.int .i64 (W (x8_l0 + 1)))) rfl rfl (Light.quiet (opAssign rfl rfl)) ?_
        refine ASL.done ?_
        refine QThen.nrm ?_
        exact ⟨(y14, (W (x8_l0 + 1))), (), (someE hF).symm, ⟨rfl, rfl, rfl, rfl, rfl, trivial⟩, (hS.pick [0] rfl rfl)⟩
      · skip
        refine AWP.block ?_
        refine AWP.seqR rfl ?_
        refine ASL.q (v := (.int .i64 x8_l0)) rfl rfl (Light.quiet (opMove rfl rfl)) ?_
        refine ASL.q (v := (.int .i64 x8_l0)) rfl rfl (Light.quiet (opAssign rfl rfl)) ?_
        refine ASL.done ?_
        refine AWP.block ?_
        obtain ⟨o20, hL19, hR21⟩ := bindE hF
        refine AWP.loopF (ω := Unit) hL19 (fun s w => [(0, (.list 1 (List.map AV.bool p0))), (1, (.list 1 (List.map AV.bool p1))), (2, (.int .i64 p2)), (7, v14), (8, (.int .i64 x8_l0)), (9, (.int .i64 s.2))]) (fun s w => [.row 1 v14 (List.map AV.bool s.1)]) () ⟨rfl, rfl, rfl, rfl, rfl, rfl, trivial⟩ (hS.pick [0] rfl rfl) ?_
        rintro ⟨y16, x9_l1⟩ _ G22 hS x17 hF hx18
        try dsimp only at hS ⊢
        have hF : spec_l11Then.b1 p2 p0 x8_l0 p1 y16 x9_l1 = some x17 := hF; unfold spec_l11Then.b1 at hF
        refine AWP.seq ?_
        refine AWP.seqR rfl ?_
        refine ASL.q (v := (.int .i64 x9_l1)) rfl rfl (Light.quiet (opMove rfl rfl)) ?_
        refine ASL.q (v := (.int .i64 p2)) rfl rfl (Light.quiet (opMove rfl rfl)) ?_
        refine ASL.q (v := (.bool (decide (x9_l1 < p2)))) rfl rfl (Light.quiet (opInt rfl rfl rfl rfl)) ?_
        refine ASL.done ?_
        refine AWP.ifP hF rfl (fun hc23 hF => ?_) (fun hc23 hF => ?_)
        · skip
          refine AWP.skip ?_
          refine QThen.nrm ?_
          refine AWP.seqM (fun e H => ∃ y24 : (List Bool), E.Told e [(0, (.list 1 (List.map AV.bool p0))), (1, (.list 1 (List.map AV.bool p1))), (2, (.int .i64 p2)), (7, v14), (8, (.int .i64 x8_l0)), (9, (.int .i64 x9_l1))] ∧ E.Sep H [.row 1 v14 (List.map AV.bool y24)] ∧ spec_l11Then.k2 x9_l1 y24 = some x17) ?_ ?_
          · rintro e0 G25 ⟨y24, hT, hS, hF⟩; refine AWP.only _ hT ?_; unfold spec_l11Then.k2 at hF
            refine AWP.lastR rfl ?_
            refine ASL.q (v := (.int .i64 x9_l1)) rfl rfl (Light.quiet (opMove rfl rfl)) ?_
            refine ASL.q (v := (.int .i64 (W (x9_l1 + 1)))) rfl rfl (Light.quiet (opInt rfl rfl rfl rfl)) ?_
            refine ASL.q (v := (.int .i64 (W (x9_l1 + 1)))) rfl rfl (Light.quiet (opAssign rfl rfl)) ?_
            refine ASL.done ?_
            refine QThen.nrm ?_
            exact ⟨(y24, (W (x9_l1 + 1))), (), (someE hF).symm, ⟨rfl, rfl, rfl, rfl, rfl, rfl, trivial⟩, (hS.pick [0] rfl rfl)⟩
          · skip
            refine AWP.block ?_
            refine AWP.seqR rfl ?_
            refine ASL.q (v := (.int .i64 x9_l1)) rfl rfl (Light.quiet (opMove rfl rfl)) ?_
            refine ASL.q (v := (.int .i64 x9_l1)) rfl rfl (Light.quiet (opAssign rfl rfl)) ?_
            refine ASL.done ?_
            refine AWP.block ?_
            obtain ⟨o30, hL29, hR31⟩ := bindE hF
            refine AWP.loopF (ω := Unit) hL29 (fun s w => [(0, (.list 1 (List.map AV.bool p0))), (1, (.list 1 (List.map AV.bool p1))), (2, (.int .i64 p2)), (7, v14), (8, (.int .i64 x8_l0)), (9, (.int .i64 x9_l1)), (10, (.int .i64 s.2))]) (fun s w => [.row 1 v14 (List.map AV.bool s.1)]) () ⟨rfl, rfl, rfl, rfl, rfl, rfl, rfl, trivial⟩ (hS.pick [0] rfl rfl) ?_
            rintro ⟨y26, x10_l2⟩ _ G32 hS x27 hF hx28
            try dsimp only at hS ⊢
            have hF : spec_l11Then.b2 p2 p0 x8_l0 x9_l1 p1 y26 x10_l2 = some x27 := hF; unfold spec_l11Then.b2 at hF
            refine AWP.seq ?_
            refine AWP.seqR rfl ?_
            refine ASL.q (v := (.int .i64 x10_l2)) rfl rfl (Light.quiet (opMove rfl rfl)) ?_
            refine ASL.q (v := (.int .i64 p2)) rfl rfl (Light.quiet (opMove rfl rfl)) ?_
            refine ASL.q (v := (.bool (decide (x10_l2 < p2)))) rfl rfl (Light.quiet (opInt rfl rfl rfl rfl)) ?_
            obtain ⟨c30, hc30, hF⟩ := bndE hF
            refine ASL.q (v := (.bool c30)) rfl rfl ((Quiet.cast (Light.quiet (opMove rfl rfl)) (congrArg AV.bool hc30.symm))) ?_
            refine ASL.g (v := (.list 1 (List.map AV.bool p0))) (.bool c30) true rfl (wT _) rfl (fun hG => by have q0 := hG; subst q0; exact Light.quiet (opMove rfl rfl)) ?_
            refine ASL.g (v := (.int .i64 x8_l0)) (.bool c30) true rfl (wT _) rfl (fun hG => by have q0 := hG; subst q0; exact Light.quiet (opMove rfl rfl)) ?_
            refine ASL.g (v := (.int .i64 p2)) (.bool c30) true rfl (wT _) rfl (fun hG => by have q0 := hG; subst q0; exact Light.quiet (opMove rfl rfl)) ?_
            refine ASL.g (v := (.int .i64 (W (x8_l0 * p2)))) (.bool c30) true rfl (wT _) rfl (fun hG => by have q0 := hG; subst q0; exact Light.quiet (opInt rfl rfl rfl rfl)) ?_
            refine ASL.g (v := (.int .i64 x9_l1)) (.bool c30) true rfl (wT _) rfl (fun hG => by have q0 := hG; subst q0; exact Light.quiet (opMove rfl rfl)) ?_
            refine ASL.g (v := (.int .i64 (W (((W (x8_l0 * p2))) + x9_l1)))) (.bool c30) true rfl (wT _) rfl (fun hG => by have q0 := hG; subst q0; exact Light.quiet (opInt rfl rfl rfl rfl)) ?_
            obtain ⟨a37, ha37, hF⟩ := bindE hF
            refine ASL.g (v := (.rptr [(.bool a37)])) (.bool c30) true rfl (wT _) rfl (fun hG => by have q0 := hG; subst q0; exact Light.quiet (kIx (f := AV.bool) (whenE ha37) rfl rfl rfl elemA_57 sizeA_4 rfl)) ?_
            refine ASL.g (v := (.bool a37)) (.bool c30) true rfl (wT _) rfl (fun hG => by have q0 := hG; subst q0; exact Light.quiet (opLoadR rfl aggA_4 rfl rfl)) ?_
            refine ASL.q (v := (.bool (c30 && a37))) rfl rfl (Light.quiet (opPick (b := c30) rfl rfl (by cases c30 <;> rfl))) ?_
            refine ASL.done ?_
            refine AWP.ifB hF rfl (fun hc33 hF => ?_) (fun hc33 hF => ?_)
            · skip
              refine AWP.skip ?_
              refine QThen.nrm ?_
              refine AWP.seq ?_
              refine AWP.block ?_
              refine AWP.seqR rfl ?_
              refine ASL.q (v := (.list 1 (List.map AV.bool p1))) rfl rfl (Light.quiet (opMove rfl rfl)) ?_
              refine ASL.q (v := (.int .i64 x9_l1)) rfl rfl (Light.quiet (opMove rfl rfl)) ?_
              refine ASL.q (v := (.int .i64 p2)) rfl rfl (Light.quiet (opMove rfl rfl)) ?_
              refine ASL.q (v := (.int .i64 (W (x9_l1 * p2)))) rfl rfl (Light.quiet (opInt rfl rfl rfl rfl)) ?_
              refine ASL.q (v := (.int .i64 x10_l2)) rfl rfl (Light.quiet (opMove rfl rfl)) ?_
              refine ASL.q (v := (.int .i64 (W (((W (x9_l1 * p2))) + x10_l2)))) rfl rfl (Light.quiet (opInt rfl rfl rfl rfl)) ?_
              obtain ⟨a48, ha48, hF⟩ := bindE hF
              refine ASL.q (v := (.rptr [(.bool a48)])) rfl rfl (Light.quiet (kIx (f := AV.bool) ha48 rfl rfl rfl elemA_57 sizeA_4 rfl)) ?_
              refine ASL.q (v := (.bool a48)) rfl rfl (Light.quiet (opLoadR rfl aggA_4 rfl rfl)) ?_
              refine ASL.done ?_
              refine AWP.ifB hF rfl (fun hc34 hF => ?_) (fun hc34 hF => ?_)
              · skip
                refine AWP.lastR rfl ?_
                refine ASL.q (v := v14) rfl rfl (Light.quiet (opMove rfl rfl)) ?_
                refine ASL.q (v := (.int .i64 x8_l0)) rfl rfl (Light.quiet (opMove rfl rfl)) ?_
                refine ASL.q (v := (.int .i64 p2)) rfl rfl (Light.quiet (opMove rfl rfl)) ?_
                refine ASL.q (v := (.int .i64 (W (x8_l0 * p2)))) rfl rfl (Light.quiet (opInt rfl rfl rfl rfl)) ?_
                refine ASL.q (v := (.int .i64 x10_l2)) rfl rfl (Light.quiet (opMove rfl rfl)) ?_
                refine ASL.q (v := (.int .i64 (W (((W (x8_l0 * p2))) + x10_l2)))) rfl rfl (Light.quiet (opInt rfl rfl rfl rfl)) ?_
                obtain ⟨m56, hm56, hF⟩ := bindE hF
                refine ASL.q (v := (ptrTo v14 m56 1)) rfl rfl (Light.quiet (kIxO hS (j := 0) rfl hm56 rfl rfl rfl elemA_57 sizeA_4)) ?_
                refine ASL.n rfl rfl (hSt (f := AV.bool) (a := true) hS (j := 0) rfl hm56 rfl sizeA_4 rfl rfl ⟨rfl, rfl, rfl⟩ ?_); rintro G35 hS
                refine ASL.done ?_
                refine QBlock.nrm ?_
                refine QThen.nrm ?_
                refine AWP.lastR rfl ?_
                refine ASL.q (v := (.int .i64 x10_l2)) rfl rfl (Light.quiet (opMove rfl rfl)) ?_
                refine ASL.q (v := (.int .i64 (W (x10_l2 + 1)))) rfl rfl (Light.quiet (opInt rfl rfl rfl rfl)) ?_
                refine ASL.q (v := (.int .i64 (W (x10_l2 + 1)))) rfl rfl (Light.quiet (opAssign rfl rfl)) ?_
                refine ASL.done ?_
                refine QThen.nrm ?_
                exact ⟨((y26.set m56 true), (W (x10_l2 + 1))), (), (someE hF).symm, ⟨rfl, rfl, rfl, rfl, rfl, rfl, rfl, trivial⟩, (hS.pick [0] rfl rfl)⟩
              · skip
                refine AWP.skip ?_
                refine QBlock.nrm ?_
                refine QThen.nrm ?_
                refine AWP.lastR rfl ?_
                refine ASL.q (v := (.int .i64 x10_l2)) rfl rfl (Light.quiet (opMove rfl rfl)) ?_
                refine ASL.q (v := (.int .i64 (W (x10_l2 + 1)))) rfl rfl (Light.quiet (opInt rfl rfl rfl rfl)) ?_
                refine ASL.q (v := (.int .i64 (W (x10_l2 + 1)))) rfl rfl (Light.quiet (opAssign rfl rfl)) ?_
                refine ASL.done ?_
                refine QThen.nrm ?_
                exact ⟨(y26, (W (x10_l2 + 1))), (), (someE hF).symm, ⟨rfl, rfl, rfl, rfl, rfl, rfl, rfl, trivial⟩, (hS.pick [0] rfl rfl)⟩
            · skip
              refine AWP.exit ?_
              refine QThen.ext ?_
              refine QThen.ext ?_
              refine QBlock.hit ?_
              obtain rfl := (hx28 _ (someE hF).symm)
              have hF := hR31
              refine QBlock.nrm ?_
              refine QThen.nrm ?_
              exact ⟨y26, ⟨rfl, rfl, rfl, rfl, rfl, rfl, trivial⟩, (hS.pick [0] rfl rfl), hF⟩
        · skip
          refine AWP.exit ?_
          refine QThen.ext ?_
          refine QThen.ext ?_
          refine QBlock.hit ?_
          obtain rfl := (hx18 _ (someE hF).symm)
          have hF := hR21
          refine QBlock.nrm ?_
          refine QThen.nrm ?_
          exact ⟨y16, ⟨rfl, rfl, rfl, rfl, rfl, trivial⟩, (hS.pick [0] rfl rfl), hF⟩
    · skip
      refine AWP.exit ?_
      refine QThen.ext ?_
      refine QThen.ext ?_
      refine QBlock.hit ?_
      obtain rfl := (hx8 _ (someE hF).symm)
      have hF := hR11
      refine QThen.nrm ?_
      exact ⟨y6, ⟨rfl, trivial⟩, (hS.pick [0] rfl rfl), hF⟩

set_option maxRecDepth 10000 in
theorem spec_l11Both_ok {p0 : (List Bool)} {p1 : (List Bool)} {r : (List Bool)} (hF : spec_l11Both p0 p1 = some r) : PO Try.prog 103 [(.list 1 (List.map AV.bool p0)), (.list 1 (List.map AV.bool p1))] 1 (List.map AV.bool r) := by
  refine HC.enter Try.func103 rfl Try.ntmps103 (by simp) ?_
  have hS := Sep.void; unfold spec_l11Both at hF
  refine AWP.seqR rfl ?_
  have hS := hNil (s := 1) (f := AV.bool) hS
  refine ASL.q (v := .nil) rfl rfl (Light.quiet (opAssign rfl rfl)) ?_
  refine ASL.done ?_
  refine AWP.seqR rfl ?_
  refine ASL.q (v := (.list 1 (List.map AV.bool p0))) rfl rfl (Light.quiet (opMove rfl rfl)) ?_
  refine ASL.q (v := (.int .i64 (p0.length : Int))) rfl rfl (Light.quiet (opLenMap (f := AV.bool) rfl rfl rfl lenT_57 rfl)) ?_
  obtain ⟨z9, hz9, hF⟩ := bindE hF
  refine ASL.x rfl rfl (hMk (f := AV.bool) hS hz9 (by decide) rfl elemA_57 sizeA_4 bytesA_4 zeroA_4 rfl rfl (by decide) rfl rfl ?_); rintro v9 G2 hK hS
  refine ASL.q (v := v9) rfl rfl (Light.quiet (opAssign rfl rfl)) ?_
  refine ASL.done ?_
  refine AWP.seqM (fun e H => ∃ y4 : (List Bool), E.Told e [(5, v9)] ∧ E.Sep H [.row 1 v9 (List.map AV.bool y4)] ∧ spec_l11Both.k0 y4 = some r) ?_ ?_
  · rintro e0 G5 ⟨y4, hT, hS, hF⟩; refine AWP.only _ hT ?_; unfold spec_l11Both.k0 at hF
    refine AWP.seqR rfl ?_
    refine ASL.q (v := v9) rfl rfl (Light.quiet (opMove rfl rfl)) ?_
    refine ASL.q (v := v9) rfl rfl (Light.quiet (opAssign rfl rfl)) ?_
    refine ASL.done ?_
    refine AWP.ret ?_
    obtain rfl := someE hF
    exact QRet.sole (v := v9) ⟨rfl, trivial⟩ (hS.get (k := 0) rfl)
  · skip
    refine AWP.seqR rfl ?_
    refine ASL.q (v := (.int .i64 0)) rfl rfl (Light.quiet (opAssign rfl rfl)) ?_
    refine ASL.done ?_
    refine AWP.block ?_
    obtain ⟨o10, hL9, hR11⟩ := bindE hF
    refine AWP.loopF (ω := Unit) hL9 (fun s w => [(0, (.list 1 (List.map AV.bool p0))), (1, (.list 1 (List.map AV.bool p1))), (5, v9), (6, (.int .i64 s.2))]) (fun s w => [.row 1 v9 (List.map AV.bool s.1)]) () ⟨rfl, rfl, rfl, rfl, trivial⟩ (hS.pick [0] rfl rfl) ?_
    rintro ⟨y6, x6_l0⟩ _ G12 hS x7 hF hx8
    try dsimp only at hS ⊢
    have hF : spec_l11Both.b0 p0 p1 y6 x6_l0 = some x7 := hF; unfold spec_l11Both.b0 at hF
    refine AWP.seq ?_
    refine AWP.seqR rfl ?_
    refine ASL.q (v := (.int .i64 x6_l0)) rfl rfl (Light.quiet (opMove rfl rfl)) ?_
    refine ASL.q (v := (.list 1 (List.map AV.bool p0))) rfl rfl (Light.quiet (opMove rfl rfl)) ?_
    refine ASL.q (v := (.int .i64 (p0.length : Int))) rfl rfl (Light.quiet (opLenMap (f := AV.bool) rfl rfl rfl lenT_57 rfl)) ?_
    refine ASL.q (v := (.bool (decide (x6_l0 < ((p0.length : Int)))))) rfl rfl (Light.quiet (opInt rfl rfl rfl rfl)) ?_
    refine ASL.done ?_
    refine AWP.ifP hF rfl (fun hc13 hF => ?_) (fun hc13 hF => ?_)
    · skip
      refine AWP.skip ?_
      refine QThen.nrm ?_
      refine AWP.seq ?_
      refine AWP.block ?_
      refine AWP.lastR rfl ?_
      refine ASL.q (v := v9) rfl rfl (Light.quiet (opMove rfl rfl)) ?_
      refine ASL.q (v := (.int .i64 x6_l0)) rfl rfl (Light.quiet (opMove rfl rfl)) ?_
      refine ASL.q (v := (.list 1 (List.map AV.bool p0))) rfl rfl (Light.quiet (opMove rfl rfl)) ?_
      refine ASL.q (v := (.int .i64 x6_l0)) rfl rfl (Light.quiet (opMove rfl rfl)) ?_
      obtain ⟨a20, ha20, hF⟩ := bindE hF
      refine ASL.q (v := (.rptr [(.bool a20)])) rfl rfl (Light.quiet (kIx (f := AV.bool) ha20 rfl rfl rfl elemA_57 sizeA_4 rfl)) ?_
      refine ASL.q (v := (.bool a20)) rfl rfl (Light.quiet (opLoadR rfl aggA_4 rfl rfl)) ?_
      refine ASL.q (v := (.bool a20)) rfl rfl (Light.quiet (opMove rfl rfl)) ?_
      refine ASL.g (v := (.list 1 (List.map AV.bool p1))) (.bool a20) false rfl (wF _) rfl (fun hG => by have q0 := gN hG; subst q0; exact Light.quiet (opMove rfl rfl)) ?_
      refine ASL.g (v := (.int .i64 x6_l0)) (.bool a20) false rfl (wF _) rfl (fun hG => by have q0 := gN hG; subst q0; exact Light.quiet (opMove rfl rfl)) ?_
      obtain ⟨a25, ha25, hF⟩ := bindE hF
      refine ASL.g (v := (.rptr [(.bool a25)])) (.bool a20) false rfl (wF _) rfl (fun hG => by have q0 := gN hG; subst q0; exact Light.quiet (kIx (f := AV.bool) (whenE ha25) rfl rfl rfl elemA_57 sizeA_4 rfl)) ?_
      refine ASL.g (v := (.bool a25)) (.bool a20) false rfl (wF _) rfl (fun hG => by have q0 := gN hG; subst q0; exact Light.quiet (opLoadR rfl aggA_4 rfl rfl)) ?_
      refine ASL.q (v := (.bool (a20 || a25))) rfl rfl (Light.quiet (opPick (b := a20) rfl rfl (by cases a20 <;> rfl))) ?_
      obtain ⟨m28, hm28, hF⟩ := bindE hF
      refine ASL.q (v := (ptrTo v9 m28 1)) rfl rfl (Light.quiet (kIxO hS (j := 0) rfl hm28 rfl rfl rfl elemA_57 sizeA_4)) ?_
      refine ASL.n rfl rfl (hSt (f := AV.bool) (a := (a20 || a25)) hS (j := 0) rfl hm28 rfl sizeA_4 rfl rfl ⟨rfl, rfl, rfl⟩ ?_); rintro G14 hS
      refine ASL.done ?_
      refine QBlock.nrm ?_
      refine QThen.nrm ?_
      refine AWP.lastR rfl ?_
      refine ASL.q (v := (.int .i64 x6_l0)) rfl rfl (Light.quiet (opMove rfl rfl)) ?_
      refine ASL.q (v := (.int .i64 (W (x6_l0 + 1)))) rfl rfl (Light.quiet (opInt rfl rfl rfl rfl)) ?_
      refine ASL.q (v := (.int .i64 (W (x6_l0 + 1)))) rfl rfl (Light.quiet (opAssign rfl rfl)) ?_
      refine ASL.done ?_
      refine QThen.nrm ?_
      exact ⟨((y6.set m28 ((a20 || a25))), (W (x6_l0 + 1))), (), (someE hF).symm, ⟨rfl, rfl, rfl, rfl, trivial⟩, (hS.pick [0] rfl rfl)⟩
    · skip
      refine AWP.exit ?_
      refine QThen.ext ?_
      refine QThen.ext ?_
      refine QBlock.hit ?_
      obtain rfl := (hx8 _ (someE hF).symm)
      have hF := hR11
      refine QThen.nrm ?_
      exact ⟨y6, ⟨rfl, trivial⟩, (hS.pick [0] rfl rfl), hF⟩

end Go.Proofs.Ythdoebgikbfndaa
