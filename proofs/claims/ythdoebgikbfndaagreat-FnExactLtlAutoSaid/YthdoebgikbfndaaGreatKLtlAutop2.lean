/- Each of these functions of the program comes to just what its plain function says: FnExactLtlAuto. -/
import Derived.Test.YthdoebgikbfndaaGreatKLtlAutop1
namespace Go.Proofs.YthdoebgikbfndaaGreat
open Go Go.RowKit E
set_option linter.unusedVariables false
set_option maxRecDepth 10000 in
theorem impl_soBy_ok {p0 : TNode} {p1 : (List Bool)} {p2 : Int} {p3 : Bool} {r : Bool} (hF : impl_soBy p0 p1 p2 p3 = some r) : PC Tryz.prog 70 [(TNode.av p0), (.list 1 (List.map AV.bool p1)), (.int .i64 p2), (.bool p3)] fun v => v = (.bool r) := by
  refine PC.enter Tryz.func70 rfl Tryz.ntmps70 (by simp) ?_
  have hS := Sep.void; unfold impl_soBy at hF
  refine AWP.seqR rfl ?_
  refine ASL.q (v := (.rptr [(.int .i64 p0.kind), (.int .i64 p0.a), (.int .i64 p0.b)])) rfl rfl ((qBoxI (v := (TNode.av p0)) rfl rfl rfl rfl)) ?_
  refine ASL.q (v := (.bool false)) rfl rfl (Light.quiet (opAssign rfl rfl)) ?_
  refine ASL.done ?_
  refine AWP.seq ?_
  refine AWP.seqR rfl ?_
  refine ASL.q (v := (.rptr [(.int .i64 p0.kind), (.int .i64 p0.a), (.int .i64 p0.b)])) rfl rfl (Light.quiet (opFieldAddrR rfl fieldA_46_0 rfl rfl)) ?_
  refine ASL.q (v := (.int .i64 p0.kind)) rfl rfl (Light.quiet (opLoadR rfl aggA_3 rfl rfl)) ?_
  refine ASL.done ?_
  refine AWP.block ?_
  refine AWP.seqR rfl ?_
  refine ASL.q (v := (.bool (decide (p0.kind = 7)))) rfl rfl (Light.quiet (opInt rfl rfl rfl rfl)) ?_
  refine ASL.q (v := (.bool (decide (p0.kind = 7)))) rfl rfl (Light.quiet (opAssign rfl rfl)) ?_
  refine ASL.done ?_
  refine AWP.ifP hF rfl (fun hc1 hF => ?_) (fun hc1 hF => ?_)
  · skip
    refine AWP.seqR rfl ?_
    refine ASL.q (v := (.bool p3)) rfl rfl (Light.quiet (opMove rfl rfl)) ?_
    refine ASL.q (v := (.bool p3)) rfl rfl (Light.quiet (opAssign rfl rfl)) ?_
    refine ASL.done ?_
    refine AWP.ret ?_
    refine QBlock.ret ?_
    refine QThen.rt ?_
    obtain rfl := someE hF
    exact QRet.sole (v := (.bool p3)) ⟨rfl, trivial⟩ rfl
  · skip
    refine AWP.seqR rfl ?_
    refine ASL.q (v := (.bool (decide (p0.kind = 8)))) rfl rfl (Light.quiet (opInt rfl rfl rfl rfl)) ?_
    refine ASL.q (v := (.bool (decide (p0.kind = 8)))) rfl rfl (Light.quiet (opAssign rfl rfl)) ?_
    refine ASL.done ?_
    refine AWP.ifP hF rfl (fun hc2 hF => ?_) (fun hc2 hF => ?_)
    · skip
      refine AWP.seqR rfl ?_
      refine ASL.q (v := (.list 1 (List.map AV.bool p1))) rfl rfl (Light.quiet (opMove rfl rfl)) ?_
      refine ASL.q (v := (.rptr [(.int .i64 p0.b)])) rfl rfl (Light.quiet (opFieldAddrR rfl fieldA_46_2 rfl rfl)) ?_
      refine ASL.q (v := (.int .i64 p0.b)) rfl rfl (Light.quiet (opLoadR rfl aggA_3 rfl rfl)) ?_
      obtain ⟨a19, ha19, hF⟩ := bindE hF
      refine ASL.q (v := (.rptr [(.bool a19)])) rfl rfl (Light.quiet (kIx (f := AV.bool) ha19 rfl rfl rfl elemA_56 sizeA_4 rfl)) ?_
      refine ASL.q (v := (.bool a19)) rfl rfl (Light.quiet (opLoadR rfl aggA_4 rfl rfl)) ?_
      refine ASL.q (v := (.bool a19)) rfl rfl (Light.quiet (opMove rfl rfl)) ?_
      refine ASL.g (v := (.list 1 (List.map AV.bool p1))) (.bool a19) false rfl (wF _) rfl (fun hG => by have q0 := gN hG; subst q0; exact Light.quiet (opMove rfl rfl)) ?_
      refine ASL.g (v := (.rptr [(.int .i64 p0.a), (.int .i64 p0.b)])) (.bool a19) false rfl (wF _) rfl (fun hG => by have q0 := gN hG; subst q0; exact Light.quiet (opFieldAddrR rfl fieldA_46_1 rfl rfl)) ?_
      refine ASL.g (v := (.int .i64 p0.a)) (.bool a19) false rfl (wF _) rfl (fun hG => by have q0 := gN hG; subst q0; exact Light.quiet (opLoadR rfl aggA_3 rfl rfl)) ?_
      obtain ⟨a25, ha25, hF⟩ := bindE hF
      refine ASL.g (v := (.rptr [(.bool a25)])) (.bool a19) false rfl (wF _) rfl (fun hG => by have q0 := gN hG; subst q0; exact Light.quiet (kIx (f := AV.bool) (whenE ha25) rfl rfl rfl elemA_56 sizeA_4 rfl)) ?_
      refine ASL.g (v := (.bool a25)) (.bool a19) false rfl (wF _) rfl (fun hG => by have q0 := gN hG; subst q0; exact Light.quiet (opLoadR rfl aggA_4 rfl rfl)) ?_
      refine ASL.g (v := (.bool a25)) (.bool a19) false rfl (wF _) rfl (fun hG => by have q0 := gN hG; subst q0; exact Light.quiet (opMove rfl rfl)) ?_
      refine ASL.g (v := (.bool p3)) (bif (!a19) then (.bool a25) else .tup []) true rfl (wGT _ _) rfl (fun hG => by have q0 := gN (gA1 hG); have q1 := gA2 hG; subst q0; subst q1; exact Light.quiet (opMove rfl rfl)) ?_
      refine ASL.g (v := (.bool (a25 && p3))) (.bool a19) false rfl (wF _) rfl (fun hG => by have q0 := gN hG; subst q0; exact Light.quiet (opPick (b := a25) rfl rfl (by cases a25 <;> rfl))) ?_
      refine ASL.q (v := (.bool (a19 || (a25 && p3)))) rfl rfl (Light.quiet (opPick (b := a19) rfl rfl (by cases a19 <;> rfl))) ?_
      refine ASL.q (v := (.bool (a19 || (a25 && p3)))) rfl rfl (Light.quiet (opAssign rfl rfl)) ?_
      refine ASL.done ?_
      refine AWP.ret ?_
      refine QBlock.ret ?_
      refine QThen.rt ?_
      obtain rfl := someE hF
      exact QRet.sole (v := (.bool (a19 || (a25 && p3)))) ⟨rfl, trivial⟩ rfl
    · skip
      refine AWP.seqR rfl ?_
      refine ASL.q (v := (.bool (decide (p0.kind = 9)))) rfl rfl (Light.quiet (opInt rfl rfl rfl rfl)) ?_
      refine ASL.q (v := (.bool (decide (p0.kind = 9)))) rfl rfl (Light.quiet (opAssign rfl rfl)) ?_
      refine ASL.done ?_
      refine AWP.ifP hF rfl (fun hc3 hF => ?_) (fun hc3 hF => ?_)
      · skip
        refine AWP.seqR rfl ?_
        refine ASL.q (v := (.list 1 (List.map AV.bool p1))) rfl rfl (Light.quiet (opMove rfl rfl)) ?_
        refine ASL.q (v := (.rptr [(.int .i64 p0.b)])) rfl rfl (Light.quiet (opFieldAddrR rfl fieldA_46_2 rfl rfl)) ?_
        refine ASL.q (v := (.int .i64 p0.b)) rfl rfl (Light.quiet (opLoadR rfl aggA_3 rfl rfl)) ?_
        obtain ⟨a36, ha36, hF⟩ := bindE hF
        refine ASL.q (v := (.rptr [(.bool a36)])) rfl rfl (Light.quiet (kIx (f := AV.bool) ha36 rfl rfl rfl elemA_56 sizeA_4 rfl)) ?_
        refine ASL.q (v := (.bool a36)) rfl rfl (Light.quiet (opLoadR rfl aggA_4 rfl rfl)) ?_
        refine ASL.q (v := (.bool a36)) rfl rfl (Light.quiet (opMove rfl rfl)) ?_
        refine ASL.g (v := (.list 1 (List.map AV.bool p1))) (.bool a36) true rfl (wT _) rfl (fun hG => by have q0 := hG; subst q0; exact Light.quiet (opMove rfl rfl)) ?_
        refine ASL.g (v := (.rptr [(.int .i64 p0.a), (.int .i64 p0.b)])) (.bool a36) true rfl (wT _) rfl (fun hG => by have q0 := hG; subst q0; exact Light.quiet (opFieldAddrR rfl fieldA_46_1 rfl rfl)) ?_
        refine ASL.g (v := (.int .i64 p0.a)) (.bool a36) true rfl (wT _) rfl (fun hG => by have q0 := hG; subst q0; exact Light.quiet (opLoadR rfl aggA_3 rfl rfl)) ?_
        obtain ⟨a42, ha42, hF⟩ := bindE hF
        refine ASL.g (v := (.rptr [(.bool a42)])) (.bool a36) true rfl (wT _) rfl (fun hG => by have q0 := hG; subst q0; exact Light.quiet (kIx (f := AV.bool) (whenE ha42) rfl rfl rfl elemA_56 sizeA_4 rfl)) ?_
        refine ASL.g (v := (.bool a42)) (.bool a36) true rfl (wT _) rfl (fun hG => by have q0 := hG; subst q0; exact Light.quiet (opLoadR rfl aggA_4 rfl rfl)) ?_
        refine ASL.g (v := (.bool a42)) (.bool a36) true rfl (wT _) rfl (fun hG => by have q0 := hG; subst q0; exact Light.quiet (opMove rfl rfl)) ?_
        refine ASL.g (v := (.bool p3)) (bif a36 then (.bool a42) else .tup []) false rfl (wGF _ _) rfl (fun hG => by have q0 := gA1 hG; have q1 := gN (gA2 hG); subst q0; subst q1; exact Light.quiet (opMove rfl rfl)) ?_
        refine ASL.g (v := (.bool (a42 || p3))) (.bool a36) true rfl (wT _) rfl (fun hG => by have q0 := hG; subst q0; exact Light.quiet (opPick (b := a42) rfl rfl (by cases a42 <;> rfl))) ?_
        refine ASL.q (v := (.bool (a36 && (a42 || p3)))) rfl rfl (Light.quiet (opPick (b := a36) rfl rfl (by cases a36 <;> rfl))) ?_
        refine ASL.q (v := (.bool (a36 && (a42 || p3)))) rfl rfl (Light.quiet (opAssign rfl rfl)) ?_
        refine ASL.done ?_
        refine AWP.ret ?_
        refine QBlock.ret ?_
        refine QThen.rt ?_
        obtain rfl := someE hF
        exact QRet.sole (v := (.bool (a36 && (a42 || p3)))) ⟨rfl, trivial⟩ rfl
      · skip
        refine AWP.seqR rfl ?_
        refine ASL.q (v := (.bool (decide (p0.kind = 10)))) rfl rfl (Light.quiet (opInt rfl rfl rfl rfl)) ?_
        refine ASL.q (v := (.bool (decide (p0.kind = 10)))) rfl rfl (Light.quiet (opAssign rfl rfl)) ?_
        refine ASL.done ?_
        refine AWP.ifP hF rfl (fun hc4 hF => ?_) (fun hc4 hF => ?_)
        · skip
          refine AWP.seqR rfl ?_
          refine ASL.q (v := (.list 1 (List.map AV.bool p1))) rfl rfl (Light.quiet (opMove rfl rfl)) ?_
          refine ASL.q (v := (.rptr [(.int .i64 p0.a), (.int .i64 p0.b)])) rfl rfl (Light.quiet (opFieldAddrR rfl fieldA_46_1 rfl rfl)) ?_
          refine ASL.q (v := (.int .i64 p0.a)) rfl rfl (Light.quiet (opLoadR rfl aggA_3 rfl rfl)) ?_
          obtain ⟨a53, ha53, hF⟩ := bindE hF
          refine ASL.q (v := (.rptr [(.bool a53)])) rfl rfl (Light.quiet (kIx (f := AV.bool) ha53 rfl rfl rfl elemA_56 sizeA_4 rfl)) ?_
          refine ASL.q (v := (.bool a53)) rfl rfl (Light.quiet (opLoadR rfl aggA_4 rfl rfl)) ?_
          refine ASL.q (v := (.bool a53)) rfl rfl (Light.quiet (opMove rfl rfl)) ?_
          refine ASL.g (v := (.bool p3)) (.bool a53) false rfl (wF _) rfl (fun hG => by have q0 := gN hG; subst q0; exact Light.quiet (opMove rfl rfl)) ?_
          refine ASL.q (v := (.bool (a53 || p3))) rfl rfl (Light.quiet (opPick (b := a53) rfl rfl (by cases a53 <;> rfl))) ?_
          refine ASL.q (v := (.bool (a53 || p3))) rfl rfl (Light.quiet (opAssign rfl rfl)) ?_
          refine ASL.done ?_
          refine AWP.ret ?_
          refine QBlock.ret ?_
          refine QThen.rt ?_
          obtain rfl := someE hF
          exact QRet.sole (v := (.bool (a53 || p3))) ⟨rfl, trivial⟩ rfl
        · skip
          refine AWP.seqR rfl ?_
          refine ASL.q (v := (.bool (decide (p0.kind = 11)))) rfl rfl (Light.quiet (opInt rfl rfl rfl rfl)) ?_
          refine ASL.q (v := (.bool (decide (p0.kind = 11)))) rfl rfl (Light.quiet (opAssign rfl rfl)) ?_
          refine ASL.done ?_
          refine AWP.ifP hF rfl (fun hc5 hF => ?_) (fun hc5 hF => ?_)
          · skip
            refine AWP.seqR rfl ?_
            refine ASL.q (v := (.list 1 (List.map AV.bool p1))) rfl rfl (Light.quiet (opMove rfl rfl)) ?_
            refine ASL.q (v := (.rptr [(.int .i64 p0.a), (.int .i64 p0.b)])) rfl rfl (Light.quiet (opFieldAddrR rfl fieldA_46_1 rfl rfl)) ?_
            refine ASL.q (v := (.int .i64 p0.a)) rfl rfl (Light.quiet (opLoadR rfl aggA_3 rfl rfl)) ?_
            obtain ⟨a63, ha63, hF⟩ := bindE hF
            refine ASL.q (v := (.rptr [(.bool a63)])) rfl rfl (Light.quiet (kIx (f := AV.bool) ha63 rfl rfl rfl elemA_56 sizeA_4 rfl)) ?_
            refine ASL.q (v := (.bool a63)) rfl rfl (Light.quiet (opLoadR rfl aggA_4 rfl rfl)) ?_
            refine ASL.q (v := (.bool a63)) rfl rfl (Light.quiet (opMove rfl rfl)) ?_
            refine ASL.g (v := (.bool p3)) (.bool a63) true rfl (wT _) rfl (fun hG => by have q0 := hG; subst q0; exact Light.quiet (opMove rfl rfl)) ?_
            refine ASL.q (v := (.bool (a63 && p3))) rfl rfl (Light.quiet (opPick (b := a63) rfl rfl (by cases a63 <;> rfl))) ?_
            refine ASL.q (v := (.bool (a63 && p3))) rfl rfl (Light.quiet (opAssign rfl rfl)) ?_
            refine ASL.done ?_
            refine AWP.ret ?_
            refine QBlock.ret ?_
            refine QThen.rt ?_
            obtain rfl := someE hF
            exact QRet.sole (v := (.bool (a63 && p3))) ⟨rfl, trivial⟩ rfl
          · skip
            refine AWP.skip ?_
            refine QBlock.nrm ?_
            refine QThen.nrm ?_
            refine AWP.seqR rfl ?_
            refine ASL.q (v := (TNode.av p0)) rfl rfl (Light.quiet (opLoadRA rfl aggA_46 sizeA_46 rfl (nlt rfl) rfl)) ?_
            refine ASL.q (v := (.list 1 (List.map AV.bool p1))) rfl rfl (Light.quiet (opMove rfl rfl)) ?_
            refine ASL.q (v := (.int .i64 p2)) rfl rfl (Light.quiet (opMove rfl rfl)) ?_
            obtain ⟨a71, ha71, hF⟩ := bindE hF
            refine ASL.q (v := (.bool a71)) rfl rfl ((qCall rfl rfl call_84 (impl_plain_ok ha71) rfl)) ?_
            refine ASL.q (v := (.bool a71)) rfl rfl (Light.quiet (opAssign rfl rfl)) ?_
            refine ASL.done ?_
            refine AWP.ret ?_
            obtain rfl := someE hF
            exact QRet.sole (v := (.bool a71)) ⟨rfl, trivial⟩ rfl

set_option maxRecDepth 10000 in
theorem impl_stepOf_ok {p0 : (List TNode)} {p1 : Int} {p2 : Int} {r : (List Bool)} (hF : impl_stepOf p0 p1 p2 = some r) : PO Tryz.prog 44 [(.list 3 (List.map TNode.av p0)), (.int .i64 p1), (.int .i64 p2)] 1 (List.map AV.bool r) := by
  refine HC.enter Tryz.func44 rfl Tryz.ntmps44 (by simp) ?_
  have hS := Sep.void; unfold impl_stepOf at hF
  refine AWP.seqR rfl ?_
  have hS := hNil (s := 1) (f := AV.bool) hS
  refine ASL.q (v := .nil) rfl rfl (Light.quiet (opAssign rfl rfl)) ?_
  refine ASL.done ?_
  refine AWP.seqR rfl ?_
  refine ASL.q (v := (.list 3 (List.map TNode.av p0))) rfl rfl (Light.quiet (opMove rfl rfl)) ?_
  refine ASL.q (v := (.int .i64 (p0.length : Int))) rfl rfl (Light.quiet (opLenMap (f := TNode.av) rfl rfl rfl lenT_29 rfl)) ?_
  obtain ⟨z14, hz14, hF⟩ := bindE hF
  refine ASL.x rfl rfl (hMk (f := AV.bool) hS hz14 (by decide) rfl elemA_56 sizeA_4 bytesA_4 zeroA_4 rfl rfl (by decide) rfl rfl ?_); rintro v14 G2 hK hS
  refine ASL.q (v := v14) rfl rfl (Light.quiet (opAssign rfl rfl)) ?_
  refine ASL.done ?_
  refine AWP.seqR rfl ?_
  refine ASL.q (v := (.list 3 (List.map TNode.av p0))) rfl rfl (Light.quiet (opMove rfl rfl)) ?_
  obtain ⟨a16, ha16, hF⟩ := bindE hF
  refine ASL.q (v := (.list 1 (List.map (AV.int .i64) a16))) rfl rfl ((qCall rfl rfl call_42 (PO.list (impl_temporal_ok ha16)) rfl)) ?_
  refine ASL.q (v := (.list 1 (List.map (AV.int .i64) a16))) rfl rfl (Light.quiet (opAssign rfl rfl)) ?_
  refine ASL.done ?_
  refine AWP.seqM (fun e H => ∃ y4 : (List Bool), E.Told e [(7, v14)] ∧ E.Sep H [.row 1 v14 (List.map AV.bool y4)] ∧ impl_stepOf.k0 y4 = some r) ?_ ?_
  · rintro e0 G5 ⟨y4, hT, hS, hF⟩; refine AWP.only _ hT ?_; unfold impl_stepOf.k0 at hF
    refine AWP.seqR rfl ?_
    refine ASL.q (v := v14) rfl rfl (Light.quiet (opMove rfl rfl)) ?_
    refine ASL.q (v := v14) rfl rfl (Light.quiet (opAssign rfl rfl)) ?_
    refine ASL.done ?_
    refine AWP.ret ?_
    obtain rfl := someE hF
    exact QRet.sole (v := v14) ⟨rfl, trivial⟩ (hS.get (k := 0) rfl)
  · skip
    refine AWP.seqR rfl ?_
    refine ASL.q (v := (.list 3 (List.map TNode.av p0))) rfl rfl (Light.quiet (opMove rfl rfl)) ?_
    refine ASL.q (v := (.int .i64 (p0.length : Int))) rfl rfl (Light.quiet (opLenMap (f := TNode.av) rfl rfl rfl lenT_29 rfl)) ?_
    refine ASL.q (v := (.int .i64 0)) rfl rfl (Light.quiet (opMove rfl rfl)) ?_
    refine ASL.done ?_
    refine AWP.block ?_
    obtain ⟨o10, hL9, hR11⟩ := bindE hF
    refine AWP.loopF (ω := Unit) hL9 (fun s w => [(1, (.int .i64 p1)), (2, (.int .i64 p2)), (7, v14), (8, (.list 1 (List.map (AV.int .i64) a16))), (17, (.list 3 (List.map TNode.av p0))), (18, (.int .i64 (p0.length : Int))), (19, (.int .i64 s.2))]) (fun s w => [.row 1 v14 (List.map AV.bool s.1)]) () ⟨rfl, rfl, rfl, rfl, rfl, rfl, rfl, trivial⟩ (hS.pick [0] rfl rfl) ?_
    rintro ⟨y6, x19_l0⟩ _ G12 hS x7 hF hx8
    try dsimp only at hS ⊢
    have hF : impl_stepOf.b0 p0 a16 p1 p2 y6 x19_l0 = some x7 := hF; unfold impl_stepOf.b0 at hF
    refine AWP.seqR rfl ?_
    refine ASL.q (v := (.bool (decide (x19_l0 < ((p0.length : Int)))))) rfl rfl (Light.quiet (opInt rfl rfl rfl rfl)) ?_
    refine ASL.done ?_
    refine AWP.seq ?_
    refine AWP.ifP hF rfl (fun hc13 hF => ?_) (fun hc13 hF => ?_)
    · skip
      refine AWP.skip ?_
      refine QThen.nrm ?_
      refine AWP.seq ?_
      refine AWP.block ?_
      refine AWP.seqR rfl ?_
      refine ASL.q (v := (.int .i64 x19_l0)) rfl rfl (Light.quiet (opMove rfl rfl)) ?_
      obtain ⟨a22, ha22, hF⟩ := bindE hF
      refine ASL.q (v := (.rptr [(.int .i64 a22.kind), (.int .i64 a22.a), (.int .i64 a22.b)])) rfl rfl (Light.quiet (kIx (f := TNode.av) ha22 rfl rfl rfl elemA_29 sizeA_46 rfl)) ?_
      refine ASL.q (v := (TNode.av a22)) rfl rfl (Light.quiet (opLoadRA rfl aggA_46 sizeA_46 rfl (nlt rfl) rfl)) ?_
      refine ASL.x rfl rfl (hNewZ hS [(.int .i64 0), (.int .i64 0), (.int .i64 0)] rfl zeroA_46 ⟨.inl rfl, .inl rfl, .inl rfl, trivial⟩ ?_); rintro b10 G14 hK hS
      refine ASL.q (v := (.int .i64 x19_l0)) rfl rfl (Light.quiet (opAssign rfl rfl)) ?_
      refine ASL.n rfl rfl (hPutA hS (j := 0) rfl rfl sizeA_46 rfl rfl rfl rfl rfl (nlt rfl) ?_); rintro G16 hS
      refine ASL.done ?_
      refine AWP.seqR rfl ?_
      refine ASL.q (v := (.list 1 (List.map (AV.int .i64) a16))) rfl rfl (Light.quiet (opMove rfl rfl)) ?_
      refine ASL.q (v := (.int .i64 x19_l0)) rfl rfl (Light.quiet (opMove rfl rfl)) ?_
      obtain ⟨a26, ha26, hF⟩ := bindE hF
      refine ASL.q (v := (.int .i64 a26)) rfl rfl ((qCall rfl rfl call_69 (slices_Index_int_int_ok ha26) rfl)) ?_
      refine ASL.q (v := (.int .i64 a26)) rfl rfl (Light.quiet (opAssign rfl rfl)) ?_
      refine ASL.done ?_
      refine AWP.lastD [(0, false), (1, false), (2, false), (3, false), (4, false), (5, false), (6, false), (7, false), (8, false), (9, false), (10, false), (11, false), (12, false), (13, false), (14, true)] mixed (by kernel_rfl) rfl ?_
      refine ARL.q0 (v := v14) rfl rfl (Light.quiet (opMove rfl rfl)) ?_
      refine ARL.q0 (v := (.int .i64 x19_l0)) rfl rfl (Light.quiet (opMove rfl rfl)) ?_
      refine ARL.q (v := (TNode.av a22)) rfl rfl (hS.aliveC (k := 0) rfl) (Light.quiet (kAtA hS (j := 0) rfl rfl aggA_46 sizeA_46 rfl (nlt rfl) rfl)) ?_
      refine ARL.q0 (v := v14) rfl rfl (Light.quiet (opMove rfl rfl)) ?_
      refine ARL.q0 (v := (.int .i64 p1)) rfl rfl (Light.quiet (opMove rfl rfl)) ?_
      refine ARL.q0 (v := (.int .i64 a26)) rfl rfl (Light.quiet (opMove rfl rfl)) ?_
      refine ARL.q0 (v := (.bool (decide (a26 ≥ 0)))) rfl rfl (Light.quiet (opInt rfl rfl rfl rfl)) ?_
      obtain ⟨c34, hc34, hF⟩ := bndE hF
      refine ARL.q0 (v := (.bool c34)) rfl rfl ((Quiet.cast (Light.quiet (opMove rfl rfl)) (congrArg AV.bool hc34.symm))) ?_
      refine ARL.g (v := (.int .i64 p2)) (.bool c34) true rfl (wT _) rfl noneAlive (fun hG => by have q0 := hG; subst q0; exact Light.quiet (opMove rfl rfl)) ?_
      refine ARL.g (v := (.int .i64 a26)) (.bool c34) true rfl (wT _) rfl noneAlive (fun hG => by have q0 := hG; subst q0; exact Light.quiet (opMove rfl rfl)) ?_
      refine ARL.g (v := (.bool (impl_has p2 a26))) (.bool c34) true rfl (wT _) rfl noneAlive (fun hG => by have q0 := hG; subst q0; exact (qCall rfl rfl call_71 (impl_has_ok p2 a26) rfl)) ?_
      refine ARL.q0 (v := (.bool (c34 && (impl_has p2 a26)))) rfl rfl (Light.quiet (opPick (b := c34) rfl rfl (by cases c34 <;> rfl))) ?_
      obtain ⟨a39, ha39, hF⟩ := bindE hF
      refine ARL.q (v := (.bool a39)) rfl rfl (hS.aliveAll) ((qCallR hS rfl rfl call_70 (impl_soBy_ok ha39) ⟨.same _, .row (k := 1) rfl, .same _, .same _, trivial⟩ (by constructor))) ?_
      obtain ⟨m40, hm40, hF⟩ := bindE hF
      refine ARL.q0 (v := (ptrTo v14 m40 1)) rfl rfl (Light.quiet (kIxO hS (j := 1) rfl hm40 rfl rfl rfl elemA_56 sizeA_4)) ?_
      refine ARL.n rfl rfl rfl rfl (hSt (f := AV.bool) (a := a39) hS (j := 1) rfl hm40 rfl sizeA_4 rfl rfl ⟨rfl, rfl, rfl⟩ ?_); rintro G17 hS
      refine ARL.done ?_
      refine QBlock.nrm ?_
      refine QThen.nrm ?_
      refine AWP.lastR rfl ?_
      refine ASL.q (v := (.int .i64 (W (x19_l0 + 1)))) rfl rfl (Light.quiet (opInt rfl rfl rfl rfl)) ?_
      refine ASL.q (v := (.int .i64 (W (x19_l0 + 1)))) rfl rfl (Light.quiet (opMove rfl rfl)) ?_
      refine ASL.done ?_
      refine QThen.nrm ?_
      exact ⟨((y6.set m40 a39), (W (x19_l0 + 1))), (), (someE hF).symm, ⟨rfl, rfl, rfl, rfl, rfl, rfl, rfl, trivial⟩, (hS.pick [1] rfl rfl)⟩
    · skip
      refine AWP.exit ?_
      refine QThen.ext ?_
      refine QThen.ext ?_
      refine QBlock.hit ?_
      obtain rfl := (hx8 _ (someE hF).symm)
      have hF := hR11
      refine QThen.nrm ?_
      exact ⟨y6, ⟨rfl, trivial⟩, (hS.pick [0] rfl rfl), hF⟩

set_option maxRecDepth 10000 in
theorem impl_toldBy_ok {p0 : (List TNode)} {p1 : (List Int)} {p2 : (List Bool)} {r : Int} (hF : impl_toldBy p0 p1 p2 = some r) : PC Tryz.prog 45 [(.list 3 (List.map TNode.av p0)), (.list 1 (List.map (AV.int .i64) p1)), (.list 1 (List.map AV.bool p2))] fun v => v = (.int .i64 r) := by
  refine PC.enter Tryz.func45 rfl Tryz.ntmps45 (by simp) ?_
  have hS := Sep.void; unfold impl_toldBy at hF
  refine AWP.seqR rfl ?_
  refine ASL.q (v := (.int .i64 0)) rfl rfl (Light.quiet (opAssign rfl rfl)) ?_
  refine ASL.done ?_
  refine AWP.seqR rfl ?_
  refine ASL.q (v := (.int .i64 0)) rfl rfl (Light.quiet (opAssign rfl rfl)) ?_
  refine ASL.done ?_
  refine AWP.seqM (fun e H => ∃ x7_1 : Int, E.Told e [(7, (.int .i64 x7_1))] ∧ E.Sep H [] ∧ impl_toldBy.k0 x7_1 = some r) ?_ ?_
  · rintro e0 G1 ⟨x7_1, hT, hS, hF⟩; refine AWP.only _ hT ?_; unfold impl_toldBy.k0 at hF
    refine AWP.seqR rfl ?_
    refine ASL.q (v := (.int .i64 x7_1)) rfl rfl (Light.quiet (opMove rfl rfl)) ?_
    refine ASL.q (v := (.int .i64 x7_1)) rfl rfl (Light.quiet (opAssign rfl rfl)) ?_
    refine ASL.done ?_
    refine AWP.ret ?_
    obtain rfl := someE hF
    exact QRet.sole (v := (.int .i64 x7_1)) ⟨rfl, trivial⟩ rfl
  · skip
    refine AWP.seqR rfl ?_
    refine ASL.q (v := (.list 1 (List.map (AV.int .i64) p1))) rfl rfl (Light.quiet (opMove rfl rfl)) ?_
    refine ASL.q (v := (.int .i64 (p1.length : Int))) rfl rfl (Light.quiet (opLenMap (f := (AV.int .i64)) rfl rfl rfl lenT_42 rfl)) ?_
    refine ASL.q (v := (.int .i64 0)) rfl rfl (Light.quiet (opMove rfl rfl)) ?_
    refine ASL.done ?_
    refine AWP.block ?_
    obtain ⟨o5, hL4, hR6⟩ := bindE hF
    refine AWP.loopF (ω := Unit) hL4 (fun s w => [(0, (.list 3 (List.map TNode.av p0))), (2, (.list 1 (List.map AV.bool p2))), (7, (.int .i64 s.1)), (10, (.list 1 (List.map (AV.int .i64) p1))), (11, (.int .i64 (p1.length : Int))), (12, (.int .i64 s.2))]) (fun s w => []) () ⟨rfl, rfl, rfl, rfl, rfl, rfl, trivial⟩ (hS.pick [] rfl rfl) ?_
    rintro ⟨x7_l0, x12_l0⟩ _ G7 hS x2 hF hx3
    try dsimp only at hS ⊢
    have hF : impl_toldBy.b0 p1 p0 p2 x7_l0 x12_l0 = some x2 := hF; unfold impl_toldBy.b0 at hF
    refine AWP.seqR rfl ?_
    refine ASL.q (v := (.bool (decide (x12_l0 < ((p1.length : Int)))))) rfl rfl (Light.quiet (opInt rfl rfl rfl rfl)) ?_
    refine ASL.done ?_
    refine AWP.seq ?_
    refine AWP.ifP hF rfl (fun hc8 hF => ?_) (fun hc8 hF => ?_)
    · skip
      refine AWP.skip ?_
      refine QThen.nrm ?_
      refine AWP.seq ?_
      refine AWP.block ?_
      refine AWP.seqR rfl ?_
      refine ASL.q (v := (.int .i64 x12_l0)) rfl rfl (Light.quiet (opMove rfl rfl)) ?_
      obtain ⟨a15, ha15, hF⟩ := bindE hF
      refine ASL.q (v := (.rptr [(.int .i64 a15)])) rfl rfl (Light.quiet (kIx (f := (AV.int .i64)) ha15 rfl rfl rfl elemA_42 sizeA_3 rfl)) ?_
      refine ASL.q (v := (.int .i64 a15)) rfl rfl (Light.quiet (opLoadR rfl aggA_3 rfl rfl)) ?_
      refine ASL.q (v := (.int .i64 x12_l0)) rfl rfl (Light.quiet (opAssign rfl rfl)) ?_
      refine ASL.q (v := (.int .i64 a15)) rfl rfl (Light.quiet (opAssign rfl rfl)) ?_
      refine ASL.done ?_
      refine AWP.seqM (fun e H => ∃ x9_2 : Int, E.Told e [(0, (.list 3 (List.map TNode.av p0))), (2, (.list 1 (List.map AV.bool p2))), (7, (.int .i64 x7_l0)), (8, (.int .i64 x12_l0)), (9, (.int .i64 x9_2)), (10, (.list 1 (List.map (AV.int .i64) p1))), (11, (.int .i64 (p1.length : Int))), (12, (.int .i64 x12_l0))] ∧ E.Sep H [] ∧ impl_toldBy.k1 p2 x7_l0 x12_l0 x9_2 = some x2) ?_ ?_
      · rintro e0 G10 ⟨x9_2, hT, hS, hF⟩; refine AWP.only _ hT ?_; unfold impl_toldBy.k1 at hF
        refine AWP.seqR rfl ?_
        refine ASL.q (v := (.list 1 (List.map AV.bool p2))) rfl rfl (Light.quiet (opMove rfl rfl)) ?_
        refine ASL.q (v := (.int .i64 x9_2)) rfl rfl (Light.quiet (opMove rfl rfl)) ?_
        obtain ⟨a30, ha30, hF⟩ := bindE hF
        refine ASL.q (v := (.rptr [(.bool a30)])) rfl rfl (Light.quiet (kIx (f := AV.bool) ha30 rfl rfl rfl elemA_56 sizeA_4 rfl)) ?_
        refine ASL.q (v := (.bool a30)) rfl rfl (Light.quiet (opLoadR rfl aggA_4 rfl rfl)) ?_
        refine ASL.done ?_
        refine AWP.ifB hF rfl (fun hc9 hF => ?_) (fun hc9 hF => ?_)
        · skip
          refine AWP.lastR rfl ?_
          refine ASL.q (v := (.int .i64 x7_l0)) rfl rfl (Light.quiet (opMove rfl rfl)) ?_
          refine ASL.q (v := (.int .i64 x12_l0)) rfl rfl (Light.quiet (opMove rfl rfl)) ?_
          refine ASL.q (v := (.int .i64 (impl_only x12_l0))) rfl rfl ((qCall rfl rfl call_43 (impl_only_ok x12_l0) rfl)) ?_
          refine ASL.q (v := (.int .i64 (bOr .i64 x7_l0 ((impl_only x12_l0))))) rfl rfl (Light.quiet (opInt rfl rfl rfl rfl)) ?_
          refine ASL.q (v := (.int .i64 (bOr .i64 x7_l0 ((impl_only x12_l0))))) rfl rfl (Light.quiet (opAssign rfl rfl)) ?_
          refine ASL.done ?_
          refine QBlock.nrm ?_
          refine QThen.nrm ?_
          refine AWP.lastR rfl ?_
          refine ASL.q (v := (.int .i64 (W (x12_l0 + 1)))) rfl rfl (Light.quiet (opInt rfl rfl rfl rfl)) ?_
          refine ASL.q (v := (.int .i64 (W (x12_l0 + 1)))) rfl rfl (Light.quiet (opMove rfl rfl)) ?_
          refine ASL.done ?_
          refine QThen.nrm ?_
          exact ⟨((bOr .i64 x7_l0 ((impl_only x12_l0))), (W (x12_l0 + 1))), (), (someE hF).symm, ⟨rfl, rfl, rfl, rfl, rfl, rfl, trivial⟩, (hS.pick [] rfl rfl)⟩
        · skip
          refine AWP.skip ?_
          refine QBlock.nrm ?_
          refine QThen.nrm ?_
          refine AWP.lastR rfl ?_
          refine ASL.q (v := (.int .i64 (W (x12_l0 + 1)))) rfl rfl (Light.quiet (opInt rfl rfl rfl rfl)) ?_
          refine ASL.q (v := (.int .i64 (W (x12_l0 + 1)))) rfl rfl (Light.quiet (opMove rfl rfl)) ?_
          refine ASL.done ?_
          refine QThen.nrm ?_
          exact ⟨(x7_l0, (W (x12_l0 + 1))), (), (someE hF).symm, ⟨rfl, rfl, rfl, rfl, rfl, rfl, trivial⟩, (hS.pick [] rfl rfl)⟩
      · skip
        refine AWP.seqR rfl ?_
        refine ASL.q (v := (.list 3 (List.map TNode.av p0))) rfl rfl (Light.quiet (opMove rfl rfl)) ?_
        refine ASL.q (v := (.int .i64 a15)) rfl rfl (Light.quiet (opMove rfl rfl)) ?_
        obtain ⟨a19, ha19, hF⟩ := bindE hF
        refine ASL.q (v := (.rptr [(.int .i64 a19.kind), (.int .i64 a19.a), (.int .i64 a19.b)])) rfl rfl (Light.quiet (kIx (f := TNode.av) ha19 rfl rfl rfl elemA_29 sizeA_46 rfl)) ?_
        refine ASL.q (v := (.rptr [(.int .i64 a19.kind), (.int .i64 a19.a), (.int .i64 a19.b)])) rfl rfl (Light.quiet (opFieldAddrR rfl fieldA_46_0 rfl rfl)) ?_
        refine ASL.q (v := (.int .i64 a19.kind)) rfl rfl (Light.quiet (opLoadR rfl aggA_3 rfl rfl)) ?_
        refine ASL.q (v := (.bool (decide (a19.kind = 7)))) rfl rfl (Light.quiet (opInt rfl rfl rfl rfl)) ?_
        refine ASL.done ?_
        refine AWP.ifP hF rfl (fun hc11 hF => ?_) (fun hc11 hF => ?_)
        · skip
          refine AWP.lastR rfl ?_
          refine ASL.q (v := (.list 3 (List.map TNode.av p0))) rfl rfl (Light.quiet (opMove rfl rfl)) ?_
          refine ASL.q (v := (.int .i64 a15)) rfl rfl (Light.quiet (opMove rfl rfl)) ?_
          obtain ⟨a25, ha25, hF⟩ := bindE hF
          refine ASL.q (v := (.rptr [(.int .i64 a25.kind), (.int .i64 a25.a), (.int .i64 a25.b)])) rfl rfl (Light.quiet (kIx (f := TNode.av) ha25 rfl rfl rfl elemA_29 sizeA_46 rfl)) ?_
          refine ASL.q (v := (.rptr [(.int .i64 a25.a), (.int .i64 a25.b)])) rfl rfl (Light.quiet (opFieldAddrR rfl fieldA_46_1 rfl rfl)) ?_
          refine ASL.q (v := (.int .i64 a25.a)) rfl rfl (Light.quiet (opLoadR rfl aggA_3 rfl rfl)) ?_
          refine ASL.q (v := (.int .i64 a25.a)) rfl rfl (Light.quiet (opAssign rfl rfl)) ?_
          refine ASL.done ?_
          refine QThen.nrm ?_
          exact ⟨a25.a, ⟨rfl, rfl, rfl, rfl, rfl, rfl, rfl, rfl, trivial⟩, (hS.pick [] rfl rfl), hF⟩
        · skip
          refine AWP.skip ?_
          refine QThen.nrm ?_
          exact ⟨a15, ⟨rfl, rfl, rfl, rfl, rfl, rfl, rfl, rfl, trivial⟩, (hS.pick [] rfl rfl), hF⟩
    · skip
      refine AWP.exit ?_
      refine QThen.ext ?_
      refine QThen.ext ?_
      refine QBlock.hit ?_
      obtain rfl := (hx3 _ (someE hF).symm)
      have hF := hR6
      refine QThen.nrm ?_
      exact ⟨x7_l0, ⟨rfl, trivial⟩, (hS.pick [] rfl rfl), hF⟩

set_option maxRecDepth 10000 in
theorem impl_marksOf_ok {p0 : (List TNode)} {p1 : (List Int)} {p2 : (List Bool)} {r : Int} (hF : impl_marksOf p0 p1 p2 = some r) : PC Tryz.prog 46 [(.list 3 (List.map TNode.av p0)), (.list 1 (List.map (AV.int .i64) p1)), (.list 1 (List.map AV.bool p2))] fun v => v = (.int .i64 r) := by
  refine PC.enter Tryz.func46 rfl Tryz.ntmps46 (by simp) ?_
  have hS := Sep.void; unfold impl_marksOf at hF
  refine AWP.seqR rfl ?_
  refine ASL.q (v := (.int .i64 0)) rfl rfl (Light.quiet (opAssign rfl rfl)) ?_
  refine ASL.done ?_
  refine AWP.seqR rfl ?_
  refine ASL.q (v := (.int .i64 0)) rfl rfl (Light.quiet (opAssign rfl rfl)) ?_
  refine ASL.done ?_
  refine AWP.seqM (fun e H => ∃ x7_1 : Int, E.Told e [(7, (.int .i64 x7_1))] ∧ E.Sep H [] ∧ impl_marksOf.k0 x7_1 = some r) ?_ ?_
  · rintro e0 G1 ⟨x7_1, hT, hS, hF⟩; refine AWP.only _ hT ?_; unfold impl_marksOf.k0 at hF
    refine AWP.seqR rfl ?_
    refine ASL.q (v := (.int .i64 x7_1)) rfl rfl (Light.quiet (opMove rfl rfl)) ?_
    refine ASL.q (v := (.int .i64 x7_1)) rfl rfl (Light.quiet (opAssign rfl rfl)) ?_
    refine ASL.done ?_
    refine AWP.ret ?_
    obtain rfl := someE hF
    exact QRet.sole (v := (.int .i64 x7_1)) ⟨rfl, trivial⟩ rfl
  · skip
    refine AWP.seqR rfl ?_
    refine ASL.q (v := (.list 1 (List.map (AV.int .i64) p1))) rfl rfl (Light.quiet (opMove rfl rfl)) ?_
    refine ASL.q (v := (.int .i64 (p1.length : Int))) rfl rfl (Light.quiet (opLenMap (f := (AV.int .i64)) rfl rfl rfl lenT_42 rfl)) ?_
    refine ASL.q (v := (.int .i64 0)) rfl rfl (Light.quiet (opMove rfl rfl)) ?_
    refine ASL.done ?_
    refine AWP.block ?_
    obtain ⟨o5, hL4, hR6⟩ := bindE hF
    refine AWP.loopF (ω := Unit) hL4 (fun s w => [(0, (.list 3 (List.map TNode.av p0))), (2, (.list 1 (List.map AV.bool p2))), (7, (.int .i64 s.1)), (12, (.list 1 (List.map (AV.int .i64) p1))), (13, (.int .i64 (p1.length : Int))), (14, (.int .i64 s.2))]) (fun s w => []) () ⟨rfl, rfl, rfl, rfl, rfl, rfl, trivial⟩ (hS.pick [] rfl rfl) ?_
    rintro ⟨x7_l0, x14_l0⟩ _ G7 hS x2 hF hx3
    try dsimp only at hS ⊢
    have hF : impl_marksOf.b0 p1 p0 p2 x7_l0 x14_l0 = some x2 := hF; unfold impl_marksOf.b0 at hF
    refine AWP.seqR rfl ?_
    refine ASL.q (v := (.bool (decide (x14_l0 < ((p1.length : Int)))))) rfl rfl (Light.quiet (opInt rfl rfl rfl rfl)) ?_
    refine ASL.done ?_
    refine AWP.seq ?_
    refine AWP.ifP hF rfl (fun hc8 hF => ?_) (fun hc8 hF => ?_)
    · skip
      refine AWP.skip ?_
      refine QThen.nrm ?_
      refine AWP.seq ?_
      refine AWP.block ?_
      refine AWP.seqR rfl ?_
      refine ASL.q (v := (.int .i64 x14_l0)) rfl rfl (Light.quiet (opMove rfl rfl)) ?_
      obtain ⟨a17, ha17, hF⟩ := bindE hF
      refine ASL.q (v := (.rptr [(.int .i64 a17)])) rfl rfl (Light.quiet (kIx (f := (AV.int .i64)) ha17 rfl rfl rfl elemA_42 sizeA_3 rfl)) ?_
      refine ASL.q (v := (.int .i64 a17)) rfl rfl (Light.quiet (opLoadR rfl aggA_3 rfl rfl)) ?_
      refine ASL.q (v := (.int .i64 x14_l0)) rfl rfl (Light.quiet (opAssign rfl rfl)) ?_
      refine ASL.q (v := (.int .i64 a17)) rfl rfl (Light.quiet (opAssign rfl rfl)) ?_
      refine ASL.done ?_
      refine AWP.seqR rfl ?_
      refine ASL.q (v := (.list 3 (List.map TNode.av p0))) rfl rfl (Light.quiet (opMove rfl rfl)) ?_
      refine ASL.q (v := (.int .i64 a17)) rfl rfl (Light.quiet (opMove rfl rfl)) ?_
      obtain ⟨a21, ha21, hF⟩ := bindE hF
      refine ASL.q (v := (.rptr [(.int .i64 a21.kind), (.int .i64 a21.a), (.int .i64 a21.b)])) rfl rfl (Light.quiet (kIx (f := TNode.av) ha21 rfl rfl rfl elemA_29 sizeA_46 rfl)) ?_
      refine ASL.q (v := (TNode.av a21)) rfl rfl (Light.quiet (opLoadRA rfl aggA_46 sizeA_46 rfl (nlt rfl) rfl)) ?_
      refine ASL.x rfl rfl (hNewZ hS [(.int .i64 0), (.int .i64 0), (.int .i64 0)] rfl zeroA_46 ⟨.inl rfl, .inl rfl, .inl rfl, trivial⟩ ?_); rintro b10 G9 hK hS
      refine ASL.n rfl rfl (hPutA hS (j := 0) rfl rfl sizeA_46 rfl rfl rfl rfl rfl (nlt rfl) ?_); rintro G11 hS
      refine ASL.done ?_
      refine AWP.seqR rfl ?_
      refine ASL.q (v := (.bool true)) rfl rfl (Light.quiet (opAssign rfl rfl)) ?_
      refine ASL.done ?_
      refine AWP.seqM (fun e H => ∃ x11_2 : Bool, E.Told e [(0, (.list 3 (List.map TNode.av p0))), (2, (.list 1 (List.map AV.bool p2))), (7, (.int .i64 x7_l0)), (8, (.int .i64 x14_l0)), (11, (.bool x11_2)), (12, (.list 1 (List.map (AV.int .i64) p1))), (13, (.int .i64 (p1.length : Int))), (14, (.int .i64 x14_l0))] ∧ E.Sep H [] ∧ impl_marksOf.k1 x7_l0 x14_l0 x11_2 = some x2) ?_ ?_
      · rintro e0 G13 ⟨x11_2, hT, hS, hF⟩; refine AWP.only _ hT ?_; unfold impl_marksOf.k1 at hF
        refine AWP.seqR rfl ?_
        refine ASL.q (v := (.bool x11_2)) rfl rfl (Light.quiet (opMove rfl rfl)) ?_
        refine ASL.done ?_
        refine AWP.ifB hF rfl (fun hc12 hF => ?_) (fun hc12 hF => ?_)
        · skip
          refine AWP.lastR rfl ?_
          refine ASL.q (v := (.int .i64 x7_l0)) rfl rfl (Light.quiet (opMove rfl rfl)) ?_
          refine ASL.q (v := (.int .i64 x14_l0)) rfl rfl (Light.quiet (opMove rfl rfl)) ?_
          refine ASL.q (v := (.int .i64 (impl_only x14_l0))) rfl rfl ((qCall rfl rfl call_43 (impl_only_ok x14_l0) rfl)) ?_
          refine ASL.q (v := (.int .i64 (bOr .i64 x7_l0 ((impl_only x14_l0))))) rfl rfl (Light.quiet (opInt rfl rfl rfl rfl)) ?_
          refine ASL.q (v := (.int .i64 (bOr .i64 x7_l0 ((impl_only x14_l0))))) rfl rfl (Light.quiet (opAssign rfl rfl)) ?_
          refine ASL.done ?_
          refine QBlock.nrm ?_
          refine QThen.nrm ?_
          refine AWP.lastR rfl ?_
          refine ASL.q (v := (.int .i64 (W (x14_l0 + 1)))) rfl rfl (Light.quiet (opInt rfl rfl rfl rfl)) ?_
          refine ASL.q (v := (.int .i64 (W (x14_l0 + 1)))) rfl rfl (Light.quiet (opMove rfl rfl)) ?_
          refine ASL.done ?_
          refine QThen.nrm ?_
          exact ⟨((bOr .i64 x7_l0 ((impl_only x14_l0))), (W (x14_l0 + 1))), (), (someE hF).symm, ⟨rfl, rfl, rfl, rfl, rfl, rfl, trivial⟩, (hS.pick [] rfl rfl)⟩
        · skip
          refine AWP.skip ?_
          refine QBlock.nrm ?_
          refine QThen.nrm ?_
          refine AWP.lastR rfl ?_
          refine ASL.q (v := (.int .i64 (W (x14_l0 + 1)))) rfl rfl (Light.quiet (opInt rfl rfl rfl rfl)) ?_
          refine ASL.q (v := (.int .i64 (W (x14_l0 + 1)))) rfl rfl (Light.quiet (opMove rfl rfl)) ?_
          refine ASL.done ?_
          refine QThen.nrm ?_
          exact ⟨(x7_l0, (W (x14_l0 + 1))), (), (someE hF).symm, ⟨rfl, rfl, rfl, rfl, rfl, rfl, trivial⟩, (hS.pick [] rfl rfl)⟩
      · skip
        refine AWP.seqR rfl ?_
        refine ASL.q (v := (.ptr b10 0)) rfl rfl (Light.quiet (opFieldAddr rfl fieldA_46_0 rfl rfl)) ?_
        refine ASL.q (v := (.int .i64 a21.kind)) rfl rfl (Light.quiet (kAt hS (j := 0) rfl rfl aggA_3 rfl rfl)) ?_
        refine ASL.done ?_
        refine AWP.block ?_
        refine AWP.seqR rfl ?_
        refine ASL.q (v := (.bool (decide (a21.kind = 8)))) rfl rfl (Light.quiet (opInt rfl rfl rfl rfl)) ?_
        refine ASL.q (v := (.bool (decide (a21.kind = 8)))) rfl rfl (Light.quiet (opAssign rfl rfl)) ?_
        refine ASL.done ?_
        refine AWP.ifP hF rfl (fun hc14 hF => ?_) (fun hc14 hF => ?_)
        · skip
          refine AWP.lastR rfl ?_
          refine ASL.q (v := (.list 1 (List.map AV.bool p2))) rfl rfl (Light.quiet (opMove rfl rfl)) ?_
          refine ASL.q (v := (.int .i64 a17)) rfl rfl (Light.quiet (opMove rfl rfl)) ?_
          obtain ⟨a29, ha29, hF⟩ := bindE hF
          refine ASL.q (v := (.rptr [(.bool a29)])) rfl rfl (Light.quiet (kIx (f := AV.bool) ha29 rfl rfl rfl elemA_56 sizeA_4 rfl)) ?_
          refine ASL.q (v := (.bool a29)) rfl rfl (Light.quiet (opLoadR rfl aggA_4 rfl rfl)) ?_
          refine ASL.q (v := (.bool (!a29))) rfl rfl (Light.quiet (opNot rfl rfl)) ?_
          obtain ⟨c32, hc32, hF⟩ := bndE hF
          refine ASL.q (v := (.bool c32)) rfl rfl ((Quiet.cast (Light.quiet (opMove rfl rfl)) (congrArg AV.bool hc32.symm))) ?_
          refine ASL.g (v := (.list 1 (List.map AV.bool p2))) (.bool c32) false rfl (wF _) rfl (fun hG => by have q0 := gN hG; subst q0; exact Light.quiet (opMove rfl rfl)) ?_
          refine ASL.g (v := (.ptr b10 2)) (.bool c32) false rfl (wF _) rfl (fun hG => by have q0 := gN hG; subst q0; exact Light.quiet (opFieldAddr rfl fieldA_46_2 rfl rfl)) ?_
          refine ASL.g (v := (.int .i64 a21.b)) (.bool c32) false rfl (wF _) rfl (fun hG => by have q0 := gN hG; subst q0; exact Light.quiet (kAt hS (j := 0) rfl rfl aggA_3 rfl rfl)) ?_
          obtain ⟨a36, ha36, hF⟩ := bindE hF
          refine ASL.g (v := (.rptr [(.bool a36)])) (.bool c32) false rfl (wF _) rfl (fun hG => by have q0 := gN hG; subst q0; exact Light.quiet (kIx (f := AV.bool) (whenE ha36) rfl rfl rfl elemA_56 sizeA_4 rfl)) ?_
          refine ASL.g (v := (.bool a36)) (.bool c32) false rfl (wF _) rfl (fun hG => by have q0 := gN hG; subst q0; exact Light.quiet (opLoadR rfl aggA_4 rfl rfl)) ?_
          refine ASL.q (v := (.bool (c32 || a36))) rfl rfl (Light.quiet (opPick (b := c32) rfl rfl (by cases c32 <;> rfl))) ?_
          refine ASL.q (v := (.bool (c32 || a36))) rfl rfl (Light.quiet (opAssign rfl rfl)) ?_
          refine ASL.done ?_
          refine QBlock.nrm ?_
          refine QThen.nrm ?_
          exact ⟨(c32 || a36), ⟨rfl, rfl, rfl, rfl, rfl, rfl, rfl, rfl, trivial⟩, (hS.pick [] rfl rfl), hF⟩
        · skip
          refine AWP.seqR rfl ?_
          refine ASL.q (v := (.bool (decide (a21.kind = 10)))) rfl rfl (Light.quiet (opInt rfl rfl rfl rfl)) ?_
          refine ASL.q (v := (.bool (decide (a21.kind = 10)))) rfl rfl (Light.quiet (opAssign rfl rfl)) ?_
          refine ASL.done ?_
          refine AWP.ifP hF rfl (fun hc15 hF => ?_) (fun hc15 hF => ?_)
          · skip
            refine AWP.lastR rfl ?_
            refine ASL.q (v := (.list 1 (List.map AV.bool p2))) rfl rfl (Light.quiet (opMove rfl rfl)) ?_
            refine ASL.q (v := (.int .i64 a17)) rfl rfl (Light.quiet (opMove rfl rfl)) ?_
            obtain ⟨a43, ha43, hF⟩ := bindE hF
            refine ASL.q (v := (.rptr [(.bool a43)])) rfl rfl (Light.quiet (kIx (f := AV.bool) ha43 rfl rfl rfl elemA_56 sizeA_4 rfl)) ?_
            refine ASL.q (v := (.bool a43)) rfl rfl (Light.quiet (opLoadR rfl aggA_4 rfl rfl)) ?_
            refine ASL.q (v := (.bool (!a43))) rfl rfl (Light.quiet (opNot rfl rfl)) ?_
            obtain ⟨c46, hc46, hF⟩ := bndE hF
            refine ASL.q (v := (.bool c46)) rfl rfl ((Quiet.cast (Light.quiet (opMove rfl rfl)) (congrArg AV.bool hc46.symm))) ?_
            refine ASL.g (v := (.list 1 (List.map AV.bool p2))) (.bool c46) false rfl (wF _) rfl (fun hG => by have q0 := gN hG; subst q0; exact Light.quiet (opMove rfl rfl)) ?_
            refine ASL.g (v := (.ptr b10 1)) (.bool c46) false rfl (wF _) rfl (fun hG => by have q0 := gN hG; subst q0; exact Light.quiet (opFieldAddr rfl fieldA_46_1 rfl rfl)) ?_
            refine ASL.g (v := (.int .i64 a21.a)) (.bool c46) false rfl (wF _) rfl (fun hG => by have q0 := gN hG; subst q0; exact Light.quiet (kAt hS (j := 0) rfl rfl aggA_3 rfl rfl)) ?_
            obtain ⟨a50, ha50, hF⟩ := bindE hF
            refine ASL.g (v := (.rptr [(.bool a50)])) (.bool c46) false rfl (wF _) rfl (fun hG => by have q0 := gN hG; subst q0; exact Light.quiet (kIx (f := AV.bool) (whenE ha50) rfl rfl rfl elemA_56 sizeA_4 rfl)) ?_
            refine ASL.g (v := (.bool a50)) (.bool c46) false rfl (wF _) rfl (fun hG => by have q0 := gN hG; subst q0; exact Light.quiet (opLoadR rfl aggA_4 rfl rfl)) ?_
            refine ASL.q (v := (.bool (c46 || a50))) rfl rfl (Light.quiet (opPick (b := c46) rfl rfl (by cases c46 <;> rfl))) ?_
            refine ASL.q (v := (.bool (c46 || a50))) rfl rfl (Light.quiet (opAssign rfl rfl)) ?_
            refine ASL.done ?_
            refine QBlock.nrm ?_
            refine QThen.nrm ?_
            exact ⟨(c46 || a50), ⟨rfl, rfl, rfl, rfl, rfl, rfl, rfl, rfl, trivial⟩, (hS.pick [] rfl rfl), hF⟩
          · skip
            refine AWP.seqR rfl ?_
            refine ASL.q (v := (.bool (decide (a21.kind = 9)))) rfl rfl (Light.quiet (opInt rfl rfl rfl rfl)) ?_
            refine ASL.q (v := (.bool (decide (a21.kind = 9)))) rfl rfl (Light.quiet (opAssign rfl rfl)) ?_
            refine ASL.done ?_
            refine AWP.ifP hF rfl (fun hc16 hF => ?_) (fun hc16 hF => ?_)
            · skip
              refine AWP.lastR rfl ?_
              refine ASL.q (v := (.list 1 (List.map AV.bool p2))) rfl rfl (Light.quiet (opMove rfl rfl)) ?_
              refine ASL.q (v := (.int .i64 a17)) rfl rfl (Light.quiet (opMove rfl rfl)) ?_
              obtain ⟨a57, ha57, hF⟩ := bindE hF
              refine ASL.q (v := (.rptr [(.bool a57)])) rfl rfl (Light.quiet (kIx (f := AV.bool) ha57 rfl rfl rfl elemA_56 sizeA_4 rfl)) ?_
              refine ASL.q (v := (.bool a57)) rfl rfl (Light.quiet (opLoadR rfl aggA_4 rfl rfl)) ?_
              refine ASL.q (v := (.bool a57)) rfl rfl (Light.quiet (opMove rfl rfl)) ?_
              refine ASL.g (v := (.list 1 (List.map AV.bool p2))) (.bool a57) false rfl (wF _) rfl (fun hG => by have q0 := gN hG; subst q0; exact Light.quiet (opMove rfl rfl)) ?_
              refine ASL.g (v := (.ptr b10 2)) (.bool a57) false rfl (wF _) rfl (fun hG => by have q0 := gN hG; subst q0; exact Light.quiet (opFieldAddr rfl fieldA_46_2 rfl rfl)) ?_
              refine ASL.g (v := (.int .i64 a21.b)) (.bool a57) false rfl (wF _) rfl (fun hG => by have q0 := gN hG; subst q0; exact Light.quiet (kAt hS (j := 0) rfl rfl aggA_3 rfl rfl)) ?_
              obtain ⟨a63, ha63, hF⟩ := bindE hF
              refine ASL.g (v := (.rptr [(.bool a63)])) (.bool a57) false rfl (wF _) rfl (fun hG => by have q0 := gN hG; subst q0; exact Light.quiet (kIx (f := AV.bool) (whenE ha63) rfl rfl rfl elemA_56 sizeA_4 rfl)) ?_
              refine ASL.g (v := (.bool a63)) (.bool a57) false rfl (wF _) rfl (fun hG => by have q0 := gN hG; subst q0; exact Light.quiet (opLoadR rfl aggA_4 rfl rfl)) ?_
              refine ASL.g (v := (.bool (!a63))) (.bool a57) false rfl (wF _) rfl (fun hG => by have q0 := gN hG; subst q0; exact Light.quiet (opNot rfl rfl)) ?_
              refine ASL.q (v := (.bool (a57 || (!a63)))) rfl rfl (Light.quiet (opPick (b := a57) rfl rfl (by cases a57 <;> rfl))) ?_
              refine ASL.q (v := (.bool (a57 || (!a63)))) rfl rfl (Light.quiet (opAssign rfl rfl)) ?_
              refine ASL.done ?_
              refine QBlock.nrm ?_
              refine QThen.nrm ?_
              exact ⟨(a57 || (!a63)), ⟨rfl, rfl, rfl, rfl, rfl, rfl, rfl, rfl, trivial⟩, (hS.pick [] rfl rfl), hF⟩
            · skip
              refine AWP.seqR rfl ?_
              refine ASL.q (v := (.bool (decide (a21.kind = 11)))) rfl rfl (Light.quiet (opInt rfl rfl rfl rfl)) ?_
              refine ASL.q (v := (.bool (decide (a21.kind = 11)))) rfl rfl (Light.quiet (opAssign rfl rfl)) ?_
              refine ASL.done ?_
              refine AWP.ifP hF rfl (fun hc17 hF => ?_) (fun hc17 hF => ?_)
              · skip
                refine AWP.lastR rfl ?_
                refine ASL.q (v := (.list 1 (List.map AV.bool p2))) rfl rfl (Light.quiet (opMove rfl rfl)) ?_
                refine ASL.q (v := (.int .i64 a17)) rfl rfl (Light.quiet (opMove rfl rfl)) ?_
                obtain ⟨a71, ha71, hF⟩ := bindE hF
                refine ASL.q (v := (.rptr [(.bool a71)])) rfl rfl (Light.quiet (kIx (f := AV.bool) ha71 rfl rfl rfl elemA_56 sizeA_4 rfl)) ?_
                refine ASL.q (v := (.bool a71)) rfl rfl (Light.quiet (opLoadR rfl aggA_4 rfl rfl)) ?_
                refine ASL.q (v := (.bool a71)) rfl rfl (Light.quiet (opMove rfl rfl)) ?_
                refine ASL.g (v := (.list 1 (List.map AV.bool p2))) (.bool a71) false rfl (wF _) rfl (fun hG => by have q0 := gN hG; subst q0; exact Light.quiet (opMove rfl rfl)) ?_
                refine ASL.g (v := (.ptr b10 1)) (.bool a71) false rfl (wF _) rfl (fun hG => by have q0 := gN hG; subst q0; exact Light.quiet (opFieldAddr rfl fieldA_46_1 rfl rfl)) ?_
                refine ASL.g (v := (.int .i64 a21.a)) (.bool a71) false rfl (wF _) rfl (fun hG => by have q0 := gN hG; subst q0; exact Light.quiet (kAt hS (j := 0) rfl rfl aggA_3 rfl rfl)) ?_
                obtain ⟨a77, ha77, hF⟩ := bindE hF
                refine ASL.g (v := (.rptr [(.bool a77)])) (.bool a71) false rfl (wF _) rfl (fun hG => by have q0 := gN hG; subst q0; exact Light.quiet (kIx (f := AV.bool) (whenE ha77) rfl rfl rfl elemA_56 sizeA_4 rfl)) ?_
                refine ASL.g (v := (.bool a77)) (.bool a71) false rfl (wF _) rfl (fun hG => by have q0 := gN hG; subst q0; exact Light.quiet (opLoadR rfl aggA_4 rfl rfl)) ?_
                refine ASL.g (v := (.bool (!a77))) (.bool a71) false rfl (wF _) rfl (fun hG => by have q0 := gN hG; subst q0; exact Light.quiet (opNot rfl rfl)) ?_
                refine ASL.q (v := (.bool (a71 || (!a77)))) rfl rfl (Light.quiet (opPick (b := a71) rfl rfl (by cases a71 <;> rfl))) ?_
                refine ASL.q (v := (.bool (a71 || (!a77)))) rfl rfl (Light.quiet (opAssign rfl rfl)) ?_
                refine ASL.done ?_
                refine QBlock.nrm ?_
                refine QThen.nrm ?_
                exact ⟨(a71 || (!a77)), ⟨rfl, rfl, rfl, rfl, rfl, rfl, rfl, rfl, trivial⟩, (hS.pick [] rfl rfl), hF⟩
              · skip
                refine AWP.skip ?_
                refine QBlock.nrm ?_
                refine QThen.nrm ?_
                exact ⟨true, ⟨rfl, rfl, rfl, rfl, rfl, rfl, rfl, rfl, trivial⟩, (hS.pick [] rfl rfl), hF⟩
    · skip
      refine AWP.exit ?_
      refine QThen.ext ?_
      refine QThen.ext ?_
      refine QBlock.hit ?_
      obtain rfl := (hx3 _ (someE hF).symm)
      have hF := hR6
      refine QThen.nrm ?_
      exact ⟨x7_l0, ⟨rfl, trivial⟩, (hS.pick [] rfl rfl), hF⟩

def TGEdge.enc (x : TGEdge) : List Value := [.int .i64 x.from_, .int .i64 x.letter, .int .i64 x.to_, .int .i64 x.marks]
theorem TGEdge.encOk : Enc 4 TGEdge.av TGEdge.enc where
  agg := fun _ => rfl
  len := fun _ => rfl
  elen := fun _ => rfl
  one := fun x v hv => by simp only [TGEdge.enc, List.mem_cons, List.not_mem_nil, or_false] at hv; rcases hv with rfl | rfl | rfl | rfl <;> rfl
  to := fun x p hp ι v h => by
    match p, hp with
    | 0, _ => exact h.int_inv
    | 1, _ => exact h.int_inv
    | 2, _ => exact h.int_inv
    | 3, _ => exact h.int_inv
  of := fun x p hp ι => by
    match p, hp with
    | 0, _ => exact .int _ _
    | 1, _ => exact .int _ _
    | 2, _ => exact .int _ _
    | 3, _ => exact .int _ _
theorem slices_SortFunc_TGEdge_ok {p0 r : List TGEdge} {g1 : TGEdge → TGEdge → Option Int} {vp0 : AV} {k1 : Nat} (hcal1 : callable Tryz.prog k1 = true) (hg1 : ∀ q0 q1 y, g1 q0 q1 = some y → PC Tryz.prog k1 [q0.av, q1.av] fun v => v = .int .i64 y) (hF : slices_SortFunc_TGEdge p0 g1 = some r) : HS Tryz.prog 47 [vp0, .fn (.func k1) [] []] [.row 4 vp0 (List.map TGEdge.av p0)] fun v L' => v = .tup [] ∧ L' = [.row 4 vp0 (List.map TGEdge.av r)] := HS.sort Tryz.sort47 TGEdge.encOk Tryz.sort47_a Tryz.sort47_z hF hcal1 hg1

set_option maxRecDepth 10000 in
theorem cmp_isNaN_int_ok (p0 : Int) : PC Tryz.prog 95 [(.int .i64 p0)] fun v => v = (.bool (cmp_isNaN_int p0)) := by
  generalize hF : cmp_isNaN_int p0 = r
  refine PC.enter Tryz.func95 rfl Tryz.ntmps95 (by simp) ?_
  have hS := Sep.void; unfold cmp_isNaN_int at hF
  refine AWP.seqR rfl ?_
  refine ASL.q (v := (.bool false)) rfl rfl (Light.quiet (opAssign rfl rfl)) ?_
  refine ASL.done ?_
  refine AWP.seqR rfl ?_
  refine ASL.q (v := (.int .i64 p0)) rfl rfl (Light.quiet (opMove rfl rfl)) ?_
  refine ASL.q (v := (.int .i64 p0)) rfl rfl (Light.quiet (opMove rfl rfl)) ?_
  refine ASL.q (v := (.bool (decide (p0 ≠ p0)))) rfl rfl (Light.quiet (opInt rfl rfl rfl rfl)) ?_
  refine ASL.q (v := (.bool (decide (p0 ≠ p0)))) rfl rfl (Light.quiet (opAssign rfl rfl)) ?_
  refine ASL.done ?_
  refine AWP.ret ?_
  obtain rfl := hF
  exact QRet.sole (v := (.bool (decide (p0 ≠ p0)))) ⟨rfl, trivial⟩ rfl

set_option maxRecDepth 10000 in
theorem cmp_Compare_int_ok (p0 : Int) (p1 : Int) : PC Tryz.prog 75 [(.int .i64 p0), (.int .i64 p1)] fun v => v = (.int .i64 (cmp_Compare_int p0 p1)) := by
  generalize hF : cmp_Compare_int p0 p1 = r
  refine PC.enter Tryz.func75 rfl Tryz.ntmps75 (by simp) ?_
  have hS := Sep.void; unfold cmp_Compare_int at hF
  refine AWP.seqR rfl ?_
  refine ASL.q (v := (.int .i64 0)) rfl rfl (Light.quiet (opAssign rfl rfl)) ?_
  refine ASL.done ?_
  refine AWP.seqR rfl ?_
  refine ASL.q (v := (.int .i64 p0)) rfl rfl (Light.quiet (opMove rfl rfl)) ?_
  refine ASL.q (v := (.bool (cmp_isNaN_int p0))) rfl rfl ((qCall rfl rfl call_95 (cmp_isNaN_int_ok p0) rfl)) ?_
  refine ASL.q (v := (.bool (cmp_isNaN_int p0))) rfl rfl (Light.quiet (opAssign rfl rfl)) ?_
  refine ASL.done ?_
  refine AWP.seqR rfl ?_
  refine ASL.q (v := (.int .i64 p1)) rfl rfl (Light.quiet (opMove rfl rfl)) ?_
  refine ASL.q (v := (.bool (cmp_isNaN_int p1))) rfl rfl ((qCall rfl rfl call_95 (cmp_isNaN_int_ok p1) rfl)) ?_
  refine ASL.q (v := (.bool (cmp_isNaN_int p1))) rfl rfl (Light.quiet (opAssign rfl rfl)) ?_
  refine ASL.done ?_
  refine AWP.seq ?_
  refine AWP.seqR rfl ?_
  refine ASL.q (v := (.bool (cmp_isNaN_int p0))) rfl rfl (Light.quiet (opMove rfl rfl)) ?_
  refine ASL.done ?_
  refine AWP.ifB hF rfl (fun hc1 hF => ?_) (fun hc1 hF => ?_)
  · skip
    refine AWP.seq ?_
    refine AWP.seqR rfl ?_
    refine ASL.q (v := (.bool (cmp_isNaN_int p1))) rfl rfl (Light.quiet (opMove rfl rfl)) ?_
    refine ASL.done ?_
    refine AWP.ifB hF rfl (fun hc2 hF => ?_) (fun hc2 hF => ?_)
    · skip
      refine AWP.seqR rfl ?_
      refine ASL.q (v := (.int .i64 0)) rfl rfl (Light.quiet (opAssign rfl rfl)) ?_
      refine ASL.done ?_
      refine AWP.ret ?_
      refine QThen.rt ?_
      refine QThen.rt ?_
      obtain rfl := hF
      exact QRet.sole (v := (.int .i64 0)) ⟨rfl, trivial⟩ rfl
    · skip
      refine AWP.skip ?_
      refine QThen.nrm ?_
      refine AWP.seqR rfl ?_
      refine ASL.q (v := (.int .i64 (-1))) rfl rfl (Light.quiet (opAssign rfl rfl)) ?_
      refine ASL.done ?_
      refine AWP.ret ?_
      refine QThen.rt ?_
      obtain rfl := hF
      exact QRet.sole (v := (.int .i64 (-1))) ⟨rfl, trivial⟩ rfl
  · skip
    refine AWP.skip ?_
    refine QThen.nrm ?_
    refine AWP.seq ?_
    refine AWP.seqR rfl ?_
    refine ASL.q (v := (.bool (cmp_isNaN_int p1))) rfl rfl (Light.quiet (opMove rfl rfl)) ?_
    refine ASL.done ?_
    refine AWP.ifB hF rfl (fun hc3 hF => ?_) (fun hc3 hF => ?_)
    · skip
      refine AWP.seqR rfl ?_
      refine ASL.q (v := (.int .i64 1)) rfl rfl (Light.quiet (opAssign rfl rfl)) ?_
      refine ASL.done ?_
      refine AWP.ret ?_
      refine QThen.rt ?_
      obtain rfl := hF
      exact QRet.sole (v := (.int .i64 1)) ⟨rfl, trivial⟩ rfl
    · skip
      refine AWP.skip ?_
      refine QThen.nrm ?_
      refine AWP.seq ?_
      refine AWP.seqR rfl ?_
      refine ASL.q (v := (.int .i64 p0)) rfl rfl (Light.quiet (opMove rfl rfl)) ?_
      refine ASL.q (v := (.int .i64 p1)) rfl rfl (Light.quiet (opMove rfl rfl)) ?_
      refine ASL.q (v := (.bool (decide (p0 < p1)))) rfl rfl (Light.quiet (opInt rfl rfl rfl rfl)) ?_
      refine ASL.done ?_
      refine AWP.ifP hF rfl (fun hc4 hF => ?_) (fun hc4 hF => ?_)
      · skip
        refine AWP.seqR rfl ?_
        refine ASL.q (v := (.int .i64 (-1))) rfl rfl (Light.quiet (opAssign rfl rfl)) ?_
        refine ASL.done ?_
        refine AWP.ret ?_
        refine QThen.rt ?_
        obtain rfl := hF
        exact QRet.sole (v := (.int .i64 (-1))) ⟨rfl, trivial⟩ rfl
      · skip
        refine AWP.skip ?_
        refine QThen.nrm ?_
        refine AWP.seq ?_
        refine AWP.seqR rfl ?_
        refine ASL.q (v := (.int .i64 p0)) rfl rfl (Light.quiet (opMove rfl rfl)) ?_
        refine ASL.q (v := (.int .i64 p1)) rfl rfl (Light.quiet (opMove rfl rfl)) ?_
        refine ASL.q (v := (.bool (decide (p0 > p1)))) rfl rfl (Light.quiet (opInt rfl rfl rfl rfl)) ?_
        refine ASL.done ?_
        refine AWP.ifP hF rfl (fun hc5 hF => ?_) (fun hc5 hF => ?_)
        · skip
          refine AWP.seqR rfl ?_
          refine ASL.q (v := (.int .i64 1)) rfl rfl (Light.quiet (opAssign rfl rfl)) ?_
          refine ASL.done ?_
          refine AWP.ret ?_
          refine QThen.rt ?_
          obtain rfl := hF
          exact QRet.sole (v := (.int .i64 1)) ⟨rfl, trivial⟩ rfl
        · skip
          refine AWP.skip ?_
          refine QThen.nrm ?_
          refine AWP.seqR rfl ?_
          refine ASL.q (v := (.int .i64 0)) rfl rfl (Light.quiet (opAssign rfl rfl)) ?_
          refine ASL.done ?_
          refine AWP.ret ?_
          obtain rfl := hF
          exact QRet.sole (v := (.int .i64 0)) ⟨rfl, trivial⟩ rfl

set_option maxRecDepth 10000 in
theorem cmp_Or_int_ok {p0 : (List Int)} {r : Int} (hF : cmp_Or_int p0 = some r) : PC Tryz.prog 74 [(.list 1 (List.map (AV.int .i64) p0))] fun v => v = (.int .i64 r) := by
  refine PC.enter Tryz.func74 rfl Tryz.ntmps74 (by simp) ?_
  have hS := Sep.void; unfold cmp_Or_int at hF
  refine AWP.seqR rfl ?_
  refine ASL.q (v := (.int .i64 0)) rfl rfl (Light.quiet (opAssign rfl rfl)) ?_
  refine ASL.done ?_
  refine AWP.seqR rfl ?_
  refine ASL.q (v := (.int .i64 0)) rfl rfl (Light.quiet (opAssign rfl rfl)) ?_
  refine ASL.done ?_
  refine AWP.seqM (fun e H => E.Told e [(3, (.int .i64 0))] ∧ E.Sep H [] ∧ cmp_Or_int.k0 = some r) ?_ ?_
  · rintro e0 G1 ⟨hT, hS, hF⟩; refine AWP.only _ hT ?_; unfold cmp_Or_int.k0 at hF
    refine AWP.seqR rfl ?_
    refine ASL.q (v := (.int .i64 0)) rfl rfl (Light.quiet (opMove rfl rfl)) ?_
    refine ASL.q (v := (.int .i64 0)) rfl rfl (Light.quiet (opAssign rfl rfl)) ?_
    refine ASL.done ?_
    refine AWP.ret ?_
    obtain rfl := someE hF
    exact QRet.sole (v := (.int .i64 0)) ⟨rfl, trivial⟩ rfl
  · skip
    refine AWP.seqR rfl ?_
    refine ASL.q (v := (.list 1 (List.map (AV.int .i64) p0))) rfl rfl (Light.quiet (opMove rfl rfl)) ?_
    refine ASL.q (v := (.int .i64 (p0.length : Int))) rfl rfl (Light.quiet (opLenMap (f := (AV.int .i64)) rfl rfl rfl lenT_42 rfl)) ?_
    refine ASL.q (v := (.int .i64 0)) rfl rfl (Light.quiet (opMove rfl rfl)) ?_
    refine ASL.done ?_
    refine AWP.block ?_
    obtain ⟨o5, hL4, hR6⟩ := bindE hF
    refine AWP.loopF (ω := Unit) hL4 (fun s w => [(3, (.int .i64 0)), (6, (.list 1 (List.map (AV.int .i64) p0))), (7, (.int .i64 (p0.length : Int))), (8, (.int .i64 s))]) (fun s w => []) () ⟨rfl, rfl, rfl, rfl, trivial⟩ (hS.pick [] rfl rfl) ?_
    rintro x8_l0 _ G7 hS x2 hF hx3
    try dsimp only at hS ⊢
    have hF : cmp_Or_int.b0 p0 x8_l0 = some x2 := hF; unfold cmp_Or_int.b0 at hF
    refine AWP.seqR rfl ?_
    refine ASL.q (v := (.bool (decide (x8_l0 < ((p0.length : Int)))))) rfl rfl (Light.quiet (opInt rfl rfl rfl rfl)) ?_
    refine ASL.done ?_
    refine AWP.seq ?_
    refine AWP.ifP hF rfl (fun hc8 hF => ?_) (fun hc8 hF => ?_)
    · skip
      refine AWP.skip ?_
      refine QThen.nrm ?_
      refine AWP.seq ?_
      refine AWP.block ?_
      refine AWP.seqR rfl ?_
      obtain ⟨a10, ha10, hF⟩ := bindE hF
      refine ASL.q (v := (.rptr [(.int .i64 a10)])) rfl rfl (Light.quiet (kIx (f := (AV.int .i64)) ha10 rfl rfl rfl elemA_42 sizeA_3 rfl)) ?_
      refine ASL.q (v := (.int .i64 a10)) rfl rfl (Light.quiet (opLoadR rfl aggA_3 rfl rfl)) ?_
      refine ASL.q (v := (.int .i64 a10)) rfl rfl (Light.quiet (opAssign rfl rfl)) ?_
      refine ASL.done ?_
      refine AWP.seqR rfl ?_
      refine ASL.q (v := (.int .i64 a10)) rfl rfl (Light.quiet (opMove rfl rfl)) ?_
      refine ASL.q (v := (.int .i64 0)) rfl rfl (Light.quiet (opMove rfl rfl)) ?_
      refine ASL.q (v := (.bool (decide (a10 ≠ 0)))) rfl rfl (Light.quiet (opInt rfl rfl rfl rfl)) ?_
      refine ASL.done ?_
      refine AWP.ifP hF rfl (fun hc9 hF => ?_) (fun hc9 hF => ?_)
      · skip
        refine AWP.seqR rfl ?_
        refine ASL.q (v := (.int .i64 a10)) rfl rfl (Light.quiet (opMove rfl rfl)) ?_
        refine ASL.q (v := (.int .i64 a10)) rfl rfl (Light.quiet (opAssign rfl rfl)) ?_
        refine ASL.done ?_
        refine AWP.ret ?_
        refine QBlock.ret ?_
        refine QThen.rt ?_
        refine QThen.rt ?_
        refine QBlock.ret ?_
        refine QThen.rt ?_
        obtain rfl := (hx3 _ (someE hF).symm)
        have hF := hR6
        have hF := sumR hF
        obtain rfl := someE hF
        exact QRet.sole (v := (.int .i64 a10)) ⟨rfl, trivial⟩ rfl
      · skip
        refine AWP.skip ?_
        refine QBlock.nrm ?_
        refine QThen.nrm ?_
        refine AWP.lastR rfl ?_
        refine ASL.q (v := (.int .i64 (W (x8_l0 + 1)))) rfl rfl (Light.quiet (opInt rfl rfl rfl rfl)) ?_
        refine ASL.q (v := (.int .i64 (W (x8_l0 + 1)))) rfl rfl (Light.quiet (opMove rfl rfl)) ?_
        refine ASL.done ?_
        refine QThen.nrm ?_
        exact ⟨(W (x8_l0 + 1)), (), (someE hF).symm, ⟨rfl, rfl, rfl, rfl, trivial⟩, (hS.pick [] rfl rfl)⟩
    · skip
      refine AWP.exit ?_
      refine QThen.ext ?_
      refine QThen.ext ?_
      refine QBlock.hit ?_
      obtain rfl := (hx3 _ (someE hF).symm)
      have hF := hR6
      have hF := sumL hF
      refine QThen.nrm ?_
      exact ⟨⟨rfl, trivial⟩, (hS.pick [] rfl rfl), hF⟩

set_option maxRecDepth 10000 in
theorem impl_compareGEdges_ok {p0 : TGEdge} {p1 : TGEdge} {r : Int} (hF : impl_compareGEdges p0 p1 = some r) : PC Tryz.prog 48 [(TGEdge.av p0), (TGEdge.av p1)] fun v => v = (.int .i64 r) := by
  refine PC.enter Tryz.func48 rfl Tryz.ntmps48 (by simp) ?_
  have hS := Sep.void; unfold impl_compareGEdges at hF
  refine AWP.seqR rfl ?_
  refine ASL.q (v := (.rptr [(.int .i64 p0.from_), (.int .i64 p0.letter), (.int .i64 p0.to_), (.int .i64 p0.marks)])) rfl rfl ((qBoxI (v := (TGEdge.av p0)) rfl rfl rfl rfl)) ?_
  refine ASL.q (v := (.rptr [(.int .i64 p1.from_), (.int .i64 p1.letter), (.int .i64 p1.to_), (.int .i64 p1.marks)])) rfl rfl ((qBoxI (v := (TGEdge.av p1)) rfl rfl rfl rfl)) ?_
  refine ASL.q (v := (.int .i64 0)) rfl rfl (Light.quiet (opAssign rfl rfl)) ?_
  refine ASL.done ?_
  refine AWP.seqD [(0, false), (1, false), (2, false), (3, false), (4, false), (5, false), (6, false), (7, false), (8, false), (9, false), (10, false), (11, false), (12, false), (13, false), (14, false), (15, false), (16, false), (17, false)] mixed (by kernel_rfl) rfl ?_
  refine ARL.q0 (v := (.rptr [(.int .i64 p0.from_), (.int .i64 p0.letter), (.int .i64 p0.to_), (.int .i64 p0.marks)])) rfl rfl (Light.quiet (opFieldAddrR rfl fieldA_61_0 rfl rfl)) ?_
  refine ARL.q0 (v := (.int .i64 p0.from_)) rfl rfl (Light.quiet (opLoadR rfl aggA_3 rfl rfl)) ?_
  refine ARL.q0 (v := (.rptr [(.int .i64 p1.from_), (.int .i64 p1.letter), (.int .i64 p1.to_), (.int .i64 p1.marks)])) rfl rfl (Light.quiet (opFieldAddrR rfl fieldA_61_0 rfl rfl)) ?_
  refine ARL.q0 (v := (.int .i64 p1.from_)) rfl rfl (Light.quiet (opLoadR rfl aggA_3 rfl rfl)) ?_
  refine ARL.q0 (v := (.int .i64 (cmp_Compare_int p0.from_ p1.from_))) rfl rfl ((qCall rfl rfl call_75 (cmp_Compare_int_ok p0.from_ p1.from_) rfl)) ?_
  refine ARL.q0 (v := (.rptr [(.int .i64 p0.letter), (.int .i64 p0.to_), (.int .i64 p0.marks)])) rfl rfl (Light.quiet (opFieldAddrR rfl fieldA_61_1 rfl rfl)) ?_
  refine ARL.q0 (v := (.int .i64 p0.letter)) rfl rfl (Light.quiet (opLoadR rfl aggA_3 rfl rfl)) ?_
  refine ARL.q0 (v := (.rptr [(.int .i64 p1.letter), (.int .i64 p1.to_), (.int .i64 p1.marks)])) rfl rfl (Light.quiet (opFieldAddrR rfl fieldA_61_1 rfl rfl)) ?_
  refine ARL.q0 (v := (.int .i64 p1.letter)) rfl rfl (Light.quiet (opLoadR rfl aggA_3 rfl rfl)) ?_
  refine ARL.q0 (v := (.int .i64 (cmp_Compare_int p0.letter p1.letter))) rfl rfl ((qCall rfl rfl call_75 (cmp_Compare_int_ok p0.letter p1.letter) rfl)) ?_
  refine ARL.q0 (v := (.rptr [(.int .i64 p0.to_), (.int .i64 p0.marks)])) rfl rfl (Light.quiet (opFieldAddrR rfl fieldA_61_2 rfl rfl)) ?_
  refine ARL.q0 (v := (.int .i64 p0.to_)) rfl rfl (Light.quiet (opLoadR rfl aggA_3 rfl rfl)) ?_
  refine ARL.q0 (v := (.rptr [(.int .i64 p1.to_), (.int .i64 p1.marks)])) rfl rfl (Light.quiet (opFieldAddrR rfl fieldA_61_2 rfl rfl)) ?_
  refine ARL.q0 (v := (.int .i64 p1.to_)) rfl rfl (Light.quiet (opLoadR rfl aggA_3 rfl rfl)) ?_
  refine ARL.q0 (v := (.int .i64 (cmp_Compare_int p0.to_ p1.to_))) rfl rfl ((qCall rfl rfl call_75 (cmp_Compare_int_ok p0.to_ p1.to_) rfl)) ?_
  refine ARL.q0 (v := (.list 1 (List.map (AV.int .i64) [(cmp_Compare_int p0.from_ p1.from_), (cmp_Compare_int p0.letter p1.letter), (cmp_Compare_int p0.to_ p1.to_)]))) rfl rfl ((qLit (xs := [(.int .i64 (cmp_Compare_int p0.from_ p1.from_)), (.int .i64 (cmp_Compare_int p0.letter p1.letter)), (.int .i64 (cmp_Compare_int p0.to_ p1.to_))]) rfl elemA_42 sizeA_3 zeroA_3 rfl rfl rfl rfl (by simp [cells]) (nlt rfl))) ?_
  obtain ⟨a21, ha21, hF⟩ := bindE hF
  refine ARL.q0 (v := (.int .i64 a21)) rfl rfl ((qCall rfl rfl call_74 (cmp_Or_int_ok ha21) rfl)) ?_
  refine ARL.q0 (v := (.int .i64 a21)) rfl rfl (Light.quiet (opAssign rfl rfl)) ?_
  refine ARL.done ?_
  refine AWP.ret ?_
  obtain rfl := someE hF
  exact QRet.sole (v := (.int .i64 a21)) ⟨rfl, trivial⟩ rfl

set_option maxRecDepth 10000 in
theorem impl_LtlGen_ok {p0 : (List TNode)} {p1 : Int} {r : (TGen × Bool)} (hF : impl_LtlGen p0 p1 = some r) : HS Tryz.prog 17 [(.list 3 (List.map TNode.av p0)), (.int .i64 p1)] [] fun v L' => ∃ o0_Edges : AV, v = .tup [(.agg [(.int .i64 r.1.letters), (.int .i64 r.1.states), (.int .i64 r.1.start), (.int .i64 r.1.sets), o0_Edges]), (.bool r.2)] ∧ L' = [.row 4 o0_Edges (List.map TGEdge.av r.1.edges)] := by
  intro H S hS
  refine HC.enter Tryz.func17 rfl Tryz.ntmps17 (by simp) ?_
  simp only [List.cons_append, List.nil_append] at hS
  unfold impl_LtlGen at hF
  refine AWP.seqR rfl ?_
  have hS := hNil (s := 4) (f := TGEdge.av) hS
  refine ASL.x rfl rfl (hNewZ hS [(.int .i64 0), (.int .i64 0), (.int .i64 0), (.int .i64 0), .nil] rfl zeroA_38 ⟨.inl rfl, .inl rfl, .inl rfl, .inl rfl, .inl rfl, trivial⟩ ?_); rintro b4 G1 hK hS
  refine ASL.q (v := (.bool false)) rfl rfl (Light.quiet (opAssign rfl rfl)) ?_
  refine ASL.done ?_
  refine AWP.seq ?_
  refine AWP.seqR rfl ?_
  refine ASL.q (v := (.list 3 (List.map TNode.av p0))) rfl rfl (Light.quiet (opMove rfl rfl)) ?_
  obtain ⟨a14, ha14, hF⟩ := bindE hF
  refine ASL.q (v := (.bool a14)) rfl rfl ((qCall rfl rfl call_39 (impl_LtlOk_ok ha14) rfl)) ?_
  refine ASL.q (v := (.bool (!a14))) rfl rfl (Light.quiet (opNot rfl rfl)) ?_
  obtain ⟨c16, hc16, hF⟩ := bndE hF
  refine ASL.q (v := (.bool c16)) rfl rfl ((Quiet.cast (Light.quiet (opMove rfl rfl)) (congrArg AV.bool hc16.symm))) ?_
  refine ASL.g (v := (.int .i64 p1)) (.bool c16) false rfl (wF _) rfl (fun hG => by have q0 := gN hG; subst q0; exact Light.quiet (opMove rfl rfl)) ?_
  refine ASL.g (v := (.bool (impl_isProps p1))) (.bool c16) false rfl (wF _) rfl (fun hG => by have q0 := gN hG; subst q0; exact (qCall rfl rfl call_40 (impl_isProps_ok p1) rfl)) ?_
  refine ASL.g (v := (.bool (!(impl_isProps p1)))) (.bool c16) false rfl (wF _) rfl (fun hG => by have q0 := gN hG; subst q0; exact Light.quiet (opNot rfl rfl)) ?_
  refine ASL.q (v := (.bool (c16 || (!(impl_isProps p1))))) rfl rfl (Light.quiet (opPick (b := c16) rfl rfl (by cases c16 <;> rfl))) ?_
  obtain ⟨c21, hc21, hF⟩ := bndE hF
  refine ASL.q (v := (.bool c21)) rfl rfl ((Quiet.cast (Light.quiet (opMove rfl rfl)) (congrArg AV.bool hc21.symm))) ?_
  refine ASL.g (v := (.list 3 (List.map TNode.av p0))) (.bool c21) false rfl (wF _) rfl (fun hG => by have q0 := gN hG; subst q0; exact Light.quiet (opMove rfl rfl)) ?_
  refine ASL.g (v := (.int .i64 p1)) (.bool c21) false rfl (wF _) rfl (fun hG => by have q0 := gN hG; subst q0; exact Light.quiet (opMove rfl rfl)) ?_
  obtain ⟨a24, ha24, hF⟩ := bindE hF
  refine ASL.g (v := (.bool a24)) (.bool c21) false rfl (wF _) rfl (fun hG => by have q0 := gN hG; subst q0; exact (qCall rfl rfl call_41 (impl_isBelow_ok (whenE ha24)) rfl)) ?_
  refine ASL.g (v := (.bool (!a24))) (.bool c21) false rfl (wF _) rfl (fun hG => by have q0 := gN hG; subst q0; exact Light.quiet (opNot rfl rfl)) ?_
  refine ASL.q (v := (.bool (c21 || (!a24)))) rfl rfl (Light.quiet (opPick (b := c21) rfl rfl (by cases c21 <;> rfl))) ?_
  refine ASL.done ?_
  refine AWP.ifB hF rfl (fun hc4 hF => ?_) (fun hc4 hF => ?_)
  · skip
    refine AWP.seqR rfl ?_
    refine ASL.q (v := (.agg [(.int .i64 0), (.int .i64 0), (.int .i64 0), (.int .i64 0), .nil])) rfl rfl (Light.quiet (opBuildZ (zs := [(.int .i64 0), (.int .i64 0), (.int .i64 0), (.int .i64 0), .nil]) rfl plan_38 zeroA_38 ⟨.inl rfl, .inl rfl, .inl rfl, .inl rfl, .inl rfl, trivial⟩ rfl)) ?_
    have hS := hNil (s := 4) (f := TGEdge.av) hS
    refine ASL.n rfl rfl (hPutA hS (j := 1) rfl rfl sizeA_38 rfl rfl rfl rfl (allC rfl (allC rfl (allC rfl (allC rfl (allC (hS.one (k := 0) rfl) rfl))))) (nlt rfl) ?_); rintro G5 hS
    refine ASL.q (v := (.bool false)) rfl rfl (Light.quiet (opAssign rfl rfl)) ?_
    refine ASL.done ?_
    refine AWP.ret ?_
    refine QThen.rt ?_
    obtain rfl := someE hF
    exact QRet.many (vs := [(.agg [(.int .i64 0), (.int .i64 0), (.int .i64 0), (.int .i64 0), .nil]), (.bool false)]) ⟨resOne.at hS (k := 1) rfl rfl aggA_38 sizeA_38, rfl, trivial⟩ (by simp) ⟨_, ⟨.nil, rfl, rfl⟩, hS.pick [0, 3] rfl rfl⟩
  · skip
    refine AWP.skip ?_
    refine QThen.nrm ?_
    refine AWP.seqR rfl ?_
    refine ASL.q (v := (.list 3 (List.map TNode.av p0))) rfl rfl (Light.quiet (opMove rfl rfl)) ?_
    obtain ⟨a29, ha29, hF⟩ := bindE hF
    refine ASL.q (v := (.list 1 (List.map (AV.int .i64) a29))) rfl rfl ((qCall rfl rfl call_42 (PO.list (impl_temporal_ok ha29)) rfl)) ?_
    refine ASL.q (v := (.list 1 (List.map (AV.int .i64) a29))) rfl rfl (Light.quiet (opAssign rfl rfl)) ?_
    refine ASL.done ?_
    refine AWP.seqR rfl ?_
    refine ASL.q (v := (.list 1 (List.map (AV.int .i64) a29))) rfl rfl (Light.quiet (opMove rfl rfl)) ?_
    refine ASL.q (v := (.int .i64 (a29.length : Int))) rfl rfl (Light.quiet (opLenMap (f := (AV.int .i64)) rfl rfl rfl lenT_42 rfl)) ?_
    refine ASL.q (v := (.int .i64 (a29.length : Int))) rfl rfl (Light.quiet (opAssign rfl rfl)) ?_
    refine ASL.done ?_
    refine AWP.seq ?_
    refine AWP.seqR rfl ?_
    refine ASL.q (v := (.int .i64 (a29.length : Int))) rfl rfl (Light.quiet (opMove rfl rfl)) ?_
    refine ASL.q (v := (.bool (decide (((a29.length : Int)) > 3)))) rfl rfl (Light.quiet (opInt rfl rfl rfl rfl)) ?_
    refine ASL.done ?_
    refine AWP.ifP hF rfl (fun hc7 hF => ?_) (fun hc7 hF => ?_)
    · skip
      refine AWP.seqR rfl ?_
      refine ASL.q (v := (.agg [(.int .i64 0), (.int .i64 0), (.int .i64 0), (.int .i64 0), .nil])) rfl rfl (Light.quiet (opBuildZ (zs := [(.int .i64 0), (.int .i64 0), (.int .i64 0), (.int .i64 0), .nil]) rfl plan_38 zeroA_38 ⟨.inl rfl, .inl rfl, .inl rfl, .inl rfl, .inl rfl, trivial⟩ rfl)) ?_
      have hS := hNil (s := 4) (f := TGEdge.av) hS
      refine ASL.n rfl rfl (hPutA hS (j := 1) rfl rfl sizeA_38 rfl rfl rfl rfl (allC rfl (allC rfl (allC rfl (allC rfl (allC (hS.one (k := 0) rfl) rfl))))) (nlt rfl) ?_); rintro G8 hS
      refine ASL.q (v := (.bool false)) rfl rfl (Light.quiet (opAssign rfl rfl)) ?_
      refine ASL.done ?_
      refine AWP.ret ?_
      refine QThen.rt ?_
      obtain rfl := someE hF
      exact QRet.many (vs := [(.agg [(.int .i64 0), (.int .i64 0), (.int .i64 0), (.int .i64 0), .nil]), (.bool false)]) ⟨resOne.at hS (k := 1) rfl rfl aggA_38 sizeA_38, rfl, trivial⟩ (by simp) ⟨_, ⟨.nil, rfl, rfl⟩, hS.pick [0, 3] rfl rfl⟩
    · skip
      refine AWP.skip ?_
      refine QThen.nrm ?_
      refine AWP.seqR rfl ?_
      refine ASL.q (v := (.int .i64 p1)) rfl rfl (Light.quiet (opMove rfl rfl)) ?_
      refine ASL.q (v := (.int .i64 (impl_only p1))) rfl rfl ((qCall rfl rfl call_43 (impl_only_ok p1) rfl)) ?_
      refine ASL.q (v := (.int .i64 (a29.length : Int))) rfl rfl (Light.quiet (opMove rfl rfl)) ?_
      refine ASL.q (v := (.int .i64 (impl_only ((a29.length : Int))))) rfl rfl ((qCall rfl rfl call_43 (impl_only_ok ((a29.length : Int))) rfl)) ?_
      refine ASL.q (v := (.int .i64 (W (1 + ((impl_only ((a29.length : Int)))))))) rfl rfl (Light.quiet (opInt rfl rfl rfl rfl)) ?_
      refine ASL.q (v := (.int .i64 (a29.length : Int))) rfl rfl (Light.quiet (opMove rfl rfl)) ?_
      refine ASL.q (v := (.agg [(.int .i64 (impl_only p1)), (.int .i64 (W (1 + ((impl_only ((a29.length : Int))))))), (.int .i64 1), (.int .i64 (a29.length : Int)), .nil])) rfl rfl (Light.quiet (opBuildZ (zs := [(.int .i64 0), (.int .i64 0), (.int .i64 0), (.int .i64 0), .nil]) rfl plan_38 zeroA_38 ⟨.inl rfl, .inl rfl, .inl rfl, .inl rfl, .inl rfl, trivial⟩ rfl)) ?_
      have hS := hNil (s := 4) (f := TGEdge.av) hS
      refine ASL.x rfl rfl (hNewZ hS [(.int .i64 0), (.int .i64 0), (.int .i64 0), (.int .i64 0), .nil] rfl zeroA_38 ⟨.inl rfl, .inl rfl, .inl rfl, .inl rfl, .inl rfl, trivial⟩ ?_); rintro b8 G10 hK hS
      have hS := hNil (s := 4) (f := TGEdge.av) hS
      refine ASL.n rfl rfl (hPutA hS (j := 1) rfl rfl sizeA_38 rfl rfl rfl rfl (allC rfl (allC rfl (allC rfl (allC rfl (allC (hS.one (k := 0) rfl) rfl))))) (nlt rfl) ?_); rintro G13 hS
      refine ASL.done ?_
      refine AWP.seqM (fun e H => ∃ y15 : Int, ∃ y16 : Int, ∃ y17 : Int, ∃ y18 : Int, ∃ y19 : (List TGEdge), ∃ w20 : AV, E.Told e [(4, (.ptr b4 0)), (8, (.ptr b8 0))] ∧ E.Sep H [.row 4 .nil (List.map TGEdge.av ([])), .cell b4 [(.int .i64 0), (.int .i64 0), (.int .i64 0), (.int .i64 0), .nil], .row 4 w20 (List.map TGEdge.av y19), .cell b8 [(.int .i64 y15), (.int .i64 y16), (.int .i64 y17), (.int .i64 y18), w20], .snap S] ∧ impl_LtlGen.k0 y15 y16 y17 y18 y19 = some r) ?_ ?_
      · rintro e0 G24 ⟨y15, y16, y17, y18, y19, w20, hT, hS, hF⟩; refine AWP.only _ hT ?_; unfold impl_LtlGen.k0 at hF
        refine AWP.seqR rfl ?_
        refine ASL.q (v := (.ptr b8 4)) rfl rfl (Light.quiet (opFieldAddr rfl fieldA_38_4 rfl rfl)) ?_
        refine ASL.q (v := w20) rfl rfl (Light.quiet (kAt hS (j := 3) rfl rfl aggA_36 rfl rfl)) ?_
        obtain ⟨a92, ha92, hF⟩ := bindE hF
        refine ASL.x rfl rfl (hCallS hS [2, 0, 1, 3, 4] (F := [.row 4 .nil (List.map TGEdge.av ([])), .cell b4 [(.int .i64 0), (.int .i64 0), (.int .i64 0), (.int .i64 0), .nil], .cell b8 [(.int .i64 y15), (.int .i64 y16), (.int .i64 y17), (.int .i64 y18), w20], .snap S]) rfl rfl rfl call_47 (slices_SortFunc_TGEdge_ok call_48 (fun q0 q1 y h => impl_compareGEdges_ok h) ha92) rfl rfl ?_); rintro _ _ G22 ⟨rfl, rfl⟩ hS
        refine ASL.done ?_
        refine AWP.seqR rfl ?_
        refine ASL.q (v := (.agg [(.int .i64 y15), (.int .i64 y16), (.int .i64 y17), (.int .i64 y18), w20])) rfl rfl (Light.quiet (kAtA hS (j := 3) rfl rfl aggA_38 sizeA_38 rfl (nlt rfl) rfl)) ?_
        refine ASL.n rfl rfl (hPutA hS (j := 2) rfl rfl sizeA_38 rfl rfl rfl rfl (allC rfl (allC rfl (allC rfl (allC rfl (allC (hS.one (k := 0) rfl) rfl))))) (nlt rfl) ?_); rintro G23 hS
        refine ASL.q (v := (.bool true)) rfl rfl (Light.quiet (opAssign rfl rfl)) ?_
        refine ASL.done ?_
        refine AWP.ret ?_
        obtain rfl := someE hF
        exact QRet.many (vs := [(.agg [(.int .i64 y15), (.int .i64 y16), (.int .i64 y17), (.int .i64 y18), w20]), (.bool true)]) ⟨resOne.at hS (k := 2) rfl rfl aggA_38 sizeA_38, rfl, trivial⟩ (by simp) ⟨_, ⟨w20, rfl, rfl⟩, hS.pick [0, 4] rfl rfl⟩
      · skip
        refine AWP.seqR rfl ?_
        refine ASL.q (v := (.ptr b8 0)) rfl rfl (Light.quiet (opFieldAddr rfl fieldA_38_0 rfl rfl)) ?_
        refine ASL.q (v := (.int .i64 (impl_only p1))) rfl rfl (Light.quiet (kAt hS (j := 1) rfl rfl aggA_3 rfl rfl)) ?_
        refine ASL.q (v := (.int .i64 0)) rfl rfl (Light.quiet (opMove rfl rfl)) ?_
        refine ASL.done ?_
        refine AWP.block ?_
        obtain ⟨o35, hL34, hR36⟩ := bindE hF
        refine AWP.loopF (ω := AV) hL34 (fun s w => [(0, (.list 3 (List.map TNode.av p0))), (4, (.ptr b4 0)), (6, (.list 1 (List.map (AV.int .i64) a29))), (7, (.int .i64 (a29.length : Int))), (8, (.ptr b8 0)), (43, (.int .i64 (impl_only p1))), (44, (.int .i64 s.2.2.2.2.2))]) (fun s w => [.row 4 .nil (List.map TGEdge.av ([])), .cell b4 [(.int .i64 0), (.int .i64 0), (.int .i64 0), (.int .i64 0), .nil], .row 4 w (List.map TGEdge.av s.2.2.2.2.1), .cell b8 [(.int .i64 s.1), (.int .i64 s.2.1), (.int .i64 s.2.2.1), (.int .i64 s.2.2.2.1), w], .snap S]) .nil ⟨rfl, rfl, rfl, rfl, rfl, rfl, rfl, trivial⟩ (hS.pick [4, 3, 0, 1, 5] rfl rfl) ?_
        rintro ⟨y25, y26, y27, y28, y29, x44_l0⟩ w30 G37 hS x32 hF hx33
        try dsimp only at hS ⊢
        have hF : impl_LtlGen.b0 p1 a29 p0 y25 y26 y27 y28 y29 x44_l0 = some x32 := hF; unfold impl_LtlGen.b0 at hF
        refine AWP.seqR rfl ?_
        refine ASL.q (v := (.bool (decide (x44_l0 < ((impl_only p1)))))) rfl rfl (Light.quiet (opInt rfl rfl rfl rfl)) ?_
        refine ASL.done ?_
        refine AWP.seq ?_
        refine AWP.ifP hF rfl (fun hc38 hF => ?_) (fun hc38 hF => ?_)
        · skip
          refine AWP.skip ?_
          refine QThen.nrm ?_
          refine AWP.seqM (fun e H => ∃ y39 : Int, ∃ y40 : Int, ∃ y41 : Int, ∃ y42 : Int, ∃ y43 : (List TGEdge), ∃ w44 : AV, E.Told e [(0, (.list 3 (List.map TNode.av p0))), (4, (.ptr b4 0)), (6, (.list 1 (List.map (AV.int .i64) a29))), (7, (.int .i64 (a29.length : Int))), (8, (.ptr b8 0)), (43, (.int .i64 (impl_only p1))), (44, (.int .i64 x44_l0))] ∧ E.Sep H [.row 4 .nil (List.map TGEdge.av ([])), .cell b4 [(.int .i64 0), (.int .i64 0), (.int .i64 0), (.int .i64 0), .nil], .row 4 w44 (List.map TGEdge.av y43), .cell b8 [(.int .i64 y39), (.int .i64 y40), (.int .i64 y41), (.int .i64 y42), w44], .snap S] ∧ impl_LtlGen.k1 x44_l0 y39 y40 y41 y42 y43 = some x32) ?_ ?_
          · rintro e0 G46 ⟨y39, y40, y41, y42, y43, w44, hT, hS, hF⟩; refine AWP.only _ hT ?_; unfold impl_LtlGen.k1 at hF
            refine AWP.lastR rfl ?_
            refine ASL.q (v := (.int .i64 (W (x44_l0 + 1)))) rfl rfl (Light.quiet (opInt rfl rfl rfl rfl)) ?_
            refine ASL.q (v := (.int .i64 (W (x44_l0 + 1)))) rfl rfl (Light.quiet (opMove rfl rfl)) ?_
            refine ASL.done ?_
            refine QThen.nrm ?_
            exact ⟨(y39, y40, y41, y42, y43, (W (x44_l0 + 1))), w44, (someE hF).symm, ⟨rfl, rfl, rfl, rfl, rfl, rfl, rfl, trivial⟩, (hS.pick [0, 1, 2, 3, 4] rfl rfl)⟩
          · skip
            refine AWP.block ?_
            refine AWP.seqR rfl ?_
            refine ASL.q (v := (.int .i64 x44_l0)) rfl rfl (Light.quiet (opMove rfl rfl)) ?_
            refine ASL.q (v := (.int .i64 x44_l0)) rfl rfl (Light.quiet (opAssign rfl rfl)) ?_
            refine ASL.done ?_
            refine AWP.seqR rfl ?_
            refine ASL.q (v := (.int .i64 (a29.length : Int))) rfl rfl (Light.quiet (opMove rfl rfl)) ?_
            refine ASL.q (v := (.int .i64 (impl_only ((a29.length : Int))))) rfl rfl ((qCall rfl rfl call_43 (impl_only_ok ((a29.length : Int))) rfl)) ?_
            refine ASL.q (v := (.int .i64 0)) rfl rfl (Light.quiet (opMove rfl rfl)) ?_
            refine ASL.done ?_
            refine AWP.block ?_
            obtain ⟨o57, hL56, hR58⟩ := bindE hF
            refine AWP.loopF (ω := AV) hL56 (fun s w => [(0, (.list 3 (List.map TNode.av p0))), (4, (.ptr b4 0)), (6, (.list 1 (List.map (AV.int .i64) a29))), (7, (.int .i64 (a29.length : Int))), (8, (.ptr b8 0)), (9, (.int .i64 x44_l0)), (43, (.int .i64 (impl_only p1))), (44, (.int .i64 x44_l0)), (48, (.int .i64 (impl_only ((a29.length : Int))))), (49, (.int .i64 s.2.2.2.2.2))]) (fun s w => [.row 4 .nil (List.map TGEdge.av ([])), .cell b4 [(.int .i64 0), (.int .i64 0), (.int .i64 0), (.int .i64 0), .nil], .row 4 w (List.map TGEdge.av s.2.2.2.2.1), .cell b8 [(.int .i64 s.1), (.int .i64 s.2.1), (.int .i64 s.2.2.1), (.int .i64 s.2.2.2.1), w], .snap S]) w30 ⟨rfl, rfl, rfl, rfl, rfl, rfl, rfl, rfl, rfl, rfl, trivial⟩ (hS.pick [0, 1, 2, 3, 4] rfl rfl) ?_
            rintro ⟨y47, y48, y49, y50, y51, x49_l1⟩ w52 G59 hS x54 hF hx55
            try dsimp only at hS ⊢
            have hF : impl_LtlGen.b1 a29 p0 x44_l0 y47 y48 y49 y50 y51 x49_l1 = some x54 := hF; unfold impl_LtlGen.b1 at hF
            refine AWP.seqR rfl ?_
            refine ASL.q (v := (.bool (decide (x49_l1 < ((impl_only ((a29.length : Int)))))))) rfl rfl (Light.quiet (opInt rfl rfl rfl rfl)) ?_
            refine ASL.done ?_
            refine AWP.seq ?_
            refine AWP.ifP hF rfl (fun hc60 hF => ?_) (fun hc60 hF => ?_)
            · skip
              refine AWP.skip ?_
              refine QThen.nrm ?_
              refine AWP.seq ?_
              refine AWP.block ?_
              refine AWP.seqR rfl ?_
              refine ASL.q (v := (.int .i64 x49_l1)) rfl rfl (Light.quiet (opMove rfl rfl)) ?_
              refine ASL.q (v := (.int .i64 x49_l1)) rfl rfl (Light.quiet (opAssign rfl rfl)) ?_
              refine ASL.done ?_
              refine AWP.seqR rfl ?_
              refine ASL.q (v := (.list 3 (List.map TNode.av p0))) rfl rfl (Light.quiet (opMove rfl rfl)) ?_
              refine ASL.q (v := (.int .i64 x44_l0)) rfl rfl (Light.quiet (opMove rfl rfl)) ?_
              refine ASL.q (v := (.int .i64 x49_l1)) rfl rfl (Light.quiet (opMove rfl rfl)) ?_
              obtain ⟨a55, ha55, hF⟩ := bindE hF
              refine ASL.q (v := (.list 1 (List.map AV.bool a55))) rfl rfl ((qCall rfl rfl call_44 (PO.list (impl_stepOf_ok ha55)) rfl)) ?_
              refine ASL.q (v := (.list 1 (List.map AV.bool a55))) rfl rfl (Light.quiet (opAssign rfl rfl)) ?_
              refine ASL.done ?_
              refine AWP.seqR rfl ?_
              refine ASL.q (v := (.list 3 (List.map TNode.av p0))) rfl rfl (Light.quiet (opMove rfl rfl)) ?_
              refine ASL.q (v := (.list 1 (List.map (AV.int .i64) a29))) rfl rfl (Light.quiet (opMove rfl rfl)) ?_
              refine ASL.q (v := (.list 1 (List.map AV.bool a55))) rfl rfl (Light.quiet (opMove rfl rfl)) ?_
              obtain ⟨a59, ha59, hF⟩ := bindE hF
              refine ASL.q (v := (.int .i64 a59)) rfl rfl ((qCall rfl rfl call_45 (impl_toldBy_ok ha59) rfl)) ?_
              refine ASL.q (v := (.int .i64 (W (1 + a59)))) rfl rfl (Light.quiet (opInt rfl rfl rfl rfl)) ?_
              refine ASL.q (v := (.int .i64 x44_l0)) rfl rfl (Light.quiet (opMove rfl rfl)) ?_
              refine ASL.q (v := (.int .i64 x49_l1)) rfl rfl (Light.quiet (opMove rfl rfl)) ?_
              refine ASL.q (v := (.int .i64 (W (1 + x49_l1)))) rfl rfl (Light.quiet (opInt rfl rfl rfl rfl)) ?_
              refine ASL.q (v := (.list 3 (List.map TNode.av p0))) rfl rfl (Light.quiet (opMove rfl rfl)) ?_
              refine ASL.q (v := (.list 1 (List.map (AV.int .i64) a29))) rfl rfl (Light.quiet (opMove rfl rfl)) ?_
              refine ASL.q (v := (.list 1 (List.map AV.bool a55))) rfl rfl (Light.quiet (opMove rfl rfl)) ?_
              obtain ⟨a67, ha67, hF⟩ := bindE hF
              refine ASL.q (v := (.int .i64 a67)) rfl rfl ((qCall rfl rfl call_46 (impl_marksOf_ok ha67) rfl)) ?_
              refine ASL.q (v := (.agg [(.int .i64 (W (1 + a59))), (.int .i64 x44_l0), (.int .i64 (W (1 + x49_l1))), (.int .i64 a67)])) rfl rfl (Light.quiet (opBuildZ (zs := [(.int .i64 0), (.int .i64 0), (.int .i64 0), (.int .i64 0)]) rfl plan_61 zeroA_61 ⟨.inl rfl, .inl rfl, .inl rfl, .inl rfl, trivial⟩ rfl)) ?_
              refine ASL.x rfl rfl (hNewZ hS [(.int .i64 0), (.int .i64 0), (.int .i64 0), (.int .i64 0)] rfl zeroA_61 ⟨.inl rfl, .inl rfl, .inl rfl, .inl rfl, trivial⟩ ?_); rintro b12 G61 hK hS
              refine ASL.n rfl rfl (hPutA hS (j := 0) rfl rfl sizeA_61 rfl rfl rfl rfl rfl (nlt rfl) ?_); rintro G63 hS
              refine ASL.done ?_
              refine AWP.seqR rfl ?_
              refine ASL.q (v := (.ptr b8 4)) rfl rfl (Light.quiet (opFieldAddr rfl fieldA_38_4 rfl rfl)) ?_
              refine ASL.q (v := w52) rfl rfl (Light.quiet (kAt hS (j := 4) rfl rfl aggA_36 rfl rfl)) ?_
              refine ASL.q (v := (.agg [(.int .i64 (W (1 + a59))), (.int .i64 x44_l0), (.int .i64 (W (1 + x49_l1))), (.int .i64 a67)])) rfl rfl (Light.quiet (kAtA hS (j := 0) rfl rfl aggA_61 sizeA_61 rfl (nlt rfl) rfl)) ?_
              refine ASL.q (v := (.list 4 (List.map TGEdge.av [(TGEdge.mk ((W (1 + a59))) x44_l0 ((W (1 + x49_l1))) a67)]))) rfl rfl ((qLit (xs := [(.agg [(.int .i64 (W (1 + a59))), (.int .i64 x44_l0), (.int .i64 (W (1 + x49_l1))), (.int .i64 a67)])]) rfl elemA_36 sizeA_61 zeroA_61 rfl rfl rfl rfl (by simp [cells, TGEdge.av]) (nlt rfl))) ?_
              obtain ⟨z73, hz73, hF⟩ := bindE hF
              refine ASL.x rfl rfl (hApp (f := TGEdge.av) (ws := [(TGEdge.mk ((W (1 + a59))) x44_l0 ((W (1 + x49_l1))) a67)]) hS (j := 3) rfl hz73 rfl elemA_36 rfl sizeA_61 bytesA_61 zeroA_61 rfl rfl rfl (fun _ => rfl) ?_); rintro v73 G64 hS
              refine ASL.q (v := (.ptr b8 4)) rfl rfl (Light.quiet (opFieldAddr rfl fieldA_38_4 rfl rfl)) ?_
              refine ASL.n rfl rfl (hPut hS (j := 4) rfl rfl sizeA_36 rfl rfl (hS.one (k := 3) rfl) (nlt rfl) ?_); rintro G66 hS
              refine ASL.done ?_
              refine AWP.seqR rfl ?_
              refine ASL.q (v := (.list 1 (List.map AV.bool a55))) rfl rfl (Light.quiet (opMove rfl rfl)) ?_
              refine ASL.q (v := (.list 3 (List.map TNode.av p0))) rfl rfl (Light.quiet (opMove rfl rfl)) ?_
              refine ASL.q (v := (.int .i64 (p0.length : Int))) rfl rfl (Light.quiet (opLenMap (f := TNode.av) rfl rfl rfl lenT_29 rfl)) ?_
              refine ASL.q (v := (.int .i64 (W (((p0.length : Int)) - 1)))) rfl rfl (Light.quiet (opInt rfl rfl rfl rfl)) ?_
              obtain ⟨a79, ha79, hF⟩ := bindE hF
              refine ASL.q (v := (.rptr [(.bool a79)])) rfl rfl (Light.quiet (kIx (f := AV.bool) ha79 rfl rfl rfl elemA_56 sizeA_4 rfl)) ?_
              refine ASL.q (v := (.bool a79)) rfl rfl (Light.quiet (opLoadR rfl aggA_4 rfl rfl)) ?_
              refine ASL.done ?_
              refine AWP.ifB hF rfl (fun hc67 hF => ?_) (fun hc67 hF => ?_)
              · skip
                refine AWP.seqR rfl ?_
                refine ASL.q (v := (.ptr b12 0)) rfl rfl (Light.quiet (opFieldAddr rfl fieldA_61_0 rfl rfl)) ?_
                refine ASL.n rfl rfl (hPut hS (j := 0) rfl rfl sizeA_3 rfl rfl rfl (nlt rfl) ?_); rintro G68 hS
                refine ASL.done ?_
                refine AWP.lastR rfl ?_
                refine ASL.q (v := (.ptr b8 4)) rfl rfl (Light.quiet (opFieldAddr rfl fieldA_38_4 rfl rfl)) ?_
                refine ASL.q (v := v73) rfl rfl (Light.quiet (kAt hS (j := 4) rfl rfl aggA_36 rfl rfl)) ?_
                refine ASL.q (v := (.agg [(.int .i64 0), (.int .i64 x44_l0), (.int .i64 (W (1 + x49_l1))), (.int .i64 a67)])) rfl rfl (Light.quiet (kAtA hS (j := 0) rfl rfl aggA_61 sizeA_61 rfl (nlt rfl) rfl)) ?_
                refine ASL.q (v := (.list 4 (List.map TGEdge.av [(TGEdge.mk 0 x44_l0 ((W (1 + x49_l1))) a67)]))) rfl rfl ((qLit (xs := [(.agg [(.int .i64 0), (.int .i64 x44_l0), (.int .i64 (W (1 + x49_l1))), (.int .i64 a67)])]) rfl elemA_36 sizeA_61 zeroA_61 rfl rfl rfl rfl (by simp [cells, TGEdge.av]) (nlt rfl))) ?_
                obtain ⟨z86, hz86, hF⟩ := bindE hF
                refine ASL.x rfl rfl (hApp (f := TGEdge.av) (ws := [(TGEdge.mk 0 x44_l0 ((W (1 + x49_l1))) a67)]) hS (j := 3) rfl hz86 rfl elemA_36 rfl sizeA_61 bytesA_61 zeroA_61 rfl rfl rfl (fun _ => rfl) ?_); rintro v86 G69 hS
                refine ASL.q (v := (.ptr b8 4)) rfl rfl (Light.quiet (opFieldAddr rfl fieldA_38_4 rfl rfl)) ?_
                refine ASL.n rfl rfl (hPut hS (j := 4) rfl rfl sizeA_36 rfl rfl (hS.one (k := 3) rfl) (nlt rfl) ?_); rintro G71 hS
                refine ASL.done ?_
                refine QBlock.nrm ?_
                refine QThen.nrm ?_
                refine AWP.lastR rfl ?_
                refine ASL.q (v := (.int .i64 (W (x49_l1 + 1)))) rfl rfl (Light.quiet (opInt rfl rfl rfl rfl)) ?_
                refine ASL.q (v := (.int .i64 (W (x49_l1 + 1)))) rfl rfl (Light.quiet (opMove rfl rfl)) ?_
                refine ASL.done ?_
                refine QThen.nrm ?_
                exact ⟨(y47, y48, y49, y50, z86, (W (x49_l1 + 1))), v86, (someE hF).symm, ⟨rfl, rfl, rfl, rfl, rfl, rfl, rfl, rfl, rfl, rfl, trivial⟩, (hS.pick [1, 2, 3, 4, 5] rfl rfl)⟩
              · skip
                refine AWP.skip ?_
                refine QBlock.nrm ?_
                refine QThen.nrm ?_
                refine AWP.lastR rfl ?_
                refine ASL.q (v := (.int .i64 (W (x49_l1 + 1)))) rfl rfl (Light.quiet (opInt rfl rfl rfl rfl)) ?_
                refine ASL.q (v := (.int .i64 (W (x49_l1 + 1)))) rfl rfl (Light.quiet (opMove rfl rfl)) ?_
                refine ASL.done ?_
                refine QThen.nrm ?_
                exact ⟨(y47, y48, y49, y50, z73, (W (x49_l1 + 1))), v73, (someE hF).symm, ⟨rfl, rfl, rfl, rfl, rfl, rfl, rfl, rfl, rfl, rfl, trivial⟩, (hS.pick [1, 2, 3, 4, 5] rfl rfl)⟩
            · skip
              refine AWP.exit ?_
              refine QThen.ext ?_
              refine QThen.ext ?_
              refine QBlock.hit ?_
              obtain rfl := (hx55 _ (someE hF).symm)
              have hF := hR58
              refine QBlock.nrm ?_
              refine QThen.nrm ?_
              exact ⟨y47, y48, y49, y50, y51, w52, ⟨rfl, rfl, rfl, rfl, rfl, rfl, rfl, trivial⟩, (hS.pick [0, 1, 2, 3, 4] rfl rfl), hF⟩
        · skip
          refine AWP.exit ?_
          refine QThen.ext ?_
          refine QThen.ext ?_
          refine QBlock.hit ?_
          obtain rfl := (hx33 _ (someE hF).symm)
          have hF := hR36
          refine QThen.nrm ?_
          exact ⟨y25, y26, y27, y28, y29, w30, ⟨rfl, rfl, trivial⟩, (hS.pick [0, 1, 2, 3, 4] rfl rfl), hF⟩

set_option maxRecDepth 10000 in
theorem impl_isLetters_ok (p0 : Int) : PC Tryz.prog 96 [(.int .i64 p0)] fun v => v = (.bool (impl_isLetters p0)) := by
  generalize hF : impl_isLetters p0 = r
  refine PC.enter Tryz.func96 rfl Tryz.ntmps96 (by simp) ?_
  have hS := Sep.void; unfold impl_isLetters at hF
  refine AWP.seqR rfl ?_
  refine ASL.q (v := (.bool false)) rfl rfl (Light.quiet (opAssign rfl rfl)) ?_
  refine ASL.done ?_
  refine AWP.seqR rfl ?_
  refine ASL.q (v := (.int .i64 p0)) rfl rfl (Light.quiet (opMove rfl rfl)) ?_
  refine ASL.q (v := (.bool (impl_inRange p0 1 8))) rfl rfl ((qCall rfl rfl call_68 (impl_inRange_ok p0 1 8) rfl)) ?_
  refine ASL.q (v := (.bool (impl_inRange p0 1 8))) rfl rfl (Light.quiet (opAssign rfl rfl)) ?_
  refine ASL.done ?_
  refine AWP.ret ?_
  obtain rfl := hF
  exact QRet.sole (v := (.bool (impl_inRange p0 1 8))) ⟨rfl, trivial⟩ rfl

set_option maxRecDepth 10000 in
theorem impl_SetOk_ok (p0 : Int) : PC Tryz.prog 77 [(.int .i64 p0)] fun v => v = (.bool (impl_SetOk p0)) := by
  generalize hF : impl_SetOk p0 = r
  refine PC.enter Tryz.func77 rfl Tryz.ntmps77 (by simp) ?_
  have hS := Sep.void; unfold impl_SetOk at hF
  refine AWP.seqR rfl ?_
  refine ASL.q (v := (.bool false)) rfl rfl (Light.quiet (opAssign rfl rfl)) ?_
  refine ASL.done ?_
  refine AWP.seqR rfl ?_
  refine ASL.q (v := (.int .i64 p0)) rfl rfl (Light.quiet (opMove rfl rfl)) ?_
  refine ASL.q (v := (.bool (impl_inRange p0 0 2147483647))) rfl rfl ((qCall rfl rfl call_68 (impl_inRange_ok p0 0 2147483647) rfl)) ?_
  refine ASL.q (v := (.bool (impl_inRange p0 0 2147483647))) rfl rfl (Light.quiet (opAssign rfl rfl)) ?_
  refine ASL.done ?_
  refine AWP.ret ?_
  obtain rfl := hF
  exact QRet.sole (v := (.bool (impl_inRange p0 0 2147483647))) ⟨rfl, trivial⟩ rfl

set_option maxRecDepth 10000 in
theorem impl_headOk_ok (p0 : Int) (p1 : Int) (p2 : Int) : PC Tryz.prog 76 [(.int .i64 p0), (.int .i64 p1), (.int .i64 p2)] fun v => v = (.bool (impl_headOk p0 p1 p2)) := by
  generalize hF : impl_headOk p0 p1 p2 = r
  refine PC.enter Tryz.func76 rfl Tryz.ntmps76 (by simp) ?_
  have hS := Sep.void; unfold impl_headOk at hF
  refine AWP.seqR rfl ?_
  refine ASL.q (v := (.bool false)) rfl rfl (Light.quiet (opAssign rfl rfl)) ?_
  refine ASL.done ?_
  refine AWP.seqR rfl ?_
  refine ASL.q (v := (.int .i64 p0)) rfl rfl (Light.quiet (opMove rfl rfl)) ?_
  refine ASL.q (v := (.bool (impl_isLetters p0))) rfl rfl ((qCall rfl rfl call_96 (impl_isLetters_ok p0) rfl)) ?_
  obtain ⟨c9, hc9, hF⟩ := bndE hF
  refine ASL.q (v := (.bool c9)) rfl rfl ((Quiet.cast (Light.quiet (opMove rfl rfl)) (congrArg AV.bool hc9.symm))) ?_
  refine ASL.g (v := (.int .i64 p1)) (.bool c9) true rfl (wT _) rfl (fun hG => by have q0 := hG; subst q0; exact Light.quiet (opMove rfl rfl)) ?_
  refine ASL.g (v := (.bool (impl_inRange p1 0 31))) (.bool c9) true rfl (wT _) rfl (fun hG => by have q0 := hG; subst q0; exact (qCall rfl rfl call_68 (impl_inRange_ok p1 0 31) rfl)) ?_
  refine ASL.q (v := (.bool (c9 && (impl_inRange p1 0 31)))) rfl rfl (Light.quiet (opPick (b := c9) rfl rfl (by cases c9 <;> rfl))) ?_
  obtain ⟨c13, hc13, hF⟩ := bndE hF
  refine ASL.q (v := (.bool c13)) rfl rfl ((Quiet.cast (Light.quiet (opMove rfl rfl)) (congrArg AV.bool hc13.symm))) ?_
  refine ASL.g (v := (.int .i64 p2)) (.bool c13) true rfl (wT _) rfl (fun hG => by have q0 := hG; subst q0; exact Light.quiet (opMove rfl rfl)) ?_
  refine ASL.g (v := (.bool (impl_SetOk p2))) (.bool c13) true rfl (wT _) rfl (fun hG => by have q0 := hG; subst q0; exact (qCall rfl rfl call_77 (impl_SetOk_ok p2) rfl)) ?_
  refine ASL.q (v := (.bool (c13 && (impl_SetOk p2)))) rfl rfl (Light.quiet (opPick (b := c13) rfl rfl (by cases c13 <;> rfl))) ?_
  obtain ⟨c17, hc17, hF⟩ := bndE hF
  refine ASL.q (v := (.bool c17)) rfl rfl ((Quiet.cast (Light.quiet (opMove rfl rfl)) (congrArg AV.bool hc17.symm))) ?_
  refine ASL.g (v := (.int .i64 p2)) (.bool c17) true rfl (wT _) rfl (fun hG => by have q0 := hG; subst q0; exact Light.quiet (opMove rfl rfl)) ?_
  refine ASL.g (v := (.int .i64 p1)) (.bool c17) true rfl (wT _) rfl (fun hG => by have q0 := hG; subst q0; exact Light.quiet (opMove rfl rfl)) ?_
  refine ASL.g (v := (.int .i64 (impl_only p1))) (.bool c17) true rfl (wT _) rfl (fun hG => by have q0 := hG; subst q0; exact (qCall rfl rfl call_43 (impl_only_ok p1) rfl)) ?_
  refine ASL.g (v := (.bool (decide (p2 < ((impl_only p1)))))) (.bool c17) true rfl (wT _) rfl (fun hG => by have q0 := hG; subst q0; exact Light.quiet (opInt rfl rfl rfl rfl)) ?_
  refine ASL.q (v := (.bool (c17 && (decide (p2 < ((impl_only p1))))))) rfl rfl (Light.quiet (opPick (b := c17) rfl rfl (by cases c17 <;> rfl))) ?_
  refine ASL.q (v := (.bool (c17 && (decide (p2 < ((impl_only p1))))))) rfl rfl (Light.quiet (opAssign rfl rfl)) ?_
  refine ASL.done ?_
  refine AWP.ret ?_
  obtain rfl := hF
  exact QRet.sole (v := (.bool (c17 && (decide (p2 < ((impl_only p1))))))) ⟨rfl, trivial⟩ rfl

set_option maxRecDepth 10000 in
theorem impl_GenOk_ok {p0 : TGen} {r : Bool} (hF : impl_GenOk p0 = some r) : PC Tryz.prog 49 [(TGen.av p0)] fun v => v = (.bool r) := by
  refine PC.enter Tryz.func49 rfl Tryz.ntmps49 (by simp) ?_
  have hS := Sep.void; unfold impl_GenOk at hF
  refine AWP.seqR rfl ?_
  refine ASL.q (v := (.rptr [(.int .i64 p0.letters), (.int .i64 p0.states), (.int .i64 p0.start), (.int .i64 p0.sets), (.list 4 (List.map TGEdge.av p0.edges))])) rfl rfl ((qBoxI (v := (TGen.av p0)) rfl rfl rfl rfl)) ?_
  refine ASL.q (v := (.bool false)) rfl rfl (Light.quiet (opAssign rfl rfl)) ?_
  refine ASL.done ?_
  refine AWP.seq ?_
  refine AWP.seqR rfl ?_
  refine ASL.q (v := (.rptr [(.int .i64 p0.letters), (.int .i64 p0.states), (.int .i64 p0.start), (.int .i64 p0.sets), (.list 4 (List.map TGEdge.av p0.edges))])) rfl rfl (Light.quiet (opFieldAddrR rfl fieldA_38_0 rfl rfl)) ?_
  refine ASL.q (v := (.int .i64 p0.letters)) rfl rfl (Light.quiet (opLoadR rfl aggA_3 rfl rfl)) ?_
  refine ASL.q (v := (.rptr [(.int .i64 p0.states), (.int .i64 p0.start), (.int .i64 p0.sets), (.list 4 (List.map TGEdge.av p0.edges))])) rfl rfl (Light.quiet (opFieldAddrR rfl fieldA_38_1 rfl rfl)) ?_
  refine ASL.q (v := (.int .i64 p0.states)) rfl rfl (Light.quiet (opLoadR rfl aggA_3 rfl rfl)) ?_
  refine ASL.q (v := (.rptr [(.int .i64 p0.start), (.int .i64 p0.sets), (.list 4 (List.map TGEdge.av p0.edges))])) rfl rfl (Light.quiet (opFieldAddrR rfl fieldA_38_2 rfl rfl)) ?_
  refine ASL.q (v := (.int .i64 p0.start)) rfl rfl (Light.quiet (opLoadR rfl aggA_3 rfl rfl)) ?_
  refine ASL.q (v := (.bool (impl_headOk p0.letters p0.states p0.start))) rfl rfl ((qCall rfl rfl call_76 (impl_headOk_ok p0.letters p0.states p0.start) rfl)) ?_
  refine ASL.q (v := (.bool (!(impl_headOk p0.letters p0.states p0.start)))) rfl rfl (Light.quiet (opNot rfl rfl)) ?_
  obtain ⟨c13, hc13, hF⟩ := bndE hF
  refine ASL.q (v := (.bool c13)) rfl rfl ((Quiet.cast (Light.quiet (opMove rfl rfl)) (congrArg AV.bool hc13.symm))) ?_
  refine ASL.g (v := (.rptr [(.int .i64 p0.sets), (.list 4 (List.map TGEdge.av p0.edges))])) (.bool c13) false rfl (wF _) rfl (fun hG => by have q0 := gN hG; subst q0; exact Light.quiet (opFieldAddrR rfl fieldA_38_3 rfl rfl)) ?_
  refine ASL.g (v := (.int .i64 p0.sets)) (.bool c13) false rfl (wF _) rfl (fun hG => by have q0 := gN hG; subst q0; exact Light.quiet (opLoadR rfl aggA_3 rfl rfl)) ?_
  refine ASL.g (v := (.bool (impl_inRange p0.sets 0 4))) (.bool c13) false rfl (wF _) rfl (fun hG => by have q0 := gN hG; subst q0; exact (qCall rfl rfl call_68 (impl_inRange_ok p0.sets 0 4) rfl)) ?_
  refine ASL.g (v := (.bool (!(impl_inRange p0.sets 0 4)))) (.bool c13) false rfl (wF _) rfl (fun hG => by have q0 := gN hG; subst q0; exact Light.quiet (opNot rfl rfl)) ?_
  refine ASL.q (v := (.bool (c13 || (!(impl_inRange p0.sets 0 4))))) rfl rfl (Light.quiet (opPick (b := c13) rfl rfl (by cases c13 <;> rfl))) ?_
  obtain ⟨c19, hc19, hF⟩ := bndE hF
  refine ASL.q (v := (.bool c19)) rfl rfl ((Quiet.cast (Light.quiet (opMove rfl rfl)) (congrArg AV.bool hc19.symm))) ?_
  refine ASL.g (v := (.rptr [(.list 4 (List.map TGEdge.av p0.edges))])) (.bool c19) false rfl (wF _) rfl (fun hG => by have q0 := gN hG; subst q0; exact Light.quiet (opFieldAddrR rfl fieldA_38_4 rfl rfl)) ?_
  refine ASL.g (v := (.list 4 (List.map TGEdge.av p0.edges))) (.bool c19) false rfl (wF _) rfl (fun hG => by have q0 := gN hG; subst q0; exact Light.quiet (opLoadR rfl aggA_36 rfl rfl)) ?_
  refine ASL.g (v := (.int .i64 (p0.edges.length : Int))) (.bool c19) false rfl (wF _) rfl (fun hG => by have q0 := gN hG; subst q0; exact Light.quiet (opLenMap (f := TGEdge.av) rfl rfl rfl lenT_36 rfl)) ?_
  refine ASL.g (v := (.bool (decide (((p0.edges.length : Int)) > 2000)))) (.bool c19) false rfl (wF _) rfl (fun hG => by have q0 := gN hG; subst q0; exact Light.quiet (opInt rfl rfl rfl rfl)) ?_
  refine ASL.q (v := (.bool (c19 || (decide (((p0.edges.length : Int)) > 2000))))) rfl rfl (Light.quiet (opPick (b := c19) rfl rfl (by cases c19 <;> rfl))) ?_
  refine ASL.done ?_
  refine AWP.ifB hF rfl (fun hc1 hF => ?_) (fun hc1 hF => ?_)
  · skip
    refine AWP.seqR rfl ?_
    refine ASL.q (v := (.bool false)) rfl rfl (Light.quiet (opAssign rfl rfl)) ?_
    refine ASL.done ?_
    refine AWP.ret ?_
    refine QThen.rt ?_
    obtain rfl := someE hF
    exact QRet.sole (v := (.bool false)) ⟨rfl, trivial⟩ rfl
  · skip
    refine AWP.skip ?_
    refine QThen.nrm ?_
    refine AWP.seqM (fun e H => E.Told e [] ∧ E.Sep H [] ∧ impl_GenOk.k0 = some r) ?_ ?_
    · rintro e0 G2 ⟨hT, hS, hF⟩; refine AWP.only _ hT ?_; unfold impl_GenOk.k0 at hF
      refine AWP.seqR rfl ?_
      refine ASL.q (v := (.bool true)) rfl rfl (Light.quiet (opAssign rfl rfl)) ?_
      refine ASL.done ?_
      refine AWP.ret ?_
      obtain rfl := someE hF
      exact QRet.sole (v := (.bool true)) ⟨rfl, trivial⟩ rfl
    · skip
      refine AWP.seqR rfl ?_
      refine ASL.q (v := (.rptr [(.list 4 (List.map TGEdge.av p0.edges))])) rfl rfl (Light.quiet (opFieldAddrR rfl fieldA_38_4 rfl rfl)) ?_
      refine ASL.q (v := (.list 4 (List.map TGEdge.av p0.edges))) rfl rfl (Light.quiet (opLoadR rfl aggA_36 rfl rfl)) ?_
      refine ASL.q (v := (.int .i64 (p0.edges.length : Int))) rfl rfl (Light.quiet (opLenMap (f := TGEdge.av) rfl rfl rfl lenT_36 rfl)) ?_
      refine ASL.q (v := (.int .i64 0)) rfl rfl (Light.quiet (opMove rfl rfl)) ?_
      refine ASL.done ?_
      refine AWP.block ?_
      obtain ⟨o6, hL5, hR7⟩ := bindE hF
      refine AWP.loopF (ω := Unit) hL5 (fun s w => [(1, (.rptr [(.int .i64 p0.letters), (.int .i64 p0.states), (.int .i64 p0.start), (.int .i64 p0.sets), (.list 4 (List.map TGEdge.av p0.edges))])), (26, (.list 4 (List.map TGEdge.av p0.edges))), (27, (.int .i64 (p0.edges.length : Int))), (28, (.int .i64 s))]) (fun s w => []) () ⟨rfl, rfl, rfl, rfl, trivial⟩ (hS.pick [] rfl rfl) ?_
      rintro x28_l0 _ G8 hS x3 hF hx4
      try dsimp only at hS ⊢
      have hF : impl_GenOk.b0 p0 x28_l0 = some x3 := hF; unfold impl_GenOk.b0 at hF
      refine AWP.seqR rfl ?_
      refine ASL.q (v := (.bool (decide (x28_l0 < ((p0.edges.length : Int)))))) rfl rfl (Light.quiet (opInt rfl rfl rfl rfl)) ?_
      refine ASL.done ?_
      refine AWP.seq ?_
      refine AWP.ifP hF rfl (fun hc9 hF => ?_) (fun hc9 hF => ?_)
      · skip
        refine AWP.skip ?_
        refine QThen.nrm ?_
        refine AWP.seq ?_
        refine AWP.block ?_
        refine AWP.seqR rfl ?_
        refine ASL.q (v := (.int .i64 x28_l0)) rfl rfl (Light.quiet (opMove rfl rfl)) ?_
        obtain ⟨a31, ha31, hF⟩ := bindE hF
        refine ASL.q (v := (.rptr [(.int .i64 a31.from_), (.int .i64 a31.letter), (.int .i64 a31.to_), (.int .i64 a31.marks)])) rfl rfl (Light.quiet (kIx (f := TGEdge.av) ha31 rfl rfl rfl elemA_36 sizeA_61 rfl)) ?_
        refine ASL.q (v := (TGEdge.av a31)) rfl rfl (Light.quiet (opLoadRA rfl aggA_61 sizeA_61 rfl (nlt rfl) rfl)) ?_
        refine ASL.x rfl rfl (hNewZ hS [(.int .i64 0), (.int .i64 0), (.int .i64 0), (.int .i64 0)] rfl zeroA_61 ⟨.inl rfl, .inl rfl, .inl rfl, .inl rfl, trivial⟩ ?_); rintro b4 G10 hK hS
        refine ASL.q (v := (.int .i64 x28_l0)) rfl rfl (Light.quiet (opAssign rfl rfl)) ?_
        refine ASL.n rfl rfl (hPutA hS (j := 0) rfl rfl sizeA_61 rfl rfl rfl rfl rfl (nlt rfl) ?_); rintro G12 hS
        refine ASL.done ?_
        refine AWP.seq ?_
        refine AWP.seqR rfl ?_
        refine ASL.q (v := (.ptr b4 0)) rfl rfl (Light.quiet (opFieldAddr rfl fieldA_61_0 rfl rfl)) ?_
        refine ASL.q (v := (.int .i64 a31.from_)) rfl rfl (Light.quiet (kAt hS (j := 0) rfl rfl aggA_3 rfl rfl)) ?_
        refine ASL.q (v := (.rptr [(.int .i64 p0.states), (.int .i64 p0.start), (.int .i64 p0.sets), (.list 4 (List.map TGEdge.av p0.edges))])) rfl rfl (Light.quiet (opFieldAddrR rfl fieldA_38_1 rfl rfl)) ?_
        refine ASL.q (v := (.int .i64 p0.states)) rfl rfl (Light.quiet (opLoadR rfl aggA_3 rfl rfl)) ?_
        refine ASL.q (v := (.int .i64 (W (p0.states - 1)))) rfl rfl (Light.quiet (opInt rfl rfl rfl rfl)) ?_
        refine ASL.q (v := (.bool (impl_inRange a31.from_ 0 ((W (p0.states - 1)))))) rfl rfl ((qCall rfl rfl call_68 (impl_inRange_ok a31.from_ 0 ((W (p0.states - 1)))) rfl)) ?_
        refine ASL.q (v := (.bool (!(impl_inRange a31.from_ 0 ((W (p0.states - 1))))))) rfl rfl (Light.quiet (opNot rfl rfl)) ?_
        obtain ⟨c40, hc40, hF⟩ := bndE hF
        refine ASL.q (v := (.bool c40)) rfl rfl ((Quiet.cast (Light.quiet (opMove rfl rfl)) (congrArg AV.bool hc40.symm))) ?_
        refine ASL.g (v := (.ptr b4 2)) (.bool c40) false rfl (wF _) rfl (fun hG => by have q0 := gN hG; subst q0; exact Light.quiet (opFieldAddr rfl fieldA_61_2 rfl rfl)) ?_
        refine ASL.g (v := (.int .i64 a31.to_)) (.bool c40) false rfl (wF _) rfl (fun hG => by have q0 := gN hG; subst q0; exact Light.quiet (kAt hS (j := 0) rfl rfl aggA_3 rfl rfl)) ?_
        refine ASL.g (v := (.rptr [(.int .i64 p0.states), (.int .i64 p0.start), (.int .i64 p0.sets), (.list 4 (List.map TGEdge.av p0.edges))])) (.bool c40) false rfl (wF _) rfl (fun hG => by have q0 := gN hG; subst q0; exact Light.quiet (opFieldAddrR rfl fieldA_38_1 rfl rfl)) ?_
        refine ASL.g (v := (.int .i64 p0.states)) (.bool c40) false rfl (wF _) rfl (fun hG => by have q0 := gN hG; subst q0; exact Light.quiet (opLoadR rfl aggA_3 rfl rfl)) ?_
        refine ASL.g (v := (.int .i64 (W (p0.states - 1)))) (.bool c40) false rfl (wF _) rfl (fun hG => by have q0 := gN hG; subst q0; exact Light.quiet (opInt rfl rfl rfl rfl)) ?_
        refine ASL.g (v := (.bool (impl_inRange a31.to_ 0 ((W (p0.states - 1)))))) (.bool c40) false rfl (wF _) rfl (fun hG => by have q0 := gN hG; subst q0; exact (qCall rfl rfl call_68 (impl_inRange_ok a31.to_ 0 ((W (p0.states - 1)))) rfl)) ?_
        refine ASL.g (v := (.bool (!(impl_inRange a31.to_ 0 ((W (p0.states - 1))))))) (.bool c40) false rfl (wF _) rfl (fun hG => by have q0 := gN hG; subst q0; exact Light.quiet (opNot rfl rfl)) ?_
        refine ASL.q (v := (.bool (c40 || (!(impl_inRange a31.to_ 0 ((W (p0.states - 1)))))))) rfl rfl (Light.quiet (opPick (b := c40) rfl rfl (by cases c40 <;> rfl))) ?_
        obtain ⟨c49, hc49, hF⟩ := bndE hF
        refine ASL.q (v := (.bool c49)) rfl rfl ((Quiet.cast (Light.quiet (opMove rfl rfl)) (congrArg AV.bool hc49.symm))) ?_
        refine ASL.g (v := (.ptr b4 1)) (.bool c49) false rfl (wF _) rfl (fun hG => by have q0 := gN hG; subst q0; exact Light.quiet (opFieldAddr rfl fieldA_61_1 rfl rfl)) ?_
        refine ASL.g (v := (.int .i64 a31.letter)) (.bool c49) false rfl (wF _) rfl (fun hG => by have q0 := gN hG; subst q0; exact Light.quiet (kAt hS (j := 0) rfl rfl aggA_3 rfl rfl)) ?_
        refine ASL.g (v := (.rptr [(.int .i64 p0.letters), (.int .i64 p0.states), (.int .i64 p0.start), (.int .i64 p0.sets), (.list 4 (List.map TGEdge.av p0.edges))])) (.bool c49) false rfl (wF _) rfl (fun hG => by have q0 := gN hG; subst q0; exact Light.quiet (opFieldAddrR rfl fieldA_38_0 rfl rfl)) ?_
        refine ASL.g (v := (.int .i64 p0.letters)) (.bool c49) false rfl (wF _) rfl (fun hG => by have q0 := gN hG; subst q0; exact Light.quiet (opLoadR rfl aggA_3 rfl rfl)) ?_
        refine ASL.g (v := (.int .i64 (W (p0.letters - 1)))) (.bool c49) false rfl (wF _) rfl (fun hG => by have q0 := gN hG; subst q0; exact Light.quiet (opInt rfl rfl rfl rfl)) ?_
        refine ASL.g (v := (.bool (impl_inRange a31.letter 0 ((W (p0.letters - 1)))))) (.bool c49) false rfl (wF _) rfl (fun hG => by have q0 := gN hG; subst q0; exact (qCall rfl rfl call_68 (impl_inRange_ok a31.letter 0 ((W (p0.letters - 1)))) rfl)) ?_
        refine ASL.g (v := (.bool (!(impl_inRange a31.letter 0 ((W (p0.letters - 1))))))) (.bool c49) false rfl (wF _) rfl (fun hG => by have q0 := gN hG; subst q0; exact Light.quiet (opNot rfl rfl)) ?_
        refine ASL.q (v := (.bool (c49 || (!(impl_inRange a31.letter 0 ((W (p0.letters - 1)))))))) rfl rfl (Light.quiet (opPick (b := c49) rfl rfl (by cases c49 <;> rfl))) ?_
        refine ASL.done ?_
        refine AWP.ifB hF rfl (fun hc13 hF => ?_) (fun hc13 hF => ?_)
        · skip
          refine AWP.seqR rfl ?_
          refine ASL.q (v := (.bool false)) rfl rfl (Light.quiet (opAssign rfl rfl)) ?_
          refine ASL.done ?_
          refine AWP.ret ?_
          refine QThen.rt ?_
          refine QBlock.ret ?_
          refine QThen.rt ?_
          refine QThen.rt ?_
          refine QBlock.ret ?_
          refine QThen.rt ?_
          obtain rfl := (hx4 _ (someE hF).symm)
          have hF := hR7
          have hF := sumR hF
          obtain rfl := someE hF
          exact QRet.sole (v := (.bool false)) ⟨rfl, trivial⟩ rfl
        · skip
          refine AWP.skip ?_
          refine QThen.nrm ?_
          refine AWP.seqD [(0, false), (1, false), (2, false), (3, false), (4, false), (5, false), (6, false), (7, false), (8, false), (9, false), (10, false), (11, false), (12, false), (13, false), (14, false), (15, false), (16, false), (17, false), (18, false), (19, false), (20, false), (21, false), (22, false)] mixed (by kernel_rfl) rfl ?_
          refine ARL.q0 (v := (.ptr b4 3)) rfl rfl (Light.quiet (opFieldAddr rfl fieldA_61_3 rfl rfl)) ?_
          refine ARL.q (v := (.int .i64 a31.marks)) rfl rfl (hS.aliveC (k := 0) rfl) (Light.quiet (kAt hS (j := 0) rfl rfl aggA_3 rfl rfl)) ?_
          refine ARL.q0 (v := (.rptr [(.int .i64 p0.sets), (.list 4 (List.map TGEdge.av p0.edges))])) rfl rfl (Light.quiet (opFieldAddrR rfl fieldA_38_3 rfl rfl)) ?_
          refine ARL.q0 (v := (.int .i64 p0.sets)) rfl rfl (Light.quiet (opLoadR rfl aggA_3 rfl rfl)) ?_
          refine ARL.q0 (v := (.int .i64 (impl_only p0.sets))) rfl rfl ((qCall rfl rfl call_43 (impl_only_ok p0.sets) rfl)) ?_
          refine ARL.q0 (v := (.int .i64 (W (((impl_only p0.sets)) - 1)))) rfl rfl (Light.quiet (opInt rfl rfl rfl rfl)) ?_
          refine ARL.q0 (v := (.bool (impl_inRange a31.marks 0 ((W (((impl_only p0.sets)) - 1)))))) rfl rfl ((qCall rfl rfl call_68 (impl_inRange_ok a31.marks 0 ((W (((impl_only p0.sets)) - 1)))) rfl)) ?_
          refine ARL.q0 (v := (.bool (!(impl_inRange a31.marks 0 ((W (((impl_only p0.sets)) - 1))))))) rfl rfl (Light.quiet (opNot rfl rfl)) ?_
          obtain ⟨c66, hc66, hF⟩ := bndE hF
          refine ARL.q0 (v := (.bool c66)) rfl rfl ((Quiet.cast (Light.quiet (opMove rfl rfl)) (congrArg AV.bool hc66.symm))) ?_
          refine ARL.g (v := (.int .i64 x28_l0)) (.bool c66) false rfl (wF _) rfl noneAlive (fun hG => by have q0 := gN hG; subst q0; exact Light.quiet (opMove rfl rfl)) ?_
          refine ARL.g (v := (.bool (decide (x28_l0 > 0)))) (.bool c66) false rfl (wF _) rfl noneAlive (fun hG => by have q0 := gN hG; subst q0; exact Light.quiet (opInt rfl rfl rfl rfl)) ?_
          obtain ⟨c69, hc69, hF⟩ := bndE hF
          refine ARL.g (v := (.bool c69)) (.bool c66) false rfl (wF _) rfl noneAlive (fun hG => by have q0 := gN hG; subst q0; exact (Quiet.cast (Light.quiet (opMove rfl rfl)) (congrArg AV.bool hc69.symm))) ?_
          refine ARL.g (v := (.rptr [(.list 4 (List.map TGEdge.av p0.edges))])) (bif (!c66) then (.bool c69) else .tup []) true rfl (wGT _ _) rfl noneAlive (fun hG => by have q0 := gN (gA1 hG); have q1 := gA2 hG; subst q0; subst q1; exact Light.quiet (opFieldAddrR rfl fieldA_38_4 rfl rfl)) ?_
          refine ARL.g (v := (.list 4 (List.map TGEdge.av p0.edges))) (bif (!c66) then (.bool c69) else .tup []) true rfl (wGT _ _) rfl noneAlive (fun hG => by have q0 := gN (gA1 hG); have q1 := gA2 hG; subst q0; subst q1; exact Light.quiet (opLoadR rfl aggA_36 rfl rfl)) ?_
          refine ARL.g (v := (.int .i64 x28_l0)) (bif (!c66) then (.bool c69) else .tup []) true rfl (wGT _ _) rfl noneAlive (fun hG => by have q0 := gN (gA1 hG); have q1 := gA2 hG; subst q0; subst q1; exact Light.quiet (opMove rfl rfl)) ?_
          refine ARL.g (v := (.int .i64 (W (x28_l0 - 1)))) (bif (!c66) then (.bool c69) else .tup []) true rfl (wGT _ _) rfl noneAlive (fun hG => by have q0 := gN (gA1 hG); have q1 := gA2 hG; subst q0; subst q1; exact Light.quiet (opInt rfl rfl rfl rfl)) ?_
          obtain ⟨a74, ha74, hF⟩ := bindE hF
          refine ARL.g (v := (.rptr [(.int .i64 a74.from_), (.int .i64 a74.letter), (.int .i64 a74.to_), (.int .i64 a74.marks)])) (bif (!c66) then (.bool c69) else .tup []) true rfl (wGT _ _) rfl noneAlive (fun hG => by have q0 := gN (gA1 hG); have q1 := gA2 hG; subst q0; subst q1; exact Light.quiet (kIx (f := TGEdge.av) (whenE ha74) rfl rfl rfl elemA_36 sizeA_61 rfl)) ?_
          refine ARL.g (v := (TGEdge.av a74)) (bif (!c66) then (.bool c69) else .tup []) true rfl (wGT _ _) rfl noneAlive (fun hG => by have q0 := gN (gA1 hG); have q1 := gA2 hG; subst q0; subst q1; exact Light.quiet (opLoadRA rfl aggA_61 sizeA_61 rfl (nlt rfl) rfl)) ?_
          refine ARL.g (v := (TGEdge.av a31)) (bif (!c66) then (.bool c69) else .tup []) true rfl (wGT _ _) rfl (hS.aliveC (k := 0) rfl) (fun hG => by have q0 := gN (gA1 hG); have q1 := gA2 hG; subst q0; subst q1; exact Light.quiet (kAtA hS (j := 0) rfl rfl aggA_61 sizeA_61 rfl (nlt rfl) rfl)) ?_
          obtain ⟨a77, ha77, hF⟩ := bindE hF
          refine ARL.g (v := (.int .i64 a77)) (bif (!c66) then (.bool c69) else .tup []) true rfl (wGT _ _) rfl noneAlive (fun hG => by have q0 := gN (gA1 hG); have q1 := gA2 hG; subst q0; subst q1; exact (qCall rfl rfl call_48 (impl_compareGEdges_ok (whenE ha77)) rfl)) ?_
          refine ARL.g (v := (.bool (decide (a77 ≥ 0)))) (bif (!c66) then (.bool c69) else .tup []) true rfl (wGT _ _) rfl noneAlive (fun hG => by have q0 := gN (gA1 hG); have q1 := gA2 hG; subst q0; subst q1; exact Light.quiet (opInt rfl rfl rfl rfl)) ?_
          refine ARL.g (v := (.bool (c69 && (decide (a77 ≥ 0))))) (.bool c66) false rfl (wF _) rfl noneAlive (fun hG => by have q0 := gN hG; subst q0; exact Light.quiet (opPick (b := c69) rfl rfl (by cases c69 <;> rfl))) ?_
          refine ARL.q0 (v := (.bool (c66 || (c69 && (decide (a77 ≥ 0)))))) rfl rfl (Light.quiet (opPick (b := c66) rfl rfl (by cases c66 <;> rfl))) ?_
          refine ARL.done ?_
          refine AWP.ifB hF rfl (fun hc14 hF => ?_) (fun hc14 hF => ?_)
          · skip
            refine AWP.seqR rfl ?_
            refine ASL.q (v := (.bool false)) rfl rfl (Light.quiet (opAssign rfl rfl)) ?_
            refine ASL.done ?_
            refine AWP.ret ?_
            refine QBlock.ret ?_
            refine QThen.rt ?_
            refine QThen.rt ?_
            refine QBlock.ret ?_
            refine QThen.rt ?_
            obtain rfl := (hx4 _ (someE hF).symm)
            have hF := hR7
            have hF := sumR hF
            obtain rfl := someE hF
            exact QRet.sole (v := (.bool false)) ⟨rfl, trivial⟩ rfl
          · skip
            refine AWP.skip ?_
            refine QBlock.nrm ?_
            refine QThen.nrm ?_
            refine AWP.lastR rfl ?_
            refine ASL.q (v := (.int .i64 (W (x28_l0 + 1)))) rfl rfl (Light.quiet (opInt rfl rfl rfl rfl)) ?_
            refine ASL.q (v := (.int .i64 (W (x28_l0 + 1)))) rfl rfl (Light.quiet (opMove rfl rfl)) ?_
            refine ASL.done ?_
            refine QThen.nrm ?_
            exact ⟨(W (x28_l0 + 1)), (), (someE hF).symm, ⟨rfl, rfl, rfl, rfl, trivial⟩, (hS.pick [] rfl rfl)⟩
      · skip
        refine AWP.exit ?_
        refine QThen.ext ?_
        refine QThen.ext ?_
        refine QBlock.hit ?_
        obtain rfl := (hx4 _ (someE hF).symm)
        have hF := hR7
        have hF := sumL hF
        refine QThen.nrm ?_
        exact ⟨trivial, (hS.pick [] rfl rfl), hF⟩

set_option maxRecDepth 10000 in
theorem impl_SetList_ok {p0 : Int} {r : (List Int)} (hF : impl_SetList p0 = some r) : PO Tryz.prog 50 [(.int .i64 p0)] 1 (List.map (AV.int .i64) r) := by
  refine HC.enter Tryz.func50 rfl Tryz.ntmps50 (by simp) ?_
  have hS := Sep.void; unfold impl_SetList at hF
  refine AWP.seqR rfl ?_
  have hS := hNil (s := 1) (f := (AV.int .i64)) hS
  refine ASL.q (v := .nil) rfl rfl (Light.quiet (opAssign rfl rfl)) ?_
  refine ASL.done ?_
  refine AWP.seq ?_
  refine AWP.seqR rfl ?_
  refine ASL.q (v := (.int .i64 p0)) rfl rfl (Light.quiet (opMove rfl rfl)) ?_
  refine ASL.q (v := (.bool (impl_SetOk p0))) rfl rfl ((qCall rfl rfl call_77 (impl_SetOk_ok p0) rfl)) ?_
  refine ASL.q (v := (.bool (!(impl_SetOk p0)))) rfl rfl (Light.quiet (opNot rfl rfl)) ?_
  refine ASL.done ?_
  refine AWP.ifB hF rfl (fun hc2 hF => ?_) (fun hc2 hF => ?_)
  · skip
    refine AWP.seqR rfl ?_
    have hS := hNil (s := 1) (f := (AV.int .i64)) hS
    refine ASL.q (v := .nil) rfl rfl (Light.quiet (opAssign rfl rfl)) ?_
    refine ASL.done ?_
    refine AWP.ret ?_
    refine QThen.rt ?_
    obtain rfl := someE hF
    exact QRet.sole (v := .nil) ⟨rfl, trivial⟩ (hS.get (k := 0) rfl)
  · skip
    refine AWP.skip ?_
    refine QThen.nrm ?_
    refine AWP.seqR rfl ?_
    have hS := hNil (s := 1) (f := (AV.int .i64)) hS
    refine ASL.q (v := .nil) rfl rfl (Light.quiet (opAssign rfl rfl)) ?_
    refine ASL.done ?_
    refine AWP.seqM (fun e H => ∃ y5 : (List Int), ∃ w6 : AV, E.Told e [(3, w6)] ∧ E.Sep H [.row 1 w6 (List.map (AV.int .i64) y5)] ∧ impl_SetList.k0 y5 = some r) ?_ ?_
    · rintro e0 G8 ⟨y5, w6, hT, hS, hF⟩; refine AWP.only _ hT ?_; unfold impl_SetList.k0 at hF
      refine AWP.seqR rfl ?_
      refine ASL.q (v := w6) rfl rfl (Light.quiet (opMove rfl rfl)) ?_
      refine ASL.q (v := w6) rfl rfl (Light.quiet (opAssign rfl rfl)) ?_
      refine ASL.done ?_
      refine AWP.ret ?_
      obtain rfl := someE hF
      exact QRet.sole (v := w6) ⟨rfl, trivial⟩ (hS.get (k := 0) rfl)
    · skip
      refine AWP.seqR rfl ?_
      refine ASL.q (v := (.int .i64 0)) rfl rfl (Light.quiet (opMove rfl rfl)) ?_
      refine ASL.done ?_
      refine AWP.block ?_
      obtain ⟨o15, hL14, hR16⟩ := bindE hF
      refine AWP.loopF (ω := AV) hL14 (fun s w => [(0, (.int .i64 p0)), (3, w), (8, (.int .i64 s.2))]) (fun s w => [.row 1 w (List.map (AV.int .i64) s.1)]) .nil ⟨rfl, rfl, rfl, trivial⟩ (hS.pick [0] rfl rfl) ?_
      rintro ⟨y9, x8_l0⟩ w10 G17 hS x12 hF hx13
      try dsimp only at hS ⊢
      have hF : impl_SetList.b0 p0 y9 x8_l0 = some x12 := hF; unfold impl_SetList.b0 at hF
      refine AWP.seqR rfl ?_
      refine ASL.q (v := (.bool (decide (x8_l0 < 31)))) rfl rfl (Light.quiet (opInt rfl rfl rfl rfl)) ?_
      refine ASL.done ?_
      refine AWP.seq ?_
      refine AWP.ifP hF rfl (fun hc18 hF => ?_) (fun hc18 hF => ?_)
      · skip
        refine AWP.skip ?_
        refine QThen.nrm ?_
        refine AWP.seq ?_
        refine AWP.block ?_
        refine AWP.seqR rfl ?_
        refine ASL.q (v := (.int .i64 x8_l0)) rfl rfl (Light.quiet (opMove rfl rfl)) ?_
        refine ASL.q (v := (.int .i64 x8_l0)) rfl rfl (Light.quiet (opAssign rfl rfl)) ?_
        refine ASL.done ?_
        refine AWP.seqR rfl ?_
        refine ASL.q (v := (.int .i64 p0)) rfl rfl (Light.quiet (opMove rfl rfl)) ?_
        refine ASL.q (v := (.int .i64 x8_l0)) rfl rfl (Light.quiet (opMove rfl rfl)) ?_
        refine ASL.q (v := (.bool (impl_has p0 x8_l0))) rfl rfl ((qCall rfl rfl call_71 (impl_has_ok p0 x8_l0) rfl)) ?_
        refine ASL.done ?_
        refine AWP.ifB hF rfl (fun hc19 hF => ?_) (fun hc19 hF => ?_)
        · skip
          refine AWP.lastR rfl ?_
          refine ASL.q (v := w10) rfl rfl (Light.quiet (opMove rfl rfl)) ?_
          refine ASL.q (v := (.int .i64 x8_l0)) rfl rfl (Light.quiet (opMove rfl rfl)) ?_
          refine ASL.q (v := (.list 1 (List.map (AV.int .i64) [x8_l0]))) rfl rfl ((qLit (xs := [(.int .i64 x8_l0)]) rfl elemA_42 sizeA_3 zeroA_3 rfl rfl rfl rfl (by simp [cells]) (nlt rfl))) ?_
          obtain ⟨z17, hz17, hF⟩ := bindE hF
          refine ASL.x rfl rfl (hApp (f := (AV.int .i64)) (ws := [x8_l0]) hS (j := 0) rfl hz17 rfl elemA_42 rfl sizeA_3 bytesA_3 zeroA_3 rfl rfl rfl (fun _ => rfl) ?_); rintro v17 G20 hS
          refine ASL.q (v := v17) rfl rfl (Light.quiet (opAssign rfl rfl)) ?_
          refine ASL.done ?_
          refine QBlock.nrm ?_
          refine QThen.nrm ?_
          refine AWP.lastR rfl ?_
          refine ASL.q (v := (.int .i64 (W (x8_l0 + 1)))) rfl rfl (Light.quiet (opInt rfl rfl rfl rfl)) ?_
          refine ASL.q (v := (.int .i64 (W (x8_l0 + 1)))) rfl rfl (Light.quiet (opMove rfl rfl)) ?_
          refine ASL.done ?_
          refine QThen.nrm ?_
          exact ⟨(z17, (W (x8_l0 + 1))), v17, (someE hF).symm, ⟨rfl, rfl, rfl, trivial⟩, (hS.pick [0] rfl rfl)⟩
        · skip
          refine AWP.skip ?_
          refine QBlock.nrm ?_
          refine QThen.nrm ?_
          refine AWP.lastR rfl ?_
          refine ASL.q (v := (.int .i64 (W (x8_l0 + 1)))) rfl rfl (Light.quiet (opInt rfl rfl rfl rfl)) ?_
          refine ASL.q (v := (.int .i64 (W (x8_l0 + 1)))) rfl rfl (Light.quiet (opMove rfl rfl)) ?_
          refine ASL.done ?_
          refine QThen.nrm ?_
          exact ⟨(y9, (W (x8_l0 + 1))), w10, (someE hF).symm, ⟨rfl, rfl, rfl, trivial⟩, (hS.pick [0] rfl rfl)⟩
      · skip
        refine AWP.exit ?_
        refine QThen.ext ?_
        refine QThen.ext ?_
        refine QBlock.hit ?_
        obtain rfl := (hx13 _ (someE hF).symm)
        have hF := hR16
        refine QThen.nrm ?_
        exact ⟨y9, w10, ⟨rfl, trivial⟩, (hS.pick [0] rfl rfl), hF⟩

set_option maxRecDepth 10000 in
theorem impl_waitFor_ok {p0 : Int} {p1 : Int} {p2 : Int} {r : (Int × Bool)} (hF : impl_waitFor p0 p1 p2 = some r) : PC Tryz.prog 51 [(.int .i64 p0), (.int .i64 p1), (.int .i64 p2)] fun v => v = .tup [(.int .i64 r.1), (.bool r.2)] := by
  refine PC.enter Tryz.func51 rfl Tryz.ntmps51 (by simp) ?_
  have hS := Sep.void; unfold impl_waitFor at hF
  refine AWP.seqR rfl ?_
  refine ASL.q (v := (.int .i64 0)) rfl rfl (Light.quiet (opAssign rfl rfl)) ?_
  refine ASL.q (v := (.bool false)) rfl rfl (Light.quiet (opAssign rfl rfl)) ?_
  refine ASL.done ?_
  refine AWP.seqM (fun e H => ∃ x1_1 : Int, E.Told e [(1, (.int .i64 x1_1)), (2, (.int .i64 p2))] ∧ E.Sep H [] ∧ impl_waitFor.k0 p2 x1_1 = some r) ?_ ?_
  · rintro e0 G2 ⟨x1_1, hT, hS, hF⟩; refine AWP.only _ hT ?_; unfold impl_waitFor.k0 at hF
    refine AWP.seq ?_
    refine AWP.seqR rfl ?_
    refine ASL.q (v := (.int .i64 x1_1)) rfl rfl (Light.quiet (opMove rfl rfl)) ?_
    refine ASL.q (v := (.int .i64 p2)) rfl rfl (Light.quiet (opMove rfl rfl)) ?_
    refine ASL.q (v := (.bool (decide (x1_1 = p2)))) rfl rfl (Light.quiet (opInt rfl rfl rfl rfl)) ?_
    refine ASL.done ?_
    refine AWP.ifP hF rfl (fun hc1 hF => ?_) (fun hc1 hF => ?_)
    · skip
      refine AWP.seqR rfl ?_
      refine ASL.q (v := (.int .i64 0)) rfl rfl (Light.quiet (opAssign rfl rfl)) ?_
      refine ASL.q (v := (.bool true)) rfl rfl (Light.quiet (opAssign rfl rfl)) ?_
      refine ASL.done ?_
      refine AWP.ret ?_
      refine QThen.rt ?_
      obtain rfl := someE hF
      exact QRet.many (vs := [(.int .i64 0), (.bool true)]) ⟨rfl, rfl, trivial⟩ (by simp) rfl
    · skip
      refine AWP.skip ?_
      refine QThen.nrm ?_
      refine AWP.seqR rfl ?_
      refine ASL.q (v := (.int .i64 x1_1)) rfl rfl (Light.quiet (opMove rfl rfl)) ?_
      refine ASL.q (v := (.int .i64 x1_1)) rfl rfl (Light.quiet (opAssign rfl rfl)) ?_
      refine ASL.q (v := (.bool false)) rfl rfl (Light.quiet (opAssign rfl rfl)) ?_
      refine ASL.done ?_
      refine AWP.ret ?_
      obtain rfl := someE hF
      exact QRet.many (vs := [(.int .i64 x1_1), (.bool false)]) ⟨rfl, rfl, trivial⟩ (by simp) rfl
  · skip
    refine AWP.block ?_
    obtain ⟨o6, hL5, hR7⟩ := bindE hF
    refine AWP.loopF (ω := Unit) hL5 (fun s w => [(0, (.int .i64 p0)), (1, (.int .i64 s)), (2, (.int .i64 p2))]) (fun s w => []) () ⟨rfl, rfl, rfl, trivial⟩ (hS.pick [] rfl rfl) ?_
    rintro x1_l0 _ G8 hS x3 hF hx4
    try dsimp only at hS ⊢
    have hF : impl_waitFor.b0 p2 p0 x1_l0 = some x3 := hF; unfold impl_waitFor.b0 at hF
    refine AWP.seq ?_
    refine AWP.seqR rfl ?_
    refine ASL.q (v := (.int .i64 x1_l0)) rfl rfl (Light.quiet (opMove rfl rfl)) ?_
    refine ASL.q (v := (.int .i64 p2)) rfl rfl (Light.quiet (opMove rfl rfl)) ?_
    refine ASL.q (v := (.bool (decide (x1_l0 < p2)))) rfl rfl (Light.quiet (opInt rfl rfl rfl rfl)) ?_
    obtain ⟨c11, hc11, hF⟩ := bndE hF
    refine ASL.q (v := (.bool c11)) rfl rfl ((Quiet.cast (Light.quiet (opMove rfl rfl)) (congrArg AV.bool hc11.symm))) ?_
    refine ASL.g (v := (.int .i64 p0)) (.bool c11) true rfl (wT _) rfl (fun hG => by have q0 := hG; subst q0; exact Light.quiet (opMove rfl rfl)) ?_
    refine ASL.g (v := (.int .i64 x1_l0)) (.bool c11) true rfl (wT _) rfl (fun hG => by have q0 := hG; subst q0; exact Light.quiet (opMove rfl rfl)) ?_
    refine ASL.g (v := (.bool (impl_has p0 x1_l0))) (.bool c11) true rfl (wT _) rfl (fun hG => by have q0 := hG; subst q0; exact (qCall rfl rfl call_71 (impl_has_ok p0 x1_l0) rfl)) ?_
    refine ASL.q (v := (.bool (c11 && (impl_has p0 x1_l0)))) rfl rfl (Light.quiet (opPick (b := c11) rfl rfl (by cases c11 <;> rfl))) ?_
    refine ASL.done ?_
    refine AWP.ifB hF rfl (fun hc9 hF => ?_) (fun hc9 hF => ?_)
    · skip
      refine AWP.skip ?_
      refine QThen.nrm ?_
      refine AWP.block ?_
      refine AWP.lastR rfl ?_
      refine ASL.q (v := (.int .i64 x1_l0)) rfl rfl (Light.quiet (opMove rfl rfl)) ?_
      refine ASL.q (v := (.int .i64 (W (x1_l0 + 1)))) rfl rfl (Light.quiet (opInt rfl rfl rfl rfl)) ?_
      refine ASL.q (v := (.int .i64 (W (x1_l0 + 1)))) rfl rfl (Light.quiet (opAssign rfl rfl)) ?_
      refine ASL.done ?_
      refine QBlock.nrm ?_
      refine QThen.nrm ?_
      exact ⟨(W (x1_l0 + 1)), (), (someE hF).symm, ⟨rfl, rfl, rfl, trivial⟩, (hS.pick [] rfl rfl)⟩
    · skip
      refine AWP.exit ?_
      refine QThen.ext ?_
      refine QThen.ext ?_
      refine QBlock.hit ?_
      obtain rfl := (hx4 _ (someE hF).symm)
      have hF := hR7
      refine QThen.nrm ?_
      exact ⟨x1_l0, ⟨rfl, rfl, trivial⟩, (hS.pick [] rfl rfl), hF⟩

set_option maxRecDepth 10000 in
theorem slices_Clone_impl_Edge_impl_Edge_ok {p0 : (List TEdge)} {r : (List TEdge)} (hF : slices_Clone_impl_Edge_impl_Edge p0 = some r) : PO Tryz.prog 78 [(.list 4 (List.map TEdge.av p0))] 4 (List.map TEdge.av r) := by
  refine HC.enter Tryz.func78 rfl Tryz.ntmps78 (by simp) ?_
  have hS := Sep.void; unfold slices_Clone_impl_Edge_impl_Edge at hF
  refine AWP.seqR rfl ?_
  have hS := hNil (s := 4) (f := TEdge.av) hS
  refine ASL.q (v := .nil) rfl rfl (Light.quiet (opAssign rfl rfl)) ?_
  refine ASL.done ?_
  refine AWP.seq ?_
  refine AWP.seqR rfl ?_
  refine ASL.q (v := (.list 4 (List.map TEdge.av p0))) rfl rfl (Light.quiet (opMove rfl rfl)) ?_
  refine ASL.x rfl rfl (opNilT rfl und_24 rfl rfl ?_); rintro b4 hb4
  refine ASL.done ?_
  refine AWP.ifN hF rfl (fun h => by simpa using hb4 h) (fun h g => by subst h; exact g) (fun hF => ?_) (fun hF => ?_)
  · skip
    refine AWP.seqR rfl ?_
    have hS := hNil (s := 4) (f := TEdge.av) hS
    refine ASL.q (v := .nil) rfl rfl (Light.quiet (opAssign rfl rfl)) ?_
    refine ASL.done ?_
    refine AWP.ret ?_
    refine QThen.rt ?_
    obtain rfl := someE hF
    exact QRet.sole (v := .nil) ⟨rfl, trivial⟩ (hS.get (k := 0) rfl)
  · skip
    refine AWP.skip ?_
    refine QThen.nrm ?_
    refine AWP.seqR rfl ?_
    refine ASL.x rfl rfl (hLit (f := TEdge.av) (zs := []) hS rfl rfl elemA_24 sizeA_68 zeroA_68 rfl rfl rfl rfl (by simp [cells, TEdge.av]) (nlt rfl) ?_); rintro v5 G3 hK hS
    refine ASL.q (v := (.list 4 (List.map TEdge.av p0))) rfl rfl (Light.quiet (opMove rfl rfl)) ?_
    obtain ⟨z7, hz7, hF⟩ := bindE hF
    refine ASL.x rfl rfl (hApp (f := TEdge.av) (ws := p0) hS (j := 0) rfl hz7 rfl elemA_24 rfl sizeA_68 bytesA_68 zeroA_68 rfl rfl rfl (fun _ => rfl) ?_); rintro v7 G5 hS
    refine ASL.q (v := v7) rfl rfl (Light.quiet (opAssign rfl rfl)) ?_
    refine ASL.done ?_
    refine AWP.ret ?_
    obtain rfl := someE hF
    exact QRet.sole (v := v7) ⟨rfl, trivial⟩ (hS.get (k := 0) rfl)

def TEdge.enc (x : TEdge) : List Value := [.int .i64 x.from_, .int .i64 x.letter, .int .i64 x.to_, .bool x.good]
theorem TEdge.encOk : Enc 4 TEdge.av TEdge.enc where
  agg := fun _ => rfl
  len := fun _ => rfl
  elen := fun _ => rfl
  one := fun x v hv => by simp only [TEdge.enc, List.mem_cons, List.not_mem_nil, or_false] at hv; rcases hv with rfl | rfl | rfl | rfl <;> rfl
  to := fun x p hp ι v h => by
    match p, hp with
    | 0, _ => exact h.int_inv
    | 1, _ => exact h.int_inv
    | 2, _ => exact h.int_inv
    | 3, _ => exact h.bool_inv
  of := fun x p hp ι => by
    match p, hp with
    | 0, _ => exact .int _ _
    | 1, _ => exact .int _ _
    | 2, _ => exact .int _ _
    | 3, _ => exact .bool _
theorem slices_SortFunc_TEdge_ok {p0 r : List TEdge} {g1 : TEdge → TEdge → Option Int} {vp0 : AV} {k1 : Nat} (hcal1 : callable Tryz.prog k1 = true) (hg1 : ∀ q0 q1 y, g1 q0 q1 = some y → PC Tryz.prog k1 [q0.av, q1.av] fun v => v = .int .i64 y) (hF : slices_SortFunc_TEdge p0 g1 = some r) : HS Tryz.prog 79 [vp0, .fn (.func k1) [] []] [.row 4 vp0 (List.map TEdge.av p0)] fun v L' => v = .tup [] ∧ L' = [.row 4 vp0 (List.map TEdge.av r)] := HS.sort Tryz.sort79 TEdge.encOk Tryz.sort79_a Tryz.sort79_z hF hcal1 hg1

set_option maxRecDepth 10000 in
theorem impl_compareEdges_ok {p0 : TEdge} {p1 : TEdge} {r : Int} (hF : impl_compareEdges p0 p1 = some r) : PC Tryz.prog 80 [(TEdge.av p0), (TEdge.av p1)] fun v => v = (.int .i64 r) := by
  refine PC.enter Tryz.func80 rfl Tryz.ntmps80 (by simp) ?_
  have hS := Sep.void; unfold impl_compareEdges at hF
  refine AWP.seqR rfl ?_
  refine ASL.q (v := (.rptr [(.int .i64 p0.from_), (.int .i64 p0.letter), (.int .i64 p0.to_), (.bool p0.good)])) rfl rfl ((qBoxI (v := (TEdge.av p0)) rfl rfl rfl rfl)) ?_
  refine ASL.q (v := (.rptr [(.int .i64 p1.from_), (.int .i64 p1.letter), (.int .i64 p1.to_), (.bool p1.good)])) rfl rfl ((qBoxI (v := (TEdge.av p1)) rfl rfl rfl rfl)) ?_
  refine ASL.q (v := (.int .i64 0)) rfl rfl (Light.quiet (opAssign rfl rfl)) ?_
  refine ASL.done ?_
  refine AWP.seqD [(0, false), (1, false), (2, false), (3, false), (4, false), (5, false), (6, false), (7, false), (8, false), (9, false), (10, false), (11, false), (12, false), (13, false), (14, false), (15, false), (16, false), (17, false)] mixed (by kernel_rfl) rfl ?_
  refine ARL.q0 (v := (.rptr [(.int .i64 p0.from_), (.int .i64 p0.letter), (.int .i64 p0.to_), (.bool p0.good)])) rfl rfl (Light.quiet (opFieldAddrR rfl fieldA_68_0 rfl rfl)) ?_
  refine ARL.q0 (v := (.int .i64 p0.from_)) rfl rfl (Light.quiet (opLoadR rfl aggA_3 rfl rfl)) ?_
  refine ARL.q0 (v := (.rptr [(.int .i64 p1.from_), (.int .i64 p1.letter), (.int .i64 p1.to_), (.bool p1.good)])) rfl rfl (Light.quiet (opFieldAddrR rfl fieldA_68_0 rfl rfl)) ?_
  refine ARL.q0 (v := (.int .i64 p1.from_)) rfl rfl (Light.quiet (opLoadR rfl aggA_3 rfl rfl)) ?_
  refine ARL.q0 (v := (.int .i64 (cmp_Compare_int p0.from_ p1.from_))) rfl rfl ((qCall rfl rfl call_75 (cmp_Compare_int_ok p0.from_ p1.from_) rfl)) ?_
  refine ARL.q0 (v := (.rptr [(.int .i64 p0.letter), (.int .i64 p0.to_), (.bool p0.good)])) rfl rfl (Light.quiet (opFieldAddrR rfl fieldA_68_1 rfl rfl)) ?_
  refine ARL.q0 (v := (.int .i64 p0.letter)) rfl rfl (Light.quiet (opLoadR rfl aggA_3 rfl rfl)) ?_
  refine ARL.q0 (v := (.rptr [(.int .i64 p1.letter), (.int .i64 p1.to_), (.bool p1.good)])) rfl rfl (Light.quiet (opFieldAddrR rfl fieldA_68_1 rfl rfl)) ?_
  refine ARL.q0 (v := (.int .i64 p1.letter)) rfl rfl (Light.quiet (opLoadR rfl aggA_3 rfl rfl)) ?_
  refine ARL.q0 (v := (.int .i64 (cmp_Compare_int p0.letter p1.letter))) rfl rfl ((qCall rfl rfl call_75 (cmp_Compare_int_ok p0.letter p1.letter) rfl)) ?_
  refine ARL.q0 (v := (.rptr [(.int .i64 p0.to_), (.bool p0.good)])) rfl rfl (Light.quiet (opFieldAddrR rfl fieldA_68_2 rfl rfl)) ?_
  refine ARL.q0 (v := (.int .i64 p0.to_)) rfl rfl (Light.quiet (opLoadR rfl aggA_3 rfl rfl)) ?_
  refine ARL.q0 (v := (.rptr [(.int .i64 p1.to_), (.bool p1.good)])) rfl rfl (Light.quiet (opFieldAddrR rfl fieldA_68_2 rfl rfl)) ?_
  refine ARL.q0 (v := (.int .i64 p1.to_)) rfl rfl (Light.quiet (opLoadR rfl aggA_3 rfl rfl)) ?_
  refine ARL.q0 (v := (.int .i64 (cmp_Compare_int p0.to_ p1.to_))) rfl rfl ((qCall rfl rfl call_75 (cmp_Compare_int_ok p0.to_ p1.to_) rfl)) ?_
  refine ARL.q0 (v := (.list 1 (List.map (AV.int .i64) [(cmp_Compare_int p0.from_ p1.from_), (cmp_Compare_int p0.letter p1.letter), (cmp_Compare_int p0.to_ p1.to_)]))) rfl rfl ((qLit (xs := [(.int .i64 (cmp_Compare_int p0.from_ p1.from_)), (.int .i64 (cmp_Compare_int p0.letter p1.letter)), (.int .i64 (cmp_Compare_int p0.to_ p1.to_))]) rfl elemA_42 sizeA_3 zeroA_3 rfl rfl rfl rfl (by simp [cells]) (nlt rfl))) ?_
  obtain ⟨a21, ha21, hF⟩ := bindE hF
  refine ARL.q0 (v := (.int .i64 a21)) rfl rfl ((qCall rfl rfl call_74 (cmp_Or_int_ok ha21) rfl)) ?_
  refine ARL.q0 (v := (.int .i64 a21)) rfl rfl (Light.quiet (opAssign rfl rfl)) ?_
  refine ARL.done ?_
  refine AWP.ret ?_
  obtain rfl := someE hF
  exact QRet.sole (v := (.int .i64 a21)) ⟨rfl, trivial⟩ rfl

set_option maxRecDepth 10000 in
theorem impl_ordered_ok {p0 : (List TEdge)} {r : (List TEdge)} (hF : impl_ordered p0 = some r) : PO Tryz.prog 52 [(.list 4 (List.map TEdge.av p0))] 4 (List.map TEdge.av r) := by
  refine HC.enter Tryz.func52 rfl Tryz.ntmps52 (by simp) ?_
  have hS := Sep.void; unfold impl_ordered at hF
  refine AWP.seqR rfl ?_
  have hS := hNil (s := 4) (f := TEdge.av) hS
  refine ASL.q (v := .nil) rfl rfl (Light.quiet (opAssign rfl rfl)) ?_
  refine ASL.done ?_
  refine AWP.seqR rfl ?_
  refine ASL.q (v := (.list 4 (List.map TEdge.av p0))) rfl rfl (Light.quiet (opMove rfl rfl)) ?_
  obtain ⟨a9, ha9, hF⟩ := bindE hF
  refine ASL.x rfl rfl (hCallO hS rfl rfl call_78 (slices_Clone_impl_Edge_impl_Edge_ok ha9) rfl ?_); rintro v9 G2 hK hS
  refine ASL.q (v := v9) rfl rfl (Light.quiet (opAssign rfl rfl)) ?_
  refine ASL.done ?_
  refine AWP.seqR rfl ?_
  refine ASL.q (v := v9) rfl rfl (Light.quiet (opMove rfl rfl)) ?_
  obtain ⟨a11, ha11, hF⟩ := bindE hF
  refine ASL.x rfl rfl (hCallS hS [0, 1] (F := [.row 4 .nil (List.map TEdge.av ([]))]) rfl rfl rfl call_79 (slices_SortFunc_TEdge_ok call_80 (fun q0 q1 y h => impl_compareEdges_ok h) ha11) rfl rfl ?_); rintro _ _ G4 ⟨rfl, rfl⟩ hS
  refine ASL.done ?_
  refine AWP.seqR rfl ?_
  have hS := hNil (s := 4) (f := TEdge.av) hS
  refine ASL.q (v := .nil) rfl rfl (Light.quiet (opAssign rfl rfl)) ?_
  refine ASL.done ?_
  refine AWP.seqM (fun e H => ∃ y6 : (List TEdge), ∃ w7 : AV, E.Told e [(4, w7)] ∧ E.Sep H [.row 4 w7 (List.map TEdge.av y6)] ∧ impl_ordered.k0 y6 = some r) ?_ ?_
  · rintro e0 G9 ⟨y6, w7, hT, hS, hF⟩; refine AWP.only _ hT ?_; unfold impl_ordered.k0 at hF
    refine AWP.seqR rfl ?_
    refine ASL.q (v := w7) rfl rfl (Light.quiet (opMove rfl rfl)) ?_
    refine ASL.q (v := w7) rfl rfl (Light.quiet (opAssign rfl rfl)) ?_
    refine ASL.done ?_
    refine AWP.ret ?_
    obtain rfl := someE hF
    exact QRet.sole (v := w7) ⟨rfl, trivial⟩ (hS.get (k := 0) rfl)
  · skip
    refine AWP.seqR rfl ?_
    refine ASL.q (v := v9) rfl rfl (Light.quiet (opMove rfl rfl)) ?_
    refine ASL.q (v := (.int .i64 (a11.length : Int))) rfl rfl (Light.quiet (kLen hS (j := 1) rfl rfl rfl rfl lenT_24 rfl)) ?_
    refine ASL.q (v := (.int .i64 0)) rfl rfl (Light.quiet (opMove rfl rfl)) ?_
    refine ASL.done ?_
    refine AWP.block ?_
    obtain ⟨o16, hL15, hR17⟩ := bindE hF
    refine AWP.loopF (ω := AV) hL15 (fun s w => [(4, w), (12, v9), (13, (.int .i64 (a11.length : Int))), (14, (.int .i64 s.2))]) (fun s w => [.row 4 w (List.map TEdge.av s.1), .row 4 v9 (List.map TEdge.av a11)]) .nil ⟨rfl, rfl, rfl, rfl, trivial⟩ (hS.pick [0, 1] rfl rfl) ?_
    rintro ⟨y10, x14_l0⟩ w11 G18 hS x13 hF hx14
    try dsimp only at hS ⊢
    have hF : impl_ordered.b0 a11 y10 x14_l0 = some x13 := hF; unfold impl_ordered.b0 at hF
    refine AWP.seqR rfl ?_
    refine ASL.q (v := (.bool (decide (x14_l0 < ((a11.length : Int)))))) rfl rfl (Light.quiet (opInt rfl rfl rfl rfl)) ?_
    refine ASL.done ?_
    refine AWP.seq ?_
    refine AWP.ifP hF rfl (fun hc19 hF => ?_) (fun hc19 hF => ?_)
    · skip
      refine AWP.skip ?_
      refine QThen.nrm ?_
      refine AWP.seq ?_
      refine AWP.block ?_
      refine AWP.seqR rfl ?_
      obtain ⟨a16, ha16, hF⟩ := bindE hF
      refine ASL.q (v := (ptrTo v9 x14_l0.toNat 4)) rfl rfl (Light.quiet (kIxOx hS (j := 1) rfl ha16 rfl rfl rfl elemA_24 sizeA_68)) ?_
      refine ASL.q (v := (TEdge.av a16)) rfl rfl (Light.quiet (kLdA hS (j := 1) rfl ha16 rfl aggA_68 sizeA_68 rfl rfl)) ?_
      refine ASL.x rfl rfl (hNewZ hS [(.int .i64 0), (.int .i64 0), (.int .i64 0), (.bool false)] rfl zeroA_68 ⟨.inl rfl, .inl rfl, .inl rfl, .inl rfl, trivial⟩ ?_); rintro b6 G20 hK hS
      refine ASL.n rfl rfl (hPutA hS (j := 0) rfl rfl sizeA_68 rfl rfl rfl rfl rfl (nlt rfl) ?_); rintro G22 hS
      refine ASL.done ?_
      refine AWP.seqR rfl ?_
      refine ASL.q (v := w11) rfl rfl (Light.quiet (opMove rfl rfl)) ?_
      refine ASL.q (v := (.int .i64 (y10.length : Int))) rfl rfl (Light.quiet (kLen hS (j := 1) rfl rfl rfl rfl lenT_24 rfl)) ?_
      refine ASL.q (v := (.int .i64 (W (((y10.length : Int)) - 1)))) rfl rfl (Light.quiet (opInt rfl rfl rfl rfl)) ?_
      refine ASL.q (v := (.int .i64 (W (((y10.length : Int)) - 1)))) rfl rfl (Light.quiet (opAssign rfl rfl)) ?_
      refine ASL.done ?_
      refine AWP.seqD [(0, false), (1, false), (2, false), (3, false), (4, false), (5, false), (6, false), (7, false), (8, false), (9, false), (10, false)] mixed (by kernel_rfl) rfl ?_
      refine ARL.q0 (v := (.int .i64 (W (((y10.length : Int)) - 1)))) rfl rfl (Light.quiet (opMove rfl rfl)) ?_
      refine ARL.q0 (v := (.bool (decide (((W (((y10.length : Int)) - 1))) ≥ 0)))) rfl rfl (Light.quiet (opInt rfl rfl rfl rfl)) ?_
      obtain ⟨c23, hc23, hF⟩ := bndE hF
      refine ARL.q0 (v := (.bool c23)) rfl rfl ((Quiet.cast (Light.quiet (opMove rfl rfl)) (congrArg AV.bool hc23.symm))) ?_
      refine ARL.g (v := w11) (.bool c23) true rfl (wT _) rfl noneAlive (fun hG => by have q0 := hG; subst q0; exact Light.quiet (opMove rfl rfl)) ?_
      refine ARL.g (v := (.int .i64 (W (((y10.length : Int)) - 1)))) (.bool c23) true rfl (wT _) rfl noneAlive (fun hG => by have q0 := hG; subst q0; exact Light.quiet (opMove rfl rfl)) ?_
      obtain ⟨a26, ha26, hF⟩ := bindE hF
      refine ARL.g (v := (ptrTo w11 ((W (((y10.length : Int)) - 1))).toNat 4)) (.bool c23) true rfl (wT _) rfl noneAlive (fun hG => by have q0 := hG; subst q0; exact Light.quiet (kIxOx hS (j := 1) rfl (whenE ha26) rfl rfl rfl elemA_24 sizeA_68)) ?_
      refine ARL.g (v := (TEdge.av a26)) (.bool c23) true rfl (wT _) rfl (hS.aliveR (k := 1) rfl) (fun hG => by have q0 := hG; subst q0; exact Light.quiet (kLdA hS (j := 1) rfl (whenE ha26) rfl aggA_68 sizeA_68 rfl rfl)) ?_
      refine ARL.g (v := (TEdge.av a16)) (.bool c23) true rfl (wT _) rfl (hS.aliveC (k := 0) rfl) (fun hG => by have q0 := hG; subst q0; exact Light.quiet (kAtA hS (j := 0) rfl rfl aggA_68 sizeA_68 rfl (nlt rfl) rfl)) ?_
      obtain ⟨a29, ha29, hF⟩ := bindE hF
      refine ARL.g (v := (.int .i64 a29)) (.bool c23) true rfl (wT _) rfl noneAlive (fun hG => by have q0 := hG; subst q0; exact (qCall rfl rfl call_80 (impl_compareEdges_ok (whenE ha29)) rfl)) ?_
      refine ARL.g (v := (.bool (decide (a29 = 0)))) (.bool c23) true rfl (wT _) rfl noneAlive (fun hG => by have q0 := hG; subst q0; exact Light.quiet (opInt rfl rfl rfl rfl)) ?_
      refine ARL.q0 (v := (.bool (c23 && (decide (a29 = 0))))) rfl rfl (Light.quiet (opPick (b := c23) rfl rfl (by cases c23 <;> rfl))) ?_
      refine ARL.done ?_
      refine AWP.ifB hF rfl (fun hc23 hF => ?_) (fun hc23 hF => ?_)
      · skip
        refine AWP.lastR rfl ?_
        refine ASL.q (v := w11) rfl rfl (Light.quiet (opMove rfl rfl)) ?_
        refine ASL.q (v := (.int .i64 (W (((y10.length : Int)) - 1)))) rfl rfl (Light.quiet (opMove rfl rfl)) ?_
        refine ASL.q (v := w11) rfl rfl (Light.quiet (opMove rfl rfl)) ?_
        refine ASL.q (v := (.int .i64 (W (((y10.length : Int)) - 1)))) rfl rfl (Light.quiet (opMove rfl rfl)) ?_
        obtain ⟨a36, ha36, hF⟩ := bindE hF
        refine ASL.q (v := (ptrTo w11 ((W (((y10.length : Int)) - 1))).toNat 4)) rfl rfl (Light.quiet (kIxOx hS (j := 1) rfl ha36 rfl rfl rfl elemA_24 sizeA_68)) ?_
        refine ASL.q (v := (ptrOff w11 ((W (((y10.length : Int)) - 1))).toNat 4 3)) rfl rfl (Light.quiet (kFldO (p := 3) hS (j := 1) rfl ha36 rfl fieldA_68_3 rfl)) ?_
        refine ASL.q (v := (.bool a36.good)) rfl rfl (Light.quiet (kLdP (f := TEdge.av) hS (j := 1) rfl ha36 rfl aggA_4 rfl rfl)) ?_
        obtain ⟨c39, hc39, hF⟩ := bndE hF
        refine ASL.q (v := (.bool c39)) rfl rfl ((Quiet.cast (Light.quiet (opMove rfl rfl)) (congrArg AV.bool hc39.symm))) ?_
        refine ASL.g (v := (.ptr b6 3)) (.bool c39) false rfl (wF _) rfl (fun hG => by have q0 := gN hG; subst q0; exact Light.quiet (opFieldAddr rfl fieldA_68_3 rfl rfl)) ?_
        refine ASL.g (v := (.bool a16.good)) (.bool c39) false rfl (wF _) rfl (fun hG => by have q0 := gN hG; subst q0; exact Light.quiet (kAt hS (j := 0) rfl rfl aggA_4 rfl rfl)) ?_
        refine ASL.q (v := (.bool (c39 || a16.good))) rfl rfl (Light.quiet (opPick (b := c39) rfl rfl (by cases c39 <;> rfl))) ?_
        obtain ⟨m43, hm43, hF⟩ := bindE hF
        refine ASL.q (v := (ptrTo w11 m43 4)) rfl rfl (Light.quiet (kIxO hS (j := 1) rfl hm43 rfl rfl rfl elemA_24 sizeA_68)) ?_
        refine ASL.q (v := (ptrOff w11 m43 4 3)) rfl rfl (Light.quiet (kFldC (p := 3) hS (j := 1) rfl hm43 rfl fieldA_68_3 rfl)) ?_
        refine ASL.n rfl rfl (hStF (f := TEdge.av) (g := (fun q : TEdge => { q with good := (c39 || a16.good) })) (p := 3) hS (j := 1) rfl hm43 rfl sizeA_4 rfl rfl (fun _ => ⟨_, rfl, nlt rfl, rfl⟩) rfl ?_); rintro G24 hS
        refine ASL.done ?_
        refine QBlock.nrm ?_
        refine QThen.nrm ?_
        refine AWP.lastR rfl ?_
        refine ASL.q (v := (.int .i64 (W (x14_l0 + 1)))) rfl rfl (Light.quiet (opInt rfl rfl rfl rfl)) ?_
        refine ASL.q (v := (.int .i64 (W (x14_l0 + 1)))) rfl rfl (Light.quiet (opMove rfl rfl)) ?_
        refine ASL.done ?_
        refine QThen.nrm ?_
        exact ⟨((y10.set m43 ((fun q : TEdge => { q with good := (c39 || a16.good) }) (y10.getD m43 default))), (W (x14_l0 + 1))), w11, (someE hF).symm, ⟨rfl, rfl, rfl, rfl, trivial⟩, (hS.pick [1, 2] rfl rfl)⟩
      · skip
        refine AWP.lastR rfl ?_
        refine ASL.q (v := w11) rfl rfl (Light.quiet (opMove rfl rfl)) ?_
        refine ASL.q (v := (TEdge.av a16)) rfl rfl (Light.quiet (kAtA hS (j := 0) rfl rfl aggA_68 sizeA_68 rfl (nlt rfl) rfl)) ?_
        refine ASL.q (v := (.list 4 (List.map TEdge.av [a16]))) rfl rfl ((qLit (xs := [(TEdge.av a16)]) rfl elemA_24 sizeA_68 zeroA_68 rfl rfl rfl rfl (by simp [cells, TEdge.av]) (nlt rfl))) ?_
        obtain ⟨z48, hz48, hF⟩ := bindE hF
        refine ASL.x rfl rfl (hApp (f := TEdge.av) (ws := [a16]) hS (j := 1) rfl hz48 rfl elemA_24 rfl sizeA_68 bytesA_68 zeroA_68 rfl rfl rfl (fun _ => rfl) ?_); rintro v48 G25 hS
        refine ASL.q (v := v48) rfl rfl (Light.quiet (opAssign rfl rfl)) ?_
        refine ASL.done ?_
        refine QBlock.nrm ?_
        refine QThen.nrm ?_
        refine AWP.lastR rfl ?_
        refine ASL.q (v := (.int .i64 (W (x14_l0 + 1)))) rfl rfl (Light.quiet (opInt rfl rfl rfl rfl)) ?_
        refine ASL.q (v := (.int .i64 (W (x14_l0 + 1)))) rfl rfl (Light.quiet (opMove rfl rfl)) ?_
        refine ASL.done ?_
        refine QThen.nrm ?_
        exact ⟨(z48, (W (x14_l0 + 1))), v48, (someE hF).symm, ⟨rfl, rfl, rfl, rfl, trivial⟩, (hS.pick [1, 2] rfl rfl)⟩
    · skip
      refine AWP.exit ?_
      refine QThen.ext ?_
      refine QThen.ext ?_
      refine QBlock.hit ?_
      obtain rfl := (hx14 _ (someE hF).symm)
      have hF := hR17
      refine QThen.nrm ?_
      exact ⟨y10, w11, ⟨rfl, trivial⟩, (hS.pick [0] rfl rfl), hF⟩

set_option maxRecDepth 10000 in
theorem impl_AutoOk_ok {p0 : TAuto} {r : Bool} (hF : impl_AutoOk p0 = some r) : PC Tryz.prog 54 [(TAuto.av p0)] fun v => v = (.bool r) := by
  refine PC.enter Tryz.func54 rfl Tryz.ntmps54 (by simp) ?_
  have hS := Sep.void; unfold impl_AutoOk at hF
  refine AWP.seqR rfl ?_
  refine ASL.q (v := (.rptr [(.int .i64 p0.letters), (.int .i64 p0.states), (.int .i64 p0.start), (.list 4 (List.map TEdge.av p0.edges))])) rfl rfl ((qBoxI (v := (TAuto.av p0)) rfl rfl rfl rfl)) ?_
  refine ASL.q (v := (.bool false)) rfl rfl (Light.quiet (opAssign rfl rfl)) ?_
  refine ASL.done ?_
  refine AWP.seq ?_
  refine AWP.seqR rfl ?_
  refine ASL.q (v := (.rptr [(.int .i64 p0.letters), (.int .i64 p0.states), (.int .i64 p0.start), (.list 4 (List.map TEdge.av p0.edges))])) rfl rfl (Light.quiet (opFieldAddrR rfl fieldA_26_0 rfl rfl)) ?_
  refine ASL.q (v := (.int .i64 p0.letters)) rfl rfl (Light.quiet (opLoadR rfl aggA_3 rfl rfl)) ?_
  refine ASL.q (v := (.rptr [(.int .i64 p0.states), (.int .i64 p0.start), (.list 4 (List.map TEdge.av p0.edges))])) rfl rfl (Light.quiet (opFieldAddrR rfl fieldA_26_1 rfl rfl)) ?_
  refine ASL.q (v := (.int .i64 p0.states)) rfl rfl (Light.quiet (opLoadR rfl aggA_3 rfl rfl)) ?_
  refine ASL.q (v := (.rptr [(.int .i64 p0.start), (.list 4 (List.map TEdge.av p0.edges))])) rfl rfl (Light.quiet (opFieldAddrR rfl fieldA_26_2 rfl rfl)) ?_
  refine ASL.q (v := (.int .i64 p0.start)) rfl rfl (Light.quiet (opLoadR rfl aggA_3 rfl rfl)) ?_
  refine ASL.q (v := (.bool (impl_headOk p0.letters p0.states p0.start))) rfl rfl ((qCall rfl rfl call_76 (impl_headOk_ok p0.letters p0.states p0.start) rfl)) ?_
  refine ASL.q (v := (.bool (!(impl_headOk p0.letters p0.states p0.start)))) rfl rfl (Light.quiet (opNot rfl rfl)) ?_
  obtain ⟨c13, hc13, hF⟩ := bndE hF
  refine ASL.q (v := (.bool c13)) rfl rfl ((Quiet.cast (Light.quiet (opMove rfl rfl)) (congrArg AV.bool hc13.symm))) ?_
  refine ASL.g (v := (.rptr [(.list 4 (List.map TEdge.av p0.edges))])) (.bool c13) false rfl (wF _) rfl (fun hG => by have q0 := gN hG; subst q0; exact Light.quiet (opFieldAddrR rfl fieldA_26_3 rfl rfl)) ?_
  refine ASL.g (v := (.list 4 (List.map TEdge.av p0.edges))) (.bool c13) false rfl (wF _) rfl (fun hG => by have q0 := gN hG; subst q0; exact Light.quiet (opLoadR rfl aggA_24 rfl rfl)) ?_
  refine ASL.g (v := (.int .i64 (p0.edges.length : Int))) (.bool c13) false rfl (wF _) rfl (fun hG => by have q0 := gN hG; subst q0; exact Light.quiet (opLenMap (f := TEdge.av) rfl rfl rfl lenT_24 rfl)) ?_
  refine ASL.g (v := (.bool (decide (((p0.edges.length : Int)) > 2000)))) (.bool c13) false rfl (wF _) rfl (fun hG => by have q0 := gN hG; subst q0; exact Light.quiet (opInt rfl rfl rfl rfl)) ?_
  refine ASL.q (v := (.bool (c13 || (decide (((p0.edges.length : Int)) > 2000))))) rfl rfl (Light.quiet (opPick (b := c13) rfl rfl (by cases c13 <;> rfl))) ?_
  refine ASL.done ?_
  refine AWP.ifB hF rfl (fun hc1 hF => ?_) (fun hc1 hF => ?_)
  · skip
    refine AWP.seqR rfl ?_
    refine ASL.q (v := (.bool false)) rfl rfl (Light.quiet (opAssign rfl rfl)) ?_
    refine ASL.done ?_
    refine AWP.ret ?_
    refine QThen.rt ?_
    obtain rfl := someE hF
    exact QRet.sole (v := (.bool false)) ⟨rfl, trivial⟩ rfl
  · skip
    refine AWP.skip ?_
    refine QThen.nrm ?_
    refine AWP.seqM (fun e H => E.Told e [] ∧ E.Sep H [] ∧ impl_AutoOk.k0 = some r) ?_ ?_
    · rintro e0 G2 ⟨hT, hS, hF⟩; refine AWP.only _ hT ?_; unfold impl_AutoOk.k0 at hF
      refine AWP.seqR rfl ?_
      refine ASL.q (v := (.bool true)) rfl rfl (Light.quiet (opAssign rfl rfl)) ?_
      refine ASL.done ?_
      refine AWP.ret ?_
      obtain rfl := someE hF
      exact QRet.sole (v := (.bool true)) ⟨rfl, trivial⟩ rfl
    · skip
      refine AWP.seqR rfl ?_
      refine ASL.q (v := (.rptr [(.list 4 (List.map TEdge.av p0.edges))])) rfl rfl (Light.quiet (opFieldAddrR rfl fieldA_26_3 rfl rfl)) ?_
      refine ASL.q (v := (.list 4 (List.map TEdge.av p0.edges))) rfl rfl (Light.quiet (opLoadR rfl aggA_24 rfl rfl)) ?_
      refine ASL.q (v := (.int .i64 (p0.edges.length : Int))) rfl rfl (Light.quiet (opLenMap (f := TEdge.av) rfl rfl rfl lenT_24 rfl)) ?_
      refine ASL.q (v := (.int .i64 0)) rfl rfl (Light.quiet (opMove rfl rfl)) ?_
      refine ASL.done ?_
      refine AWP.block ?_
      obtain ⟨o6, hL5, hR7⟩ := bindE hF
      refine AWP.loopF (ω := Unit) hL5 (fun s w => [(1, (.rptr [(.int .i64 p0.letters), (.int .i64 p0.states), (.int .i64 p0.start), (.list 4 (List.map TEdge.av p0.edges))])), (20, (.list 4 (List.map TEdge.av p0.edges))), (21, (.int .i64 (p0.edges.length : Int))), (22, (.int .i64 s))]) (fun s w => []) () ⟨rfl, rfl, rfl, rfl, trivial⟩ (hS.pick [] rfl rfl) ?_
      rintro x22_l0 _ G8 hS x3 hF hx4
      try dsimp only at hS ⊢
      have hF : impl_AutoOk.b0 p0 x22_l0 = some x3 := hF; unfold impl_AutoOk.b0 at hF
      refine AWP.seqR rfl ?_
      refine ASL.q (v := (.bool (decide (x22_l0 < ((p0.edges.length : Int)))))) rfl rfl (Light.quiet (opInt rfl rfl rfl rfl)) ?_
      refine ASL.done ?_
      refine AWP.seq ?_
      refine AWP.ifP hF rfl (fun hc9 hF => ?_) (fun hc9 hF => ?_)
      · skip
        refine AWP.skip ?_
        refine QThen.nrm ?_
        refine AWP.seq ?_
        refine AWP.block ?_
        refine AWP.seqR rfl ?_
        refine ASL.q (v := (.int .i64 x22_l0)) rfl rfl (Light.quiet (opMove rfl rfl)) ?_
        obtain ⟨a25, ha25, hF⟩ := bindE hF
        refine ASL.q (v := (.rptr [(.int .i64 a25.from_), (.int .i64 a25.letter), (.int .i64 a25.to_), (.bool a25.good)])) rfl rfl (Light.quiet (kIx (f := TEdge.av) ha25 rfl rfl rfl elemA_24 sizeA_68 rfl)) ?_
        refine ASL.q (v := (TEdge.av a25)) rfl rfl (Light.quiet (opLoadRA rfl aggA_68 sizeA_68 rfl (nlt rfl) rfl)) ?_
        refine ASL.x rfl rfl (hNewZ hS [(.int .i64 0), (.int .i64 0), (.int .i64 0), (.bool false)] rfl zeroA_68 ⟨.inl rfl, .inl rfl, .inl rfl, .inl rfl, trivial⟩ ?_); rintro b4 G10 hK hS
        refine ASL.q (v := (.int .i64 x22_l0)) rfl rfl (Light.quiet (opAssign rfl rfl)) ?_
        refine ASL.n rfl rfl (hPutA hS (j := 0) rfl rfl sizeA_68 rfl rfl rfl rfl rfl (nlt rfl) ?_); rintro G12 hS
        refine ASL.done ?_
        refine AWP.seq ?_
        refine AWP.seqR rfl ?_
        refine ASL.q (v := (.ptr b4 0)) rfl rfl (Light.quiet (opFieldAddr rfl fieldA_68_0 rfl rfl)) ?_
        refine ASL.q (v := (.int .i64 a25.from_)) rfl rfl (Light.quiet (kAt hS (j := 0) rfl rfl aggA_3 rfl rfl)) ?_
        refine ASL.q (v := (.rptr [(.int .i64 p0.states), (.int .i64 p0.start), (.list 4 (List.map TEdge.av p0.edges))])) rfl rfl (Light.quiet (opFieldAddrR rfl fieldA_26_1 rfl rfl)) ?_
        refine ASL.q (v := (.int .i64 p0.states)) rfl rfl (Light.quiet (opLoadR rfl aggA_3 rfl rfl)) ?_
        refine ASL.q (v := (.int .i64 (W (p0.states - 1)))) rfl rfl (Light.quiet (opInt rfl rfl rfl rfl)) ?_
        refine ASL.q (v := (.bool (impl_inRange a25.from_ 0 ((W (p0.states - 1)))))) rfl rfl ((qCall rfl rfl call_68 (impl_inRange_ok a25.from_ 0 ((W (p0.states - 1)))) rfl)) ?_
        refine ASL.q (v := (.bool (!(impl_inRange a25.from_ 0 ((W (p0.states - 1))))))) rfl rfl (Light.quiet (opNot rfl rfl)) ?_
        obtain ⟨c34, hc34, hF⟩ := bndE hF
        refine ASL.q (v := (.bool c34)) rfl rfl ((Quiet.cast (Light.quiet (opMove rfl rfl)) (congrArg AV.bool hc34.symm))) ?_
        refine ASL.g (v := (.ptr b4 2)) (.bool c34) false rfl (wF _) rfl (fun hG => by have q0 := gN hG; subst q0; exact Light.quiet (opFieldAddr rfl fieldA_68_2 rfl rfl)) ?_
        refine ASL.g (v := (.int .i64 a25.to_)) (.bool c34) false rfl (wF _) rfl (fun hG => by have q0 := gN hG; subst q0; exact Light.quiet (kAt hS (j := 0) rfl rfl aggA_3 rfl rfl)) ?_
        refine ASL.g (v := (.rptr [(.int .i64 p0.states), (.int .i64 p0.start), (.list 4 (List.map TEdge.av p0.edges))])) (.bool c34) false rfl (wF _) rfl (fun hG => by have q0 := gN hG; subst q0; exact Light.quiet (opFieldAddrR rfl fieldA_26_1 rfl rfl)) ?_
        refine ASL.g (v := (.int .i64 p0.states)) (.bool c34) false rfl (wF _) rfl (fun hG => by have q0 := gN hG; subst q0; exact Light.quiet (opLoadR rfl aggA_3 rfl rfl)) ?_
        refine ASL.g (v := (.int .i64 (W (p0.states - 1)))) (.bool c34) false rfl (wF _) rfl (fun hG => by have q0 := gN hG; subst q0; exact Light.quiet (opInt rfl rfl rfl rfl)) ?_
        refine ASL.g (v := (.bool (impl_inRange a25.to_ 0 ((W (p0.states - 1)))))) (.bool c34) false rfl (wF _) rfl (fun hG => by have q0 := gN hG; subst q0; exact (qCall rfl rfl call_68 (impl_inRange_ok a25.to_ 0 ((W (p0.states - 1)))) rfl)) ?_
        refine ASL.g (v := (.bool (!(impl_inRange a25.to_ 0 ((W (p0.states - 1))))))) (.bool c34) false rfl (wF _) rfl (fun hG => by have q0 := gN hG; subst q0; exact Light.quiet (opNot rfl rfl)) ?_
        refine ASL.q (v := (.bool (c34 || (!(impl_inRange a25.to_ 0 ((W (p0.states - 1)))))))) rfl rfl (Light.quiet (opPick (b := c34) rfl rfl (by cases c34 <;> rfl))) ?_
        obtain ⟨c43, hc43, hF⟩ := bndE hF
        refine ASL.q (v := (.bool c43)) rfl rfl ((Quiet.cast (Light.quiet (opMove rfl rfl)) (congrArg AV.bool hc43.symm))) ?_
        refine ASL.g (v := (.ptr b4 1)) (.bool c43) false rfl (wF _) rfl (fun hG => by have q0 := gN hG; subst q0; exact Light.quiet (opFieldAddr rfl fieldA_68_1 rfl rfl)) ?_
        refine ASL.g (v := (.int .i64 a25.letter)) (.bool c43) false rfl (wF _) rfl (fun hG => by have q0 := gN hG; subst q0; exact Light.quiet (kAt hS (j := 0) rfl rfl aggA_3 rfl rfl)) ?_
        refine ASL.g (v := (.rptr [(.int .i64 p0.letters), (.int .i64 p0.states), (.int .i64 p0.start), (.list 4 (List.map TEdge.av p0.edges))])) (.bool c43) false rfl (wF _) rfl (fun hG => by have q0 := gN hG; subst q0; exact Light.quiet (opFieldAddrR rfl fieldA_26_0 rfl rfl)) ?_
        refine ASL.g (v := (.int .i64 p0.letters)) (.bool c43) false rfl (wF _) rfl (fun hG => by have q0 := gN hG; subst q0; exact Light.quiet (opLoadR rfl aggA_3 rfl rfl)) ?_
        refine ASL.g (v := (.int .i64 (W (p0.letters - 1)))) (.bool c43) false rfl (wF _) rfl (fun hG => by have q0 := gN hG; subst q0; exact Light.quiet (opInt rfl rfl rfl rfl)) ?_
        refine ASL.g (v := (.bool (impl_inRange a25.letter 0 ((W (p0.letters - 1)))))) (.bool c43) false rfl (wF _) rfl (fun hG => by have q0 := gN hG; subst q0; exact (qCall rfl rfl call_68 (impl_inRange_ok a25.letter 0 ((W (p0.letters - 1)))) rfl)) ?_
        refine ASL.g (v := (.bool (!(impl_inRange a25.letter 0 ((W (p0.letters - 1))))))) (.bool c43) false rfl (wF _) rfl (fun hG => by have q0 := gN hG; subst q0; exact Light.quiet (opNot rfl rfl)) ?_
        refine ASL.q (v := (.bool (c43 || (!(impl_inRange a25.letter 0 ((W (p0.letters - 1)))))))) rfl rfl (Light.quiet (opPick (b := c43) rfl rfl (by cases c43 <;> rfl))) ?_
        refine ASL.done ?_
        refine AWP.ifB hF rfl (fun hc13 hF => ?_) (fun hc13 hF => ?_)
        · skip
          refine AWP.seqR rfl ?_
          refine ASL.q (v := (.bool false)) rfl rfl (Light.quiet (opAssign rfl rfl)) ?_
          refine ASL.done ?_
          refine AWP.ret ?_
          refine QThen.rt ?_
          refine QBlock.ret ?_
          refine QThen.rt ?_
          refine QThen.rt ?_
          refine QBlock.ret ?_
          refine QThen.rt ?_
          obtain rfl := (hx4 _ (someE hF).symm)
          have hF := hR7
          have hF := sumR hF
          obtain rfl := someE hF
          exact QRet.sole (v := (.bool false)) ⟨rfl, trivial⟩ rfl
        · skip
          refine AWP.skip ?_
          refine QThen.nrm ?_
          refine AWP.seqD [(0, false), (1, false), (2, false), (3, false), (4, false), (5, false), (6, false), (7, false), (8, false), (9, false), (10, false), (11, false), (12, false)] mixed (by kernel_rfl) rfl ?_
          refine ARL.q0 (v := (.int .i64 x22_l0)) rfl rfl (Light.quiet (opMove rfl rfl)) ?_
          refine ARL.q0 (v := (.bool (decide (x22_l0 > 0)))) rfl rfl (Light.quiet (opInt rfl rfl rfl rfl)) ?_
          obtain ⟨c54, hc54, hF⟩ := bndE hF
          refine ARL.q0 (v := (.bool c54)) rfl rfl ((Quiet.cast (Light.quiet (opMove rfl rfl)) (congrArg AV.bool hc54.symm))) ?_
          refine ARL.g (v := (.rptr [(.list 4 (List.map TEdge.av p0.edges))])) (.bool c54) true rfl (wT _) rfl noneAlive (fun hG => by have q0 := hG; subst q0; exact Light.quiet (opFieldAddrR rfl fieldA_26_3 rfl rfl)) ?_
          refine ARL.g (v := (.list 4 (List.map TEdge.av p0.edges))) (.bool c54) true rfl (wT _) rfl noneAlive (fun hG => by have q0 := hG; subst q0; exact Light.quiet (opLoadR rfl aggA_24 rfl rfl)) ?_
          refine ARL.g (v := (.int .i64 x22_l0)) (.bool c54) true rfl (wT _) rfl noneAlive (fun hG => by have q0 := hG; subst q0; exact Light.quiet (opMove rfl rfl)) ?_
          refine ARL.g (v := (.int .i64 (W (x22_l0 - 1)))) (.bool c54) true rfl (wT _) rfl noneAlive (fun hG => by have q0 := hG; subst q0; exact Light.quiet (opInt rfl rfl rfl rfl)) ?_
          obtain ⟨a59, ha59, hF⟩ := bindE hF
          refine ARL.g (v := (.rptr [(.int .i64 a59.from_), (.int .i64 a59.letter), (.int .i64 a59.to_), (.bool a59.good)])) (.bool c54) true rfl (wT _) rfl noneAlive (fun hG => by have q0 := hG; subst q0; exact Light.quiet (kIx (f := TEdge.av) (whenE ha59) rfl rfl rfl elemA_24 sizeA_68 rfl)) ?_
          refine ARL.g (v := (TEdge.av a59)) (.bool c54) true rfl (wT _) rfl noneAlive (fun hG => by have q0 := hG; subst q0; exact Light.quiet (opLoadRA rfl aggA_68 sizeA_68 rfl (nlt rfl) rfl)) ?_
          refine ARL.g (v := (TEdge.av a25)) (.bool c54) true rfl (wT _) rfl (hS.aliveC (k := 0) rfl) (fun hG => by have q0 := hG; subst q0; exact Light.quiet (kAtA hS (j := 0) rfl rfl aggA_68 sizeA_68 rfl (nlt rfl) rfl)) ?_
          obtain ⟨a62, ha62, hF⟩ := bindE hF
          refine ARL.g (v := (.int .i64 a62)) (.bool c54) true rfl (wT _) rfl noneAlive (fun hG => by have q0 := hG; subst q0; exact (qCall rfl rfl call_80 (impl_compareEdges_ok (whenE ha62)) rfl)) ?_
          refine ARL.g (v := (.bool (decide (a62 ≥ 0)))) (.bool c54) true rfl (wT _) rfl noneAlive (fun hG => by have q0 := hG; subst q0; exact Light.quiet (opInt rfl rfl rfl rfl)) ?_
          refine ARL.q0 (v := (.bool (c54 && (decide (a62 ≥ 0))))) rfl rfl (Light.quiet (opPick (b := c54) rfl rfl (by cases c54 <;> rfl))) ?_
          refine ARL.done ?_
          refine AWP.ifB hF rfl (fun hc14 hF => ?_) (fun hc14 hF => ?_)
          · skip
            refine AWP.seqR rfl ?_
            refine ASL.q (v := (.bool false)) rfl rfl (Light.quiet (opAssign rfl rfl)) ?_
            refine ASL.done ?_
            refine AWP.ret ?_
            refine QBlock.ret ?_
            refine QThen.rt ?_
            refine QThen.rt ?_
            refine QBlock.ret ?_
            refine QThen.rt ?_
            obtain rfl := (hx4 _ (someE hF).symm)
            have hF := hR7
            have hF := sumR hF
            obtain rfl := someE hF
            exact QRet.sole (v := (.bool false)) ⟨rfl, trivial⟩ rfl
          · skip
            refine AWP.skip ?_
            refine QBlock.nrm ?_
            refine QThen.nrm ?_
            refine AWP.lastR rfl ?_
            refine ASL.q (v := (.int .i64 (W (x22_l0 + 1)))) rfl rfl (Light.quiet (opInt rfl rfl rfl rfl)) ?_
            refine ASL.q (v := (.int .i64 (W (x22_l0 + 1)))) rfl rfl (Light.quiet (opMove rfl rfl)) ?_
            refine ASL.done ?_
            refine QThen.nrm ?_
            exact ⟨(W (x22_l0 + 1)), (), (someE hF).symm, ⟨rfl, rfl, rfl, rfl, trivial⟩, (hS.pick [] rfl rfl)⟩
      · skip
        refine AWP.exit ?_
        refine QThen.ext ?_
        refine QThen.ext ?_
        refine QBlock.hit ?_
        obtain rfl := (hx4 _ (someE hF).symm)
        have hF := hR7
        have hF := sumL hF
        refine QThen.nrm ?_
        exact ⟨trivial, (hS.pick [] rfl rfl), hF⟩

set_option maxRecDepth 10000 in
theorem impl_rightAuto_ok {p0 : TAuto} {r : (TAuto × Bool)} {vp0_Edges : AV} (hF : impl_rightAuto p0 = some r) : HS Tryz.prog 53 [(.agg [(.int .i64 p0.letters), (.int .i64 p0.states), (.int .i64 p0.start), vp0_Edges])] [.row 4 vp0_Edges (List.map TEdge.av p0.edges)] fun v L' => ∃ o0_Edges : AV, v = .tup [(.agg [(.int .i64 r.1.letters), (.int .i64 r.1.states), (.int .i64 r.1.start), o0_Edges]), (.bool r.2)] ∧ L' = [.row 4 o0_Edges (List.map TEdge.av r.1.edges)] := by
  intro H S hS
  refine HC.enter Tryz.func53 rfl Tryz.ntmps53 (by simp) ?_
  simp only [List.cons_append, List.nil_append] at hS
  unfold impl_rightAuto at hF
  refine AWP.seqR rfl ?_
  refine ASL.x rfl rfl (hBox hS rfl rfl rfl ?_); rintro b1 G2 hK hS
  have hS := hNil (s := 4) (f := TEdge.av) hS
  refine ASL.x rfl rfl (hNewZ hS [(.int .i64 0), (.int .i64 0), (.int .i64 0), .nil] rfl zeroA_26 ⟨.inl rfl, .inl rfl, .inl rfl, .inl rfl, trivial⟩ ?_); rintro b2 G4 hK hS
  refine ASL.q (v := (.bool false)) rfl rfl (Light.quiet (opAssign rfl rfl)) ?_
  refine ASL.done ?_
  refine AWP.seq ?_
  refine AWP.seqR rfl ?_
  refine ASL.q (v := (.agg [(.int .i64 p0.letters), (.int .i64 p0.states), (.int .i64 p0.start), vp0_Edges])) rfl rfl (Light.quiet (kAtA hS (j := 2) rfl rfl aggA_26 sizeA_26 rfl (nlt rfl) rfl)) ?_
  obtain ⟨a5, ha5, hF⟩ := bindE hF
  refine ASL.q (v := (.bool a5)) rfl rfl ((qCallR hS rfl rfl call_54 (impl_AutoOk_ok ha5) ⟨.aggL ⟨.same _, .same _, .same _, .row (k := 3) rfl, trivial⟩, trivial⟩ (by constructor))) ?_
  refine ASL.q (v := (.bool (!a5))) rfl rfl (Light.quiet (opNot rfl rfl)) ?_
  refine ASL.done ?_
  refine AWP.ifB hF rfl (fun hc7 hF => ?_) (fun hc7 hF => ?_)
  · skip
    refine AWP.seqR rfl ?_
    refine ASL.q (v := (.agg [(.int .i64 0), (.int .i64 0), (.int .i64 0), .nil])) rfl rfl (Light.quiet (opBuildZ (zs := [(.int .i64 0), (.int .i64 0), (.int .i64 0), .nil]) rfl plan_26 zeroA_26 ⟨.inl rfl, .inl rfl, .inl rfl, .inl rfl, trivial⟩ rfl)) ?_
    have hS := hNil (s := 4) (f := TEdge.av) hS
    refine ASL.n rfl rfl (hPutA hS (j := 1) rfl rfl sizeA_26 rfl rfl rfl rfl (allC rfl (allC rfl (allC rfl (allC (hS.one (k := 0) rfl) rfl)))) (nlt rfl) ?_); rintro G8 hS
    refine ASL.q (v := (.bool false)) rfl rfl (Light.quiet (opAssign rfl rfl)) ?_
    refine ASL.done ?_
    refine AWP.ret ?_
    refine QThen.rt ?_
    obtain rfl := someE hF
    exact QRet.many (vs := [(.agg [(.int .i64 0), (.int .i64 0), (.int .i64 0), .nil]), (.bool false)]) ⟨resOne.at hS (k := 1) rfl rfl aggA_26 sizeA_26, rfl, trivial⟩ (by simp) ⟨_, ⟨.nil, rfl, rfl⟩, hS.pick [0, 5] rfl rfl⟩
  · skip
    refine AWP.skip ?_
    refine QThen.nrm ?_
    refine AWP.seqR rfl ?_
    refine ASL.q (v := (.agg [(.int .i64 p0.letters), (.int .i64 p0.states), (.int .i64 p0.start), vp0_Edges])) rfl rfl (Light.quiet (kAtA hS (j := 2) rfl rfl aggA_26 sizeA_26 rfl (nlt rfl) rfl)) ?_
    refine ASL.n rfl rfl (hPutA hS (j := 0) rfl rfl sizeA_26 rfl rfl rfl rfl (allC rfl (allC rfl (allC rfl (allC (hS.one (k := 3) rfl) rfl)))) (nlt rfl) ?_); rintro G10 hS
    refine ASL.q (v := (.bool true)) rfl rfl (Light.quiet (opAssign rfl rfl)) ?_
    refine ASL.done ?_
    refine AWP.ret ?_
    obtain rfl := someE hF
    exact QRet.many (vs := [(.agg [(.int .i64 p0.letters), (.int .i64 p0.states), (.int .i64 p0.start), vp0_Edges]), (.bool true)]) ⟨resOne.at hS (k := 0) rfl rfl aggA_26 sizeA_26, rfl, trivial⟩ (by simp) ⟨_, ⟨vp0_Edges, rfl, rfl⟩, hS.pick [3, 4] rfl rfl⟩

set_option maxRecDepth 10000 in
theorem impl_GenDegen_ok {p0 : TGen} {r : (TAuto × Bool)} (hF : impl_GenDegen p0 = some r) : HS Tryz.prog 18 [(TGen.av p0)] [] fun v L' => ∃ o0_Edges : AV, v = .tup [(.agg [(.int .i64 r.1.letters), (.int .i64 r.1.states), (.int .i64 r.1.start), o0_Edges]), (.bool r.2)] ∧ L' = [.row 4 o0_Edges (List.map TEdge.av r.1.edges)] := by
  intro H S hS
  refine HC.enter Tryz.func18 rfl Tryz.ntmps18 (by simp) ?_
  simp only [List.cons_append, List.nil_append] at hS
  unfold impl_GenDegen at hF
  refine AWP.seqR rfl ?_
  refine ASL.q (v := (.rptr [(.int .i64 p0.letters), (.int .i64 p0.states), (.int .i64 p0.start), (.int .i64 p0.sets), (.list 4 (List.map TGEdge.av p0.edges))])) rfl rfl ((qBoxI (v := (TGen.av p0)) rfl rfl rfl rfl)) ?_
  have hS := hNil (s := 4) (f := TEdge.av) hS
  refine ASL.x rfl rfl (hNewZ hS [(.int .i64 0), (.int .i64 0), (.int .i64 0), .nil] rfl zeroA_26 ⟨.inl rfl, .inl rfl, .inl rfl, .inl rfl, trivial⟩ ?_); rintro b2 G1 hK hS
  refine ASL.q (v := (.bool false)) rfl rfl (Light.quiet (opAssign rfl rfl)) ?_
  refine ASL.done ?_
  refine AWP.seq ?_
  refine AWP.seqR rfl ?_
  refine ASL.q (v := (TGen.av p0)) rfl rfl (Light.quiet (opLoadRA rfl aggA_38 sizeA_38 rfl (nlt rfl) rfl)) ?_
  obtain ⟨a14, ha14, hF⟩ := bindE hF
  refine ASL.q (v := (.bool a14)) rfl rfl ((qCall rfl rfl call_49 (impl_GenOk_ok ha14) rfl)) ?_
  refine ASL.q (v := (.bool (!a14))) rfl rfl (Light.quiet (opNot rfl rfl)) ?_
  refine ASL.done ?_
  refine AWP.ifB hF rfl (fun hc4 hF => ?_) (fun hc4 hF => ?_)
  · skip
    refine AWP.seqR rfl ?_
    refine ASL.q (v := (.agg [(.int .i64 0), (.int .i64 0), (.int .i64 0), .nil])) rfl rfl (Light.quiet (opBuildZ (zs := [(.int .i64 0), (.int .i64 0), (.int .i64 0), .nil]) rfl plan_26 zeroA_26 ⟨.inl rfl, .inl rfl, .inl rfl, .inl rfl, trivial⟩ rfl)) ?_
    have hS := hNil (s := 4) (f := TEdge.av) hS
    refine ASL.n rfl rfl (hPutA hS (j := 1) rfl rfl sizeA_26 rfl rfl rfl rfl (allC rfl (allC rfl (allC rfl (allC (hS.one (k := 0) rfl) rfl)))) (nlt rfl) ?_); rintro G5 hS
    refine ASL.q (v := (.bool false)) rfl rfl (Light.quiet (opAssign rfl rfl)) ?_
    refine ASL.done ?_
    refine AWP.ret ?_
    refine QThen.rt ?_
    obtain rfl := someE hF
    exact QRet.many (vs := [(.agg [(.int .i64 0), (.int .i64 0), (.int .i64 0), .nil]), (.bool false)]) ⟨resOne.at hS (k := 1) rfl rfl aggA_26 sizeA_26, rfl, trivial⟩ (by simp) ⟨_, ⟨.nil, rfl, rfl⟩, hS.pick [0, 3] rfl rfl⟩
  · skip
    refine AWP.skip ?_
    refine QThen.nrm ?_
    refine AWP.seqR rfl ?_
    refine ASL.q (v := (.rptr [(.int .i64 p0.letters), (.int .i64 p0.states), (.int .i64 p0.start), (.int .i64 p0.sets), (.list 4 (List.map TGEdge.av p0.edges))])) rfl rfl (Light.quiet (opFieldAddrR rfl fieldA_38_0 rfl rfl)) ?_
    refine ASL.q (v := (.int .i64 p0.letters)) rfl rfl (Light.quiet (opLoadR rfl aggA_3 rfl rfl)) ?_
    refine ASL.q (v := (.rptr [(.int .i64 p0.states), (.int .i64 p0.start), (.int .i64 p0.sets), (.list 4 (List.map TGEdge.av p0.edges))])) rfl rfl (Light.quiet (opFieldAddrR rfl fieldA_38_1 rfl rfl)) ?_
    refine ASL.q (v := (.int .i64 p0.states)) rfl rfl (Light.quiet (opLoadR rfl aggA_3 rfl rfl)) ?_
    refine ASL.q (v := (.rptr [(.int .i64 p0.start), (.int .i64 p0.sets), (.list 4 (List.map TGEdge.av p0.edges))])) rfl rfl (Light.quiet (opFieldAddrR rfl fieldA_38_2 rfl rfl)) ?_
    refine ASL.q (v := (.int .i64 p0.start)) rfl rfl (Light.quiet (opLoadR rfl aggA_3 rfl rfl)) ?_
    refine ASL.q (v := (.agg [(.int .i64 p0.letters), (.int .i64 p0.states), (.int .i64 p0.start), .nil])) rfl rfl (Light.quiet (opBuildZ (zs := [(.int .i64 0), (.int .i64 0), (.int .i64 0), .nil]) rfl plan_26 zeroA_26 ⟨.inl rfl, .inl rfl, .inl rfl, .inl rfl, trivial⟩ rfl)) ?_
    have hS := hNil (s := 4) (f := TEdge.av) hS
    refine ASL.x rfl rfl (hNewZ hS [(.int .i64 0), (.int .i64 0), (.int .i64 0), .nil] rfl zeroA_26 ⟨.inl rfl, .inl rfl, .inl rfl, .inl rfl, trivial⟩ ?_); rintro b4 G7 hK hS
    have hS := hNil (s := 4) (f := TEdge.av) hS
    refine ASL.n rfl rfl (hPutA hS (j := 1) rfl rfl sizeA_26 rfl rfl rfl rfl (allC rfl (allC rfl (allC rfl (allC (hS.one (k := 0) rfl) rfl)))) (nlt rfl) ?_); rintro G10 hS
    refine ASL.done ?_
    refine AWP.seqR rfl ?_
    refine ASL.q (v := (.rptr [(.int .i64 p0.sets), (.list 4 (List.map TGEdge.av p0.edges))])) rfl rfl (Light.quiet (opFieldAddrR rfl fieldA_38_3 rfl rfl)) ?_
    refine ASL.q (v := (.int .i64 p0.sets)) rfl rfl (Light.quiet (opLoadR rfl aggA_3 rfl rfl)) ?_
    refine ASL.q (v := (.int .i64 (mx p0.sets 1))) rfl rfl (Light.quiet (opMax (ns := [p0.sets, 1]) rfl rfl rfl rfl)) ?_
    refine ASL.q (v := (.int .i64 (mx p0.sets 1))) rfl rfl (Light.quiet (opAssign rfl rfl)) ?_
    refine ASL.done ?_
    refine AWP.seqM (fun e H => ∃ y12 : Int, ∃ y13 : Int, ∃ y14 : Int, ∃ y15 : (List TEdge), ∃ y18 : Int, ∃ y19 : Int, ∃ y20 : Int, ∃ y21 : (List TEdge), ∃ w16 : AV, ∃ w22 : AV, E.Told e [(1, (.rptr [(.int .i64 p0.letters), (.int .i64 p0.states), (.int .i64 p0.start), (.int .i64 p0.sets), (.list 4 (List.map TGEdge.av p0.edges))])), (2, (.ptr b2 0)), (4, (.ptr b4 0)), (5, (.int .i64 (mx p0.sets 1)))] ∧ E.Sep H [.row 4 w16 (List.map TEdge.av y15), .cell b2 [(.int .i64 y12), (.int .i64 y13), (.int .i64 y14), w16], .row 4 w22 (List.map TEdge.av y21), .cell b4 [(.int .i64 y18), (.int .i64 y19), (.int .i64 y20), w22], .snap S] ∧ impl_GenDegen.k0 p0 y12 y13 y14 y15 y18 y19 y20 y21 = some r) ?_ ?_
    · rintro e0 G77 ⟨y12, y13, y14, y15, y18, y19, y20, y21, w16, w22, hT, hS, hF⟩; refine AWP.only _ hT ?_; unfold impl_GenDegen.k0 at hF
      refine AWP.seqM (fun e H => ∃ y24 : Int, ∃ y25 : Int, ∃ y26 : Int, ∃ y27 : (List TEdge), ∃ w28 : AV, E.Told e [(2, (.ptr b2 0)), (4, (.ptr b4 0))] ∧ E.Sep H [.row 4 w16 (List.map TEdge.av y15), .cell b2 [(.int .i64 y12), (.int .i64 y13), (.int .i64 y14), w16], .row 4 w28 (List.map TEdge.av y27), .cell b4 [(.int .i64 y24), (.int .i64 y25), (.int .i64 y26), w28], .snap S] ∧ impl_GenDegen.k1 y24 y25 y26 y27 = some r) ?_ ?_
      · rintro e0 G37 ⟨y24, y25, y26, y27, w28, hT, hS, hF⟩; refine AWP.only _ hT ?_; unfold impl_GenDegen.k1 at hF
        refine AWP.seqR rfl ?_
        refine ASL.q (v := (.ptr b4 3)) rfl rfl (Light.quiet (opFieldAddr rfl fieldA_26_3 rfl rfl)) ?_
        refine ASL.q (v := w28) rfl rfl (Light.quiet (kAt hS (j := 3) rfl rfl aggA_24 rfl rfl)) ?_
        obtain ⟨a110, ha110, hF⟩ := bindE hF
        refine ASL.x rfl rfl (hCallOR hS rfl rfl call_52 (impl_ordered_ok ha110) ⟨.row (k := 2) rfl, trivial⟩ (Scal.row (fun _ => by simp only [TEdge.av, cells, List.mem_cons, List.not_mem_nil, or_false]; rintro c hc; rcases hc with rfl | rfl | rfl | rfl <;> constructor)) ?_); rintro v110 G30 hK hS
        refine ASL.q (v := (.ptr b4 3)) rfl rfl (Light.quiet (opFieldAddr rfl fieldA_26_3 rfl rfl)) ?_
        refine ASL.n rfl rfl (hPut hS (j := 4) rfl rfl sizeA_24 rfl rfl (hS.one (k := 0) rfl) (nlt rfl) ?_); rintro G32 hS
        refine ASL.done ?_
        refine AWP.seqR rfl ?_
        refine ASL.q (v := (.agg [(.int .i64 y24), (.int .i64 y25), (.int .i64 y26), v110])) rfl rfl (Light.quiet (kAtA hS (j := 4) rfl rfl aggA_26 sizeA_26 rfl (nlt rfl) rfl)) ?_
        obtain ⟨a113, ha113, hF⟩ := bindE hF
        refine ASL.x rfl rfl (hCallS hS [0, 1, 2, 3, 4, 5] (F := [.row 4 w16 (List.map TEdge.av y15), .cell b2 [(.int .i64 y12), (.int .i64 y13), (.int .i64 y14), w16], .row 4 w28 (List.map TEdge.av y27), .cell b4 [(.int .i64 y24), (.int .i64 y25), (.int .i64 y26), v110], .snap S]) rfl rfl rfl call_53 (impl_rightAuto_ok ha113) rfl rfl ?_); rintro _ _ G35 ⟨w33, rfl, rfl⟩ hS
        refine ASL.q (v := (.agg [(.int .i64 a113.1.letters), (.int .i64 a113.1.states), (.int .i64 a113.1.start), w33])) rfl rfl (Light.quiet (opExtract rfl rfl rfl)) ?_
        refine ASL.q (v := (.bool a113.2)) rfl rfl (Light.quiet (opExtract rfl rfl rfl)) ?_
        refine ASL.n rfl rfl (hPutA hS (j := 2) rfl rfl sizeA_26 rfl rfl rfl rfl (allC rfl (allC rfl (allC rfl (allC (hS.one (k := 0) rfl) rfl)))) (nlt rfl) ?_); rintro G36 hS
        refine ASL.q (v := (.bool a113.2)) rfl rfl (Light.quiet (opAssign rfl rfl)) ?_
        refine ASL.done ?_
        refine AWP.ret ?_
        obtain rfl := someE hF
        exact QRet.many (vs := [(.agg [(.int .i64 a113.1.letters), (.int .i64 a113.1.states), (.int .i64 a113.1.start), w33]), (.bool a113.2)]) ⟨resOne.at hS (k := 2) rfl rfl aggA_26 sizeA_26, rfl, trivial⟩ (by simp) ⟨_, ⟨w33, rfl, rfl⟩, hS.pick [0, 5] rfl rfl⟩
      · skip
        refine AWP.seqR rfl ?_
        refine ASL.q (v := (.rptr [(.list 4 (List.map TGEdge.av p0.edges))])) rfl rfl (Light.quiet (opFieldAddrR rfl fieldA_38_4 rfl rfl)) ?_
        refine ASL.q (v := (.list 4 (List.map TGEdge.av p0.edges))) rfl rfl (Light.quiet (opLoadR rfl aggA_36 rfl rfl)) ?_
        refine ASL.q (v := (.int .i64 (p0.edges.length : Int))) rfl rfl (Light.quiet (opLenMap (f := TGEdge.av) rfl rfl rfl lenT_36 rfl)) ?_
        refine ASL.q (v := (.int .i64 0)) rfl rfl (Light.quiet (opMove rfl rfl)) ?_
        refine ASL.done ?_
        refine AWP.block ?_
        obtain ⟨o47, hL46, hR48⟩ := bindE hF
        refine AWP.loopF (ω := AV) hL46 (fun s w => [(1, (.rptr [(.int .i64 p0.letters), (.int .i64 p0.states), (.int .i64 p0.start), (.int .i64 p0.sets), (.list 4 (List.map TGEdge.av p0.edges))])), (2, (.ptr b2 0)), (4, (.ptr b4 0)), (5, (.int .i64 (mx p0.sets 1))), (66, (.list 4 (List.map TGEdge.av p0.edges))), (67, (.int .i64 (p0.edges.length : Int))), (68, (.int .i64 s.2.2.2.2))]) (fun s w => [.row 4 w16 (List.map TEdge.av y15), .cell b2 [(.int .i64 y12), (.int .i64 y13), (.int .i64 y14), w16], .row 4 w (List.map TEdge.av s.2.2.2.1), .cell b4 [(.int .i64 s.1), (.int .i64 s.2.1), (.int .i64 s.2.2.1), w], .snap S]) w22 ⟨rfl, rfl, rfl, rfl, rfl, rfl, rfl, trivial⟩ (hS.pick [0, 1, 2, 3, 4] rfl rfl) ?_
        rintro ⟨y38, y39, y40, y41, x68_l0⟩ w42 G49 hS x44 hF hx45
        try dsimp only at hS ⊢
        have hF : impl_GenDegen.b0 p0 y38 y39 y40 y41 x68_l0 = some x44 := hF; unfold impl_GenDegen.b0 at hF
        refine AWP.seqR rfl ?_
        refine ASL.q (v := (.bool (decide (x68_l0 < ((p0.edges.length : Int)))))) rfl rfl (Light.quiet (opInt rfl rfl rfl rfl)) ?_
        refine ASL.done ?_
        refine AWP.seq ?_
        refine AWP.ifP hF rfl (fun hc50 hF => ?_) (fun hc50 hF => ?_)
        · skip
          refine AWP.skip ?_
          refine QThen.nrm ?_
          refine AWP.seqM (fun e H => ∃ y51 : Int, ∃ y52 : Int, ∃ y53 : Int, ∃ y54 : (List TEdge), ∃ w55 : AV, E.Told e [(1, (.rptr [(.int .i64 p0.letters), (.int .i64 p0.states), (.int .i64 p0.start), (.int .i64 p0.sets), (.list 4 (List.map TGEdge.av p0.edges))])), (2, (.ptr b2 0)), (4, (.ptr b4 0)), (5, (.int .i64 (mx p0.sets 1))), (66, (.list 4 (List.map TGEdge.av p0.edges))), (67, (.int .i64 (p0.edges.length : Int))), (68, (.int .i64 x68_l0))] ∧ E.Sep H [.row 4 w16 (List.map TEdge.av y15), .cell b2 [(.int .i64 y12), (.int .i64 y13), (.int .i64 y14), w16], .row 4 w55 (List.map TEdge.av y54), .cell b4 [(.int .i64 y51), (.int .i64 y52), (.int .i64 y53), w55], .snap S] ∧ impl_GenDegen.k2 x68_l0 y51 y52 y53 y54 = some x44) ?_ ?_
          · rintro e0 G57 ⟨y51, y52, y53, y54, w55, hT, hS, hF⟩; refine AWP.only _ hT ?_; unfold impl_GenDegen.k2 at hF
            refine AWP.lastR rfl ?_
            refine ASL.q (v := (.int .i64 (W (x68_l0 + 1)))) rfl rfl (Light.quiet (opInt rfl rfl rfl rfl)) ?_
            refine ASL.q (v := (.int .i64 (W (x68_l0 + 1)))) rfl rfl (Light.quiet (opMove rfl rfl)) ?_
            refine ASL.done ?_
            refine QThen.nrm ?_
            exact ⟨(y51, y52, y53, y54, (W (x68_l0 + 1))), w55, (someE hF).symm, ⟨rfl, rfl, rfl, rfl, rfl, rfl, rfl, trivial⟩, (hS.pick [0, 1, 2, 3, 4] rfl rfl)⟩
          · skip
            refine AWP.block ?_
            refine AWP.seqR rfl ?_
            obtain ⟨a70, ha70, hF⟩ := bindE hF
            refine ASL.q (v := (.rptr [(.int .i64 a70.from_), (.int .i64 a70.letter), (.int .i64 a70.to_), (.int .i64 a70.marks)])) rfl rfl (Light.quiet (kIx (f := TGEdge.av) ha70 rfl rfl rfl elemA_36 sizeA_61 rfl)) ?_
            refine ASL.q (v := (TGEdge.av a70)) rfl rfl (Light.quiet (opLoadRA rfl aggA_61 sizeA_61 rfl (nlt rfl) rfl)) ?_
            refine ASL.x rfl rfl (hNewZ hS [(.int .i64 0), (.int .i64 0), (.int .i64 0), (.int .i64 0)] rfl zeroA_61 ⟨.inl rfl, .inl rfl, .inl rfl, .inl rfl, trivial⟩ ?_); rintro b9 G58 hK hS
            refine ASL.n rfl rfl (hPutA hS (j := 0) rfl rfl sizeA_61 rfl rfl rfl rfl rfl (nlt rfl) ?_); rintro G60 hS
            refine ASL.done ?_
            refine AWP.seqR rfl ?_
            refine ASL.q (v := (.int .i64 (mx p0.sets 1))) rfl rfl (Light.quiet (opMove rfl rfl)) ?_
            refine ASL.q (v := (.int .i64 0)) rfl rfl (Light.quiet (opMove rfl rfl)) ?_
            refine ASL.done ?_
            refine AWP.block ?_
            obtain ⟨o70, hL69, hR71⟩ := bindE hF
            refine AWP.loopF (ω := AV) hL69 (fun s w => [(1, (.rptr [(.int .i64 p0.letters), (.int .i64 p0.states), (.int .i64 p0.start), (.int .i64 p0.sets), (.list 4 (List.map TGEdge.av p0.edges))])), (2, (.ptr b2 0)), (4, (.ptr b4 0)), (5, (.int .i64 (mx p0.sets 1))), (9, (.ptr b9 0)), (66, (.list 4 (List.map TGEdge.av p0.edges))), (67, (.int .i64 (p0.edges.length : Int))), (68, (.int .i64 x68_l0)), (72, (.int .i64 (mx p0.sets 1))), (73, (.int .i64 s.2.2.2.2))]) (fun s w => [.row 4 w16 (List.map TEdge.av y15), .cell b2 [(.int .i64 y12), (.int .i64 y13), (.int .i64 y14), w16], .row 4 w (List.map TEdge.av s.2.2.2.1), .cell b4 [(.int .i64 s.1), (.int .i64 s.2.1), (.int .i64 s.2.2.1), w], .cell b9 [(.int .i64 a70.from_), (.int .i64 a70.letter), (.int .i64 a70.to_), (.int .i64 a70.marks)], .snap S]) w42 ⟨rfl, rfl, rfl, rfl, rfl, rfl, rfl, rfl, rfl, rfl, trivial⟩ (hS.pick [1, 2, 3, 4, 0, 5] rfl rfl) ?_
            rintro ⟨y61, y62, y63, y64, x73_l1⟩ w65 G72 hS x67 hF hx68
            try dsimp only at hS ⊢
            have hF : impl_GenDegen.b1 p0 a70 y61 y62 y63 y64 x73_l1 = some x67 := hF; unfold impl_GenDegen.b1 at hF
            refine AWP.seqR rfl ?_
            refine ASL.q (v := (.bool (decide (x73_l1 < ((mx p0.sets 1)))))) rfl rfl (Light.quiet (opInt rfl rfl rfl rfl)) ?_
            refine ASL.done ?_
            refine AWP.seq ?_
            refine AWP.ifP hF rfl (fun hc73 hF => ?_) (fun hc73 hF => ?_)
            · skip
              refine AWP.skip ?_
              refine QThen.nrm ?_
              refine AWP.seq ?_
              refine AWP.block ?_
              refine AWP.seqR rfl ?_
              refine ASL.q (v := (.int .i64 x73_l1)) rfl rfl (Light.quiet (opMove rfl rfl)) ?_
              refine ASL.q (v := (.int .i64 x73_l1)) rfl rfl (Light.quiet (opAssign rfl rfl)) ?_
              refine ASL.done ?_
              refine AWP.seqR rfl ?_
              refine ASL.q (v := (.ptr b9 3)) rfl rfl (Light.quiet (opFieldAddr rfl fieldA_61_3 rfl rfl)) ?_
              refine ASL.q (v := (.int .i64 a70.marks)) rfl rfl (Light.quiet (kAt hS (j := 4) rfl rfl aggA_3 rfl rfl)) ?_
              refine ASL.q (v := (.int .i64 x73_l1)) rfl rfl (Light.quiet (opMove rfl rfl)) ?_
              refine ASL.q (v := (.rptr [(.int .i64 p0.sets), (.list 4 (List.map TGEdge.av p0.edges))])) rfl rfl (Light.quiet (opFieldAddrR rfl fieldA_38_3 rfl rfl)) ?_
              refine ASL.q (v := (.int .i64 p0.sets)) rfl rfl (Light.quiet (opLoadR rfl aggA_3 rfl rfl)) ?_
              obtain ⟨a82, ha82, hF⟩ := bindE hF
              refine ASL.q (v := (.tup [(.int .i64 a82.1), (.bool a82.2)])) rfl rfl ((qCall rfl rfl call_51 (impl_waitFor_ok ha82) rfl)) ?_
              refine ASL.q (v := (.tup [(.int .i64 a82.1), (.bool a82.2)])) rfl rfl (Light.quiet (opMove rfl rfl)) ?_
              refine ASL.q (v := (.int .i64 a82.1)) rfl rfl (Light.quiet (opExtract rfl rfl rfl)) ?_
              refine ASL.q (v := (.bool a82.2)) rfl rfl (Light.quiet (opExtract rfl rfl rfl)) ?_
              refine ASL.q (v := (.int .i64 a82.1)) rfl rfl (Light.quiet (opAssign rfl rfl)) ?_
              refine ASL.q (v := (.bool a82.2)) rfl rfl (Light.quiet (opAssign rfl rfl)) ?_
              refine ASL.done ?_
              refine AWP.lastR rfl ?_
              refine ASL.q (v := (.ptr b4 3)) rfl rfl (Light.quiet (opFieldAddr rfl fieldA_26_3 rfl rfl)) ?_
              refine ASL.q (v := w65) rfl rfl (Light.quiet (kAt hS (j := 3) rfl rfl aggA_24 rfl rfl)) ?_
              refine ASL.q (v := (.ptr b9 0)) rfl rfl (Light.quiet (opFieldAddr rfl fieldA_61_0 rfl rfl)) ?_
              refine ASL.q (v := (.int .i64 a70.from_)) rfl rfl (Light.quiet (kAt hS (j := 4) rfl rfl aggA_3 rfl rfl)) ?_
              refine ASL.q (v := (.int .i64 (mx p0.sets 1))) rfl rfl (Light.quiet (opMove rfl rfl)) ?_
              refine ASL.q (v := (.int .i64 (W (a70.from_ * ((mx p0.sets 1)))))) rfl rfl (Light.quiet (opInt rfl rfl rfl rfl)) ?_
              refine ASL.q (v := (.int .i64 x73_l1)) rfl rfl (Light.quiet (opMove rfl rfl)) ?_
              refine ASL.q (v := (.int .i64 (W (((W (a70.from_ * ((mx p0.sets 1))))) + x73_l1)))) rfl rfl (Light.quiet (opInt rfl rfl rfl rfl)) ?_
              refine ASL.q (v := (.ptr b9 1)) rfl rfl (Light.quiet (opFieldAddr rfl fieldA_61_1 rfl rfl)) ?_
              refine ASL.q (v := (.int .i64 a70.letter)) rfl rfl (Light.quiet (kAt hS (j := 4) rfl rfl aggA_3 rfl rfl)) ?_
              refine ASL.q (v := (.ptr b9 2)) rfl rfl (Light.quiet (opFieldAddr rfl fieldA_61_2 rfl rfl)) ?_
              refine ASL.q (v := (.int .i64 a70.to_)) rfl rfl (Light.quiet (kAt hS (j := 4) rfl rfl aggA_3 rfl rfl)) ?_
              refine ASL.q (v := (.int .i64 (mx p0.sets 1))) rfl rfl (Light.quiet (opMove rfl rfl)) ?_
              refine ASL.q (v := (.int .i64 (W (a70.to_ * ((mx p0.sets 1)))))) rfl rfl (Light.quiet (opInt rfl rfl rfl rfl)) ?_
              refine ASL.q (v := (.int .i64 a82.1)) rfl rfl (Light.quiet (opMove rfl rfl)) ?_
              refine ASL.q (v := (.int .i64 (W (((W (a70.to_ * ((mx p0.sets 1))))) + a82.1)))) rfl rfl (Light.quiet (opInt rfl rfl rfl rfl)) ?_
              refine ASL.q (v := (.bool a82.2)) rfl rfl (Light.quiet (opMove rfl rfl)) ?_
              refine ASL.q (v := (.agg [(.int .i64 (W (((W (a70.from_ * ((mx p0.sets 1))))) + x73_l1))), (.int .i64 a70.letter), (.int .i64 (W (((W (a70.to_ * ((mx p0.sets 1))))) + a82.1))), (.bool a82.2)])) rfl rfl (Light.quiet (opBuildZ (zs := [(.int .i64 0), (.int .i64 0), (.int .i64 0), (.bool false)]) rfl plan_68 zeroA_68 ⟨.inl rfl, .inl rfl, .inl rfl, .inl rfl, trivial⟩ rfl)) ?_
              refine ASL.q (v := (.list 4 (List.map TEdge.av [(TEdge.mk ((W (((W (a70.from_ * ((mx p0.sets 1))))) + x73_l1))) a70.letter ((W (((W (a70.to_ * ((mx p0.sets 1))))) + a82.1))) a82.2)]))) rfl rfl ((qLit (xs := [(.agg [(.int .i64 (W (((W (a70.from_ * ((mx p0.sets 1))))) + x73_l1))), (.int .i64 a70.letter), (.int .i64 (W (((W (a70.to_ * ((mx p0.sets 1))))) + a82.1))), (.bool a82.2)])]) rfl elemA_24 sizeA_68 zeroA_68 rfl rfl rfl rfl (by simp [cells, TEdge.av]) (nlt rfl))) ?_
              obtain ⟨z104, hz104, hF⟩ := bindE hF
              refine ASL.x rfl rfl (hApp (f := TEdge.av) (ws := [(TEdge.mk ((W (((W (a70.from_ * ((mx p0.sets 1))))) + x73_l1))) a70.letter ((W (((W (a70.to_ * ((mx p0.sets 1))))) + a82.1))) a82.2)]) hS (j := 2) rfl hz104 rfl elemA_24 rfl sizeA_68 bytesA_68 zeroA_68 rfl rfl rfl (fun _ => rfl) ?_); rintro v104 G74 hS
              refine ASL.q (v := (.ptr b4 3)) rfl rfl (Light.quiet (opFieldAddr rfl fieldA_26_3 rfl rfl)) ?_
              refine ASL.n rfl rfl (hPut hS (j := 3) rfl rfl sizeA_24 rfl rfl (hS.one (k := 2) rfl) (nlt rfl) ?_); rintro G76 hS
              refine ASL.done ?_
              refine QBlock.nrm ?_
              refine QThen.nrm ?_
              refine AWP.lastR rfl ?_
              refine ASL.q (v := (.int .i64 (W (x73_l1 + 1)))) rfl rfl (Light.quiet (opInt rfl rfl rfl rfl)) ?_
              refine ASL.q (v := (.int .i64 (W (x73_l1 + 1)))) rfl rfl (Light.quiet (opMove rfl rfl)) ?_
              refine ASL.done ?_
              refine QThen.nrm ?_
              exact ⟨(y61, y62, y63, z104, (W (x73_l1 + 1))), v104, (someE hF).symm, ⟨rfl, rfl, rfl, rfl, rfl, rfl, rfl, rfl, rfl, rfl, trivial⟩, (hS.pick [0, 1, 2, 3, 4, 5] rfl rfl)⟩
            · skip
              refine AWP.exit ?_
              refine QThen.ext ?_
              refine QThen.ext ?_
              refine QBlock.hit ?_
              obtain rfl := (hx68 _ (someE hF).symm)
              have hF := hR71
              refine QBlock.nrm ?_
              refine QThen.nrm ?_
              exact ⟨y61, y62, y63, y64, w65, ⟨rfl, rfl, rfl, rfl, rfl, rfl, rfl, trivial⟩, (hS.pick [0, 1, 2, 3, 5] rfl rfl), hF⟩
        · skip
          refine AWP.exit ?_
          refine QThen.ext ?_
          refine QThen.ext ?_
          refine QBlock.hit ?_
          obtain rfl := (hx45 _ (someE hF).symm)
          have hF := hR48
          refine QThen.nrm ?_
          exact ⟨y38, y39, y40, y41, w42, ⟨rfl, rfl, trivial⟩, (hS.pick [0, 1, 2, 3, 4] rfl rfl), hF⟩
    · skip
      refine AWP.seqR rfl ?_
      refine ASL.q (v := (.rptr [(.int .i64 p0.sets), (.list 4 (List.map TGEdge.av p0.edges))])) rfl rfl (Light.quiet (opFieldAddrR rfl fieldA_38_3 rfl rfl)) ?_
      refine ASL.q (v := (.int .i64 p0.sets)) rfl rfl (Light.quiet (opLoadR rfl aggA_3 rfl rfl)) ?_
      refine ASL.q (v := (.bool (decide (p0.sets > 0)))) rfl rfl (Light.quiet (opInt rfl rfl rfl rfl)) ?_
      refine ASL.done ?_
      refine AWP.ifP hF rfl (fun hc78 hF => ?_) (fun hc78 hF => ?_)
      · skip
        refine AWP.seqR rfl ?_
        refine ASL.q (v := (.ptr b4 1)) rfl rfl (Light.quiet (opFieldAddr rfl fieldA_26_1 rfl rfl)) ?_
        refine ASL.q (v := (.int .i64 p0.states)) rfl rfl (Light.quiet (kAt hS (j := 1) rfl rfl aggA_3 rfl rfl)) ?_
        refine ASL.q (v := (.int .i64 (mx p0.sets 1))) rfl rfl (Light.quiet (opMove rfl rfl)) ?_
        refine ASL.q (v := (.int .i64 (W (p0.states * ((mx p0.sets 1)))))) rfl rfl (Light.quiet (opInt rfl rfl rfl rfl)) ?_
        refine ASL.q (v := (.ptr b4 1)) rfl rfl (Light.quiet (opFieldAddr rfl fieldA_26_1 rfl rfl)) ?_
        refine ASL.n rfl rfl (hPut hS (j := 1) rfl rfl sizeA_3 rfl rfl rfl (nlt rfl) ?_); rintro G79 hS
        refine ASL.done ?_
        refine AWP.seqR rfl ?_
        refine ASL.q (v := (.ptr b4 2)) rfl rfl (Light.quiet (opFieldAddr rfl fieldA_26_2 rfl rfl)) ?_
        refine ASL.n rfl rfl (hPut hS (j := 1) rfl rfl sizeA_3 rfl rfl rfl (nlt rfl) ?_); rintro G80 hS
        refine ASL.done ?_
        refine AWP.seq ?_
        refine AWP.seqR rfl ?_
        refine ASL.q (v := (.ptr b4 1)) rfl rfl (Light.quiet (opFieldAddr rfl fieldA_26_1 rfl rfl)) ?_
        refine ASL.q (v := (.int .i64 (W (p0.states * ((mx p0.sets 1)))))) rfl rfl (Light.quiet (kAt hS (j := 1) rfl rfl aggA_3 rfl rfl)) ?_
        refine ASL.q (v := (.bool (decide (((W (p0.states * ((mx p0.sets 1))))) > 31)))) rfl rfl (Light.quiet (opInt rfl rfl rfl rfl)) ?_
        obtain ⟨c39, hc39, hF⟩ := bndE hF
        refine ASL.q (v := (.bool c39)) rfl rfl ((Quiet.cast (Light.quiet (opMove rfl rfl)) (congrArg AV.bool hc39.symm))) ?_
        refine ASL.g (v := (.rptr [(.list 4 (List.map TGEdge.av p0.edges))])) (.bool c39) false rfl (wF _) rfl (fun hG => by have q0 := gN hG; subst q0; exact Light.quiet (opFieldAddrR rfl fieldA_38_4 rfl rfl)) ?_
        refine ASL.g (v := (.list 4 (List.map TGEdge.av p0.edges))) (.bool c39) false rfl (wF _) rfl (fun hG => by have q0 := gN hG; subst q0; exact Light.quiet (opLoadR rfl aggA_36 rfl rfl)) ?_
        refine ASL.g (v := (.int .i64 (p0.edges.length : Int))) (.bool c39) false rfl (wF _) rfl (fun hG => by have q0 := gN hG; subst q0; exact Light.quiet (opLenMap (f := TGEdge.av) rfl rfl rfl lenT_36 rfl)) ?_
        refine ASL.g (v := (.int .i64 (mx p0.sets 1))) (.bool c39) false rfl (wF _) rfl (fun hG => by have q0 := gN hG; subst q0; exact Light.quiet (opMove rfl rfl)) ?_
        refine ASL.g (v := (.int .i64 (W (((p0.edges.length : Int)) * ((mx p0.sets 1)))))) (.bool c39) false rfl (wF _) rfl (fun hG => by have q0 := gN hG; subst q0; exact Light.quiet (opInt rfl rfl rfl rfl)) ?_
        refine ASL.g (v := (.bool (decide (((W (((p0.edges.length : Int)) * ((mx p0.sets 1))))) > 2000)))) (.bool c39) false rfl (wF _) rfl (fun hG => by have q0 := gN hG; subst q0; exact Light.quiet (opInt rfl rfl rfl rfl)) ?_
        refine ASL.q (v := (.bool (c39 || (decide (((W (((p0.edges.length : Int)) * ((mx p0.sets 1))))) > 2000))))) rfl rfl (Light.quiet (opPick (b := c39) rfl rfl (by cases c39 <;> rfl))) ?_
        refine ASL.done ?_
        refine AWP.ifB hF rfl (fun hc81 hF => ?_) (fun hc81 hF => ?_)
        · skip
          refine AWP.seqR rfl ?_
          refine ASL.q (v := (.agg [(.int .i64 0), (.int .i64 0), (.int .i64 0), .nil])) rfl rfl (Light.quiet (opBuildZ (zs := [(.int .i64 0), (.int .i64 0), (.int .i64 0), .nil]) rfl plan_26 zeroA_26 ⟨.inl rfl, .inl rfl, .inl rfl, .inl rfl, trivial⟩ rfl)) ?_
          have hS := hNil (s := 4) (f := TEdge.av) hS
          refine ASL.n rfl rfl (hPutA hS (j := 4) rfl rfl sizeA_26 rfl rfl rfl rfl (allC rfl (allC rfl (allC rfl (allC (hS.one (k := 0) rfl) rfl)))) (nlt rfl) ?_); rintro G82 hS
          refine ASL.q (v := (.bool false)) rfl rfl (Light.quiet (opAssign rfl rfl)) ?_
          refine ASL.done ?_
          refine AWP.ret ?_
          refine QThen.rt ?_
          refine QThen.rt ?_
          obtain rfl := someE hF
          exact QRet.many (vs := [(.agg [(.int .i64 0), (.int .i64 0), (.int .i64 0), .nil]), (.bool false)]) ⟨resOne.at hS (k := 4) rfl rfl aggA_26 sizeA_26, rfl, trivial⟩ (by simp) ⟨_, ⟨.nil, rfl, rfl⟩, hS.pick [0, 6] rfl rfl⟩
        · skip
          refine AWP.skip ?_
          refine QThen.nrm ?_
          refine AWP.seqR rfl ?_
          refine ASL.q (v := (.rptr [(.int .i64 p0.start), (.int .i64 p0.sets), (.list 4 (List.map TGEdge.av p0.edges))])) rfl rfl (Light.quiet (opFieldAddrR rfl fieldA_38_2 rfl rfl)) ?_
          refine ASL.q (v := (.int .i64 p0.start)) rfl rfl (Light.quiet (opLoadR rfl aggA_3 rfl rfl)) ?_
          obtain ⟨a50, ha50, hF⟩ := bindE hF
          refine ASL.q (v := (.list 1 (List.map (AV.int .i64) a50))) rfl rfl ((qCall rfl rfl call_50 (PO.list (impl_SetList_ok ha50)) rfl)) ?_
          refine ASL.q (v := (.int .i64 (a50.length : Int))) rfl rfl (Light.quiet (opLenMap (f := (AV.int .i64)) rfl rfl rfl lenT_42 rfl)) ?_
          refine ASL.q (v := (.int .i64 0)) rfl rfl (Light.quiet (opMove rfl rfl)) ?_
          refine ASL.done ?_
          refine AWP.block ?_
          obtain ⟨o93, hL92, hR94⟩ := bindE hF
          refine AWP.loopF (ω := AV) hL92 (fun s w => [(1, (.rptr [(.int .i64 p0.letters), (.int .i64 p0.states), (.int .i64 p0.start), (.int .i64 p0.sets), (.list 4 (List.map TGEdge.av p0.edges))])), (2, (.ptr b2 0)), (4, (.ptr b4 0)), (5, (.int .i64 (mx p0.sets 1))), (50, (.list 1 (List.map (AV.int .i64) a50))), (51, (.int .i64 (a50.length : Int))), (52, (.int .i64 s.2.2.2.2))]) (fun s w => [.row 4 .nil (List.map TEdge.av ([])), .cell b2 [(.int .i64 0), (.int .i64 0), (.int .i64 0), .nil], .row 4 w (List.map TEdge.av s.2.2.2.1), .cell b4 [(.int .i64 s.1), (.int .i64 s.2.1), (.int .i64 s.2.2.1), w], .snap S]) .nil ⟨rfl, rfl, rfl, rfl, rfl, rfl, rfl, trivial⟩ (hS.pick [4, 3, 0, 1, 5] rfl rfl) ?_
          rintro ⟨y84, y85, y86, y87, x52_l2⟩ w88 G95 hS x90 hF hx91
          try dsimp only at hS ⊢
          have hF : impl_GenDegen.b2 a50 p0 y84 y85 y86 y87 x52_l2 = some x90 := hF; unfold impl_GenDegen.b2 at hF
          refine AWP.seqR rfl ?_
          refine ASL.q (v := (.bool (decide (x52_l2 < ((a50.length : Int)))))) rfl rfl (Light.quiet (opInt rfl rfl rfl rfl)) ?_
          refine ASL.done ?_
          refine AWP.seq ?_
          refine AWP.ifP hF rfl (fun hc96 hF => ?_) (fun hc96 hF => ?_)
          · skip
            refine AWP.skip ?_
            refine QThen.nrm ?_
            refine AWP.seq ?_
            refine AWP.block ?_
            refine AWP.seqR rfl ?_
            obtain ⟨a54, ha54, hF⟩ := bindE hF
            refine ASL.q (v := (.rptr [(.int .i64 a54)])) rfl rfl (Light.quiet (kIx (f := (AV.int .i64)) ha54 rfl rfl rfl elemA_42 sizeA_3 rfl)) ?_
            refine ASL.q (v := (.int .i64 a54)) rfl rfl (Light.quiet (opLoadR rfl aggA_3 rfl rfl)) ?_
            refine ASL.q (v := (.int .i64 a54)) rfl rfl (Light.quiet (opAssign rfl rfl)) ?_
            refine ASL.done ?_
            refine AWP.lastD [(0, false), (1, false), (2, false), (3, false), (4, false), (5, false), (6, false), (7, false), (8, true)] mixed (by kernel_rfl) rfl ?_
            refine ARL.q0 (v := (.ptr b4 2)) rfl rfl (Light.quiet (opFieldAddr rfl fieldA_26_2 rfl rfl)) ?_
            refine ARL.q (v := (.int .i64 y86)) rfl rfl (hS.aliveC (k := 3) rfl) (Light.quiet (kAt hS (j := 3) rfl rfl aggA_3 rfl rfl)) ?_
            refine ARL.q0 (v := (.int .i64 a54)) rfl rfl (Light.quiet (opMove rfl rfl)) ?_
            refine ARL.q0 (v := (.int .i64 (mx p0.sets 1))) rfl rfl (Light.quiet (opMove rfl rfl)) ?_
            refine ARL.q0 (v := (.int .i64 (W (a54 * ((mx p0.sets 1)))))) rfl rfl (Light.quiet (opInt rfl rfl rfl rfl)) ?_
            refine ARL.q0 (v := (.int .i64 (impl_only ((W (a54 * ((mx p0.sets 1)))))))) rfl rfl ((qCall rfl rfl call_43 (impl_only_ok ((W (a54 * ((mx p0.sets 1)))))) rfl)) ?_
            refine ARL.q0 (v := (.int .i64 (bOr .i64 y86 ((impl_only ((W (a54 * ((mx p0.sets 1)))))))))) rfl rfl (Light.quiet (opInt rfl rfl rfl rfl)) ?_
            refine ARL.q0 (v := (.ptr b4 2)) rfl rfl (Light.quiet (opFieldAddr rfl fieldA_26_2 rfl rfl)) ?_
            refine ARL.n rfl rfl rfl rfl (hPut hS (j := 3) rfl rfl sizeA_3 rfl rfl rfl (nlt rfl) ?_); rintro G97 hS
            refine ARL.done ?_
            refine QBlock.nrm ?_
            refine QThen.nrm ?_
            refine AWP.lastR rfl ?_
            refine ASL.q (v := (.int .i64 (W (x52_l2 + 1)))) rfl rfl (Light.quiet (opInt rfl rfl rfl rfl)) ?_
            refine ASL.q (v := (.int .i64 (W (x52_l2 + 1)))) rfl rfl (Light.quiet (opMove rfl rfl)) ?_
            refine ASL.done ?_
            refine QThen.nrm ?_
            exact ⟨(y84, y85, (bOr .i64 y86 ((impl_only ((W (a54 * ((mx p0.sets 1)))))))), y87, (W (x52_l2 + 1))), w88, (someE hF).symm, ⟨rfl, rfl, rfl, rfl, rfl, rfl, rfl, trivial⟩, (hS.pick [0, 1, 2, 3, 4] rfl rfl)⟩
          · skip
            refine AWP.exit ?_
            refine QThen.ext ?_
            refine QThen.ext ?_
            refine QBlock.hit ?_
            obtain rfl := (hx91 _ (someE hF).symm)
            have hF := hR94
            refine QThen.nrm ?_
            exact ⟨0, 0, 0, [], y84, y85, y86, y87, .nil, w88, ⟨rfl, rfl, rfl, rfl, trivial⟩, (hS.pick [0, 1, 2, 3, 4] rfl rfl), hF⟩
      · skip
        refine AWP.skip ?_
        refine QThen.nrm ?_
        exact ⟨0, 0, 0, [], p0.letters, p0.states, p0.start, [], .nil, .nil, ⟨rfl, rfl, rfl, rfl, trivial⟩, (hS.pick [4, 3, 0, 1, 5] rfl rfl), hF⟩

set_option maxRecDepth 10000 in
theorem impl_Auto_reach_ok {p0 : TAuto} {p1 : Int} {r : Int} (hF : impl_Auto_reach p0 p1 = some r) : PC Tryz.prog 56 [(.rptr [(.int .i64 p0.letters), (.int .i64 p0.states), (.int .i64 p0.start), (.list 4 (List.map TEdge.av p0.edges))]), (.int .i64 p1)] fun v => v = (.int .i64 r) := by
  refine PC.enter Tryz.func56 rfl Tryz.ntmps56 (by simp) ?_
  have hS := Sep.void; unfold impl_Auto_reach at hF
  refine AWP.seqR rfl ?_
  refine ASL.q (v := (.int .i64 0)) rfl rfl (Light.quiet (opAssign rfl rfl)) ?_
  refine ASL.done ?_
  refine AWP.block ?_
  obtain ⟨o4, hL3, hR5⟩ := bindE hF
  refine AWP.loopF (ω := Unit) hL3 (fun s w => [(0, (.rptr [(.int .i64 p0.letters), (.int .i64 p0.states), (.int .i64 p0.start), (.list 4 (List.map TEdge.av p0.edges))])), (1, (.int .i64 s))]) (fun s w => []) () ⟨rfl, rfl, trivial⟩ (hS.pick [] rfl rfl) ?_
  rintro x1_l0 _ G6 hS x1 hF hx2
  try dsimp only at hS ⊢
  have hF : impl_Auto_reach.b0 p0 x1_l0 = some x1 := hF; unfold impl_Auto_reach.b0 at hF
  refine AWP.block ?_
  refine AWP.seqR rfl ?_
  refine ASL.q (v := (.int .i64 x1_l0)) rfl rfl (Light.quiet (opMove rfl rfl)) ?_
  refine ASL.q (v := (.int .i64 x1_l0)) rfl rfl (Light.quiet (opAssign rfl rfl)) ?_
  refine ASL.done ?_
  refine AWP.seqM (fun e H => ∃ x5_1 : Int, E.Told e [(0, (.rptr [(.int .i64 p0.letters), (.int .i64 p0.states), (.int .i64 p0.start), (.list 4 (List.map TEdge.av p0.edges))])), (1, (.int .i64 x1_l0)), (5, (.int .i64 x5_1))] ∧ E.Sep H [] ∧ impl_Auto_reach.k0 x1_l0 x5_1 = some x1) ?_ ?_
  · rintro e0 G8 ⟨x5_1, hT, hS, hF⟩; refine AWP.only _ hT ?_; unfold impl_Auto_reach.k0 at hF
    refine AWP.seq ?_
    refine AWP.seqR rfl ?_
    refine ASL.q (v := (.int .i64 x5_1)) rfl rfl (Light.quiet (opMove rfl rfl)) ?_
    refine ASL.q (v := (.int .i64 x1_l0)) rfl rfl (Light.quiet (opMove rfl rfl)) ?_
    refine ASL.q (v := (.bool (decide (x5_1 = x1_l0)))) rfl rfl (Light.quiet (opInt rfl rfl rfl rfl)) ?_
    refine ASL.done ?_
    refine AWP.ifP hF rfl (fun hc7 hF => ?_) (fun hc7 hF => ?_)
    · skip
      refine AWP.seqR rfl ?_
      refine ASL.q (v := (.int .i64 x1_l0)) rfl rfl (Light.quiet (opMove rfl rfl)) ?_
      refine ASL.q (v := (.int .i64 x1_l0)) rfl rfl (Light.quiet (opAssign rfl rfl)) ?_
      refine ASL.done ?_
      refine AWP.ret ?_
      refine QThen.rt ?_
      refine QBlock.ret ?_
      refine QThen.rt ?_
      refine QBlock.ret ?_
      obtain rfl := (hx2 _ (someE hF).symm)
      have hF := hR5
      obtain rfl := someE hF
      exact QRet.sole (v := (.int .i64 x1_l0)) ⟨rfl, trivial⟩ rfl
    · skip
      refine AWP.skip ?_
      refine QThen.nrm ?_
      refine AWP.lastR rfl ?_
      refine ASL.q (v := (.int .i64 x5_1)) rfl rfl (Light.quiet (opMove rfl rfl)) ?_
      refine ASL.q (v := (.int .i64 x5_1)) rfl rfl (Light.quiet (opAssign rfl rfl)) ?_
      refine ASL.done ?_
      refine QBlock.nrm ?_
      refine QThen.nrm ?_
      exact ⟨x5_1, (), (someE hF).symm, ⟨rfl, rfl, trivial⟩, (hS.pick [] rfl rfl)⟩
  · skip
    refine AWP.seqR rfl ?_
    refine ASL.q (v := (.rptr [(.int .i64 p0.letters), (.int .i64 p0.states), (.int .i64 p0.start), (.list 4 (List.map TEdge.av p0.edges))])) rfl rfl (Light.quiet (opMove rfl rfl)) ?_
    refine ASL.q (v := (.rptr [(.int .i64 p0.letters), (.int .i64 p0.states), (.int .i64 p0.start), (.list 4 (List.map TEdge.av p0.edges))])) rfl rfl (Light.quiet (opNil rfl rfl rfl)) ?_
    refine ASL.q (v := (.rptr [(.list 4 (List.map TEdge.av p0.edges))])) rfl rfl (Light.quiet (opFieldAddrR rfl fieldA_26_3 rfl rfl)) ?_
    refine ASL.q (v := (.list 4 (List.map TEdge.av p0.edges))) rfl rfl (Light.quiet (opLoadR rfl aggA_24 rfl rfl)) ?_
    refine ASL.q (v := (.int .i64 (p0.edges.length : Int))) rfl rfl (Light.quiet (opLenMap (f := TEdge.av) rfl rfl rfl lenT_24 rfl)) ?_
    refine ASL.q (v := (.int .i64 0)) rfl rfl (Light.quiet (opMove rfl rfl)) ?_
    refine ASL.done ?_
    refine AWP.block ?_
    obtain ⟨o12, hL11, hR13⟩ := bindE hF
    refine AWP.loopF (ω := Unit) hL11 (fun s w => [(0, (.rptr [(.int .i64 p0.letters), (.int .i64 p0.states), (.int .i64 p0.start), (.list 4 (List.map TEdge.av p0.edges))])), (1, (.int .i64 x1_l0)), (5, (.int .i64 s.1)), (12, (.list 4 (List.map TEdge.av p0.edges))), (13, (.int .i64 (p0.edges.length : Int))), (14, (.int .i64 s.2))]) (fun s w => []) () ⟨rfl, rfl, rfl, rfl, rfl, rfl, trivial⟩ (hS.pick [] rfl rfl) ?_
    rintro ⟨x5_l1, x14_l1⟩ _ G14 hS x9 hF hx10
    try dsimp only at hS ⊢
    have hF : impl_Auto_reach.b1 p0 x5_l1 x14_l1 = some x9 := hF; unfold impl_Auto_reach.b1 at hF
    refine AWP.seqR rfl ?_
    refine ASL.q (v := (.bool (decide (x14_l1 < ((p0.edges.length : Int)))))) rfl rfl (Light.quiet (opInt rfl rfl rfl rfl)) ?_
    refine ASL.done ?_
    refine AWP.seq ?_
    refine AWP.ifP hF rfl (fun hc15 hF => ?_) (fun hc15 hF => ?_)
    · skip
      refine AWP.skip ?_
      refine QThen.nrm ?_
      refine AWP.seq ?_
      refine AWP.block ?_
      refine AWP.seqR rfl ?_
      obtain ⟨a16, ha16, hF⟩ := bindE hF
      refine ASL.q (v := (.rptr [(.int .i64 a16.from_), (.int .i64 a16.letter), (.int .i64 a16.to_), (.bool a16.good)])) rfl rfl (Light.quiet (kIx (f := TEdge.av) ha16 rfl rfl rfl elemA_24 sizeA_68 rfl)) ?_
      refine ASL.q (v := (TEdge.av a16)) rfl rfl (Light.quiet (opLoadRA rfl aggA_68 sizeA_68 rfl (nlt rfl) rfl)) ?_
      refine ASL.x rfl rfl (hNewZ hS [(.int .i64 0), (.int .i64 0), (.int .i64 0), (.bool false)] rfl zeroA_68 ⟨.inl rfl, .inl rfl, .inl rfl, .inl rfl, trivial⟩ ?_); rintro b7 G16 hK hS
      refine ASL.n rfl rfl (hPutA hS (j := 0) rfl rfl sizeA_68 rfl rfl rfl rfl rfl (nlt rfl) ?_); rintro G18 hS
      refine ASL.done ?_
      refine AWP.seqR rfl ?_
      refine ASL.q (v := (.int .i64 x5_l1)) rfl rfl (Light.quiet (opMove rfl rfl)) ?_
      refine ASL.q (v := (.ptr b7 0)) rfl rfl (Light.quiet (opFieldAddr rfl fieldA_68_0 rfl rfl)) ?_
      refine ASL.q (v := (.int .i64 a16.from_)) rfl rfl (Light.quiet (kAt hS (j := 0) rfl rfl aggA_3 rfl rfl)) ?_
      refine ASL.q (v := (.bool (impl_has x5_l1 a16.from_))) rfl rfl ((qCall rfl rfl call_71 (impl_has_ok x5_l1 a16.from_) rfl)) ?_
      refine ASL.done ?_
      refine AWP.ifB hF rfl (fun hc19 hF => ?_) (fun hc19 hF => ?_)
      · skip
        refine AWP.lastR rfl ?_
        refine ASL.q (v := (.int .i64 x5_l1)) rfl rfl (Light.quiet (opMove rfl rfl)) ?_
        refine ASL.q (v := (.ptr b7 2)) rfl rfl (Light.quiet (opFieldAddr rfl fieldA_68_2 rfl rfl)) ?_
        refine ASL.q (v := (.int .i64 a16.to_)) rfl rfl (Light.quiet (kAt hS (j := 0) rfl rfl aggA_3 rfl rfl)) ?_
        refine ASL.q (v := (.int .i64 (impl_only a16.to_))) rfl rfl ((qCall rfl rfl call_43 (impl_only_ok a16.to_) rfl)) ?_
        refine ASL.q (v := (.int .i64 (bOr .i64 x5_l1 ((impl_only a16.to_))))) rfl rfl (Light.quiet (opInt rfl rfl rfl rfl)) ?_
        refine ASL.q (v := (.int .i64 (bOr .i64 x5_l1 ((impl_only a16.to_))))) rfl rfl (Light.quiet (opAssign rfl rfl)) ?_
        refine ASL.done ?_
        refine QBlock.nrm ?_
        refine QThen.nrm ?_
        refine AWP.lastR rfl ?_
        refine ASL.q (v := (.int .i64 (W (x14_l1 + 1)))) rfl rfl (Light.quiet (opInt rfl rfl rfl rfl)) ?_
        refine ASL.q (v := (.int .i64 (W (x14_l1 + 1)))) rfl rfl (Light.quiet (opMove rfl rfl)) ?_
        refine ASL.done ?_
        refine QThen.nrm ?_
        exact ⟨((bOr .i64 x5_l1 ((impl_only a16.to_))), (W (x14_l1 + 1))), (), (someE hF).symm, ⟨rfl, rfl, rfl, rfl, rfl, rfl, trivial⟩, (hS.pick [] rfl rfl)⟩
      · skip
        refine AWP.skip ?_
        refine QBlock.nrm ?_
        refine QThen.nrm ?_
        refine AWP.lastR rfl ?_
        refine ASL.q (v := (.int .i64 (W (x14_l1 + 1)))) rfl rfl (Light.quiet (opInt rfl rfl rfl rfl)) ?_
        refine ASL.q (v := (.int .i64 (W (x14_l1 + 1)))) rfl rfl (Light.quiet (opMove rfl rfl)) ?_
        refine ASL.done ?_
        refine QThen.nrm ?_
        exact ⟨(x5_l1, (W (x14_l1 + 1))), (), (someE hF).symm, ⟨rfl, rfl, rfl, rfl, rfl, rfl, trivial⟩, (hS.pick [] rfl rfl)⟩
    · skip
      refine AWP.exit ?_
      refine QThen.ext ?_
      refine QThen.ext ?_
      refine QBlock.hit ?_
      obtain rfl := (hx10 _ (someE hF).symm)
      have hF := hR13
      refine QThen.nrm ?_
      exact ⟨x5_l1, ⟨rfl, rfl, rfl, trivial⟩, (hS.pick [] rfl rfl), hF⟩

set_option maxRecDepth 10000 in
theorem impl_Auto_kept_ok {p0 : TAuto} {p1 : Int} {r : (TAuto × (List Int))} (hF : impl_Auto_kept p0 p1 = some r) : HS Tryz.prog 55 [(.rptr [(.int .i64 p0.letters), (.int .i64 p0.states), (.int .i64 p0.start), (.list 4 (List.map TEdge.av p0.edges))]), (.int .i64 p1)] [] fun v L' => ∃ o0_Edges : AV, ∃ o1 : AV, v = .tup [(.agg [(.int .i64 r.1.letters), (.int .i64 r.1.states), (.int .i64 r.1.start), o0_Edges]), o1] ∧ L' = [.row 4 o0_Edges (List.map TEdge.av r.1.edges), .row 1 o1 (List.map (AV.int .i64) r.2)] := by
  intro H S hS
  refine HC.enter Tryz.func55 rfl Tryz.ntmps55 (by simp) ?_
  simp only [List.cons_append, List.nil_append] at hS
  unfold impl_Auto_kept at hF
  refine AWP.seqR rfl ?_
  have hS := hNil (s := 4) (f := TEdge.av) hS
  refine ASL.x rfl rfl (hNewZ hS [(.int .i64 0), (.int .i64 0), (.int .i64 0), .nil] rfl zeroA_26 ⟨.inl rfl, .inl rfl, .inl rfl, .inl rfl, trivial⟩ ?_); rintro b4 G1 hK hS
  have hS := hNil (s := 1) (f := (AV.int .i64)) hS
  refine ASL.q (v := .nil) rfl rfl (Light.quiet (opAssign rfl rfl)) ?_
  refine ASL.done ?_
  refine AWP.seqR rfl ?_
  refine ASL.q (v := (.int .i64 p1)) rfl rfl (Light.quiet (opMove rfl rfl)) ?_
  refine ASL.q (v := (.rptr [(.int .i64 p0.letters), (.int .i64 p0.states), (.int .i64 p0.start), (.list 4 (List.map TEdge.av p0.edges))])) rfl rfl (Light.quiet (opMove rfl rfl)) ?_
  refine ASL.q (v := (.rptr [(.int .i64 p0.letters), (.int .i64 p0.states), (.int .i64 p0.start), (.list 4 (List.map TEdge.av p0.edges))])) rfl rfl (Light.quiet (opNil rfl rfl rfl)) ?_
  refine ASL.q (v := (.rptr [(.int .i64 p0.states), (.int .i64 p0.start), (.list 4 (List.map TEdge.av p0.edges))])) rfl rfl (Light.quiet (opFieldAddrR rfl fieldA_26_1 rfl rfl)) ?_
  refine ASL.q (v := (.int .i64 p0.states)) rfl rfl (Light.quiet (opLoadR rfl aggA_3 rfl rfl)) ?_
  refine ASL.q (v := (.int .i64 (impl_only p0.states))) rfl rfl ((qCall rfl rfl call_43 (impl_only_ok p0.states) rfl)) ?_
  refine ASL.q (v := (.int .i64 (W (((impl_only p0.states)) - 1)))) rfl rfl (Light.quiet (opInt rfl rfl rfl rfl)) ?_
  refine ASL.q (v := (.int .i64 (bAnd .i64 p1 ((W (((impl_only p0.states)) - 1)))))) rfl rfl (Light.quiet (opInt rfl rfl rfl rfl)) ?_
  obtain ⟨a21, ha21, hF⟩ := bindE hF
  refine ASL.x rfl rfl (hCallO hS rfl rfl call_50 (impl_SetList_ok ha21) rfl ?_); rintro v21 G5 hK hS
  refine ASL.q (v := v21) rfl rfl (Light.quiet (opAssign rfl rfl)) ?_
  refine ASL.done ?_
  refine AWP.seqR rfl ?_
  refine ASL.q (v := (.rptr [(.int .i64 p0.letters), (.int .i64 p0.states), (.int .i64 p0.start), (.list 4 (List.map TEdge.av p0.edges))])) rfl rfl (Light.quiet (opMove rfl rfl)) ?_
  refine ASL.q (v := (.rptr [(.int .i64 p0.letters), (.int .i64 p0.states), (.int .i64 p0.start), (.list 4 (List.map TEdge.av p0.edges))])) rfl rfl (Light.quiet (opNil rfl rfl rfl)) ?_
  refine ASL.q (v := (.rptr [(.int .i64 p0.letters), (.int .i64 p0.states), (.int .i64 p0.start), (.list 4 (List.map TEdge.av p0.edges))])) rfl rfl (Light.quiet (opFieldAddrR rfl fieldA_26_0 rfl rfl)) ?_
  refine ASL.q (v := (.int .i64 p0.letters)) rfl rfl (Light.quiet (opLoadR rfl aggA_3 rfl rfl)) ?_
  refine ASL.q (v := v21) rfl rfl (Light.quiet (opMove rfl rfl)) ?_
  refine ASL.q (v := (.int .i64 (a21.length : Int))) rfl rfl (Light.quiet (kLen hS (j := 0) rfl rfl rfl rfl lenT_42 rfl)) ?_
  refine ASL.q (v := (.agg [(.int .i64 p0.letters), (.int .i64 (a21.length : Int)), (.int .i64 0), .nil])) rfl rfl (Light.quiet (opBuildZ (zs := [(.int .i64 0), (.int .i64 0), (.int .i64 0), .nil]) rfl plan_26 zeroA_26 ⟨.inl rfl, .inl rfl, .inl rfl, .inl rfl, trivial⟩ rfl)) ?_
  have hS := hNil (s := 4) (f := TEdge.av) hS
  refine ASL.x rfl rfl (hNewZ hS [(.int .i64 0), (.int .i64 0), (.int .i64 0), .nil] rfl zeroA_26 ⟨.inl rfl, .inl rfl, .inl rfl, .inl rfl, trivial⟩ ?_); rintro b7 G7 hK hS
  have hS := hNil (s := 4) (f := TEdge.av) hS
  refine ASL.n rfl rfl (hPutA hS (j := 1) rfl rfl sizeA_26 rfl rfl rfl rfl (allC rfl (allC rfl (allC rfl (allC (hS.one (k := 0) rfl) rfl)))) (nlt rfl) ?_); rintro G10 hS
  refine ASL.done ?_
  refine AWP.seqR rfl ?_
  refine ASL.q (v := (.rptr [(.int .i64 p0.letters), (.int .i64 p0.states), (.int .i64 p0.start), (.list 4 (List.map TEdge.av p0.edges))])) rfl rfl (Light.quiet (opMove rfl rfl)) ?_
  refine ASL.q (v := (.rptr [(.int .i64 p0.letters), (.int .i64 p0.states), (.int .i64 p0.start), (.list 4 (List.map TEdge.av p0.edges))])) rfl rfl (Light.quiet (opNil rfl rfl rfl)) ?_
  refine ASL.q (v := (.rptr [(.int .i64 p0.states), (.int .i64 p0.start), (.list 4 (List.map TEdge.av p0.edges))])) rfl rfl (Light.quiet (opFieldAddrR rfl fieldA_26_1 rfl rfl)) ?_
  refine ASL.q (v := (.int .i64 p0.states)) rfl rfl (Light.quiet (opLoadR rfl aggA_3 rfl rfl)) ?_
  obtain ⟨z33, hz33, hF⟩ := bindE hF
  refine ASL.x rfl rfl (hMk (f := (AV.int .i64)) hS hz33 (by decide) rfl elemA_42 sizeA_3 bytesA_3 zeroA_3 rfl rfl (by decide) rfl rfl ?_); rintro v33 G12 hK hS
  refine ASL.q (v := v33) rfl rfl (Light.quiet (opAssign rfl rfl)) ?_
  refine ASL.done ?_
  refine AWP.seqM (fun e H => ∃ y14 : Int, ∃ y15 : Int, ∃ y16 : Int, ∃ y17 : (List TEdge), ∃ y20 : (List Int), ∃ w18 : AV, E.Told e [(0, (.rptr [(.int .i64 p0.letters), (.int .i64 p0.states), (.int .i64 p0.start), (.list 4 (List.map TEdge.av p0.edges))])), (1, (.int .i64 p1)), (4, (.ptr b4 0)), (6, v21), (7, (.ptr b7 0)), (8, v33)] ∧ E.Sep H [.row 4 .nil (List.map TEdge.av ([])), .cell b4 [(.int .i64 0), (.int .i64 0), (.int .i64 0), .nil], .row 1 v21 (List.map (AV.int .i64) a21), .row 4 w18 (List.map TEdge.av y17), .cell b7 [(.int .i64 y14), (.int .i64 y15), (.int .i64 y16), w18], .row 1 v33 (List.map (AV.int .i64) y20), .snap S] ∧ impl_Auto_kept.k0 p0 p1 a21 y14 y15 y16 y17 y20 = some r) ?_ ?_
  · rintro e0 G51 ⟨y14, y15, y16, y17, y20, w18, hT, hS, hF⟩; refine AWP.only _ hT ?_; unfold impl_Auto_kept.k0 at hF
    refine AWP.seqM (fun e H => ∃ y21 : Int, ∃ y22 : Int, ∃ y23 : Int, ∃ y24 : (List TEdge), ∃ w25 : AV, E.Told e [(4, (.ptr b4 0)), (6, v21), (7, (.ptr b7 0))] ∧ E.Sep H [.row 4 .nil (List.map TEdge.av ([])), .cell b4 [(.int .i64 0), (.int .i64 0), (.int .i64 0), .nil], .row 1 v21 (List.map (AV.int .i64) a21), .row 4 w25 (List.map TEdge.av y24), .cell b7 [(.int .i64 y21), (.int .i64 y22), (.int .i64 y23), w25], .snap S] ∧ impl_Auto_kept.k1 a21 y21 y22 y23 y24 = some r) ?_ ?_
    · rintro e0 G28 ⟨y21, y22, y23, y24, w25, hT, hS, hF⟩; refine AWP.only _ hT ?_; unfold impl_Auto_kept.k1 at hF
      refine AWP.seqR rfl ?_
      refine ASL.q (v := (.agg [(.int .i64 y21), (.int .i64 y22), (.int .i64 y23), w25])) rfl rfl (Light.quiet (kAtA hS (j := 4) rfl rfl aggA_26 sizeA_26 rfl (nlt rfl) rfl)) ?_
      refine ASL.q (v := v21) rfl rfl (Light.quiet (opMove rfl rfl)) ?_
      refine ASL.n rfl rfl (hPutA hS (j := 1) rfl rfl sizeA_26 rfl rfl rfl rfl (allC rfl (allC rfl (allC rfl (allC (hS.one (k := 3) rfl) rfl)))) (nlt rfl) ?_); rintro G27 hS
      refine ASL.q (v := v21) rfl rfl (Light.quiet (opAssign rfl rfl)) ?_
      refine ASL.done ?_
      refine AWP.ret ?_
      obtain rfl := someE hF
      exact QRet.many (vs := [(.agg [(.int .i64 y21), (.int .i64 y22), (.int .i64 y23), w25]), v21]) ⟨resOne.at hS (k := 1) rfl rfl aggA_26 sizeA_26, rfl, trivial⟩ (by simp) ⟨_, ⟨w25, v21, rfl, rfl⟩, hS.pick [3, 2, 5] rfl rfl⟩
    · skip
      refine AWP.seqR rfl ?_
      refine ASL.q (v := (.rptr [(.int .i64 p0.letters), (.int .i64 p0.states), (.int .i64 p0.start), (.list 4 (List.map TEdge.av p0.edges))])) rfl rfl (Light.quiet (opMove rfl rfl)) ?_
      refine ASL.q (v := (.rptr [(.int .i64 p0.letters), (.int .i64 p0.states), (.int .i64 p0.start), (.list 4 (List.map TEdge.av p0.edges))])) rfl rfl (Light.quiet (opNil rfl rfl rfl)) ?_
      refine ASL.q (v := (.rptr [(.list 4 (List.map TEdge.av p0.edges))])) rfl rfl (Light.quiet (opFieldAddrR rfl fieldA_26_3 rfl rfl)) ?_
      refine ASL.q (v := (.list 4 (List.map TEdge.av p0.edges))) rfl rfl (Light.quiet (opLoadR rfl aggA_24 rfl rfl)) ?_
      refine ASL.q (v := (.int .i64 (p0.edges.length : Int))) rfl rfl (Light.quiet (opLenMap (f := TEdge.av) rfl rfl rfl lenT_24 rfl)) ?_
      refine ASL.q (v := (.int .i64 0)) rfl rfl (Light.quiet (opMove rfl rfl)) ?_
      refine ASL.done ?_
      refine AWP.block ?_
      obtain ⟨o38, hL37, hR39⟩ := bindE hF
      refine AWP.loopF (ω := AV) hL37 (fun s w => [(1, (.int .i64 p1)), (4, (.ptr b4 0)), (6, v21), (7, (.ptr b7 0)), (8, v33), (61, (.list 4 (List.map TEdge.av p0.edges))), (62, (.int .i64 (p0.edges.length : Int))), (63, (.int .i64 s.2.2.2.2))]) (fun s w => [.row 4 .nil (List.map TEdge.av ([])), .cell b4 [(.int .i64 0), (.int .i64 0), (.int .i64 0), .nil], .row 1 v21 (List.map (AV.int .i64) a21), .row 4 w (List.map TEdge.av s.2.2.2.1), .cell b7 [(.int .i64 s.1), (.int .i64 s.2.1), (.int .i64 s.2.2.1), w], .row 1 v33 (List.map (AV.int .i64) y20), .snap S]) w18 ⟨rfl, rfl, rfl, rfl, rfl, rfl, rfl, rfl, trivial⟩ (hS.pick [0, 1, 2, 3, 4, 5, 6] rfl rfl) ?_
      rintro ⟨y29, y30, y31, y32, x63_l0⟩ w33 G40 hS x35 hF hx36
      try dsimp only at hS ⊢
      have hF : impl_Auto_kept.b0 p0 p1 y20 y29 y30 y31 y32 x63_l0 = some x35 := hF; unfold impl_Auto_kept.b0 at hF
      refine AWP.seqR rfl ?_
      refine ASL.q (v := (.bool (decide (x63_l0 < ((p0.edges.length : Int)))))) rfl rfl (Light.quiet (opInt rfl rfl rfl rfl)) ?_
      refine ASL.done ?_
      refine AWP.seq ?_
      refine AWP.ifP hF rfl (fun hc41 hF => ?_) (fun hc41 hF => ?_)
      · skip
        refine AWP.skip ?_
        refine QThen.nrm ?_
        refine AWP.seq ?_
        refine AWP.block ?_
        refine AWP.seqR rfl ?_
        obtain ⟨a65, ha65, hF⟩ := bindE hF
        refine ASL.q (v := (.rptr [(.int .i64 a65.from_), (.int .i64 a65.letter), (.int .i64 a65.to_), (.bool a65.good)])) rfl rfl (Light.quiet (kIx (f := TEdge.av) ha65 rfl rfl rfl elemA_24 sizeA_68 rfl)) ?_
        refine ASL.q (v := (TEdge.av a65)) rfl rfl (Light.quiet (opLoadRA rfl aggA_68 sizeA_68 rfl (nlt rfl) rfl)) ?_
        refine ASL.x rfl rfl (hNewZ hS [(.int .i64 0), (.int .i64 0), (.int .i64 0), (.bool false)] rfl zeroA_68 ⟨.inl rfl, .inl rfl, .inl rfl, .inl rfl, trivial⟩ ?_); rintro b12 G42 hK hS
        refine ASL.n rfl rfl (hPutA hS (j := 0) rfl rfl sizeA_68 rfl rfl rfl rfl rfl (nlt rfl) ?_); rintro G44 hS
        refine ASL.done ?_
        refine AWP.seqR rfl ?_
        refine ASL.q (v := (.int .i64 p1)) rfl rfl (Light.quiet (opMove rfl rfl)) ?_
        refine ASL.q (v := (.ptr b12 0)) rfl rfl (Light.quiet (opFieldAddr rfl fieldA_68_0 rfl rfl)) ?_
        refine ASL.q (v := (.int .i64 a65.from_)) rfl rfl (Light.quiet (kAt hS (j := 0) rfl rfl aggA_3 rfl rfl)) ?_
        refine ASL.q (v := (.bool (impl_has p1 a65.from_))) rfl rfl ((qCall rfl rfl call_71 (impl_has_ok p1 a65.from_) rfl)) ?_
        obtain ⟨c71, hc71, hF⟩ := bndE hF
        refine ASL.q (v := (.bool c71)) rfl rfl ((Quiet.cast (Light.quiet (opMove rfl rfl)) (congrArg AV.bool hc71.symm))) ?_
        refine ASL.g (v := (.int .i64 p1)) (.bool c71) true rfl (wT _) rfl (fun hG => by have q0 := hG; subst q0; exact Light.quiet (opMove rfl rfl)) ?_
        refine ASL.g (v := (.ptr b12 2)) (.bool c71) true rfl (wT _) rfl (fun hG => by have q0 := hG; subst q0; exact Light.quiet (opFieldAddr rfl fieldA_68_2 rfl rfl)) ?_
        refine ASL.g (v := (.int .i64 a65.to_)) (.bool c71) true rfl (wT _) rfl (fun hG => by have q0 := hG; subst q0; exact Light.quiet (kAt hS (j := 0) rfl rfl aggA_3 rfl rfl)) ?_
        refine ASL.g (v := (.bool (impl_has p1 a65.to_))) (.bool c71) true rfl (wT _) rfl (fun hG => by have q0 := hG; subst q0; exact (qCall rfl rfl call_71 (impl_has_ok p1 a65.to_) rfl)) ?_
        refine ASL.q (v := (.bool (c71 && (impl_has p1 a65.to_)))) rfl rfl (Light.quiet (opPick (b := c71) rfl rfl (by cases c71 <;> rfl))) ?_
        refine ASL.done ?_
        refine AWP.ifB hF rfl (fun hc45 hF => ?_) (fun hc45 hF => ?_)
        · skip
          refine AWP.seqD [(0, false), (1, false), (2, false), (3, false), (4, false), (5, false), (6, false), (7, false), (8, false), (9, false), (10, false), (11, true), (12, false), (13, true)] mixed (by kernel_rfl) rfl ?_
          refine ARL.q0 (v := v33) rfl rfl (Light.quiet (opMove rfl rfl)) ?_
          refine ARL.q0 (v := (.ptr b12 0)) rfl rfl (Light.quiet (opFieldAddr rfl fieldA_68_0 rfl rfl)) ?_
          refine ARL.q (v := (.int .i64 a65.from_)) rfl rfl (hS.aliveC (k := 0) rfl) (Light.quiet (kAt hS (j := 0) rfl rfl aggA_3 rfl rfl)) ?_
          obtain ⟨a80, ha80, hF⟩ := bindE hF
          refine ARL.q0 (v := (ptrTo v33 a65.from_.toNat 1)) rfl rfl (Light.quiet (kIxOx hS (j := 6) rfl ha80 rfl rfl rfl elemA_42 sizeA_3)) ?_
          refine ARL.q (v := (.int .i64 a80)) rfl rfl (hS.aliveR (k := 6) rfl) (Light.quiet (kLd (f := (AV.int .i64)) hS (j := 6) rfl ha80 rfl aggA_3 rfl (fun _ => rfl))) ?_
          refine ARL.q0 (v := v33) rfl rfl (Light.quiet (opMove rfl rfl)) ?_
          refine ARL.q0 (v := (.ptr b12 2)) rfl rfl (Light.quiet (opFieldAddr rfl fieldA_68_2 rfl rfl)) ?_
          refine ARL.q (v := (.int .i64 a65.to_)) rfl rfl (hS.aliveC (k := 0) rfl) (Light.quiet (kAt hS (j := 0) rfl rfl aggA_3 rfl rfl)) ?_
          obtain ⟨a85, ha85, hF⟩ := bindE hF
          refine ARL.q0 (v := (ptrTo v33 a65.to_.toNat 1)) rfl rfl (Light.quiet (kIxOx hS (j := 6) rfl ha85 rfl rfl rfl elemA_42 sizeA_3)) ?_
          refine ARL.q (v := (.int .i64 a85)) rfl rfl (hS.aliveR (k := 6) rfl) (Light.quiet (kLd (f := (AV.int .i64)) hS (j := 6) rfl ha85 rfl aggA_3 rfl (fun _ => rfl))) ?_
          refine ARL.q0 (v := (.ptr b12 0)) rfl rfl (Light.quiet (opFieldAddr rfl fieldA_68_0 rfl rfl)) ?_
          refine ARL.nB rfl rfl rfl ⟨.inr (by simp), .inr (hS.ap (j := 6) (k := 0) rfl rfl rfl), .inr (by simp), .inl rfl, .inr (by simp), .inr (by simp), .inl rfl, .inr (by simp), .inl rfl, .inr (by simp), .inr (by simp), trivial⟩ (hPutB hS (j := 0) rfl rfl sizeA_3 rfl rfl rfl (nlt rfl) ?_); rintro G46 hB hS; refine ⟨hB, ?_⟩
          refine ARL.q0 (v := (.ptr b12 2)) rfl rfl (Light.quiet (opFieldAddr rfl fieldA_68_2 rfl rfl)) ?_
          refine ARL.n rfl rfl rfl rfl (hPut hS (j := 0) rfl rfl sizeA_3 rfl rfl rfl (nlt rfl) ?_); rintro G47 hS
          refine ARL.done ?_
          refine AWP.lastR rfl ?_
          refine ASL.q (v := (.ptr b7 3)) rfl rfl (Light.quiet (opFieldAddr rfl fieldA_26_3 rfl rfl)) ?_
          refine ASL.q (v := w33) rfl rfl (Light.quiet (kAt hS (j := 5) rfl rfl aggA_24 rfl rfl)) ?_
          refine ASL.q (v := (.agg [(.int .i64 a80), (.int .i64 a65.letter), (.int .i64 a85), (.bool a65.good)])) rfl rfl (Light.quiet (kAtA hS (j := 0) rfl rfl aggA_68 sizeA_68 rfl (nlt rfl) rfl)) ?_
          refine ASL.q (v := (.list 4 (List.map TEdge.av [(TEdge.mk a80 a65.letter a85 a65.good)]))) rfl rfl ((qLit (xs := [(.agg [(.int .i64 a80), (.int .i64 a65.letter), (.int .i64 a85), (.bool a65.good)])]) rfl elemA_24 sizeA_68 zeroA_68 rfl rfl rfl rfl (by simp [cells, TEdge.av]) (nlt rfl))) ?_
          obtain ⟨z93, hz93, hF⟩ := bindE hF
          refine ASL.x rfl rfl (hApp (f := TEdge.av) (ws := [(TEdge.mk a80 a65.letter a85 a65.good)]) hS (j := 4) rfl hz93 rfl elemA_24 rfl sizeA_68 bytesA_68 zeroA_68 rfl rfl rfl (fun _ => rfl) ?_); rintro v93 G48 hS
          refine ASL.q (v := (.ptr b7 3)) rfl rfl (Light.quiet (opFieldAddr rfl fieldA_26_3 rfl rfl)) ?_
          refine ASL.n rfl rfl (hPut hS (j := 5) rfl rfl sizeA_24 rfl rfl (hS.one (k := 4) rfl) (nlt rfl) ?_); rintro G50 hS
          refine ASL.done ?_
          refine QBlock.nrm ?_
          refine QThen.nrm ?_
          refine AWP.lastR rfl ?_
          refine ASL.q (v := (.int .i64 (W (x63_l0 + 1)))) rfl rfl (Light.quiet (opInt rfl rfl rfl rfl)) ?_
          refine ASL.q (v := (.int .i64 (W (x63_l0 + 1)))) rfl rfl (Light.quiet (opMove rfl rfl)) ?_
          refine ASL.done ?_
          refine QThen.nrm ?_
          exact ⟨(y29, y30, y31, z93, (W (x63_l0 + 1))), v93, (someE hF).symm, ⟨rfl, rfl, rfl, rfl, rfl, rfl, rfl, rfl, trivial⟩, (hS.pick [1, 2, 3, 4, 5, 6, 7] rfl rfl)⟩
        · skip
          refine AWP.skip ?_
          refine QBlock.nrm ?_
          refine QThen.nrm ?_
          refine AWP.lastR rfl ?_
          refine ASL.q (v := (.int .i64 (W (x63_l0 + 1)))) rfl rfl (Light.quiet (opInt rfl rfl rfl rfl)) ?_
          refine ASL.q (v := (.int .i64 (W (x63_l0 + 1)))) rfl rfl (Light.quiet (opMove rfl rfl)) ?_
          refine ASL.done ?_
          refine QThen.nrm ?_
          exact ⟨(y29, y30, y31, y32, (W (x63_l0 + 1))), w33, (someE hF).symm, ⟨rfl, rfl, rfl, rfl, rfl, rfl, rfl, rfl, trivial⟩, (hS.pick [1, 2, 3, 4, 5, 6, 7] rfl rfl)⟩
      · skip
        refine AWP.exit ?_
        refine QThen.ext ?_
        refine QThen.ext ?_
        refine QBlock.hit ?_
        obtain rfl := (hx36 _ (someE hF).symm)
        have hF := hR39
        refine QThen.nrm ?_
        exact ⟨y29, y30, y31, y32, w33, ⟨rfl, rfl, rfl, trivial⟩, (hS.pick [0, 1, 2, 3, 4, 6] rfl rfl), hF⟩
  · skip
    refine AWP.seqR rfl ?_
    refine ASL.q (v := v21) rfl rfl (Light.quiet (opMove rfl rfl)) ?_
    refine ASL.q (v := (.int .i64 (a21.length : Int))) rfl rfl (Light.quiet (kLen hS (j := 4) rfl rfl rfl rfl lenT_42 rfl)) ?_
    refine ASL.q (v := (.int .i64 0)) rfl rfl (Light.quiet (opMove rfl rfl)) ?_
    refine ASL.done ?_
    refine AWP.block ?_
    obtain ⟨o62, hL61, hR63⟩ := bindE hF
    refine AWP.loopF (ω := AV) hL61 (fun s w => [(0, (.rptr [(.int .i64 p0.letters), (.int .i64 p0.states), (.int .i64 p0.start), (.list 4 (List.map TEdge.av p0.edges))])), (1, (.int .i64 p1)), (4, (.ptr b4 0)), (6, v21), (7, (.ptr b7 0)), (8, v33), (34, v21), (35, (.int .i64 (a21.length : Int))), (36, (.int .i64 s.2.2.2.2.2))]) (fun s w => [.row 4 .nil (List.map TEdge.av ([])), .cell b4 [(.int .i64 0), (.int .i64 0), (.int .i64 0), .nil], .row 1 v21 (List.map (AV.int .i64) a21), .row 4 w (List.map TEdge.av s.2.2.2.1), .cell b7 [(.int .i64 s.1), (.int .i64 s.2.1), (.int .i64 s.2.2.1), w], .row 1 v33 (List.map (AV.int .i64) s.2.2.2.2.1), .snap S]) .nil ⟨rfl, rfl, rfl, rfl, rfl, rfl, rfl, rfl, rfl, trivial⟩ (hS.pick [7, 6, 4, 1, 2, 0, 8] rfl rfl) ?_
    rintro ⟨y52, y53, y54, y55, y58, x36_l1⟩ w56 G64 hS x59 hF hx60
    try dsimp only at hS ⊢
    have hF : impl_Auto_kept.b1 a21 p0 y52 y53 y54 y55 y58 x36_l1 = some x59 := hF; unfold impl_Auto_kept.b1 at hF
    refine AWP.seqR rfl ?_
    refine ASL.q (v := (.bool (decide (x36_l1 < ((a21.length : Int)))))) rfl rfl (Light.quiet (opInt rfl rfl rfl rfl)) ?_
    refine ASL.done ?_
    refine AWP.seq ?_
    refine AWP.ifP hF rfl (fun hc65 hF => ?_) (fun hc65 hF => ?_)
    · skip
      refine AWP.skip ?_
      refine QThen.nrm ?_
      refine AWP.seq ?_
      refine AWP.block ?_
      refine AWP.seqR rfl ?_
      refine ASL.q (v := (.int .i64 x36_l1)) rfl rfl (Light.quiet (opMove rfl rfl)) ?_
      obtain ⟨a39, ha39, hF⟩ := bindE hF
      refine ASL.q (v := (ptrTo v21 x36_l1.toNat 1)) rfl rfl (Light.quiet (kIxOx hS (j := 2) rfl ha39 rfl rfl rfl elemA_42 sizeA_3)) ?_
      refine ASL.q (v := (.int .i64 a39)) rfl rfl (Light.quiet (kLd (f := (AV.int .i64)) hS (j := 2) rfl ha39 rfl aggA_3 rfl (fun _ => rfl))) ?_
      refine ASL.q (v := (.int .i64 x36_l1)) rfl rfl (Light.quiet (opAssign rfl rfl)) ?_
      refine ASL.q (v := (.int .i64 a39)) rfl rfl (Light.quiet (opAssign rfl rfl)) ?_
      refine ASL.done ?_
      refine AWP.seqR rfl ?_
      refine ASL.q (v := v33) rfl rfl (Light.quiet (opMove rfl rfl)) ?_
      refine ASL.q (v := (.int .i64 a39)) rfl rfl (Light.quiet (opMove rfl rfl)) ?_
      refine ASL.q (v := (.int .i64 x36_l1)) rfl rfl (Light.quiet (opMove rfl rfl)) ?_
      obtain ⟨m44, hm44, hF⟩ := bindE hF
      refine ASL.q (v := (ptrTo v33 m44 1)) rfl rfl (Light.quiet (kIxO hS (j := 5) rfl hm44 rfl rfl rfl elemA_42 sizeA_3)) ?_
      refine ASL.n rfl rfl (hSt (f := (AV.int .i64)) (a := x36_l1) hS (j := 5) rfl hm44 rfl sizeA_3 rfl rfl ⟨rfl, rfl, rfl⟩ ?_); rintro G66 hS
      refine ASL.done ?_
      refine AWP.seqR rfl ?_
      refine ASL.q (v := (.rptr [(.int .i64 p0.letters), (.int .i64 p0.states), (.int .i64 p0.start), (.list 4 (List.map TEdge.av p0.edges))])) rfl rfl (Light.quiet (opMove rfl rfl)) ?_
      refine ASL.q (v := (.rptr [(.int .i64 p0.letters), (.int .i64 p0.states), (.int .i64 p0.start), (.list 4 (List.map TEdge.av p0.edges))])) rfl rfl (Light.quiet (opNil rfl rfl rfl)) ?_
      refine ASL.q (v := (.rptr [(.int .i64 p0.start), (.list 4 (List.map TEdge.av p0.edges))])) rfl rfl (Light.quiet (opFieldAddrR rfl fieldA_26_2 rfl rfl)) ?_
      refine ASL.q (v := (.int .i64 p0.start)) rfl rfl (Light.quiet (opLoadR rfl aggA_3 rfl rfl)) ?_
      refine ASL.q (v := (.int .i64 a39)) rfl rfl (Light.quiet (opMove rfl rfl)) ?_
      refine ASL.q (v := (.bool (impl_has p0.start a39))) rfl rfl ((qCall rfl rfl call_71 (impl_has_ok p0.start a39) rfl)) ?_
      refine ASL.done ?_
      refine AWP.ifB hF rfl (fun hc67 hF => ?_) (fun hc67 hF => ?_)
      · skip
        refine AWP.lastD [(0, false), (1, false), (2, false), (3, false), (4, false), (5, false), (6, true)] mixed (by kernel_rfl) rfl ?_
        refine ARL.q0 (v := (.ptr b7 2)) rfl rfl (Light.quiet (opFieldAddr rfl fieldA_26_2 rfl rfl)) ?_
        refine ARL.q (v := (.int .i64 y54)) rfl rfl (hS.aliveC (k := 4) rfl) (Light.quiet (kAt hS (j := 4) rfl rfl aggA_3 rfl rfl)) ?_
        refine ARL.q0 (v := (.int .i64 x36_l1)) rfl rfl (Light.quiet (opMove rfl rfl)) ?_
        refine ARL.q0 (v := (.int .i64 (impl_only x36_l1))) rfl rfl ((qCall rfl rfl call_43 (impl_only_ok x36_l1) rfl)) ?_
        refine ARL.q0 (v := (.int .i64 (bOr .i64 y54 ((impl_only x36_l1))))) rfl rfl (Light.quiet (opInt rfl rfl rfl rfl)) ?_
        refine ARL.q0 (v := (.ptr b7 2)) rfl rfl (Light.quiet (opFieldAddr rfl fieldA_26_2 rfl rfl)) ?_
        refine ARL.n rfl rfl rfl rfl (hPut hS (j := 4) rfl rfl sizeA_3 rfl rfl rfl (nlt rfl) ?_); rintro G68 hS
        refine ARL.done ?_
        refine QBlock.nrm ?_
        refine QThen.nrm ?_
        refine AWP.lastR rfl ?_
        refine ASL.q (v := (.int .i64 (W (x36_l1 + 1)))) rfl rfl (Light.quiet (opInt rfl rfl rfl rfl)) ?_
        refine ASL.q (v := (.int .i64 (W (x36_l1 + 1)))) rfl rfl (Light.quiet (opMove rfl rfl)) ?_
        refine ASL.done ?_
        refine QThen.nrm ?_
        exact ⟨(y52, y53, (bOr .i64 y54 ((impl_only x36_l1))), y55, (y58.set m44 x36_l1), (W (x36_l1 + 1))), w56, (someE hF).symm, ⟨rfl, rfl, rfl, rfl, rfl, rfl, rfl, rfl, rfl, trivial⟩, (hS.pick [0, 1, 2, 3, 4, 5, 6] rfl rfl)⟩
      · skip
        refine AWP.skip ?_
        refine QBlock.nrm ?_
        refine QThen.nrm ?_
        refine AWP.lastR rfl ?_
        refine ASL.q (v := (.int .i64 (W (x36_l1 + 1)))) rfl rfl (Light.quiet (opInt rfl rfl rfl rfl)) ?_
        refine ASL.q (v := (.int .i64 (W (x36_l1 + 1)))) rfl rfl (Light.quiet (opMove rfl rfl)) ?_
        refine ASL.done ?_
        refine QThen.nrm ?_
        exact ⟨(y52, y53, y54, y55, (y58.set m44 x36_l1), (W (x36_l1 + 1))), w56, (someE hF).symm, ⟨rfl, rfl, rfl, rfl, rfl, rfl, rfl, rfl, rfl, trivial⟩, (hS.pick [0, 1, 2, 3, 4, 5, 6] rfl rfl)⟩
    · skip
      refine AWP.exit ?_
      refine QThen.ext ?_
      refine QThen.ext ?_
      refine QBlock.hit ?_
      obtain rfl := (hx60 _ (someE hF).symm)
      have hF := hR63
      refine QThen.nrm ?_
      exact ⟨y52, y53, y54, y55, y58, w56, ⟨rfl, rfl, rfl, rfl, rfl, rfl, trivial⟩, (hS.pick [0, 1, 2, 3, 4, 5, 6] rfl rfl), hF⟩

set_option maxRecDepth 10000 in
theorem impl_AutoTrim_ok {p0 : TAuto} {r : (TAuto × (List Int))} (hF : impl_AutoTrim p0 = some r) : HS Tryz.prog 19 [(TAuto.av p0)] [] fun v L' => ∃ o0_Edges : AV, ∃ o1 : AV, v = .tup [(.agg [(.int .i64 r.1.letters), (.int .i64 r.1.states), (.int .i64 r.1.start), o0_Edges]), o1] ∧ L' = [.row 4 o0_Edges (List.map TEdge.av r.1.edges), .row 1 o1 (List.map (AV.int .i64) r.2)] := by
  intro H S hS
  refine HC.enter Tryz.func19 rfl Tryz.ntmps19 (by simp) ?_
  simp only [List.cons_append, List.nil_append] at hS
  unfold impl_AutoTrim at hF
  refine AWP.seqR rfl ?_
  refine ASL.q (v := (.rptr [(.int .i64 p0.letters), (.int .i64 p0.states), (.int .i64 p0.start), (.list 4 (List.map TEdge.av p0.edges))])) rfl rfl ((qBoxI (v := (TAuto.av p0)) rfl rfl rfl rfl)) ?_
  have hS := hNil (s := 4) (f := TEdge.av) hS
  refine ASL.x rfl rfl (hNewZ hS [(.int .i64 0), (.int .i64 0), (.int .i64 0), .nil] rfl zeroA_26 ⟨.inl rfl, .inl rfl, .inl rfl, .inl rfl, trivial⟩ ?_); rintro b2 G1 hK hS
  have hS := hNil (s := 1) (f := (AV.int .i64)) hS
  refine ASL.q (v := .nil) rfl rfl (Light.quiet (opAssign rfl rfl)) ?_
  refine ASL.done ?_
  refine AWP.seq ?_
  refine AWP.seqR rfl ?_
  refine ASL.q (v := (TAuto.av p0)) rfl rfl (Light.quiet (opLoadRA rfl aggA_26 sizeA_26 rfl (nlt rfl) rfl)) ?_
  obtain ⟨a5, ha5, hF⟩ := bindE hF
  refine ASL.q (v := (.bool a5)) rfl rfl ((qCall rfl rfl call_54 (impl_AutoOk_ok ha5) rfl)) ?_
  refine ASL.q (v := (.bool (!a5))) rfl rfl (Light.quiet (opNot rfl rfl)) ?_
  refine ASL.done ?_
  refine AWP.ifB hF rfl (fun hc5 hF => ?_) (fun hc5 hF => ?_)
  · skip
    refine AWP.seqR rfl ?_
    refine ASL.q (v := (.agg [(.int .i64 0), (.int .i64 0), (.int .i64 0), .nil])) rfl rfl (Light.quiet (opBuildZ (zs := [(.int .i64 0), (.int .i64 0), (.int .i64 0), .nil]) rfl plan_26 zeroA_26 ⟨.inl rfl, .inl rfl, .inl rfl, .inl rfl, trivial⟩ rfl)) ?_
    have hS := hNil (s := 4) (f := TEdge.av) hS
    refine ASL.n rfl rfl (hPutA hS (j := 2) rfl rfl sizeA_26 rfl rfl rfl rfl (allC rfl (allC rfl (allC rfl (allC (hS.one (k := 0) rfl) rfl)))) (nlt rfl) ?_); rintro G6 hS
    have hS := hNil (s := 1) (f := (AV.int .i64)) hS
    refine ASL.q (v := .nil) rfl rfl (Light.quiet (opAssign rfl rfl)) ?_
    refine ASL.done ?_
    refine AWP.ret ?_
    refine QThen.rt ?_
    obtain rfl := someE hF
    exact QRet.many (vs := [(.agg [(.int .i64 0), (.int .i64 0), (.int .i64 0), .nil]), .nil]) ⟨resOne.at hS (k := 3) rfl rfl aggA_26 sizeA_26, rfl, trivial⟩ (by simp) ⟨_, ⟨.nil, .nil, rfl, rfl⟩, hS.pick [1, 0, 5] rfl rfl⟩
  · skip
    refine AWP.skip ?_
    refine QThen.nrm ?_
    refine AWP.seqR rfl ?_
    refine ASL.q (v := (.rptr [(.int .i64 p0.start), (.list 4 (List.map TEdge.av p0.edges))])) rfl rfl (Light.quiet (opFieldAddrR rfl fieldA_26_2 rfl rfl)) ?_
    refine ASL.q (v := (.int .i64 p0.start)) rfl rfl (Light.quiet (opLoadR rfl aggA_3 rfl rfl)) ?_
    obtain ⟨a10, ha10, hF⟩ := bindE hF
    refine ASL.q (v := (.int .i64 a10)) rfl rfl ((qCall rfl rfl call_56 (impl_Auto_reach_ok ha10) rfl)) ?_
    obtain ⟨a11, ha11, hF⟩ := bindE hF
    refine ASL.x rfl rfl (hCallSR hS rfl rfl call_55 (impl_Auto_kept_ok ha11) ⟨.same _, .same _, trivial⟩ (by rintro _ _ G ⟨w9, w11, rfl, rfl⟩ hG; exact ⟨(Scal.tup (ScalC.cons (Scal.agg (ScalC.cons (by constructor) (ScalC.cons (by constructor) (ScalC.cons (by constructor) (ScalC.cons (hG.scR (k := 0) rfl) ScalC.nil))))) (ScalC.cons (hG.scR (k := 1) rfl) ScalC.nil))), ⟨(Scal.row (fun _ => by simp only [TEdge.av, cells, List.mem_cons, List.not_mem_nil, or_false]; rintro c hc; rcases hc with rfl | rfl | rfl | rfl <;> constructor)), (Scal.ints _ _), trivial⟩⟩) ?_); rintro _ _ G13 ⟨w9, w11, rfl, rfl⟩ hK hS
    refine ASL.q (v := (.agg [(.int .i64 a11.1.letters), (.int .i64 a11.1.states), (.int .i64 a11.1.start), w9])) rfl rfl (Light.quiet (opExtract rfl rfl rfl)) ?_
    refine ASL.q (v := w11) rfl rfl (Light.quiet (opExtract rfl rfl rfl)) ?_
    refine ASL.n rfl rfl (hPutA hS (j := 3) rfl rfl sizeA_26 rfl rfl rfl rfl (allC rfl (allC rfl (allC rfl (allC (hS.one (k := 0) rfl) rfl)))) (nlt rfl) ?_); rintro G14 hS
    refine ASL.q (v := w11) rfl rfl (Light.quiet (opAssign rfl rfl)) ?_
    refine ASL.done ?_
    refine AWP.ret ?_
    obtain rfl := someE hF
    exact QRet.many (vs := [(.agg [(.int .i64 a11.1.letters), (.int .i64 a11.1.states), (.int .i64 a11.1.start), w9]), w11]) ⟨resOne.at hS (k := 3) rfl rfl aggA_26 sizeA_26, rfl, trivial⟩ (by simp) ⟨_, ⟨w9, w11, rfl, rfl⟩, hS.pick [0, 1, 5] rfl rfl⟩

end Go.Proofs.YthdoebgikbfndaaGreat
