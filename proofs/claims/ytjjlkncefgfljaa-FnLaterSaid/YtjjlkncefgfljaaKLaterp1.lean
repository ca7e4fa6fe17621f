/- Each of these functions of the program comes to just what its plain function says: FnLater. -/
import Derived.Test.YtjjlkncefgfljaaKLaterp0
namespace Go.Proofs.Ytjjlkncefgfljaa
open Go Go.RowKit E
set_option linter.unusedVariables false
set_option maxRecDepth 10000 in
theorem impl_columnOf_ok {p0 : TNode} {p1 : (List (List Bool))} {p2 : Int} {r : (List Bool)} (hF : impl_columnOf p0 p1 p2 = some r) : PO Try.prog 124 [(TNode.av p0), (.list 1 (List.map (fun xs : (List Bool) => AV.list 1 (List.map AV.bool xs)) p1)), (.int .i64 p2)] 1 (List.map AV.bool r) := by
  refine HC.enter Try.func124 rfl Try.ntmps124 (by simp) ?_
  have hS := Sep.void; unfold impl_columnOf at hF
  refine AWP.seqR rfl ?_
  refine ASL.q (v := (.rptr [(.int .i64 p0.kind), (.int .i64 p0.a), (.int .i64 p0.b)])) rfl rfl ((qBoxI (v := (TNode.av p0)) rfl rfl rfl rfl)) ?_
  have hS := hNil (s := 1) (f := AV.bool) hS
  refine ASL.q (v := .nil) rfl rfl (Light.quiet (opAssign rfl rfl)) ?_
  refine ASL.done ?_
  refine AWP.seqR rfl ?_
  refine ASL.q (v := (.list 1 (List.map (fun xs : (List Bool) => AV.list 1 (List.map AV.bool xs)) p1))) rfl rfl (Light.quiet (opMove rfl rfl)) ?_
  refine ASL.q (v := (.int .i64 (p1.length : Int))) rfl rfl (Light.quiet (opLenMap (f := (fun xs : (List Bool) => AV.list 1 (List.map AV.bool xs))) rfl rfl rfl lenT_48 rfl)) ?_
  obtain ⟨z12, hz12, hF⟩ := bindE hF
  refine ASL.x rfl rfl (hMk (f := AV.bool) hS hz12 (by decide) rfl elemA_56 sizeA_4 bytesA_4 zeroA_4 rfl rfl (by decide) rfl rfl ?_); rintro v12 G2 hK hS
  refine ASL.q (v := v12) rfl rfl (Light.quiet (opAssign rfl rfl)) ?_
  refine ASL.done ?_
  refine AWP.seqM (fun e H => ∃ y4 : (List Bool), E.Told e [(7, v12)] ∧ E.Sep H [.row 1 v12 (List.map AV.bool y4)] ∧ impl_columnOf.k0 y4 = some r) ?_ ?_
  · rintro e0 G5 ⟨y4, hT, hS, hF⟩; refine AWP.only _ hT ?_; unfold impl_columnOf.k0 at hF
    refine AWP.seqR rfl ?_
    refine ASL.q (v := v12) rfl rfl (Light.quiet (opMove rfl rfl)) ?_
    refine ASL.q (v := v12) rfl rfl (Light.quiet (opAssign rfl rfl)) ?_
    refine ASL.done ?_
    refine AWP.ret ?_
    obtain rfl := someE hF
    exact QRet.sole (v := v12) ⟨rfl, trivial⟩ (hS.get (k := 0) rfl)
  · skip
    refine AWP.seqR rfl ?_
    refine ASL.q (v := (.rptr [(.int .i64 p0.a), (.int .i64 p0.b)])) rfl rfl (Light.quiet (opFieldAddrR rfl fieldA_59_1 rfl rfl)) ?_
    refine ASL.q (v := (.int .i64 p0.a)) rfl rfl (Light.quiet (opLoadR rfl aggA_3 rfl rfl)) ?_
    refine ASL.q (v := (.rptr [(.int .i64 p0.b)])) rfl rfl (Light.quiet (opFieldAddrR rfl fieldA_59_2 rfl rfl)) ?_
    refine ASL.q (v := (.int .i64 p0.b)) rfl rfl (Light.quiet (opLoadR rfl aggA_3 rfl rfl)) ?_
    refine ASL.q (v := (.agg (List.map (AV.int .i64) [p0.a, p0.b]))) rfl rfl (Light.quiet (opBuildArr (pl := [(0, 1), (1, 1)]) (z := (.agg #[(.int .i64 0), (.int .i64 0)])) rfl arrA_130 rfl zeroA_130 rfl rfl)) ?_
    refine ASL.q (v := (.int .i64 0)) rfl rfl (Light.quiet (opMove rfl rfl)) ?_
    refine ASL.done ?_
    refine AWP.block ?_
    obtain ⟨o10, hL9, hR11⟩ := bindE hF
    refine AWP.loopF (ω := Unit) hL9 (fun s w => [(1, (.list 1 (List.map (fun xs : (List Bool) => AV.list 1 (List.map AV.bool xs)) p1))), (2, (.int .i64 p2)), (7, v12), (17, (.agg (List.map (AV.int .i64) [p0.a, p0.b]))), (18, (.int .i64 s.2))]) (fun s w => [.row 1 v12 (List.map AV.bool s.1)]) () ⟨rfl, rfl, rfl, rfl, rfl, trivial⟩ (hS.pick [0] rfl rfl) ?_
    rintro ⟨y6, x18_l0⟩ _ G12 hS x7 hF hx8
    try dsimp only at hS ⊢
    have hF : impl_columnOf.b0 p0 p1 p2 y6 x18_l0 = some x7 := hF; unfold impl_columnOf.b0 at hF
    refine AWP.seqR rfl ?_
    refine ASL.q (v := (.bool (decide (x18_l0 < 2)))) rfl rfl (Light.quiet (opInt rfl rfl rfl rfl)) ?_
    refine ASL.done ?_
    refine AWP.seq ?_
    refine AWP.ifP hF rfl (fun hc13 hF => ?_) (fun hc13 hF => ?_)
    · skip
      refine AWP.skip ?_
      refine QThen.nrm ?_
      refine AWP.seq ?_
      refine AWP.block ?_
      refine AWP.seqR rfl ?_
      obtain ⟨a20, ha20, hF⟩ := bindE hF
      refine ASL.q (v := (.int .i64 a20)) rfl rfl (Light.quiet (kIxA (f := (AV.int .i64)) (xs := [p0.a, p0.b]) ha20 rfl rfl arrA_130 aggA_3 rfl rfl)) ?_
      refine ASL.q (v := (.int .i64 a20)) rfl rfl (Light.quiet (opAssign rfl rfl)) ?_
      refine ASL.done ?_
      refine AWP.seqR rfl ?_
      refine ASL.q (v := (.int .i64 a20)) rfl rfl (Light.quiet (opMove rfl rfl)) ?_
      refine ASL.q (v := (.list 1 (List.map (fun xs : (List Bool) => AV.list 1 (List.map AV.bool xs)) p1))) rfl rfl (Light.quiet (opMove rfl rfl)) ?_
      refine ASL.q (v := (.int .i64 (p1.length : Int))) rfl rfl (Light.quiet (opLenMap (f := (fun xs : (List Bool) => AV.list 1 (List.map AV.bool xs))) rfl rfl rfl lenT_48 rfl)) ?_
      refine ASL.q (v := (.bool (decide (a20 < ((p1.length : Int)))))) rfl rfl (Light.quiet (opInt rfl rfl rfl rfl)) ?_
      refine ASL.done ?_
      refine AWP.ifP hF rfl (fun hc14 hF => ?_) (fun hc14 hF => ?_)
      · skip
        refine AWP.lastR rfl ?_
        refine ASL.q (v := v12) rfl rfl (Light.quiet (opMove rfl rfl)) ?_
        refine ASL.q (v := (.int .i64 a20)) rfl rfl (Light.quiet (opMove rfl rfl)) ?_
        refine ASL.q (v := (.list 1 (List.map (fun xs : (List Bool) => AV.list 1 (List.map AV.bool xs)) p1))) rfl rfl (Light.quiet (opMove rfl rfl)) ?_
        refine ASL.q (v := (.int .i64 a20)) rfl rfl (Light.quiet (opMove rfl rfl)) ?_
        obtain ⟨a29, ha29, hF⟩ := bindE hF
        refine ASL.q (v := (.rptr [(.list 1 (List.map AV.bool a29))])) rfl rfl (Light.quiet (kIx (f := (fun xs : (List Bool) => AV.list 1 (List.map AV.bool xs))) ha29 rfl rfl rfl elemA_48 sizeA_56 rfl)) ?_
        refine ASL.q (v := (.list 1 (List.map AV.bool a29))) rfl rfl (Light.quiet (opLoadR rfl aggA_56 rfl rfl)) ?_
        refine ASL.q (v := (.int .i64 p2)) rfl rfl (Light.quiet (opMove rfl rfl)) ?_
        obtain ⟨a32, ha32, hF⟩ := bindE hF
        refine ASL.q (v := (.rptr [(.bool a32)])) rfl rfl (Light.quiet (kIx (f := AV.bool) ha32 rfl rfl rfl elemA_56 sizeA_4 rfl)) ?_
        refine ASL.q (v := (.bool a32)) rfl rfl (Light.quiet (opLoadR rfl aggA_4 rfl rfl)) ?_
        obtain ⟨m34, hm34, hF⟩ := bindE hF
        refine ASL.q (v := (ptrTo v12 m34 1)) rfl rfl (Light.quiet (kIxO hS (j := 0) rfl hm34 rfl rfl rfl elemA_56 sizeA_4)) ?_
        refine ASL.n rfl rfl (hSt (f := AV.bool) (a := a32) hS (j := 0) rfl hm34 rfl sizeA_4 rfl rfl ⟨rfl, rfl, rfl⟩ ?_); rintro G15 hS
        refine ASL.done ?_
        refine QBlock.nrm ?_
        refine QThen.nrm ?_
        refine AWP.lastR rfl ?_
        refine ASL.q (v := (.int .i64 (W (x18_l0 + 1)))) rfl rfl (Light.quiet (opInt rfl rfl rfl rfl)) ?_
        refine ASL.q (v := (.int .i64 (W (x18_l0 + 1)))) rfl rfl (Light.quiet (opMove rfl rfl)) ?_
        refine ASL.done ?_
        refine QThen.nrm ?_
        exact ⟨((y6.set m34 a32), (W (x18_l0 + 1))), (), (someE hF).symm, ⟨rfl, rfl, rfl, rfl, rfl, trivial⟩, (hS.pick [0] rfl rfl)⟩
      · skip
        refine AWP.skip ?_
        refine QBlock.nrm ?_
        refine QThen.nrm ?_
        refine AWP.lastR rfl ?_
        refine ASL.q (v := (.int .i64 (W (x18_l0 + 1)))) rfl rfl (Light.quiet (opInt rfl rfl rfl rfl)) ?_
        refine ASL.q (v := (.int .i64 (W (x18_l0 + 1)))) rfl rfl (Light.quiet (opMove rfl rfl)) ?_
        refine ASL.done ?_
        refine QThen.nrm ?_
        exact ⟨(y6, (W (x18_l0 + 1))), (), (someE hF).symm, ⟨rfl, rfl, rfl, rfl, rfl, trivial⟩, (hS.pick [0] rfl rfl)⟩
    · skip
      refine AWP.exit ?_
      refine QThen.ext ?_
      refine QThen.ext ?_
      refine QBlock.hit ?_
      obtain rfl := (hx8 _ (someE hF).symm)
      have hF := hR11
      refine QThen.nrm ?_
      exact ⟨y6, ⟨rfl, trivial⟩, (hS.pick [0] rfl rfl), hF⟩

set_option maxRecDepth 10000 in
theorem impl_Word_letter_ok {p0 : TWord} {p1 : Int} {r : Int} (hF : impl_Word_letter p0 p1 = some r) : PC Try.prog 125 [(.rptr [(.list 1 (List.map (AV.int .i64) p0.stem)), (.list 1 (List.map (AV.int .i64) p0.loop))]), (.int .i64 p1)] fun v => v = (.int .i64 r) := by
  refine PC.enter Try.func125 rfl Try.ntmps125 (by simp) ?_
  have hS := Sep.void; unfold impl_Word_letter at hF
  refine AWP.seqR rfl ?_
  refine ASL.q (v := (.int .i64 0)) rfl rfl (Light.quiet (opAssign rfl rfl)) ?_
  refine ASL.done ?_
  refine AWP.seq ?_
  refine AWP.seqR rfl ?_
  refine ASL.q (v := (.int .i64 p1)) rfl rfl (Light.quiet (opMove rfl rfl)) ?_
  refine ASL.q (v := (.rptr [(.list 1 (List.map (AV.int .i64) p0.stem)), (.list 1 (List.map (AV.int .i64) p0.loop))])) rfl rfl (Light.quiet (opMove rfl rfl)) ?_
  refine ASL.q (v := (.rptr [(.list 1 (List.map (AV.int .i64) p0.stem)), (.list 1 (List.map (AV.int .i64) p0.loop))])) rfl rfl (Light.quiet (opNil rfl rfl rfl)) ?_
  refine ASL.q (v := (.rptr [(.list 1 (List.map (AV.int .i64) p0.stem)), (.list 1 (List.map (AV.int .i64) p0.loop))])) rfl rfl (Light.quiet (opFieldAddrR rfl fieldA_41_0 rfl rfl)) ?_
  refine ASL.q (v := (.list 1 (List.map (AV.int .i64) p0.stem))) rfl rfl (Light.quiet (opLoadR rfl aggA_32 rfl rfl)) ?_
  refine ASL.q (v := (.int .i64 (p0.stem.length : Int))) rfl rfl (Light.quiet (opLenMap (f := (AV.int .i64)) rfl rfl rfl lenT_32 rfl)) ?_
  refine ASL.q (v := (.bool (decide (p1 < ((p0.stem.length : Int)))))) rfl rfl (Light.quiet (opInt rfl rfl rfl rfl)) ?_
  refine ASL.done ?_
  refine AWP.ifP hF rfl (fun hc1 hF => ?_) (fun hc1 hF => ?_)
  · skip
    refine AWP.seqR rfl ?_
    refine ASL.q (v := (.rptr [(.list 1 (List.map (AV.int .i64) p0.stem)), (.list 1 (List.map (AV.int .i64) p0.loop))])) rfl rfl (Light.quiet (opMove rfl rfl)) ?_
    refine ASL.q (v := (.rptr [(.list 1 (List.map (AV.int .i64) p0.stem)), (.list 1 (List.map (AV.int .i64) p0.loop))])) rfl rfl (Light.quiet (opNil rfl rfl rfl)) ?_
    refine ASL.q (v := (.rptr [(.list 1 (List.map (AV.int .i64) p0.stem)), (.list 1 (List.map (AV.int .i64) p0.loop))])) rfl rfl (Light.quiet (opFieldAddrR rfl fieldA_41_0 rfl rfl)) ?_
    refine ASL.q (v := (.list 1 (List.map (AV.int .i64) p0.stem))) rfl rfl (Light.quiet (opLoadR rfl aggA_32 rfl rfl)) ?_
    refine ASL.q (v := (.int .i64 p1)) rfl rfl (Light.quiet (opMove rfl rfl)) ?_
    obtain ⟨a17, ha17, hF⟩ := bindE hF
    refine ASL.q (v := (.rptr [(.int .i64 a17)])) rfl rfl (Light.quiet (kIx (f := (AV.int .i64)) ha17 rfl rfl rfl elemA_32 sizeA_3 rfl)) ?_
    refine ASL.q (v := (.int .i64 a17)) rfl rfl (Light.quiet (opLoadR rfl aggA_3 rfl rfl)) ?_
    refine ASL.q (v := (.int .i64 a17)) rfl rfl (Light.quiet (opAssign rfl rfl)) ?_
    refine ASL.done ?_
    refine AWP.ret ?_
    refine QThen.rt ?_
    obtain rfl := someE hF
    exact QRet.sole (v := (.int .i64 a17)) ⟨rfl, trivial⟩ rfl
  · skip
    refine AWP.skip ?_
    refine QThen.nrm ?_
    refine AWP.seqD [(0, false), (1, false), (2, false), (3, false), (4, false), (5, false), (6, false), (7, false), (8, false), (9, false), (10, false), (11, false), (12, false), (13, false)] mixed (by kernel_rfl) rfl ?_
    refine ARL.q0 (v := (.rptr [(.list 1 (List.map (AV.int .i64) p0.stem)), (.list 1 (List.map (AV.int .i64) p0.loop))])) rfl rfl (Light.quiet (opMove rfl rfl)) ?_
    refine ARL.q0 (v := (.rptr [(.list 1 (List.map (AV.int .i64) p0.stem)), (.list 1 (List.map (AV.int .i64) p0.loop))])) rfl rfl (Light.quiet (opNil rfl rfl rfl)) ?_
    refine ARL.q0 (v := (.rptr [(.list 1 (List.map (AV.int .i64) p0.loop))])) rfl rfl (Light.quiet (opFieldAddrR rfl fieldA_41_1 rfl rfl)) ?_
    refine ARL.q0 (v := (.list 1 (List.map (AV.int .i64) p0.loop))) rfl rfl (Light.quiet (opLoadR rfl aggA_32 rfl rfl)) ?_
    refine ARL.q0 (v := (.int .i64 p1)) rfl rfl (Light.quiet (opMove rfl rfl)) ?_
    refine ARL.q0 (v := (.rptr [(.list 1 (List.map (AV.int .i64) p0.stem)), (.list 1 (List.map (AV.int .i64) p0.loop))])) rfl rfl (Light.quiet (opMove rfl rfl)) ?_
    refine ARL.q0 (v := (.rptr [(.list 1 (List.map (AV.int .i64) p0.stem)), (.list 1 (List.map (AV.int .i64) p0.loop))])) rfl rfl (Light.quiet (opNil rfl rfl rfl)) ?_
    refine ARL.q0 (v := (.rptr [(.list 1 (List.map (AV.int .i64) p0.stem)), (.list 1 (List.map (AV.int .i64) p0.loop))])) rfl rfl (Light.quiet (opFieldAddrR rfl fieldA_41_0 rfl rfl)) ?_
    refine ARL.q0 (v := (.list 1 (List.map (AV.int .i64) p0.stem))) rfl rfl (Light.quiet (opLoadR rfl aggA_32 rfl rfl)) ?_
    refine ARL.q0 (v := (.int .i64 (p0.stem.length : Int))) rfl rfl (Light.quiet (opLenMap (f := (AV.int .i64)) rfl rfl rfl lenT_32 rfl)) ?_
    refine ARL.q0 (v := (.int .i64 (W (p1 - ((p0.stem.length : Int)))))) rfl rfl (Light.quiet (opInt rfl rfl rfl rfl)) ?_
    obtain ⟨a30, ha30, hF⟩ := bindE hF
    refine ARL.q0 (v := (.rptr [(.int .i64 a30)])) rfl rfl (Light.quiet (kIx (f := (AV.int .i64)) ha30 rfl rfl rfl elemA_32 sizeA_3 rfl)) ?_
    refine ARL.q0 (v := (.int .i64 a30)) rfl rfl (Light.quiet (opLoadR rfl aggA_3 rfl rfl)) ?_
    refine ARL.q0 (v := (.int .i64 a30)) rfl rfl (Light.quiet (opAssign rfl rfl)) ?_
    refine ARL.done ?_
    refine AWP.ret ?_
    obtain rfl := someE hF
    exact QRet.sole (v := (.int .i64 a30)) ⟨rfl, trivial⟩ rfl

set_option maxRecDepth 10000 in
theorem impl_has_ok (p0 : Int) (p1 : Int) : PC Try.prog 110 [(.int .i64 p0), (.int .i64 p1)] fun v => v = (.bool (impl_has p0 p1)) := by
  generalize hF : impl_has p0 p1 = r
  refine PC.enter Try.func110 rfl Try.ntmps110 (by simp) ?_
  have hS := Sep.void; unfold impl_has at hF
  refine AWP.seqR rfl ?_
  refine ASL.q (v := (.bool false)) rfl rfl (Light.quiet (opAssign rfl rfl)) ?_
  refine ASL.done ?_
  refine AWP.seqR rfl ?_
  refine ASL.q (v := (.int .i64 p0)) rfl rfl (Light.quiet (opMove rfl rfl)) ?_
  refine ASL.q (v := (.int .i64 p1)) rfl rfl (Light.quiet (opMove rfl rfl)) ?_
  refine ASL.q (v := (.int .u64 (IntKind.u64.wrap p1))) rfl rfl (Light.quiet (opConv rfl rfl und_3 und_118 rfl)) ?_
  refine ASL.q (v := (.int .i64 (shr .i64 p0 ((IntKind.u64.wrap p1))))) rfl rfl (Light.quiet (opShr rfl rfl rfl (wrapU_nn rfl _) rfl)) ?_
  refine ASL.q (v := (.int .i64 (bAnd .i64 ((shr .i64 p0 ((IntKind.u64.wrap p1)))) 1))) rfl rfl (Light.quiet (opInt rfl rfl rfl rfl)) ?_
  refine ASL.q (v := (.bool (decide (((bAnd .i64 ((shr .i64 p0 ((IntKind.u64.wrap p1)))) 1)) = 1)))) rfl rfl (Light.quiet (opInt rfl rfl rfl rfl)) ?_
  refine ASL.q (v := (.bool (decide (((bAnd .i64 ((shr .i64 p0 ((IntKind.u64.wrap p1)))) 1)) = 1)))) rfl rfl (Light.quiet (opAssign rfl rfl)) ?_
  refine ASL.done ?_
  refine AWP.ret ?_
  obtain rfl := hF
  exact QRet.sole (v := (.bool (decide (((bAnd .i64 ((shr .i64 p0 ((IntKind.u64.wrap p1)))) 1)) = 1)))) ⟨rfl, trivial⟩ rfl

set_option maxRecDepth 10000 in
theorem impl_plain_ok {p0 : TNode} {p1 : (List Bool)} {p2 : Int} {r : Bool} (hF : impl_plain p0 p1 p2 = some r) : PC Try.prog 128 [(TNode.av p0), (.list 1 (List.map AV.bool p1)), (.int .i64 p2)] fun v => v = (.bool r) := by
  refine PC.enter Try.func128 rfl Try.ntmps128 (by simp) ?_
  have hS := Sep.void; unfold impl_plain at hF
  refine AWP.seqR rfl ?_
  refine ASL.q (v := (.rptr [(.int .i64 p0.kind), (.int .i64 p0.a), (.int .i64 p0.b)])) rfl rfl ((qBoxI (v := (TNode.av p0)) rfl rfl rfl rfl)) ?_
  refine ASL.q (v := (.bool false)) rfl rfl (Light.quiet (opAssign rfl rfl)) ?_
  refine ASL.done ?_
  refine AWP.seq ?_
  refine AWP.seqR rfl ?_
  refine ASL.q (v := (.rptr [(.int .i64 p0.kind), (.int .i64 p0.a), (.int .i64 p0.b)])) rfl rfl (Light.quiet (opFieldAddrR rfl fieldA_59_0 rfl rfl)) ?_
  refine ASL.q (v := (.int .i64 p0.kind)) rfl rfl (Light.quiet (opLoadR rfl aggA_3 rfl rfl)) ?_
  refine ASL.done ?_
  refine AWP.block ?_
  refine AWP.seqR rfl ?_
  refine ASL.q (v := (.bool (decide (p0.kind = 1)))) rfl rfl (Light.quiet (opInt rfl rfl rfl rfl)) ?_
  refine ASL.q (v := (.bool (decide (p0.kind = 1)))) rfl rfl (Light.quiet (opAssign rfl rfl)) ?_
  refine ASL.done ?_
  refine AWP.ifP hF rfl (fun hc1 hF => ?_) (fun hc1 hF => ?_)
  · skip
    refine AWP.seqR rfl ?_
    refine ASL.q (v := (.bool true)) rfl rfl (Light.quiet (opAssign rfl rfl)) ?_
    refine ASL.done ?_
    refine AWP.ret ?_
    refine QBlock.ret ?_
    refine QThen.rt ?_
    obtain rfl := someE hF
    exact QRet.sole (v := (.bool true)) ⟨rfl, trivial⟩ rfl
  · skip
    refine AWP.seqR rfl ?_
    refine ASL.q (v := (.bool (decide (p0.kind = 3)))) rfl rfl (Light.quiet (opInt rfl rfl rfl rfl)) ?_
    refine ASL.q (v := (.bool (decide (p0.kind = 3)))) rfl rfl (Light.quiet (opAssign rfl rfl)) ?_
    refine ASL.done ?_
    refine AWP.ifP hF rfl (fun hc2 hF => ?_) (fun hc2 hF => ?_)
    · skip
      refine AWP.seqR rfl ?_
      refine ASL.q (v := (.int .i64 p2)) rfl rfl (Light.quiet (opMove rfl rfl)) ?_
      refine ASL.q (v := (.rptr [(.int .i64 p0.a), (.int .i64 p0.b)])) rfl rfl (Light.quiet (opFieldAddrR rfl fieldA_59_1 rfl rfl)) ?_
      refine ASL.q (v := (.int .i64 p0.a)) rfl rfl (Light.quiet (opLoadR rfl aggA_3 rfl rfl)) ?_
      refine ASL.q (v := (.bool (impl_has p2 p0.a))) rfl rfl ((qCall rfl rfl call_110 (impl_has_ok p2 p0.a) rfl)) ?_
      refine ASL.q (v := (.bool (impl_has p2 p0.a))) rfl rfl (Light.quiet (opAssign rfl rfl)) ?_
      refine ASL.done ?_
      refine AWP.ret ?_
      refine QBlock.ret ?_
      refine QThen.rt ?_
      obtain rfl := someE hF
      exact QRet.sole (v := (.bool (impl_has p2 p0.a))) ⟨rfl, trivial⟩ rfl
    · skip
      refine AWP.seqR rfl ?_
      refine ASL.q (v := (.bool (decide (p0.kind = 4)))) rfl rfl (Light.quiet (opInt rfl rfl rfl rfl)) ?_
      refine ASL.q (v := (.bool (decide (p0.kind = 4)))) rfl rfl (Light.quiet (opAssign rfl rfl)) ?_
      refine ASL.done ?_
      refine AWP.ifP hF rfl (fun hc3 hF => ?_) (fun hc3 hF => ?_)
      · skip
        refine AWP.seqR rfl ?_
        refine ASL.q (v := (.list 1 (List.map AV.bool p1))) rfl rfl (Light.quiet (opMove rfl rfl)) ?_
        refine ASL.q (v := (.rptr [(.int .i64 p0.a), (.int .i64 p0.b)])) rfl rfl (Light.quiet (opFieldAddrR rfl fieldA_59_1 rfl rfl)) ?_
        refine ASL.q (v := (.int .i64 p0.a)) rfl rfl (Light.quiet (opLoadR rfl aggA_3 rfl rfl)) ?_
        obtain ⟨a22, ha22, hF⟩ := bindE hF
        refine ASL.q (v := (.rptr [(.bool a22)])) rfl rfl (Light.quiet (kIx (f := AV.bool) ha22 rfl rfl rfl elemA_56 sizeA_4 rfl)) ?_
        refine ASL.q (v := (.bool a22)) rfl rfl (Light.quiet (opLoadR rfl aggA_4 rfl rfl)) ?_
        refine ASL.q (v := (.bool (!a22))) rfl rfl (Light.quiet (opNot rfl rfl)) ?_
        refine ASL.q (v := (.bool (!a22))) rfl rfl (Light.quiet (opAssign rfl rfl)) ?_
        refine ASL.done ?_
        refine AWP.ret ?_
        refine QBlock.ret ?_
        refine QThen.rt ?_
        obtain rfl := someE hF
        exact QRet.sole (v := (.bool (!a22))) ⟨rfl, trivial⟩ rfl
      · skip
        refine AWP.seqR rfl ?_
        refine ASL.q (v := (.bool (decide (p0.kind = 5)))) rfl rfl (Light.quiet (opInt rfl rfl rfl rfl)) ?_
        refine ASL.q (v := (.bool (decide (p0.kind = 5)))) rfl rfl (Light.quiet (opAssign rfl rfl)) ?_
        refine ASL.done ?_
        refine AWP.ifP hF rfl (fun hc4 hF => ?_) (fun hc4 hF => ?_)
        · skip
          refine AWP.seqR rfl ?_
          refine ASL.q (v := (.list 1 (List.map AV.bool p1))) rfl rfl (Light.quiet (opMove rfl rfl)) ?_
          refine ASL.q (v := (.rptr [(.int .i64 p0.a), (.int .i64 p0.b)])) rfl rfl (Light.quiet (opFieldAddrR rfl fieldA_59_1 rfl rfl)) ?_
          refine ASL.q (v := (.int .i64 p0.a)) rfl rfl (Light.quiet (opLoadR rfl aggA_3 rfl rfl)) ?_
          obtain ⟨a30, ha30, hF⟩ := bindE hF
          refine ASL.q (v := (.rptr [(.bool a30)])) rfl rfl (Light.quiet (kIx (f := AV.bool) ha30 rfl rfl rfl elemA_56 sizeA_4 rfl)) ?_
          refine ASL.q (v := (.bool a30)) rfl rfl (Light.quiet (opLoadR rfl aggA_4 rfl rfl)) ?_
          refine ASL.q (v := (.bool a30)) rfl rfl (Light.quiet (opMove rfl rfl)) ?_
          refine ASL.g (v := (.list 1 (List.map AV.bool p1))) (.bool a30) true rfl (wT _) rfl (fun hG => by have q0 := hG; subst q0; exact Light.quiet (opMove rfl rfl)) ?_
          refine ASL.g (v := (.rptr [(.int .i64 p0.b)])) (.bool a30) true rfl (wT _) rfl (fun hG => by have q0 := hG; subst q0; exact Light.quiet (opFieldAddrR rfl fieldA_59_2 rfl rfl)) ?_
          refine ASL.g (v := (.int .i64 p0.b)) (.bool a30) true rfl (wT _) rfl (fun hG => by have q0 := hG; subst q0; exact Light.quiet (opLoadR rfl aggA_3 rfl rfl)) ?_
          obtain ⟨a36, ha36, hF⟩ := bindE hF
          refine ASL.g (v := (.rptr [(.bool a36)])) (.bool a30) true rfl (wT _) rfl (fun hG => by have q0 := hG; subst q0; exact Light.quiet (kIx (f := AV.bool) (whenE ha36) rfl rfl rfl elemA_56 sizeA_4 rfl)) ?_
          refine ASL.g (v := (.bool a36)) (.bool a30) true rfl (wT _) rfl (fun hG => by have q0 := hG; subst q0; exact Light.quiet (opLoadR rfl aggA_4 rfl rfl)) ?_
          refine ASL.q (v := (.bool (a30 && a36))) rfl rfl (Light.quiet (opPick (b := a30) rfl rfl (by cases a30 <;> rfl))) ?_
          refine ASL.q (v := (.bool (a30 && a36))) rfl rfl (Light.quiet (opAssign rfl rfl)) ?_
          refine ASL.done ?_
          refine AWP.ret ?_
          refine QBlock.ret ?_
          refine QThen.rt ?_
          obtain rfl := someE hF
          exact QRet.sole (v := (.bool (a30 && a36))) ⟨rfl, trivial⟩ rfl
        · skip
          refine AWP.seqR rfl ?_
          refine ASL.q (v := (.bool (decide (p0.kind = 6)))) rfl rfl (Light.quiet (opInt rfl rfl rfl rfl)) ?_
          refine ASL.q (v := (.bool (decide (p0.kind = 6)))) rfl rfl (Light.quiet (opAssign rfl rfl)) ?_
          refine ASL.done ?_
          refine AWP.ifP hF rfl (fun hc5 hF => ?_) (fun hc5 hF => ?_)
          · skip
            refine AWP.seqR rfl ?_
            refine ASL.q (v := (.list 1 (List.map AV.bool p1))) rfl rfl (Light.quiet (opMove rfl rfl)) ?_
            refine ASL.q (v := (.rptr [(.int .i64 p0.a), (.int .i64 p0.b)])) rfl rfl (Light.quiet (opFieldAddrR rfl fieldA_59_1 rfl rfl)) ?_
            refine ASL.q (v := (.int .i64 p0.a)) rfl rfl (Light.quiet (opLoadR rfl aggA_3 rfl rfl)) ?_
            obtain ⟨a44, ha44, hF⟩ := bindE hF
            refine ASL.q (v := (.rptr [(.bool a44)])) rfl rfl (Light.quiet (kIx (f := AV.bool) ha44 rfl rfl rfl elemA_56 sizeA_4 rfl)) ?_
            refine ASL.q (v := (.bool a44)) rfl rfl (Light.quiet (opLoadR rfl aggA_4 rfl rfl)) ?_
            refine ASL.q (v := (.bool a44)) rfl rfl (Light.quiet (opMove rfl rfl)) ?_
            refine ASL.g (v := (.list 1 (List.map AV.bool p1))) (.bool a44) false rfl (wF _) rfl (fun hG => by have q0 := gN hG; subst q0; exact Light.quiet (opMove rfl rfl)) ?_
            refine ASL.g (v := (.rptr [(.int .i64 p0.b)])) (.bool a44) false rfl (wF _) rfl (fun hG => by have q0 := gN hG; subst q0; exact Light.quiet (opFieldAddrR rfl fieldA_59_2 rfl rfl)) ?_
            refine ASL.g (v := (.int .i64 p0.b)) (.bool a44) false rfl (wF _) rfl (fun hG => by have q0 := gN hG; subst q0; exact Light.quiet (opLoadR rfl aggA_3 rfl rfl)) ?_
            obtain ⟨a50, ha50, hF⟩ := bindE hF
            refine ASL.g (v := (.rptr [(.bool a50)])) (.bool a44) false rfl (wF _) rfl (fun hG => by have q0 := gN hG; subst q0; exact Light.quiet (kIx (f := AV.bool) (whenE ha50) rfl rfl rfl elemA_56 sizeA_4 rfl)) ?_
            refine ASL.g (v := (.bool a50)) (.bool a44) false rfl (wF _) rfl (fun hG => by have q0 := gN hG; subst q0; exact Light.quiet (opLoadR rfl aggA_4 rfl rfl)) ?_
            refine ASL.q (v := (.bool (a44 || a50))) rfl rfl (Light.quiet (opPick (b := a44) rfl rfl (by cases a44 <;> rfl))) ?_
            refine ASL.q (v := (.bool (a44 || a50))) rfl rfl (Light.quiet (opAssign rfl rfl)) ?_
            refine ASL.done ?_
            refine AWP.ret ?_
            refine QBlock.ret ?_
            refine QThen.rt ?_
            obtain rfl := someE hF
            exact QRet.sole (v := (.bool (a44 || a50))) ⟨rfl, trivial⟩ rfl
          · skip
            refine AWP.skip ?_
            refine QBlock.nrm ?_
            refine QThen.nrm ?_
            refine AWP.seqR rfl ?_
            refine ASL.q (v := (.bool false)) rfl rfl (Light.quiet (opAssign rfl rfl)) ?_
            refine ASL.done ?_
            refine AWP.ret ?_
            obtain rfl := someE hF
            exact QRet.sole (v := (.bool false)) ⟨rfl, trivial⟩ rfl

set_option maxRecDepth 10000 in
theorem impl_soBy_ok {p0 : TNode} {p1 : (List Bool)} {p2 : Int} {p3 : Bool} {r : Bool} (hF : impl_soBy p0 p1 p2 p3 = some r) : PC Try.prog 109 [(TNode.av p0), (.list 1 (List.map AV.bool p1)), (.int .i64 p2), (.bool p3)] fun v => v = (.bool r) := by
  refine PC.enter Try.func109 rfl Try.ntmps109 (by simp) ?_
  have hS := Sep.void; unfold impl_soBy at hF
  refine AWP.seqR rfl ?_
  refine ASL.q (v := (.rptr [(.int .i64 p0.kind), (.int .i64 p0.a), (.int .i64 p0.b)])) rfl rfl ((qBoxI (v := (TNode.av p0)) rfl rfl rfl rfl)) ?_
  refine ASL.q (v := (.bool false)) rfl rfl (Light.quiet (opAssign rfl rfl)) ?_
  refine ASL.done ?_
  refine AWP.seq ?_
  refine AWP.seqR rfl ?_
  refine ASL.q (v := (.rptr [(.int .i64 p0.kind), (.int .i64 p0.a), (.int .i64 p0.b)])) rfl rfl (Light.quiet (opFieldAddrR rfl fieldA_59_0 rfl rfl)) ?_
  refine ASL.q (v := (.int .i64 p0.kind)) rfl rfl (Light.quiet (opLoadR rfl aggA_3 rfl rfl)) ?_
  refine ASL.done ?_
  refine AWP.block ?_
  refine AWP.seqR rfl ?_
  refine ASL.q (v := (.bool (decide (p0.kind = 7)))) rfl rfl (Light.quiet (opInt rfl rfl rfl rfl)) ?_
  refine ASL.q (v := (.bool (decide (p0.kind = 7)))) rfl rfl (Light.quiet (opAssign rfl rfl)) ?_
  refine ASL.done ?_
  refine AWP.ifP hF rfl (fun hc1 hF => ?_) (fun hc1 hF => ?_)
  · skip
    refine AWP.seqR rfl ?_
    refine ASL.q (v := (.bool p3)) rfl rfl (Light.quiet (opMove rfl rfl)) ?_
    refine ASL.q (v := (.bool p3)) rfl rfl (Light.quiet (opAssign rfl rfl)) ?_
    refine ASL.done ?_
    refine AWP.ret ?_
    refine QBlock.ret ?_
    refine QThen.rt ?_
    obtain rfl := someE hF
    exact QRet.sole (v := (.bool p3)) ⟨rfl, trivial⟩ rfl
  · skip
    refine AWP.seqR rfl ?_
    refine ASL.q (v := (.bool (decide (p0.kind = 8)))) rfl rfl (Light.quiet (opInt rfl rfl rfl rfl)) ?_
    refine ASL.q (v := (.bool (decide (p0.kind = 8)))) rfl rfl (Light.quiet (opAssign rfl rfl)) ?_
    refine ASL.done ?_
    refine AWP.ifP hF rfl (fun hc2 hF => ?_) (fun hc2 hF => ?_)
    · skip
      refine AWP.seqR rfl ?_
      refine ASL.q (v := (.list 1 (List.map AV.bool p1))) rfl rfl (Light.quiet (opMove rfl rfl)) ?_
      refine ASL.q (v := (.rptr [(.int .i64 p0.b)])) rfl rfl (Light.quiet (opFieldAddrR rfl fieldA_59_2 rfl rfl)) ?_
      refine ASL.q (v := (.int .i64 p0.b)) rfl rfl (Light.quiet (opLoadR rfl aggA_3 rfl rfl)) ?_
      obtain ⟨a19, ha19, hF⟩ := bindE hF
      refine ASL.q (v := (.rptr [(.bool a19)])) rfl rfl (Light.quiet (kIx (f := AV.bool) ha19 rfl rfl rfl elemA_56 sizeA_4 rfl)) ?_
      refine ASL.q (v := (.bool a19)) rfl rfl (Light.quiet (opLoadR rfl aggA_4 rfl rfl)) ?_
      refine ASL.q (v := (.bool a19)) rfl rfl (Light.quiet (opMove rfl rfl)) ?_
      refine ASL.g (v := (.list 1 (List.map AV.bool p1))) (.bool a19) false rfl (wF _) rfl (fun hG => by have q0 := gN hG; subst q0; exact Light.quiet (opMove rfl rfl)) ?_
      refine ASL.g (v := (.rptr [(.int .i64 p0.a), (.int .i64 p0.b)])) (.bool a19) false rfl (wF _) rfl (fun hG => by have q0 := gN hG; subst q0; exact Light.quiet (opFieldAddrR rfl fieldA_59_1 rfl rfl)) ?_
      refine ASL.g (v := (.int .i64 p0.a)) (.bool a19) false rfl (wF _) rfl (fun hG => by have q0 := gN hG; subst q0; exact Light.quiet (opLoadR rfl aggA_3 rfl rfl)) ?_
      obtain ⟨a25, ha25, hF⟩ := bindE hF
      refine ASL.g (v := (.rptr [(.bool a25)])) (.bool a19) false rfl (wF _) rfl (fun hG => by have q0 := gN hG; subst q0; exact Light.quiet (kIx (f := AV.bool) (whenE ha25) rfl rfl rfl elemA_56 sizeA_4 rfl)) ?_
      refine ASL.g (v := (.bool a25)) (.bool a19) false rfl (wF _) rfl (fun hG => by have q0 := gN hG; subst q0; exact Light.quiet (opLoadR rfl aggA_4 rfl rfl)) ?_
      refine ASL.g (v := (.bool a25)) (.bool a19) false rfl (wF _) rfl (fun hG => by have q0 := gN hG; subst q0; exact Light.quiet (opMove rfl rfl)) ?_
      refine ASL.g (v := (.bool p3)) (bif (!a19) then (.bool a25) else .tup []) true rfl (wGT _ _) rfl (fun hG => by have q0 := gN (gA1 hG); have q1 := gA2 hG; subst q0; subst q1; exact Light.quiet (opMove rfl rfl)) ?_
      refine ASL.g (v := (.bool (a25 && p3))) (.bool a19) false rfl (wF _) rfl (fun hG => by have q0 := gN hG; subst q0; exact Light.quiet (opPick (b := a25) rfl rfl (by cases a25 <;> rfl))) ?_
      refine ASL.q (v := (.bool (a19 || (a25 && p3)))) rfl rfl (Light.quiet (opPick (b := a19) rfl rfl (by cases a19 <;> rfl))) ?_
      refine ASL.q (v := (.bool (a19 || (a25 && p3)))) rfl rfl (Light.quiet (opAssign rfl rfl)) ?_
      refine ASL.done ?_
      refine AWP.ret ?_
      refine QBlock.ret ?_
      refine QThen.rt ?_
      obtain rfl := someE hF
      exact QRet.sole (v := (.bool (a19 || (a25 && p3)))) ⟨rfl, trivial⟩ rfl
    · skip
      refine AWP.seqR rfl ?_
      refine ASL.q (v := (.bool (decide (p0.kind = 9)))) rfl rfl (Light.quiet (opInt rfl rfl rfl rfl)) ?_
      refine ASL.q (v := (.bool (decide (p0.kind = 9)))) rfl rfl (Light.quiet (opAssign rfl rfl)) ?_
      refine ASL.done ?_
      refine AWP.ifP hF rfl (fun hc3 hF => ?_) (fun hc3 hF => ?_)
      · skip
        refine AWP.seqR rfl ?_
        refine ASL.q (v := (.list 1 (List.map AV.bool p1))) rfl rfl (Light.quiet (opMove rfl rfl)) ?_
        refine ASL.q (v := (.rptr [(.int .i64 p0.b)])) rfl rfl (Light.quiet (opFieldAddrR rfl fieldA_59_2 rfl rfl)) ?_
        refine ASL.q (v := (.int .i64 p0.b)) rfl rfl (Light.quiet (opLoadR rfl aggA_3 rfl rfl)) ?_
        obtain ⟨a36, ha36, hF⟩ := bindE hF
        refine ASL.q (v := (.rptr [(.bool a36)])) rfl rfl (Light.quiet (kIx (f := AV.bool) ha36 rfl rfl rfl elemA_56 sizeA_4 rfl)) ?_
        refine ASL.q (v := (.bool a36)) rfl rfl (Light.quiet (opLoadR rfl aggA_4 rfl rfl)) ?_
        refine ASL.q (v := (.bool a36)) rfl rfl (Light.quiet (opMove rfl rfl)) ?_
        refine ASL.g (v := (.list 1 (List.map AV.bool p1))) (.bool a36) true rfl (wT _) rfl (fun hG => by have q0 := hG; subst q0; exact Light.quiet (opMove rfl rfl)) ?_
        refine ASL.g (v := (.rptr [(.int .i64 p0.a), (.int .i64 p0.b)])) (.bool a36) true rfl (wT _) rfl (fun hG => by have q0 := hG; subst q0; exact Light.quiet (opFieldAddrR rfl fieldA_59_1 rfl rfl)) ?_
        refine ASL.g (v := (.int .i64 p0.a)) (.bool a36) true rfl (wT _) rfl (fun hG => by have q0 := hG; subst q0; exact Light.quiet (opLoadR rfl aggA_3 rfl rfl)) ?_
        obtain ⟨a42, ha42, hF⟩ := bindE hF
        refine ASL.g (v := (.rptr [(.bool a42)])) (.bool a36) true rfl (wT _) rfl (fun hG => by have q0 := hG; subst q0; exact Light.quiet (kIx (f := AV.bool) (whenE ha42) rfl rfl rfl elemA_56 sizeA_4 rfl)) ?_
        refine ASL.g (v := (.bool a42)) (.bool a36) true rfl (wT _) rfl (fun hG => by have q0 := hG; subst q0; exact Light.quiet (opLoadR rfl aggA_4 rfl rfl)) ?_
        refine ASL.g (v := (.bool a42)) (.bool a36) true rfl (wT _) rfl (fun hG => by have q0 := hG; subst q0; exact Light.quiet (opMove rfl rfl)) ?_
        refine ASL.g (v := (.bool p3)) (bif a36 then (.bool a42) else .tup []) false rfl (wGF _ _) rfl (fun hG => by have q0 := gA1 hG; have q1 := gN (gA2 hG); subst q0; subst q1; exact Light.quiet (opMove rfl rfl)) ?_
        refine ASL.g (v := (.bool (a42 || p3))) (.bool a36) true rfl (wT _) rfl (fun hG => by have q0 := hG; subst q0; exact Light.quiet (opPick (b := a42) rfl rfl (by cases a42 <;> rfl))) ?_
        refine ASL.q (v := (.bool (a36 && (a42 || p3)))) rfl rfl (Light.quiet (opPick (b := a36) rfl rfl (by cases a36 <;> rfl))) ?_
        refine ASL.q (v := (.bool (a36 && (a42 || p3)))) rfl rfl (Light.quiet (opAssign rfl rfl)) ?_
        refine ASL.done ?_
        refine AWP.ret ?_
        refine QBlock.ret ?_
        refine QThen.rt ?_
        obtain rfl := someE hF
        exact QRet.sole (v := (.bool (a36 && (a42 || p3)))) ⟨rfl, trivial⟩ rfl
      · skip
        refine AWP.seqR rfl ?_
        refine ASL.q (v := (.bool (decide (p0.kind = 10)))) rfl rfl (Light.quiet (opInt rfl rfl rfl rfl)) ?_
        refine ASL.q (v := (.bool (decide (p0.kind = 10)))) rfl rfl (Light.quiet (opAssign rfl rfl)) ?_
        refine ASL.done ?_
        refine AWP.ifP hF rfl (fun hc4 hF => ?_) (fun hc4 hF => ?_)
        · skip
          refine AWP.seqR rfl ?_
          refine ASL.q (v := (.list 1 (List.map AV.bool p1))) rfl rfl (Light.quiet (opMove rfl rfl)) ?_
          refine ASL.q (v := (.rptr [(.int .i64 p0.a), (.int .i64 p0.b)])) rfl rfl (Light.quiet (opFieldAddrR rfl fieldA_59_1 rfl rfl)) ?_
          refine ASL.q (v := (.int .i64 p0.a)) rfl rfl (Light.quiet (opLoadR rfl aggA_3 rfl rfl)) ?_
          obtain ⟨a53, ha53, hF⟩ := bindE hF
          refine ASL.q (v := (.rptr [(.bool a53)])) rfl rfl (Light.quiet (kIx (f := AV.bool) ha53 rfl rfl rfl elemA_56 sizeA_4 rfl)) ?_
          refine ASL.q (v := (.bool a53)) rfl rfl (Light.quiet (opLoadR rfl aggA_4 rfl rfl)) ?_
          refine ASL.q (v := (.bool a53)) rfl rfl (Light.quiet (opMove rfl rfl)) ?_
          refine ASL.g (v := (.bool p3)) (.bool a53) false rfl (wF _) rfl (fun hG => by have q0 := gN hG; subst q0; exact Light.quiet (opMove rfl rfl)) ?_
          refine ASL.q (v := (.bool (a53 || p3))) rfl rfl (Light.quiet (opPick (b := a53) rfl rfl (by cases a53 <;> rfl))) ?_
          refine ASL.q (v := (.bool (a53 || p3))) rfl rfl (Light.quiet (opAssign rfl rfl)) ?_
          refine ASL.done ?_
          refine AWP.ret ?_
          refine QBlock.ret ?_
          refine QThen.rt ?_
          obtain rfl := someE hF
          exact QRet.sole (v := (.bool (a53 || p3))) ⟨rfl, trivial⟩ rfl
        · skip
          refine AWP.seqR rfl ?_
          refine ASL.q (v := (.bool (decide (p0.kind = 11)))) rfl rfl (Light.quiet (opInt rfl rfl rfl rfl)) ?_
          refine ASL.q (v := (.bool (decide (p0.kind = 11)))) rfl rfl (Light.quiet (opAssign rfl rfl)) ?_
          refine ASL.done ?_
          refine AWP.ifP hF rfl (fun hc5 hF => ?_) (fun hc5 hF => ?_)
          · skip
            refine AWP.seqR rfl ?_
            refine ASL.q (v := (.list 1 (List.map AV.bool p1))) rfl rfl (Light.quiet (opMove rfl rfl)) ?_
            refine ASL.q (v := (.rptr [(.int .i64 p0.a), (.int .i64 p0.b)])) rfl rfl (Light.quiet (opFieldAddrR rfl fieldA_59_1 rfl rfl)) ?_
            refine ASL.q (v := (.int .i64 p0.a)) rfl rfl (Light.quiet (opLoadR rfl aggA_3 rfl rfl)) ?_
            obtain ⟨a63, ha63, hF⟩ := bindE hF
            refine ASL.q (v := (.rptr [(.bool a63)])) rfl rfl (Light.quiet (kIx (f := AV.bool) ha63 rfl rfl rfl elemA_56 sizeA_4 rfl)) ?_
            refine ASL.q (v := (.bool a63)) rfl rfl (Light.quiet (opLoadR rfl aggA_4 rfl rfl)) ?_
            refine ASL.q (v := (.bool a63)) rfl rfl (Light.quiet (opMove rfl rfl)) ?_
            refine ASL.g (v := (.bool p3)) (.bool a63) true rfl (wT _) rfl (fun hG => by have q0 := hG; subst q0; exact Light.quiet (opMove rfl rfl)) ?_
            refine ASL.q (v := (.bool (a63 && p3))) rfl rfl (Light.quiet (opPick (b := a63) rfl rfl (by cases a63 <;> rfl))) ?_
            refine ASL.q (v := (.bool (a63 && p3))) rfl rfl (Light.quiet (opAssign rfl rfl)) ?_
            refine ASL.done ?_
            refine AWP.ret ?_
            refine QBlock.ret ?_
            refine QThen.rt ?_
            obtain rfl := someE hF
            exact QRet.sole (v := (.bool (a63 && p3))) ⟨rfl, trivial⟩ rfl
          · skip
            refine AWP.skip ?_
            refine QBlock.nrm ?_
            refine QThen.nrm ?_
            refine AWP.seqR rfl ?_
            refine ASL.q (v := (TNode.av p0)) rfl rfl (Light.quiet (opLoadRA rfl aggA_59 sizeA_59 rfl (nlt rfl) rfl)) ?_
            refine ASL.q (v := (.list 1 (List.map AV.bool p1))) rfl rfl (Light.quiet (opMove rfl rfl)) ?_
            refine ASL.q (v := (.int .i64 p2)) rfl rfl (Light.quiet (opMove rfl rfl)) ?_
            obtain ⟨a71, ha71, hF⟩ := bindE hF
            refine ASL.q (v := (.bool a71)) rfl rfl ((qCall rfl rfl call_128 (impl_plain_ok ha71) rfl)) ?_
            refine ASL.q (v := (.bool a71)) rfl rfl (Light.quiet (opAssign rfl rfl)) ?_
            refine ASL.done ?_
            refine AWP.ret ?_
            obtain rfl := someE hF
            exact QRet.sole (v := (.bool a71)) ⟨rfl, trivial⟩ rfl

set_option maxRecDepth 10000 in
theorem impl_rowOf_ok {p0 : TNode} {p1 : (List (List Bool))} {p2 : TWord} {r : (List Bool)} (hF : impl_rowOf p0 p1 p2 = some r) : PO Try.prog 104 [(TNode.av p0), (.list 1 (List.map (fun xs : (List Bool) => AV.list 1 (List.map AV.bool xs)) p1)), (TWord.av p2)] 1 (List.map AV.bool r) := by
  refine HC.enter Try.func104 rfl Try.ntmps104 (by simp) ?_
  have hS := Sep.void; unfold impl_rowOf at hF
  refine AWP.seqR rfl ?_
  refine ASL.q (v := (.rptr [(.int .i64 p0.kind), (.int .i64 p0.a), (.int .i64 p0.b)])) rfl rfl ((qBoxI (v := (TNode.av p0)) rfl rfl rfl rfl)) ?_
  refine ASL.q (v := (.rptr [(.list 1 (List.map (AV.int .i64) p2.stem)), (.list 1 (List.map (AV.int .i64) p2.loop))])) rfl rfl ((qBoxI (v := (TWord.av p2)) rfl rfl rfl rfl)) ?_
  have hS := hNil (s := 1) (f := AV.bool) hS
  refine ASL.q (v := .nil) rfl rfl (Light.quiet (opAssign rfl rfl)) ?_
  refine ASL.done ?_
  refine AWP.seqR rfl ?_
  refine ASL.q (v := (.int .i64 (impl_Word_places p2))) rfl rfl ((qCall rfl rfl call_122 (impl_Word_places_ok p2) rfl)) ?_
  obtain ⟨z12, hz12, hF⟩ := bindE hF
  refine ASL.x rfl rfl (hMk (f := AV.bool) hS hz12 (by decide) rfl elemA_56 sizeA_4 bytesA_4 zeroA_4 rfl rfl (by decide) rfl rfl ?_); rintro v12 G2 hK hS
  refine ASL.q (v := v12) rfl rfl (Light.quiet (opAssign rfl rfl)) ?_
  refine ASL.done ?_
  refine AWP.seqM (fun e H => ∃ y4 : (List Bool), E.Told e [(1, (.list 1 (List.map (fun xs : (List Bool) => AV.list 1 (List.map AV.bool xs)) p1))), (3, (.rptr [(.int .i64 p0.kind), (.int .i64 p0.a), (.int .i64 p0.b)])), (5, (.rptr [(.list 1 (List.map (AV.int .i64) p2.stem)), (.list 1 (List.map (AV.int .i64) p2.loop))])), (7, v12)] ∧ E.Sep H [.row 1 v12 (List.map AV.bool y4)] ∧ impl_rowOf.k0 p2 p0 p1 y4 = some r) ?_ ?_
  · rintro e0 G28 ⟨y4, hT, hS, hF⟩; refine AWP.only _ hT ?_; unfold impl_rowOf.k0 at hF
    refine AWP.seqM (fun e H => ∃ y5 : (List Bool), E.Told e [(7, v12)] ∧ E.Sep H [.row 1 v12 (List.map AV.bool y5)] ∧ impl_rowOf.k1 y5 = some r) ?_ ?_
    · rintro e0 G6 ⟨y5, hT, hS, hF⟩; refine AWP.only _ hT ?_; unfold impl_rowOf.k1 at hF
      refine AWP.seqR rfl ?_
      refine ASL.q (v := v12) rfl rfl (Light.quiet (opMove rfl rfl)) ?_
      refine ASL.q (v := v12) rfl rfl (Light.quiet (opAssign rfl rfl)) ?_
      refine ASL.done ?_
      refine AWP.ret ?_
      obtain rfl := someE hF
      exact QRet.sole (v := v12) ⟨rfl, trivial⟩ (hS.get (k := 0) rfl)
    · skip
      refine AWP.seqR rfl ?_
      refine ASL.q (v := (.int .i64 0)) rfl rfl (Light.quiet (opMove rfl rfl)) ?_
      refine ASL.done ?_
      refine AWP.block ?_
      obtain ⟨o11, hL10, hR12⟩ := bindE hF
      refine AWP.loopF (ω := Unit) hL10 (fun s w => [(1, (.list 1 (List.map (fun xs : (List Bool) => AV.list 1 (List.map AV.bool xs)) p1))), (3, (.rptr [(.int .i64 p0.kind), (.int .i64 p0.a), (.int .i64 p0.b)])), (5, (.rptr [(.list 1 (List.map (AV.int .i64) p2.stem)), (.list 1 (List.map (AV.int .i64) p2.loop))])), (7, v12), (30, (.int .i64 s.2))]) (fun s w => [.row 1 v12 (List.map AV.bool s.1)]) () ⟨rfl, rfl, rfl, rfl, rfl, trivial⟩ (hS.pick [0] rfl rfl) ?_
      rintro ⟨y7, x30_l0⟩ _ G13 hS x8 hF hx9
      try dsimp only at hS ⊢
      have hF : impl_rowOf.b0 p2 p0 p1 y7 x30_l0 = some x8 := hF; unfold impl_rowOf.b0 at hF
      refine AWP.seqR rfl ?_
      refine ASL.q (v := (.bool (decide (x30_l0 < 2)))) rfl rfl (Light.quiet (opInt rfl rfl rfl rfl)) ?_
      refine ASL.done ?_
      refine AWP.seq ?_
      refine AWP.ifP hF rfl (fun hc14 hF => ?_) (fun hc14 hF => ?_)
      · skip
        refine AWP.skip ?_
        refine QThen.nrm ?_
        refine AWP.seqM (fun e H => ∃ y15 : (List Bool), E.Told e [(1, (.list 1 (List.map (fun xs : (List Bool) => AV.list 1 (List.map AV.bool xs)) p1))), (3, (.rptr [(.int .i64 p0.kind), (.int .i64 p0.a), (.int .i64 p0.b)])), (5, (.rptr [(.list 1 (List.map (AV.int .i64) p2.stem)), (.list 1 (List.map (AV.int .i64) p2.loop))])), (7, v12), (30, (.int .i64 x30_l0))] ∧ E.Sep H [.row 1 v12 (List.map AV.bool y15)] ∧ impl_rowOf.k2 x30_l0 y15 = some x8) ?_ ?_
        · rintro e0 G16 ⟨y15, hT, hS, hF⟩; refine AWP.only _ hT ?_; unfold impl_rowOf.k2 at hF
          refine AWP.lastR rfl ?_
          refine ASL.q (v := (.int .i64 (W (x30_l0 + 1)))) rfl rfl (Light.quiet (opInt rfl rfl rfl rfl)) ?_
          refine ASL.q (v := (.int .i64 (W (x30_l0 + 1)))) rfl rfl (Light.quiet (opMove rfl rfl)) ?_
          refine ASL.done ?_
          refine QThen.nrm ?_
          exact ⟨(y15, (W (x30_l0 + 1))), (), (someE hF).symm, ⟨rfl, rfl, rfl, rfl, rfl, trivial⟩, (hS.pick [0] rfl rfl)⟩
        · skip
          refine AWP.block ?_
          refine AWP.seqR rfl ?_
          refine ASL.q (v := v12) rfl rfl (Light.quiet (opMove rfl rfl)) ?_
          refine ASL.q (v := (.int .i64 (y7.length : Int))) rfl rfl (Light.quiet (kLen hS (j := 0) rfl rfl rfl rfl lenT_56 rfl)) ?_
          refine ASL.q (v := (.int .i64 (W (((y7.length : Int)) - 1)))) rfl rfl (Light.quiet (opInt rfl rfl rfl rfl)) ?_
          refine ASL.q (v := (.int .i64 (W (((y7.length : Int)) - 1)))) rfl rfl (Light.quiet (opAssign rfl rfl)) ?_
          refine ASL.done ?_
          refine AWP.block ?_
          obtain ⟨o21, hL20, hR22⟩ := bindE hF
          refine AWP.loopF (ω := Unit) hL20 (fun s w => [(1, (.list 1 (List.map (fun xs : (List Bool) => AV.list 1 (List.map AV.bool xs)) p1))), (3, (.rptr [(.int .i64 p0.kind), (.int .i64 p0.a), (.int .i64 p0.b)])), (5, (.rptr [(.list 1 (List.map (AV.int .i64) p2.stem)), (.list 1 (List.map (AV.int .i64) p2.loop))])), (7, v12), (9, (.int .i64 s.2)), (30, (.int .i64 x30_l0))]) (fun s w => [.row 1 v12 (List.map AV.bool s.1)]) () ⟨rfl, rfl, rfl, rfl, rfl, rfl, trivial⟩ (hS.pick [0] rfl rfl) ?_
          rintro ⟨y17, x9_l1⟩ _ G23 hS x18 hF hx19
          try dsimp only at hS ⊢
          have hF : impl_rowOf.b1 p2 p0 p1 y17 x9_l1 = some x18 := hF; unfold impl_rowOf.b1 at hF
          refine AWP.seq ?_
          refine AWP.seqR rfl ?_
          refine ASL.q (v := (.int .i64 x9_l1)) rfl rfl (Light.quiet (opMove rfl rfl)) ?_
          refine ASL.q (v := (.bool (decide (x9_l1 ≥ 0)))) rfl rfl (Light.quiet (opInt rfl rfl rfl rfl)) ?_
          refine ASL.done ?_
          refine AWP.ifP hF rfl (fun hc24 hF => ?_) (fun hc24 hF => ?_)
          · skip
            refine AWP.skip ?_
            refine QThen.nrm ?_
            refine AWP.seq ?_
            refine AWP.block ?_
            refine AWP.seqR rfl ?_
            refine ASL.q (v := v12) rfl rfl (Light.quiet (opMove rfl rfl)) ?_
            refine ASL.q (v := (.int .i64 x9_l1)) rfl rfl (Light.quiet (opMove rfl rfl)) ?_
            refine ASL.q (v := (.int .i64 (impl_Word_next p2 x9_l1))) rfl rfl ((qCall rfl rfl call_123 (impl_Word_next_ok p2 x9_l1) rfl)) ?_
            obtain ⟨a42, ha42, hF⟩ := bindE hF
            refine ASL.q (v := (ptrTo v12 ((impl_Word_next p2 x9_l1)).toNat 1)) rfl rfl (Light.quiet (kIxOx hS (j := 0) rfl ha42 rfl rfl rfl elemA_56 sizeA_4)) ?_
            refine ASL.q (v := (.bool a42)) rfl rfl (Light.quiet (kLd (f := AV.bool) hS (j := 0) rfl ha42 rfl aggA_4 rfl (fun _ => rfl))) ?_
            refine ASL.q (v := (.bool a42)) rfl rfl (Light.quiet (opAssign rfl rfl)) ?_
            refine ASL.done ?_
            refine AWP.seqM (fun e H => ∃ x10_4 : Bool, E.Told e [(1, (.list 1 (List.map (fun xs : (List Bool) => AV.list 1 (List.map AV.bool xs)) p1))), (3, (.rptr [(.int .i64 p0.kind), (.int .i64 p0.a), (.int .i64 p0.b)])), (5, (.rptr [(.list 1 (List.map (AV.int .i64) p2.stem)), (.list 1 (List.map (AV.int .i64) p2.loop))])), (7, v12), (9, (.int .i64 x9_l1)), (10, (.bool x10_4)), (30, (.int .i64 x30_l0))] ∧ E.Sep H [.row 1 v12 (List.map AV.bool y17)] ∧ impl_rowOf.k3 p0 p1 x9_l1 p2 y17 x10_4 = some x18) ?_ ?_
            · rintro e0 G26 ⟨x10_4, hT, hS, hF⟩; refine AWP.only _ hT ?_; unfold impl_rowOf.k3 at hF
              refine AWP.lastD [(0, false), (1, false), (2, false), (3, false), (4, false), (5, false), (6, false), (7, false), (8, false), (9, false), (10, false), (11, false), (12, true)] mixed (by kernel_rfl) rfl ?_
              refine ARL.q0 (v := v12) rfl rfl (Light.quiet (opMove rfl rfl)) ?_
              refine ARL.q0 (v := (.int .i64 x9_l1)) rfl rfl (Light.quiet (opMove rfl rfl)) ?_
              refine ARL.q0 (v := (TNode.av p0)) rfl rfl (Light.quiet (opLoadRA rfl aggA_59 sizeA_59 rfl (nlt rfl) rfl)) ?_
              refine ARL.q0 (v := (TNode.av p0)) rfl rfl (Light.quiet (opLoadRA rfl aggA_59 sizeA_59 rfl (nlt rfl) rfl)) ?_
              refine ARL.q0 (v := (.list 1 (List.map (fun xs : (List Bool) => AV.list 1 (List.map AV.bool xs)) p1))) rfl rfl (Light.quiet (opMove rfl rfl)) ?_
              refine ARL.q0 (v := (.int .i64 x9_l1)) rfl rfl (Light.quiet (opMove rfl rfl)) ?_
              obtain ⟨a62, ha62, hF⟩ := bindE hF
              refine ARL.q0 (v := (.list 1 (List.map AV.bool a62))) rfl rfl ((qCall rfl rfl call_124 (PO.list (impl_columnOf_ok ha62)) rfl)) ?_
              refine ARL.q0 (v := (.int .i64 x9_l1)) rfl rfl (Light.quiet (opMove rfl rfl)) ?_
              obtain ⟨a64, ha64, hF⟩ := bindE hF
              refine ARL.q0 (v := (.int .i64 a64)) rfl rfl ((qCall rfl rfl call_125 (impl_Word_letter_ok ha64) rfl)) ?_
              refine ARL.q0 (v := (.bool x10_4)) rfl rfl (Light.quiet (opMove rfl rfl)) ?_
              obtain ⟨a66, ha66, hF⟩ := bindE hF
              refine ARL.q0 (v := (.bool a66)) rfl rfl ((qCall rfl rfl call_109 (impl_soBy_ok ha66) rfl)) ?_
              obtain ⟨m67, hm67, hF⟩ := bindE hF
              refine ARL.q0 (v := (ptrTo v12 m67 1)) rfl rfl (Light.quiet (kIxO hS (j := 0) rfl hm67 rfl rfl rfl elemA_56 sizeA_4)) ?_
              refine ARL.n rfl rfl rfl rfl (hSt (f := AV.bool) (a := a66) hS (j := 0) rfl hm67 rfl sizeA_4 rfl rfl ⟨rfl, rfl, rfl⟩ ?_); rintro G25 hS
              refine ARL.done ?_
              refine QBlock.nrm ?_
              refine QThen.nrm ?_
              refine AWP.lastR rfl ?_
              refine ASL.q (v := (.int .i64 x9_l1)) rfl rfl (Light.quiet (opMove rfl rfl)) ?_
              refine ASL.q (v := (.int .i64 (W (x9_l1 - 1)))) rfl rfl (Light.quiet (opInt rfl rfl rfl rfl)) ?_
              refine ASL.q (v := (.int .i64 (W (x9_l1 - 1)))) rfl rfl (Light.quiet (opAssign rfl rfl)) ?_
              refine ASL.done ?_
              refine QThen.nrm ?_
              exact ⟨((y17.set m67 a66), (W (x9_l1 - 1))), (), (someE hF).symm, ⟨rfl, rfl, rfl, rfl, rfl, rfl, trivial⟩, (hS.pick [0] rfl rfl)⟩
            · skip
              refine AWP.seqR rfl ?_
              refine ASL.q (v := (.rptr [(.int .i64 p0.kind), (.int .i64 p0.a), (.int .i64 p0.b)])) rfl rfl (Light.quiet (opFieldAddrR rfl fieldA_59_0 rfl rfl)) ?_
              refine ASL.q (v := (.int .i64 p0.kind)) rfl rfl (Light.quiet (opLoadR rfl aggA_3 rfl rfl)) ?_
              refine ASL.q (v := (.bool (decide (p0.kind = 7)))) rfl rfl (Light.quiet (opInt rfl rfl rfl rfl)) ?_
              refine ASL.done ?_
              refine AWP.ifP hF rfl (fun hc27 hF => ?_) (fun hc27 hF => ?_)
              · skip
                refine AWP.lastD [(0, false), (1, false), (2, false), (3, false), (4, false), (5, false), (6, false), (7, false), (8, false), (9, false)] mixed (by kernel_rfl) rfl ?_
                refine ARL.q0 (v := (.list 1 (List.map (fun xs : (List Bool) => AV.list 1 (List.map AV.bool xs)) p1))) rfl rfl (Light.quiet (opMove rfl rfl)) ?_
                refine ARL.q0 (v := (.rptr [(.int .i64 p0.a), (.int .i64 p0.b)])) rfl rfl (Light.quiet (opFieldAddrR rfl fieldA_59_1 rfl rfl)) ?_
                refine ARL.q0 (v := (.int .i64 p0.a)) rfl rfl (Light.quiet (opLoadR rfl aggA_3 rfl rfl)) ?_
                obtain ⟨a50, ha50, hF⟩ := bindE hF
                refine ARL.q0 (v := (.rptr [(.list 1 (List.map AV.bool a50))])) rfl rfl (Light.quiet (kIx (f := (fun xs : (List Bool) => AV.list 1 (List.map AV.bool xs))) ha50 rfl rfl rfl elemA_48 sizeA_56 rfl)) ?_
                refine ARL.q0 (v := (.list 1 (List.map AV.bool a50))) rfl rfl (Light.quiet (opLoadR rfl aggA_56 rfl rfl)) ?_
                refine ARL.q0 (v := (.int .i64 x9_l1)) rfl rfl (Light.quiet (opMove rfl rfl)) ?_
                refine ARL.q0 (v := (.int .i64 (impl_Word_next p2 x9_l1))) rfl rfl ((qCall rfl rfl call_123 (impl_Word_next_ok p2 x9_l1) rfl)) ?_
                obtain ⟨a54, ha54, hF⟩ := bindE hF
                refine ARL.q0 (v := (.rptr [(.bool a54)])) rfl rfl (Light.quiet (kIx (f := AV.bool) ha54 rfl rfl rfl elemA_56 sizeA_4 rfl)) ?_
                refine ARL.q0 (v := (.bool a54)) rfl rfl (Light.quiet (opLoadR rfl aggA_4 rfl rfl)) ?_
                refine ARL.q0 (v := (.bool a54)) rfl rfl (Light.quiet (opAssign rfl rfl)) ?_
                refine ARL.done ?_
                refine QThen.nrm ?_
                exact ⟨a54, ⟨rfl, rfl, rfl, rfl, rfl, rfl, rfl, trivial⟩, (hS.pick [0] rfl rfl), hF⟩
              · skip
                refine AWP.skip ?_
                refine QThen.nrm ?_
                exact ⟨a42, ⟨rfl, rfl, rfl, rfl, rfl, rfl, rfl, trivial⟩, (hS.pick [0] rfl rfl), hF⟩
          · skip
            refine AWP.exit ?_
            refine QThen.ext ?_
            refine QThen.ext ?_
            refine QBlock.hit ?_
            obtain rfl := (hx19 _ (someE hF).symm)
            have hF := hR22
            refine QBlock.nrm ?_
            refine QThen.nrm ?_
            exact ⟨y17, ⟨rfl, rfl, rfl, rfl, rfl, trivial⟩, (hS.pick [0] rfl rfl), hF⟩
      · skip
        refine AWP.exit ?_
        refine QThen.ext ?_
        refine QThen.ext ?_
        refine QBlock.hit ?_
        obtain rfl := (hx9 _ (someE hF).symm)
        have hF := hR12
        refine QThen.nrm ?_
        exact ⟨y7, ⟨rfl, trivial⟩, (hS.pick [0] rfl rfl), hF⟩
  · skip
    refine AWP.seqR rfl ?_
    refine ASL.q (v := v12) rfl rfl (Light.quiet (opMove rfl rfl)) ?_
    refine ASL.q (v := (.int .i64 (z12.length : Int))) rfl rfl (Light.quiet (kLen hS (j := 0) rfl rfl rfl rfl lenT_56 rfl)) ?_
    refine ASL.q (v := (.int .i64 0)) rfl rfl (Light.quiet (opMove rfl rfl)) ?_
    refine ASL.done ?_
    refine AWP.block ?_
    obtain ⟨o33, hL32, hR34⟩ := bindE hF
    refine AWP.loopF (ω := Unit) hL32 (fun s w => [(1, (.list 1 (List.map (fun xs : (List Bool) => AV.list 1 (List.map AV.bool xs)) p1))), (3, (.rptr [(.int .i64 p0.kind), (.int .i64 p0.a), (.int .i64 p0.b)])), (5, (.rptr [(.list 1 (List.map (AV.int .i64) p2.stem)), (.list 1 (List.map (AV.int .i64) p2.loop))])), (7, v12), (14, (.int .i64 (z12.length : Int))), (15, (.int .i64 s.2))]) (fun s w => [.row 1 v12 (List.map AV.bool s.1)]) () ⟨rfl, rfl, rfl, rfl, rfl, rfl, trivial⟩ (hS.pick [0] rfl rfl) ?_
    rintro ⟨y29, x15_l2⟩ _ G35 hS x30 hF hx31
    try dsimp only at hS ⊢
    have hF : impl_rowOf.b2 z12 p0 y29 x15_l2 = some x30 := hF; unfold impl_rowOf.b2 at hF
    refine AWP.seqR rfl ?_
    refine ASL.q (v := (.bool (decide (x15_l2 < ((z12.length : Int)))))) rfl rfl (Light.quiet (opInt rfl rfl rfl rfl)) ?_
    refine ASL.done ?_
    refine AWP.seq ?_
    refine AWP.ifP hF rfl (fun hc36 hF => ?_) (fun hc36 hF => ?_)
    · skip
      refine AWP.skip ?_
      refine QThen.nrm ?_
      refine AWP.seq ?_
      refine AWP.block ?_
      refine AWP.seqR rfl ?_
      refine ASL.q (v := (.int .i64 x15_l2)) rfl rfl (Light.quiet (opMove rfl rfl)) ?_
      refine ASL.q (v := (.int .i64 x15_l2)) rfl rfl (Light.quiet (opAssign rfl rfl)) ?_
      refine ASL.done ?_
      refine AWP.lastR rfl ?_
      refine ASL.q (v := v12) rfl rfl (Light.quiet (opMove rfl rfl)) ?_
      refine ASL.q (v := (.int .i64 x15_l2)) rfl rfl (Light.quiet (opMove rfl rfl)) ?_
      refine ASL.q (v := (.rptr [(.int .i64 p0.kind), (.int .i64 p0.a), (.int .i64 p0.b)])) rfl rfl (Light.quiet (opFieldAddrR rfl fieldA_59_0 rfl rfl)) ?_
      refine ASL.q (v := (.int .i64 p0.kind)) rfl rfl (Light.quiet (opLoadR rfl aggA_3 rfl rfl)) ?_
      refine ASL.q (v := (.bool (decide (p0.kind = 9)))) rfl rfl (Light.quiet (opInt rfl rfl rfl rfl)) ?_
      obtain ⟨c23, hc23, hF⟩ := bndE hF
      refine ASL.q (v := (.bool c23)) rfl rfl ((Quiet.cast (Light.quiet (opMove rfl rfl)) (congrArg AV.bool hc23.symm))) ?_
      refine ASL.g (v := (.rptr [(.int .i64 p0.kind), (.int .i64 p0.a), (.int .i64 p0.b)])) (.bool c23) false rfl (wF _) rfl (fun hG => by have q0 := gN hG; subst q0; exact Light.quiet (opFieldAddrR rfl fieldA_59_0 rfl rfl)) ?_
      refine ASL.g (v := (.int .i64 p0.kind)) (.bool c23) false rfl (wF _) rfl (fun hG => by have q0 := gN hG; subst q0; exact Light.quiet (opLoadR rfl aggA_3 rfl rfl)) ?_
      refine ASL.g (v := (.bool (decide (p0.kind = 11)))) (.bool c23) false rfl (wF _) rfl (fun hG => by have q0 := gN hG; subst q0; exact Light.quiet (opInt rfl rfl rfl rfl)) ?_
      refine ASL.q (v := (.bool (c23 || (decide (p0.kind = 11))))) rfl rfl (Light.quiet (opPick (b := c23) rfl rfl (by cases c23 <;> rfl))) ?_
      obtain ⟨m28, hm28, hF⟩ := bindE hF
      refine ASL.q (v := (ptrTo v12 m28 1)) rfl rfl (Light.quiet (kIxO hS (j := 0) rfl hm28 rfl rfl rfl elemA_56 sizeA_4)) ?_
      refine ASL.n rfl rfl (hSt (f := AV.bool) (a := (c23 || (decide (p0.kind = 11)))) hS (j := 0) rfl hm28 rfl sizeA_4 rfl rfl ⟨rfl, rfl, rfl⟩ ?_); rintro G37 hS
      refine ASL.done ?_
      refine QBlock.nrm ?_
      refine QThen.nrm ?_
      refine AWP.lastR rfl ?_
      refine ASL.q (v := (.int .i64 (W (x15_l2 + 1)))) rfl rfl (Light.quiet (opInt rfl rfl rfl rfl)) ?_
      refine ASL.q (v := (.int .i64 (W (x15_l2 + 1)))) rfl rfl (Light.quiet (opMove rfl rfl)) ?_
      refine ASL.done ?_
      refine QThen.nrm ?_
      exact ⟨((y29.set m28 ((c23 || (decide (p0.kind = 11))))), (W (x15_l2 + 1))), (), (someE hF).symm, ⟨rfl, rfl, rfl, rfl, rfl, rfl, trivial⟩, (hS.pick [0] rfl rfl)⟩
    · skip
      refine AWP.exit ?_
      refine QThen.ext ?_
      refine QThen.ext ?_
      refine QBlock.hit ?_
      obtain rfl := (hx31 _ (someE hF).symm)
      have hF := hR34
      refine QThen.nrm ?_
      exact ⟨y29, ⟨rfl, rfl, rfl, rfl, trivial⟩, (hS.pick [0] rfl rfl), hF⟩

set_option maxRecDepth 10000 in
theorem impl_tableOf_ok {p0 : (List TNode)} {p1 : TWord} {r : (List (List Bool))} (hF : impl_tableOf p0 p1 = some r) : HS Try.prog 68 [(.list 3 (List.map TNode.av p0)), (TWord.av p1)] [] fun v L' => ∃ o0 : AV, ∃ o0_s : List AV, v = o0 ∧ L' = [.rows 1 o0 o0_s (List.map (List.map AV.bool) r) none] := by
  intro H S hS
  refine HC.enter Try.func68 rfl Try.ntmps68 (by simp) ?_
  simp only [List.cons_append, List.nil_append] at hS
  unfold impl_tableOf at hF
  refine AWP.seqR rfl ?_
  refine ASL.q (v := (.rptr [(.list 1 (List.map (AV.int .i64) p1.stem)), (.list 1 (List.map (AV.int .i64) p1.loop))])) rfl rfl ((qBoxI (v := (TWord.av p1)) rfl rfl rfl rfl)) ?_
  have hS := hNilRs (s := 1) (f := AV.bool) hS
  refine ASL.q (v := .nil) rfl rfl (Light.quiet (opAssign rfl rfl)) ?_
  refine ASL.done ?_
  refine AWP.seqR rfl ?_
  have hS := hNilRs (s := 1) (f := AV.bool) hS
  refine ASL.q (v := .nil) rfl rfl (Light.quiet (opAssign rfl rfl)) ?_
  refine ASL.done ?_
  refine AWP.seqM (fun e H => ∃ y3 : (List (List Bool)), ∃ w4 : AV, ∃ w6 : List AV, E.Told e [(5, w4)] ∧ E.Sep H [.rows 1 w4 w6 (List.map (List.map AV.bool) y3) none, .snap S] ∧ impl_tableOf.k0 y3 = some r) ?_ ?_
  · rintro e0 G7 ⟨y3, w4, w6, hT, hS, hF⟩; refine AWP.only _ hT ?_; unfold impl_tableOf.k0 at hF
    refine AWP.seqR rfl ?_
    refine ASL.q (v := w4) rfl rfl (Light.quiet (opMove rfl rfl)) ?_
    refine ASL.q (v := w4) rfl rfl (Light.quiet (opAssign rfl rfl)) ?_
    refine ASL.done ?_
    refine AWP.ret ?_
    obtain rfl := someE hF
    exact QRet.sole (v := w4) ⟨rfl, trivial⟩ ⟨_, ⟨w4, w6, rfl, rfl⟩, hS.pick [0, 1] rfl rfl⟩
  · skip
    refine AWP.seqR rfl ?_
    refine ASL.q (v := (.list 3 (List.map TNode.av p0))) rfl rfl (Light.quiet (opMove rfl rfl)) ?_
    refine ASL.q (v := (.int .i64 (p0.length : Int))) rfl rfl (Light.quiet (opLenMap (f := TNode.av) rfl rfl rfl lenT_24 rfl)) ?_
    refine ASL.q (v := (.int .i64 0)) rfl rfl (Light.quiet (opMove rfl rfl)) ?_
    refine ASL.done ?_
    refine AWP.block ?_
    obtain ⟨o15, hL14, hR16⟩ := bindE hF
    refine AWP.loopF (ω := (AV × (List AV))) hL14 (fun s w => [(3, (.rptr [(.list 1 (List.map (AV.int .i64) p1.stem)), (.list 1 (List.map (AV.int .i64) p1.loop))])), (5, w.1), (8, (.list 3 (List.map TNode.av p0))), (9, (.int .i64 (p0.length : Int))), (10, (.int .i64 s.2))]) (fun s w => [.rows 1 w.1 w.2 (List.map (List.map AV.bool) s.1) none, .snap S]) (.nil, []) ⟨rfl, rfl, rfl, rfl, rfl, trivial⟩ (hS.pick [0, 2] rfl rfl) ?_
    rintro ⟨y8, x10_l0⟩ ⟨w9, w11⟩ G17 hS x12 hF hx13
    try dsimp only at hS ⊢
    have hF : impl_tableOf.b0 p0 p1 y8 x10_l0 = some x12 := hF; unfold impl_tableOf.b0 at hF
    refine AWP.seqR rfl ?_
    refine ASL.q (v := (.bool (decide (x10_l0 < ((p0.length : Int)))))) rfl rfl (Light.quiet (opInt rfl rfl rfl rfl)) ?_
    refine ASL.done ?_
    refine AWP.seq ?_
    refine AWP.ifP hF rfl (fun hc18 hF => ?_) (fun hc18 hF => ?_)
    · skip
      refine AWP.skip ?_
      refine QThen.nrm ?_
      refine AWP.seq ?_
      refine AWP.block ?_
      refine AWP.seqR rfl ?_
      obtain ⟨a12, ha12, hF⟩ := bindE hF
      refine ASL.q (v := (.rptr [(.int .i64 a12.kind), (.int .i64 a12.a), (.int .i64 a12.b)])) rfl rfl (Light.quiet (kIx (f := TNode.av) ha12 rfl rfl rfl elemA_24 sizeA_59 rfl)) ?_
      refine ASL.q (v := (TNode.av a12)) rfl rfl (Light.quiet (opLoadRA rfl aggA_59 sizeA_59 rfl (nlt rfl) rfl)) ?_
      refine ASL.x rfl rfl (hNewZ hS [(.int .i64 0), (.int .i64 0), (.int .i64 0)] rfl zeroA_59 ⟨.inl rfl, .inl rfl, .inl rfl, trivial⟩ ?_); rintro b7 G19 hK hS
      refine ASL.n rfl rfl (hPutA hS (j := 0) rfl rfl sizeA_59 rfl rfl rfl rfl rfl (nlt rfl) ?_); rintro G21 hS
      refine ASL.done ?_
      refine AWP.lastR rfl ?_
      refine ASL.q (v := w9) rfl rfl (Light.quiet (opMove rfl rfl)) ?_
      refine ASL.q (v := (TNode.av a12)) rfl rfl (Light.quiet (kAtA hS (j := 0) rfl rfl aggA_59 sizeA_59 rfl (nlt rfl) rfl)) ?_
      refine ASL.q (v := w9) rfl rfl (Light.quiet (opMove rfl rfl)) ?_
      refine ASL.q (v := (TWord.av p1)) rfl rfl (Light.quiet (opLoadRA rfl aggA_41 sizeA_41 rfl (nlt rfl) rfl)) ?_
      obtain ⟨a18, ha18, hF⟩ := bindE hF
      refine ASL.x rfl rfl (hCallOR hS rfl rfl call_104 (impl_rowOf_ok ha18) ⟨.same _, RAS.rowsF (k := 1) rfl, .same _, trivial⟩ (Scal.row (fun _ => by intro c hc; simp only [cells, List.mem_singleton] at hc; subst hc; constructor)) ?_); rintro v18 G22 hK hS
      refine ASL.q (v := (.list 1 [v18])) rfl rfl ((qLitO hS (i := 0) rfl rfl elemA_48 sizeA_56 zeroA_56 rfl rfl rfl (nlt rfl))) ?_
      obtain ⟨z20, hz20, hF⟩ := bindE hF
      refine ASL.x rfl rfl (hAppRows (f := AV.bool) (us := a18) (hS.pick (L' := [.row 1 v18 (List.map AV.bool a18), .rows 1 w9 w11 (List.map (List.map AV.bool) y8) none, .cell b7 [(.int .i64 a12.kind), (.int .i64 a12.a), (.int .i64 a12.b)], .snap S]) [0, 2, 1, 3] rfl rfl) hz20 rfl elemA_48 rfl sizeA_56 bytesA_56 zeroA_56 rfl rfl rfl ?_); rintro v20 G24 hS
      refine ASL.q (v := v20) rfl rfl (Light.quiet (opAssign rfl rfl)) ?_
      refine ASL.done ?_
      refine QBlock.nrm ?_
      refine QThen.nrm ?_
      refine AWP.lastR rfl ?_
      refine ASL.q (v := (.int .i64 (W (x10_l0 + 1)))) rfl rfl (Light.quiet (opInt rfl rfl rfl rfl)) ?_
      refine ASL.q (v := (.int .i64 (W (x10_l0 + 1)))) rfl rfl (Light.quiet (opMove rfl rfl)) ?_
      refine ASL.done ?_
      refine QThen.nrm ?_
      exact ⟨(z20, (W (x10_l0 + 1))), (v20, (w11 ++ [v18])), (someE hF).symm, ⟨rfl, rfl, rfl, rfl, rfl, trivial⟩, (hS.pick [0, 2] rfl rfl)⟩
    · skip
      refine AWP.exit ?_
      refine QThen.ext ?_
      refine QThen.ext ?_
      refine QBlock.hit ?_
      obtain rfl := (hx13 _ (someE hF).symm)
      have hF := hR16
      refine QThen.nrm ?_
      exact ⟨y8, w9, w11, ⟨rfl, trivial⟩, (hS.pick [0, 1] rfl rfl), hF⟩

set_option maxRecDepth 10000 in
theorem impl_Word_placeOf_ok {p0 : TWord} {p1 : Int} {r : Int} (hF : impl_Word_placeOf p0 p1 = some r) : PC Try.prog 69 [(.rptr [(.list 1 (List.map (AV.int .i64) p0.stem)), (.list 1 (List.map (AV.int .i64) p0.loop))]), (.int .i64 p1)] fun v => v = (.int .i64 r) := by
  refine PC.enter Try.func69 rfl Try.ntmps69 (by simp) ?_
  have hS := Sep.void; unfold impl_Word_placeOf at hF
  refine AWP.seqR rfl ?_
  refine ASL.q (v := (.int .i64 0)) rfl rfl (Light.quiet (opAssign rfl rfl)) ?_
  refine ASL.done ?_
  refine AWP.seq ?_
  refine AWP.seqR rfl ?_
  refine ASL.q (v := (.int .i64 p1)) rfl rfl (Light.quiet (opMove rfl rfl)) ?_
  refine ASL.q (v := (.rptr [(.list 1 (List.map (AV.int .i64) p0.stem)), (.list 1 (List.map (AV.int .i64) p0.loop))])) rfl rfl (Light.quiet (opMove rfl rfl)) ?_
  refine ASL.q (v := (.rptr [(.list 1 (List.map (AV.int .i64) p0.stem)), (.list 1 (List.map (AV.int .i64) p0.loop))])) rfl rfl (Light.quiet (opNil rfl rfl rfl)) ?_
  refine ASL.q (v := (.rptr [(.list 1 (List.map (AV.int .i64) p0.stem)), (.list 1 (List.map (AV.int .i64) p0.loop))])) rfl rfl (Light.quiet (opFieldAddrR rfl fieldA_41_0 rfl rfl)) ?_
  refine ASL.q (v := (.list 1 (List.map (AV.int .i64) p0.stem))) rfl rfl (Light.quiet (opLoadR rfl aggA_32 rfl rfl)) ?_
  refine ASL.q (v := (.int .i64 (p0.stem.length : Int))) rfl rfl (Light.quiet (opLenMap (f := (AV.int .i64)) rfl rfl rfl lenT_32 rfl)) ?_
  refine ASL.q (v := (.bool (decide (p1 < ((p0.stem.length : Int)))))) rfl rfl (Light.quiet (opInt rfl rfl rfl rfl)) ?_
  refine ASL.done ?_
  refine AWP.ifP hF rfl (fun hc1 hF => ?_) (fun hc1 hF => ?_)
  · skip
    refine AWP.seqR rfl ?_
    refine ASL.q (v := (.int .i64 p1)) rfl rfl (Light.quiet (opMove rfl rfl)) ?_
    refine ASL.q (v := (.int .i64 p1)) rfl rfl (Light.quiet (opAssign rfl rfl)) ?_
    refine ASL.done ?_
    refine AWP.ret ?_
    refine QThen.rt ?_
    obtain rfl := someE hF
    exact QRet.sole (v := (.int .i64 p1)) ⟨rfl, trivial⟩ rfl
  · skip
    refine AWP.skip ?_
    refine QThen.nrm ?_
    refine AWP.seqD [(0, false), (1, false), (2, false), (3, false), (4, false), (5, false), (6, false), (7, false), (8, false), (9, false), (10, false), (11, false), (12, false), (13, false), (14, false), (15, false), (16, false), (17, false), (18, false), (19, false)] mixed (by kernel_rfl) rfl ?_
    refine ARL.q0 (v := (.rptr [(.list 1 (List.map (AV.int .i64) p0.stem)), (.list 1 (List.map (AV.int .i64) p0.loop))])) rfl rfl (Light.quiet (opMove rfl rfl)) ?_
    refine ARL.q0 (v := (.rptr [(.list 1 (List.map (AV.int .i64) p0.stem)), (.list 1 (List.map (AV.int .i64) p0.loop))])) rfl rfl (Light.quiet (opNil rfl rfl rfl)) ?_
    refine ARL.q0 (v := (.rptr [(.list 1 (List.map (AV.int .i64) p0.stem)), (.list 1 (List.map (AV.int .i64) p0.loop))])) rfl rfl (Light.quiet (opFieldAddrR rfl fieldA_41_0 rfl rfl)) ?_
    refine ARL.q0 (v := (.list 1 (List.map (AV.int .i64) p0.stem))) rfl rfl (Light.quiet (opLoadR rfl aggA_32 rfl rfl)) ?_
    refine ARL.q0 (v := (.int .i64 (p0.stem.length : Int))) rfl rfl (Light.quiet (opLenMap (f := (AV.int .i64)) rfl rfl rfl lenT_32 rfl)) ?_
    refine ARL.q0 (v := (.int .i64 p1)) rfl rfl (Light.quiet (opMove rfl rfl)) ?_
    refine ARL.q0 (v := (.rptr [(.list 1 (List.map (AV.int .i64) p0.stem)), (.list 1 (List.map (AV.int .i64) p0.loop))])) rfl rfl (Light.quiet (opMove rfl rfl)) ?_
    refine ARL.q0 (v := (.rptr [(.list 1 (List.map (AV.int .i64) p0.stem)), (.list 1 (List.map (AV.int .i64) p0.loop))])) rfl rfl (Light.quiet (opNil rfl rfl rfl)) ?_
    refine ARL.q0 (v := (.rptr [(.list 1 (List.map (AV.int .i64) p0.stem)), (.list 1 (List.map (AV.int .i64) p0.loop))])) rfl rfl (Light.quiet (opFieldAddrR rfl fieldA_41_0 rfl rfl)) ?_
    refine ARL.q0 (v := (.list 1 (List.map (AV.int .i64) p0.stem))) rfl rfl (Light.quiet (opLoadR rfl aggA_32 rfl rfl)) ?_
    refine ARL.q0 (v := (.int .i64 (p0.stem.length : Int))) rfl rfl (Light.quiet (opLenMap (f := (AV.int .i64)) rfl rfl rfl lenT_32 rfl)) ?_
    refine ARL.q0 (v := (.int .i64 (W (p1 - ((p0.stem.length : Int)))))) rfl rfl (Light.quiet (opInt rfl rfl rfl rfl)) ?_
    refine ARL.q0 (v := (.rptr [(.list 1 (List.map (AV.int .i64) p0.stem)), (.list 1 (List.map (AV.int .i64) p0.loop))])) rfl rfl (Light.quiet (opMove rfl rfl)) ?_
    refine ARL.q0 (v := (.rptr [(.list 1 (List.map (AV.int .i64) p0.stem)), (.list 1 (List.map (AV.int .i64) p0.loop))])) rfl rfl (Light.quiet (opNil rfl rfl rfl)) ?_
    refine ARL.q0 (v := (.rptr [(.list 1 (List.map (AV.int .i64) p0.loop))])) rfl rfl (Light.quiet (opFieldAddrR rfl fieldA_41_1 rfl rfl)) ?_
    refine ARL.q0 (v := (.list 1 (List.map (AV.int .i64) p0.loop))) rfl rfl (Light.quiet (opLoadR rfl aggA_32 rfl rfl)) ?_
    refine ARL.q0 (v := (.int .i64 (p0.loop.length : Int))) rfl rfl (Light.quiet (opLenMap (f := (AV.int .i64)) rfl rfl rfl lenT_32 rfl)) ?_
    obtain ⟨u2, hu2, hF⟩ := bindE hF
    refine ARL.q0 (v := (.int .i64 (Int.tmod ((W (p1 - ((p0.stem.length : Int))))) ((p0.loop.length : Int))))) rfl rfl (Light.quiet (opRem rfl rfl rfl (of_decide_eq_true (chkE hu2)) rfl)) ?_
    refine ARL.q0 (v := (.int .i64 (W (((p0.stem.length : Int)) + ((Int.tmod ((W (p1 - ((p0.stem.length : Int))))) ((p0.loop.length : Int)))))))) rfl rfl (Light.quiet (opInt rfl rfl rfl rfl)) ?_
    refine ARL.q0 (v := (.int .i64 (W (((p0.stem.length : Int)) + ((Int.tmod ((W (p1 - ((p0.stem.length : Int))))) ((p0.loop.length : Int)))))))) rfl rfl (Light.quiet (opAssign rfl rfl)) ?_
    refine ARL.done ?_
    refine AWP.ret ?_
    obtain rfl := someE hF
    exact QRet.sole (v := (.int .i64 (W (((p0.stem.length : Int)) + ((Int.tmod ((W (p1 - ((p0.stem.length : Int))))) ((p0.loop.length : Int)))))))) ⟨rfl, trivial⟩ rfl

set_option maxRecDepth 10000 in
theorem impl_LtlAt_ok {p0 : (List TNode)} {p1 : TWord} {p2 : Int} {r : Bool} (hF : impl_LtlAt p0 p1 p2 = some r) : PC Try.prog 25 [(.list 3 (List.map TNode.av p0)), (TWord.av p1), (.int .i64 p2)] fun v => v = (.bool r) := by
  refine PC.enter Try.func25 rfl Try.ntmps25 (by simp) ?_
  have hS := Sep.void; unfold impl_LtlAt at hF
  refine AWP.seqR rfl ?_
  refine ASL.q (v := (.rptr [(.list 1 (List.map (AV.int .i64) p1.stem)), (.list 1 (List.map (AV.int .i64) p1.loop))])) rfl rfl ((qBoxI (v := (TWord.av p1)) rfl rfl rfl rfl)) ?_
  refine ASL.q (v := (.bool false)) rfl rfl (Light.quiet (opAssign rfl rfl)) ?_
  refine ASL.done ?_
  refine AWP.seq ?_
  refine AWP.seqR rfl ?_
  refine ASL.q (v := (.int .i64 p2)) rfl rfl (Light.quiet (opMove rfl rfl)) ?_
  refine ASL.q (v := (.bool (decide (p2 < 0)))) rfl rfl (Light.quiet (opInt rfl rfl rfl rfl)) ?_
  obtain ⟨c9, hc9, hF⟩ := bndE hF
  refine ASL.q (v := (.bool c9)) rfl rfl ((Quiet.cast (Light.quiet (opMove rfl rfl)) (congrArg AV.bool hc9.symm))) ?_
  refine ASL.g (v := (.list 3 (List.map TNode.av p0))) (.bool c9) false rfl (wF _) rfl (fun hG => by have q0 := gN hG; subst q0; exact Light.quiet (opMove rfl rfl)) ?_
  obtain ⟨a11, ha11, hF⟩ := bindE hF
  refine ASL.g (v := (.bool a11)) (.bool c9) false rfl (wF _) rfl (fun hG => by have q0 := gN hG; subst q0; exact (qCall rfl rfl call_16 (impl_LtlOk_ok (whenE ha11)) rfl)) ?_
  refine ASL.g (v := (.bool (!a11))) (.bool c9) false rfl (wF _) rfl (fun hG => by have q0 := gN hG; subst q0; exact Light.quiet (opNot rfl rfl)) ?_
  refine ASL.q (v := (.bool (c9 || (!a11)))) rfl rfl (Light.quiet (opPick (b := c9) rfl rfl (by cases c9 <;> rfl))) ?_
  obtain ⟨c14, hc14, hF⟩ := bndE hF
  refine ASL.q (v := (.bool c14)) rfl rfl ((Quiet.cast (Light.quiet (opMove rfl rfl)) (congrArg AV.bool hc14.symm))) ?_
  refine ASL.g (v := (TWord.av p1)) (.bool c14) false rfl (wF _) rfl (fun hG => by have q0 := gN hG; subst q0; exact Light.quiet (opLoadRA rfl aggA_41 sizeA_41 rfl (nlt rfl) rfl)) ?_
  obtain ⟨a16, ha16, hF⟩ := bindE hF
  refine ASL.g (v := (.bool a16)) (.bool c14) false rfl (wF _) rfl (fun hG => by have q0 := gN hG; subst q0; exact (qCall rfl rfl call_67 (impl_isRight_ok (whenE ha16)) rfl)) ?_
  refine ASL.g (v := (.bool (!a16))) (.bool c14) false rfl (wF _) rfl (fun hG => by have q0 := gN hG; subst q0; exact Light.quiet (opNot rfl rfl)) ?_
  refine ASL.q (v := (.bool (c14 || (!a16)))) rfl rfl (Light.quiet (opPick (b := c14) rfl rfl (by cases c14 <;> rfl))) ?_
  refine ASL.done ?_
  refine AWP.ifB hF rfl (fun hc1 hF => ?_) (fun hc1 hF => ?_)
  · skip
    refine AWP.seqR rfl ?_
    refine ASL.q (v := (.bool false)) rfl rfl (Light.quiet (opAssign rfl rfl)) ?_
    refine ASL.done ?_
    refine AWP.ret ?_
    refine QThen.rt ?_
    obtain rfl := someE hF
    exact QRet.sole (v := (.bool false)) ⟨rfl, trivial⟩ rfl
  · skip
    refine AWP.skip ?_
    refine QThen.nrm ?_
    refine AWP.seqD [(0, false), (1, false), (3, false), (4, false), (5, false), (8, false), (2, true), (6, false), (7, false), (9, false), (10, false), (11, false), (12, false)] mixed (by kernel_rfl) rfl ?_
    refine ARL.q0 (v := (.list 3 (List.map TNode.av p0))) rfl rfl (Light.quiet (opMove rfl rfl)) ?_
    refine ARL.q0 (v := (TWord.av p1)) rfl rfl (Light.quiet (opLoadRA rfl aggA_41 sizeA_41 rfl (nlt rfl) rfl)) ?_
    refine ARL.q0 (v := (.list 3 (List.map TNode.av p0))) rfl rfl (Light.quiet (opMove rfl rfl)) ?_
    refine ARL.q0 (v := (.int .i64 (p0.length : Int))) rfl rfl (Light.quiet (opLenMap (f := TNode.av) rfl rfl rfl lenT_24 rfl)) ?_
    refine ARL.q0 (v := (.int .i64 (W (((p0.length : Int)) - 1)))) rfl rfl (Light.quiet (opInt rfl rfl rfl rfl)) ?_
    refine ARL.q0 (v := (.int .i64 p2)) rfl rfl (Light.quiet (opMove rfl rfl)) ?_
    obtain ⟨a21, ha21, hF⟩ := bindE hF
    refine ARL.x rfl rfl rfl (hCallSR hS rfl rfl call_68 (impl_tableOf_ok ha21) ⟨.same _, .same _, trivial⟩ (by rintro w2 _ G ⟨_, w3, rfl, rfl⟩ hG; exact ⟨(hG.scRs (k := 0) rfl), ⟨⟨rfl, rowsScal (fun _ => by intro c hc; simp only [cells, List.mem_singleton] at hc; subst hc; constructor) _⟩, trivial⟩⟩) ?_); rintro w2 _ G5 ⟨_, w3, rfl, rfl⟩ hK hS; refine ⟨hK, ?_⟩
    obtain ⟨m25, hm25, hF⟩ := bindE hF
    refine ARL.q0 (v := (ptrTo w2 m25 1)) rfl rfl (Light.quiet (kIxRows hS (j := 0) rfl hm25 rfl rfl rfl elemA_48 sizeA_56)) ?_
    refine ARL.q (v := (w3.getD m25 .undef)) rfl rfl (hS.aliveRs (k := 0) rfl) (Light.quiet (kLdRows hS (j := 0) rfl hm25 rfl aggA_56 rfl)) ?_
    have hS := hS.lend (k := 0) rfl hm25
    obtain ⟨a28, ha28, hF⟩ := bindE hF
    refine ARL.q0 (v := (.int .i64 a28)) rfl rfl ((qCall rfl rfl call_69 (impl_Word_placeOf_ok ha28) rfl)) ?_
    obtain ⟨a29, ha29, hF⟩ := bindE hF
    refine ARL.q0 (v := (ptrTo (w3.getD m25 .undef) a28.toNat 1)) rfl rfl (Light.quiet (kIxOx hS (j := 0) rfl ha29 rfl rfl rfl elemA_56 sizeA_4)) ?_
    refine ARL.q (v := (.bool a29)) rfl rfl (hS.aliveR (k := 0) rfl) (Light.quiet (kLd (f := AV.bool) hS (j := 0) rfl ha29 rfl aggA_4 rfl (fun _ => rfl))) ?_
    refine ARL.q0 (v := (.bool a29)) rfl rfl (Light.quiet (opAssign rfl rfl)) ?_
    refine ARL.done ?_
    have hS := (hS.pick (L' := [.row 1 (w3.getD m25 .undef) (List.map AV.bool ((a21.getD m25 []))), .rows 1 w2 w3 (List.map (List.map AV.bool) a21) (some m25)]) [0, 1] rfl rfl).unlend hm25
    refine AWP.ret ?_
    obtain rfl := someE hF
    exact QRet.sole (v := (.bool a29)) ⟨rfl, trivial⟩ rfl

set_option maxRecDepth 10000 in
theorem spec_l8Parts_ok (p0 : Int) : PC Try.prog 56 [(.int .i64 p0)] fun v => v = (.int .i64 (spec_l8Parts p0)) := by
  generalize hF : spec_l8Parts p0 = r
  refine PC.enter Try.func56 rfl Try.ntmps56 (by simp) ?_
  have hS := Sep.void; unfold spec_l8Parts at hF
  refine AWP.seqR rfl ?_
  refine ASL.q (v := (.int .i64 0)) rfl rfl (Light.quiet (opAssign rfl rfl)) ?_
  refine ASL.done ?_
  refine AWP.seq ?_
  refine AWP.seqR rfl ?_
  refine ASL.q (v := (.int .i64 p0)) rfl rfl (Light.quiet (opMove rfl rfl)) ?_
  refine ASL.done ?_
  refine AWP.block ?_
  refine AWP.seqM (fun e H => ∃ x4_1 : Bool, E.Told e [(3, (.int .i64 p0)), (4, (.bool x4_1))] ∧ E.Sep H [] ∧ spec_l8Parts.k0 p0 x4_1 = r) ?_ ?_
  · rintro e0 G14 ⟨x4_1, hT, hS, hF⟩; refine AWP.only _ hT ?_; unfold spec_l8Parts.k0 at hF
    refine AWP.ifB hF rfl (fun hc1 hF => ?_) (fun hc1 hF => ?_)
    · skip
      refine AWP.seqR rfl ?_
      refine ASL.q (v := (.int .i64 0)) rfl rfl (Light.quiet (opAssign rfl rfl)) ?_
      refine ASL.done ?_
      refine AWP.ret ?_
      refine QBlock.ret ?_
      refine QThen.rt ?_
      obtain rfl := hF
      exact QRet.sole (v := (.int .i64 0)) ⟨rfl, trivial⟩ rfl
    · skip
      refine AWP.seqM (fun e H => ∃ x8_2 : Bool, E.Told e [(3, (.int .i64 p0)), (8, (.bool x8_2))] ∧ E.Sep H [] ∧ spec_l8Parts.k1 p0 x8_2 = r) ?_ ?_
      · rintro e0 G10 ⟨x8_2, hT, hS, hF⟩; refine AWP.only _ hT ?_; unfold spec_l8Parts.k1 at hF
        refine AWP.ifB hF rfl (fun hc2 hF => ?_) (fun hc2 hF => ?_)
        · skip
          refine AWP.seqR rfl ?_
          refine ASL.q (v := (.int .i64 1)) rfl rfl (Light.quiet (opAssign rfl rfl)) ?_
          refine ASL.done ?_
          refine AWP.ret ?_
          refine QBlock.ret ?_
          refine QThen.rt ?_
          obtain rfl := hF
          exact QRet.sole (v := (.int .i64 1)) ⟨rfl, trivial⟩ rfl
        · skip
          refine AWP.seq ?_
          refine AWP.seqR rfl ?_
          refine ASL.q (v := (.bool (decide (p0 = 5)))) rfl rfl (Light.quiet (opInt rfl rfl rfl rfl)) ?_
          refine ASL.q (v := (.bool (decide (p0 = 5)))) rfl rfl (Light.quiet (opAssign rfl rfl)) ?_
          refine ASL.done ?_
          refine AWP.ifP hF rfl (fun hc3 hF => ?_) (fun hc3 hF => ?_)
          · skip
            refine AWP.skip ?_
            refine QThen.nrm ?_
            refine AWP.ifP hF rfl (fun hc4 hF => ?_) (fun hc4 hF => ?_)
            · skip
              refine AWP.seqR rfl ?_
              refine ASL.q (v := (.int .i64 2)) rfl rfl (Light.quiet (opAssign rfl rfl)) ?_
              refine ASL.done ?_
              refine AWP.ret ?_
              refine QBlock.ret ?_
              refine QThen.rt ?_
              obtain rfl := hF
              exact QRet.sole (v := (.int .i64 2)) ⟨rfl, trivial⟩ rfl
            · skip
              refine AWP.skip ?_
              refine QBlock.nrm ?_
              refine QThen.nrm ?_
              refine AWP.seqR rfl ?_
              refine ASL.q (v := (.int .i64 (-1))) rfl rfl (Light.quiet (opAssign rfl rfl)) ?_
              refine ASL.done ?_
              refine AWP.ret ?_
              obtain rfl := hF
              exact QRet.sole (v := (.int .i64 (-1))) ⟨rfl, trivial⟩ rfl
          · skip
            refine AWP.seqR rfl ?_
            refine ASL.q (v := (.bool (decide (p0 = 6)))) rfl rfl (Light.quiet (opInt rfl rfl rfl rfl)) ?_
            refine ASL.q (v := (.bool (decide (p0 = 6)))) rfl rfl (Light.quiet (opAssign rfl rfl)) ?_
            refine ASL.done ?_
            refine AWP.ifP hF rfl (fun hc5 hF => ?_) (fun hc5 hF => ?_)
            · skip
              refine AWP.skip ?_
              refine QThen.nrm ?_
              refine AWP.ifP hF rfl (fun hc6 hF => ?_) (fun hc6 hF => ?_)
              · skip
                refine AWP.seqR rfl ?_
                refine ASL.q (v := (.int .i64 2)) rfl rfl (Light.quiet (opAssign rfl rfl)) ?_
                refine ASL.done ?_
                refine AWP.ret ?_
                refine QBlock.ret ?_
                refine QThen.rt ?_
                obtain rfl := hF
                exact QRet.sole (v := (.int .i64 2)) ⟨rfl, trivial⟩ rfl
              · skip
                refine AWP.skip ?_
                refine QBlock.nrm ?_
                refine QThen.nrm ?_
                refine AWP.seqR rfl ?_
                refine ASL.q (v := (.int .i64 (-1))) rfl rfl (Light.quiet (opAssign rfl rfl)) ?_
                refine ASL.done ?_
                refine AWP.ret ?_
                obtain rfl := hF
                exact QRet.sole (v := (.int .i64 (-1))) ⟨rfl, trivial⟩ rfl
            · skip
              refine AWP.seqR rfl ?_
              refine ASL.q (v := (.bool (decide (p0 = 8)))) rfl rfl (Light.quiet (opInt rfl rfl rfl rfl)) ?_
              refine ASL.q (v := (.bool (decide (p0 = 8)))) rfl rfl (Light.quiet (opAssign rfl rfl)) ?_
              refine ASL.done ?_
              refine AWP.ifP hF rfl (fun hc7 hF => ?_) (fun hc7 hF => ?_)
              · skip
                refine AWP.skip ?_
                refine QThen.nrm ?_
                refine AWP.ifP hF rfl (fun hc8 hF => ?_) (fun hc8 hF => ?_)
                · skip
                  refine AWP.seqR rfl ?_
                  refine ASL.q (v := (.int .i64 2)) rfl rfl (Light.quiet (opAssign rfl rfl)) ?_
                  refine ASL.done ?_
                  refine AWP.ret ?_
                  refine QBlock.ret ?_
                  refine QThen.rt ?_
                  obtain rfl := hF
                  exact QRet.sole (v := (.int .i64 2)) ⟨rfl, trivial⟩ rfl
                · skip
                  refine AWP.skip ?_
                  refine QBlock.nrm ?_
                  refine QThen.nrm ?_
                  refine AWP.seqR rfl ?_
                  refine ASL.q (v := (.int .i64 (-1))) rfl rfl (Light.quiet (opAssign rfl rfl)) ?_
                  refine ASL.done ?_
                  refine AWP.ret ?_
                  obtain rfl := hF
                  exact QRet.sole (v := (.int .i64 (-1))) ⟨rfl, trivial⟩ rfl
              · skip
                refine AWP.lastR rfl ?_
                refine ASL.q (v := (.bool (decide (p0 = 9)))) rfl rfl (Light.quiet (opInt rfl rfl rfl rfl)) ?_
                refine ASL.q (v := (.bool (decide (p0 = 9)))) rfl rfl (Light.quiet (opAssign rfl rfl)) ?_
                refine ASL.done ?_
                refine QThen.nrm ?_
                refine AWP.ifP hF rfl (fun hc9 hF => ?_) (fun hc9 hF => ?_)
                · skip
                  refine AWP.seqR rfl ?_
                  refine ASL.q (v := (.int .i64 2)) rfl rfl (Light.quiet (opAssign rfl rfl)) ?_
                  refine ASL.done ?_
                  refine AWP.ret ?_
                  refine QBlock.ret ?_
                  refine QThen.rt ?_
                  obtain rfl := hF
                  exact QRet.sole (v := (.int .i64 2)) ⟨rfl, trivial⟩ rfl
                · skip
                  refine AWP.skip ?_
                  refine QBlock.nrm ?_
                  refine QThen.nrm ?_
                  refine AWP.seqR rfl ?_
                  refine ASL.q (v := (.int .i64 (-1))) rfl rfl (Light.quiet (opAssign rfl rfl)) ?_
                  refine ASL.done ?_
                  refine AWP.ret ?_
                  obtain rfl := hF
                  exact QRet.sole (v := (.int .i64 (-1))) ⟨rfl, trivial⟩ rfl
      · skip
        refine AWP.seqR rfl ?_
        refine ASL.q (v := (.bool (decide (p0 = 4)))) rfl rfl (Light.quiet (opInt rfl rfl rfl rfl)) ?_
        refine ASL.q (v := (.bool (decide (p0 = 4)))) rfl rfl (Light.quiet (opAssign rfl rfl)) ?_
        refine ASL.done ?_
        refine AWP.ifP hF rfl (fun hc11 hF => ?_) (fun hc11 hF => ?_)
        · skip
          refine AWP.skip ?_
          refine QThen.nrm ?_
          exact ⟨(decide (p0 = 4)), ⟨rfl, rfl, trivial⟩, (hS.pick [] rfl rfl), hF⟩
        · skip
          refine AWP.seqR rfl ?_
          refine ASL.q (v := (.bool (decide (p0 = 7)))) rfl rfl (Light.quiet (opInt rfl rfl rfl rfl)) ?_
          refine ASL.q (v := (.bool (decide (p0 = 7)))) rfl rfl (Light.quiet (opAssign rfl rfl)) ?_
          refine ASL.done ?_
          refine AWP.ifP hF rfl (fun hc12 hF => ?_) (fun hc12 hF => ?_)
          · skip
            refine AWP.skip ?_
            refine QThen.nrm ?_
            exact ⟨(decide (p0 = 7)), ⟨rfl, rfl, trivial⟩, (hS.pick [] rfl rfl), hF⟩
          · skip
            refine AWP.seqR rfl ?_
            refine ASL.q (v := (.bool (decide (p0 = 10)))) rfl rfl (Light.quiet (opInt rfl rfl rfl rfl)) ?_
            refine ASL.q (v := (.bool (decide (p0 = 10)))) rfl rfl (Light.quiet (opAssign rfl rfl)) ?_
            refine ASL.done ?_
            refine AWP.ifP hF rfl (fun hc13 hF => ?_) (fun hc13 hF => ?_)
            · skip
              refine AWP.skip ?_
              refine QThen.nrm ?_
              exact ⟨(decide (p0 = 10)), ⟨rfl, rfl, trivial⟩, (hS.pick [] rfl rfl), hF⟩
            · skip
              refine AWP.lastR rfl ?_
              refine ASL.q (v := (.bool (decide (p0 = 11)))) rfl rfl (Light.quiet (opInt rfl rfl rfl rfl)) ?_
              refine ASL.q (v := (.bool (decide (p0 = 11)))) rfl rfl (Light.quiet (opAssign rfl rfl)) ?_
              refine ASL.done ?_
              refine QThen.nrm ?_
              exact ⟨(decide (p0 = 11)), ⟨rfl, rfl, trivial⟩, (hS.pick [] rfl rfl), hF⟩
  · skip
    refine AWP.seqR rfl ?_
    refine ASL.q (v := (.bool (decide (p0 = 1)))) rfl rfl (Light.quiet (opInt rfl rfl rfl rfl)) ?_
    refine ASL.q (v := (.bool (decide (p0 = 1)))) rfl rfl (Light.quiet (opAssign rfl rfl)) ?_
    refine ASL.done ?_
    refine AWP.ifP hF rfl (fun hc15 hF => ?_) (fun hc15 hF => ?_)
    · skip
      refine AWP.skip ?_
      refine QThen.nrm ?_
      exact ⟨(decide (p0 = 1)), ⟨rfl, rfl, trivial⟩, (hS.pick [] rfl rfl), hF⟩
    · skip
      refine AWP.seqR rfl ?_
      refine ASL.q (v := (.bool (decide (p0 = 2)))) rfl rfl (Light.quiet (opInt rfl rfl rfl rfl)) ?_
      refine ASL.q (v := (.bool (decide (p0 = 2)))) rfl rfl (Light.quiet (opAssign rfl rfl)) ?_
      refine ASL.done ?_
      refine AWP.ifP hF rfl (fun hc16 hF => ?_) (fun hc16 hF => ?_)
      · skip
        refine AWP.skip ?_
        refine QThen.nrm ?_
        exact ⟨(decide (p0 = 2)), ⟨rfl, rfl, trivial⟩, (hS.pick [] rfl rfl), hF⟩
      · skip
        refine AWP.lastR rfl ?_
        refine ASL.q (v := (.bool (decide (p0 = 3)))) rfl rfl (Light.quiet (opInt rfl rfl rfl rfl)) ?_
        refine ASL.q (v := (.bool (decide (p0 = 3)))) rfl rfl (Light.quiet (opAssign rfl rfl)) ?_
        refine ASL.done ?_
        refine QThen.nrm ?_
        exact ⟨(decide (p0 = 3)), ⟨rfl, rfl, trivial⟩, (hS.pick [] rfl rfl), hF⟩

set_option maxRecDepth 10000 in
theorem spec_l2Leaf_ok (p0 : TNode) : PC Try.prog 87 [(TNode.av p0)] fun v => v = (.bool (spec_l2Leaf p0)) := by
  generalize hF : spec_l2Leaf p0 = r
  refine PC.enter Try.func87 rfl Try.ntmps87 (by simp) ?_
  have hS := Sep.void; unfold spec_l2Leaf at hF
  refine AWP.seqR rfl ?_
  refine ASL.q (v := (.rptr [(.int .i64 p0.kind), (.int .i64 p0.a), (.int .i64 p0.b)])) rfl rfl ((qBoxI (v := (TNode.av p0)) rfl rfl rfl rfl)) ?_
  refine ASL.q (v := (.bool false)) rfl rfl (Light.quiet (opAssign rfl rfl)) ?_
  refine ASL.done ?_
  refine AWP.seq ?_
  refine AWP.seqR rfl ?_
  refine ASL.q (v := (.rptr [(.int .i64 p0.kind), (.int .i64 p0.a), (.int .i64 p0.b)])) rfl rfl (Light.quiet (opFieldAddrR rfl fieldA_59_0 rfl rfl)) ?_
  refine ASL.q (v := (.int .i64 p0.kind)) rfl rfl (Light.quiet (opLoadR rfl aggA_3 rfl rfl)) ?_
  refine ASL.q (v := (.bool (decide (p0.kind = 3)))) rfl rfl (Light.quiet (opInt rfl rfl rfl rfl)) ?_
  refine ASL.done ?_
  refine AWP.ifP hF rfl (fun hc1 hF => ?_) (fun hc1 hF => ?_)
  · skip
    refine AWP.seqR rfl ?_
    refine ASL.q (v := (.rptr [(.int .i64 p0.a), (.int .i64 p0.b)])) rfl rfl (Light.quiet (opFieldAddrR rfl fieldA_59_1 rfl rfl)) ?_
    refine ASL.q (v := (.int .i64 p0.a)) rfl rfl (Light.quiet (opLoadR rfl aggA_3 rfl rfl)) ?_
    refine ASL.q (v := (.bool (spec_l1In p0.a 0 2))) rfl rfl ((qCall rfl rfl call_86 (spec_l1In_ok p0.a 0 2) rfl)) ?_
    refine ASL.q (v := (.bool (spec_l1In p0.a 0 2))) rfl rfl (Light.quiet (opAssign rfl rfl)) ?_
    refine ASL.done ?_
    refine AWP.ret ?_
    refine QThen.rt ?_
    obtain rfl := hF
    exact QRet.sole (v := (.bool (spec_l1In p0.a 0 2))) ⟨rfl, trivial⟩ rfl
  · skip
    refine AWP.skip ?_
    refine QThen.nrm ?_
    refine AWP.seqR rfl ?_
    refine ASL.q (v := (.rptr [(.int .i64 p0.a), (.int .i64 p0.b)])) rfl rfl (Light.quiet (opFieldAddrR rfl fieldA_59_1 rfl rfl)) ?_
    refine ASL.q (v := (.int .i64 p0.a)) rfl rfl (Light.quiet (opLoadR rfl aggA_3 rfl rfl)) ?_
    refine ASL.q (v := (.bool (decide (p0.a = 0)))) rfl rfl (Light.quiet (opInt rfl rfl rfl rfl)) ?_
    refine ASL.q (v := (.bool (decide (p0.a = 0)))) rfl rfl (Light.quiet (opAssign rfl rfl)) ?_
    refine ASL.done ?_
    refine AWP.ret ?_
    obtain rfl := hF
    exact QRet.sole (v := (.bool (decide (p0.a = 0)))) ⟨rfl, trivial⟩ rfl

set_option maxRecDepth 10000 in
theorem spec_l2Sizes_ok {p0 : (List TNode)} {p1 : (List Int)} {r : (List Int)} (hF : spec_l2Sizes p0 p1 = some r) : PO Try.prog 88 [(.list 3 (List.map TNode.av p0)), (.list 1 (List.map (AV.int .i64) p1))] 1 (List.map (AV.int .i64) r) := by
  refine HC.enter Try.func88 rfl Try.ntmps88 (by simp) ?_
  have hS := Sep.void; unfold spec_l2Sizes at hF
  refine AWP.seqR rfl ?_
  have hS := hNil (s := 1) (f := (AV.int .i64)) hS
  refine ASL.q (v := .nil) rfl rfl (Light.quiet (opAssign rfl rfl)) ?_
  refine ASL.done ?_
  refine AWP.seqR rfl ?_
  refine ASL.x rfl rfl (hLit (f := (AV.int .i64)) (zs := []) hS rfl rfl elemA_32 sizeA_3 zeroA_3 rfl rfl rfl rfl (by simp [cells]) (nlt rfl) ?_); rintro v10 G2 hK hS
  refine ASL.q (v := v10) rfl rfl (Light.quiet (opAssign rfl rfl)) ?_
  refine ASL.done ?_
  refine AWP.seqM (fun e H => ∃ y4 : (List Int), ∃ w5 : AV, E.Told e [(5, w5)] ∧ E.Sep H [.row 1 w5 (List.map (AV.int .i64) y4)] ∧ spec_l2Sizes.k0 y4 = some r) ?_ ?_
  · rintro e0 G7 ⟨y4, w5, hT, hS, hF⟩; refine AWP.only _ hT ?_; unfold spec_l2Sizes.k0 at hF
    refine AWP.seqR rfl ?_
    refine ASL.q (v := w5) rfl rfl (Light.quiet (opMove rfl rfl)) ?_
    refine ASL.q (v := w5) rfl rfl (Light.quiet (opAssign rfl rfl)) ?_
    refine ASL.done ?_
    refine AWP.ret ?_
    obtain rfl := someE hF
    exact QRet.sole (v := w5) ⟨rfl, trivial⟩ (hS.get (k := 0) rfl)
  · skip
    refine AWP.seqR rfl ?_
    refine ASL.q (v := (.int .i64 0)) rfl rfl (Light.quiet (opAssign rfl rfl)) ?_
    refine ASL.done ?_
    refine AWP.block ?_
    obtain ⟨o14, hL13, hR15⟩ := bindE hF
    refine AWP.loopF (ω := AV) hL13 (fun s w => [(0, (.list 3 (List.map TNode.av p0))), (1, (.list 1 (List.map (AV.int .i64) p1))), (5, w), (6, (.int .i64 s.2))]) (fun s w => [.row 1 w (List.map (AV.int .i64) s.1)]) v10 ⟨rfl, rfl, rfl, rfl, trivial⟩ (hS.pick [0] rfl rfl) ?_
    rintro ⟨y8, x6_l0⟩ w9 G16 hS x11 hF hx12
    try dsimp only at hS ⊢
    have hF : spec_l2Sizes.b0 p0 p1 y8 x6_l0 = some x11 := hF; unfold spec_l2Sizes.b0 at hF
    refine AWP.seq ?_
    refine AWP.seqR rfl ?_
    refine ASL.q (v := (.int .i64 x6_l0)) rfl rfl (Light.quiet (opMove rfl rfl)) ?_
    refine ASL.q (v := (.list 3 (List.map TNode.av p0))) rfl rfl (Light.quiet (opMove rfl rfl)) ?_
    refine ASL.q (v := (.int .i64 (p0.length : Int))) rfl rfl (Light.quiet (opLenMap (f := TNode.av) rfl rfl rfl lenT_24 rfl)) ?_
    refine ASL.q (v := (.bool (decide (x6_l0 < ((p0.length : Int)))))) rfl rfl (Light.quiet (opInt rfl rfl rfl rfl)) ?_
    refine ASL.done ?_
    refine AWP.ifP hF rfl (fun hc17 hF => ?_) (fun hc17 hF => ?_)
    · skip
      refine AWP.skip ?_
      refine QThen.nrm ?_
      refine AWP.seq ?_
      refine AWP.block ?_
      refine AWP.seqR rfl ?_
      refine ASL.q (v := (.list 3 (List.map TNode.av p0))) rfl rfl (Light.quiet (opMove rfl rfl)) ?_
      refine ASL.q (v := (.int .i64 x6_l0)) rfl rfl (Light.quiet (opMove rfl rfl)) ?_
      obtain ⟨a19, ha19, hF⟩ := bindE hF
      refine ASL.q (v := (.rptr [(.int .i64 a19.kind), (.int .i64 a19.a), (.int .i64 a19.b)])) rfl rfl (Light.quiet (kIx (f := TNode.av) ha19 rfl rfl rfl elemA_24 sizeA_59 rfl)) ?_
      refine ASL.q (v := (TNode.av a19)) rfl rfl (Light.quiet (opLoadRA rfl aggA_59 sizeA_59 rfl (nlt rfl) rfl)) ?_
      refine ASL.x rfl rfl (hNewZ hS [(.int .i64 0), (.int .i64 0), (.int .i64 0)] rfl zeroA_59 ⟨.inl rfl, .inl rfl, .inl rfl, trivial⟩ ?_); rintro b7 G18 hK hS
      refine ASL.n rfl rfl (hPutA hS (j := 0) rfl rfl sizeA_59 rfl rfl rfl rfl rfl (nlt rfl) ?_); rintro G20 hS
      refine ASL.done ?_
      refine AWP.seqR rfl ?_
      refine ASL.q (v := (.int .i64 1)) rfl rfl (Light.quiet (opAssign rfl rfl)) ?_
      refine ASL.done ?_
      refine AWP.seq ?_
      refine AWP.seqR rfl ?_
      refine ASL.q (v := (.list 1 (List.map (AV.int .i64) p1))) rfl rfl (Light.quiet (opMove rfl rfl)) ?_
      refine ASL.q (v := (.int .i64 x6_l0)) rfl rfl (Light.quiet (opMove rfl rfl)) ?_
      obtain ⟨a23, ha23, hF⟩ := bindE hF
      refine ASL.q (v := (.rptr [(.int .i64 a23)])) rfl rfl (Light.quiet (kIx (f := (AV.int .i64)) ha23 rfl rfl rfl elemA_32 sizeA_3 rfl)) ?_
      refine ASL.q (v := (.int .i64 a23)) rfl rfl (Light.quiet (opLoadR rfl aggA_3 rfl rfl)) ?_
      refine ASL.done ?_
      refine AWP.block ?_
      refine AWP.seqR rfl ?_
      refine ASL.q (v := (.bool (decide (a23 = 1)))) rfl rfl (Light.quiet (opInt rfl rfl rfl rfl)) ?_
      refine ASL.q (v := (.bool (decide (a23 = 1)))) rfl rfl (Light.quiet (opAssign rfl rfl)) ?_
      refine ASL.done ?_
      refine AWP.ifP hF rfl (fun hc21 hF => ?_) (fun hc21 hF => ?_)
      · skip
        refine AWP.seq ?_
        refine AWP.seqR rfl ?_
        refine ASL.q (v := (.int .i64 x6_l0)) rfl rfl (Light.quiet (opMove rfl rfl)) ?_
        refine ASL.q (v := (.bool (decide (x6_l0 < 1)))) rfl rfl (Light.quiet (opInt rfl rfl rfl rfl)) ?_
        obtain ⟨c33, hc33, hF⟩ := bndE hF
        refine ASL.q (v := (.bool c33)) rfl rfl ((Quiet.cast (Light.quiet (opMove rfl rfl)) (congrArg AV.bool hc33.symm))) ?_
        refine ASL.g (v := (.ptr b7 1)) (.bool c33) false rfl (wF _) rfl (fun hG => by have q0 := gN hG; subst q0; exact Light.quiet (opFieldAddr rfl fieldA_59_1 rfl rfl)) ?_
        refine ASL.g (v := (.int .i64 a19.a)) (.bool c33) false rfl (wF _) rfl (fun hG => by have q0 := gN hG; subst q0; exact Light.quiet (kAt hS (j := 0) rfl rfl aggA_3 rfl rfl)) ?_
        refine ASL.g (v := (.int .i64 x6_l0)) (.bool c33) false rfl (wF _) rfl (fun hG => by have q0 := gN hG; subst q0; exact Light.quiet (opMove rfl rfl)) ?_
        refine ASL.g (v := (.int .i64 (W (x6_l0 - 1)))) (.bool c33) false rfl (wF _) rfl (fun hG => by have q0 := gN hG; subst q0; exact Light.quiet (opInt rfl rfl rfl rfl)) ?_
        refine ASL.g (v := (.bool (decide (a19.a ≠ ((W (x6_l0 - 1))))))) (.bool c33) false rfl (wF _) rfl (fun hG => by have q0 := gN hG; subst q0; exact Light.quiet (opInt rfl rfl rfl rfl)) ?_
        refine ASL.q (v := (.bool (c33 || (decide (a19.a ≠ ((W (x6_l0 - 1)))))))) rfl rfl (Light.quiet (opPick (b := c33) rfl rfl (by cases c33 <;> rfl))) ?_
        obtain ⟨c40, hc40, hF⟩ := bndE hF
        refine ASL.q (v := (.bool c40)) rfl rfl ((Quiet.cast (Light.quiet (opMove rfl rfl)) (congrArg AV.bool hc40.symm))) ?_
        refine ASL.g (v := (.ptr b7 2)) (.bool c40) false rfl (wF _) rfl (fun hG => by have q0 := gN hG; subst q0; exact Light.quiet (opFieldAddr rfl fieldA_59_2 rfl rfl)) ?_
        refine ASL.g (v := (.int .i64 a19.b)) (.bool c40) false rfl (wF _) rfl (fun hG => by have q0 := gN hG; subst q0; exact Light.quiet (kAt hS (j := 0) rfl rfl aggA_3 rfl rfl)) ?_
        refine ASL.g (v := (.bool (decide (a19.b ≠ 0)))) (.bool c40) false rfl (wF _) rfl (fun hG => by have q0 := gN hG; subst q0; exact Light.quiet (opInt rfl rfl rfl rfl)) ?_
        refine ASL.q (v := (.bool (c40 || (decide (a19.b ≠ 0))))) rfl rfl (Light.quiet (opPick (b := c40) rfl rfl (by cases c40 <;> rfl))) ?_
        refine ASL.done ?_
        refine AWP.ifB hF rfl (fun hc22 hF => ?_) (fun hc22 hF => ?_)
        · skip
          refine AWP.seqR rfl ?_
          refine ASL.x rfl rfl (hLit (f := (AV.int .i64)) (zs := []) hS rfl rfl elemA_32 sizeA_3 zeroA_3 rfl rfl rfl rfl (by simp [cells]) (nlt rfl) ?_); rintro v45 G23 hK hS
          refine ASL.q (v := v45) rfl rfl (Light.quiet (opAssign rfl rfl)) ?_
          refine ASL.done ?_
          refine AWP.ret ?_
          refine QThen.rt ?_
          refine QBlock.ret ?_
          refine QThen.rt ?_
          refine QBlock.ret ?_
          refine QThen.rt ?_
          refine QThen.rt ?_
          refine QBlock.ret ?_
          refine QThen.rt ?_
          obtain rfl := (hx12 _ (someE hF).symm)
          have hF := hR15
          have hF := sumR hF
          obtain rfl := someE hF
          exact QRet.sole (v := v45) ⟨rfl, trivial⟩ (hS.get (k := 0) rfl)
        · skip
          refine AWP.skip ?_
          refine QThen.nrm ?_
          refine AWP.lastR rfl ?_
          refine ASL.q (v := w9) rfl rfl (Light.quiet (opMove rfl rfl)) ?_
          refine ASL.q (v := (.int .i64 x6_l0)) rfl rfl (Light.quiet (opMove rfl rfl)) ?_
          refine ASL.q (v := (.int .i64 (W (x6_l0 - 1)))) rfl rfl (Light.quiet (opInt rfl rfl rfl rfl)) ?_
          obtain ⟨a49, ha49, hF⟩ := bindE hF
          refine ASL.q (v := (ptrTo w9 ((W (x6_l0 - 1))).toNat 1)) rfl rfl (Light.quiet (kIxOx hS (j := 1) rfl ha49 rfl rfl rfl elemA_32 sizeA_3)) ?_
          refine ASL.q (v := (.int .i64 a49)) rfl rfl (Light.quiet (kLd (f := (AV.int .i64)) hS (j := 1) rfl ha49 rfl aggA_3 rfl (fun _ => rfl))) ?_
          refine ASL.q (v := (.int .i64 (W (1 + a49)))) rfl rfl (Light.quiet (opInt rfl rfl rfl rfl)) ?_
          refine ASL.q (v := (.int .i64 (W (1 + a49)))) rfl rfl (Light.quiet (opAssign rfl rfl)) ?_
          refine ASL.done ?_
          refine QBlock.nrm ?_
          refine QThen.nrm ?_
          refine AWP.lastR rfl ?_
          refine ASL.q (v := w9) rfl rfl (Light.quiet (opMove rfl rfl)) ?_
          refine ASL.q (v := (.int .i64 (W (1 + a49)))) rfl rfl (Light.quiet (opMove rfl rfl)) ?_
          refine ASL.q (v := (.list 1 (List.map (AV.int .i64) [(W (1 + a49))]))) rfl rfl ((qLit (xs := [(.int .i64 (W (1 + a49)))]) rfl elemA_32 sizeA_3 zeroA_3 rfl rfl rfl rfl (by simp [cells]) (nlt rfl))) ?_
          obtain ⟨z95, hz95, hF⟩ := bindE hF
          refine ASL.x rfl rfl (hApp (f := (AV.int .i64)) (ws := [(W (1 + a49))]) hS (j := 1) rfl hz95 rfl elemA_32 rfl sizeA_3 bytesA_3 zeroA_3 rfl rfl rfl (fun _ => rfl) ?_); rintro v95 G25 hS
          refine ASL.q (v := v95) rfl rfl (Light.quiet (opAssign rfl rfl)) ?_
          refine ASL.done ?_
          refine QBlock.nrm ?_
          refine QThen.nrm ?_
          refine AWP.lastR rfl ?_
          refine ASL.q (v := (.int .i64 x6_l0)) rfl rfl (Light.quiet (opMove rfl rfl)) ?_
          refine ASL.q (v := (.int .i64 (W (x6_l0 + 1)))) rfl rfl (Light.quiet (opInt rfl rfl rfl rfl)) ?_
          refine ASL.q (v := (.int .i64 (W (x6_l0 + 1)))) rfl rfl (Light.quiet (opAssign rfl rfl)) ?_
          refine ASL.done ?_
          refine QThen.nrm ?_
          exact ⟨(z95, (W (x6_l0 + 1))), v95, (someE hF).symm, ⟨rfl, rfl, rfl, rfl, trivial⟩, (hS.pick [1] rfl rfl)⟩
      · skip
        refine AWP.seqR rfl ?_
        refine ASL.q (v := (.bool (decide (a23 = 2)))) rfl rfl (Light.quiet (opInt rfl rfl rfl rfl)) ?_
        refine ASL.q (v := (.bool (decide (a23 = 2)))) rfl rfl (Light.quiet (opAssign rfl rfl)) ?_
        refine ASL.done ?_
        refine AWP.ifP hF rfl (fun hc27 hF => ?_) (fun hc27 hF => ?_)
        · skip
          refine AWP.seq ?_
          refine AWP.seqR rfl ?_
          refine ASL.q (v := (.int .i64 x6_l0)) rfl rfl (Light.quiet (opMove rfl rfl)) ?_
          refine ASL.q (v := (.bool (decide (x6_l0 < 2)))) rfl rfl (Light.quiet (opInt rfl rfl rfl rfl)) ?_
          obtain ⟨c56, hc56, hF⟩ := bndE hF
          refine ASL.q (v := (.bool c56)) rfl rfl ((Quiet.cast (Light.quiet (opMove rfl rfl)) (congrArg AV.bool hc56.symm))) ?_
          refine ASL.g (v := (.ptr b7 2)) (.bool c56) false rfl (wF _) rfl (fun hG => by have q0 := gN hG; subst q0; exact Light.quiet (opFieldAddr rfl fieldA_59_2 rfl rfl)) ?_
          refine ASL.g (v := (.int .i64 a19.b)) (.bool c56) false rfl (wF _) rfl (fun hG => by have q0 := gN hG; subst q0; exact Light.quiet (kAt hS (j := 0) rfl rfl aggA_3 rfl rfl)) ?_
          refine ASL.g (v := (.int .i64 x6_l0)) (.bool c56) false rfl (wF _) rfl (fun hG => by have q0 := gN hG; subst q0; exact Light.quiet (opMove rfl rfl)) ?_
          refine ASL.g (v := (.int .i64 (W (x6_l0 - 1)))) (.bool c56) false rfl (wF _) rfl (fun hG => by have q0 := gN hG; subst q0; exact Light.quiet (opInt rfl rfl rfl rfl)) ?_
          refine ASL.g (v := (.bool (decide (a19.b ≠ ((W (x6_l0 - 1))))))) (.bool c56) false rfl (wF _) rfl (fun hG => by have q0 := gN hG; subst q0; exact Light.quiet (opInt rfl rfl rfl rfl)) ?_
          refine ASL.q (v := (.bool (c56 || (decide (a19.b ≠ ((W (x6_l0 - 1)))))))) rfl rfl (Light.quiet (opPick (b := c56) rfl rfl (by cases c56 <;> rfl))) ?_
          refine ASL.done ?_
          refine AWP.ifB hF rfl (fun hc28 hF => ?_) (fun hc28 hF => ?_)
          · skip
            refine AWP.seqR rfl ?_
            refine ASL.x rfl rfl (hLit (f := (AV.int .i64)) (zs := []) hS rfl rfl elemA_32 sizeA_3 zeroA_3 rfl rfl rfl rfl (by simp [cells]) (nlt rfl) ?_); rintro v63 G29 hK hS
            refine ASL.q (v := v63) rfl rfl (Light.quiet (opAssign rfl rfl)) ?_
            refine ASL.done ?_
            refine AWP.ret ?_
            refine QThen.rt ?_
            refine QBlock.ret ?_
            refine QThen.rt ?_
            refine QBlock.ret ?_
            refine QThen.rt ?_
            refine QThen.rt ?_
            refine QBlock.ret ?_
            refine QThen.rt ?_
            obtain rfl := (hx12 _ (someE hF).symm)
            have hF := hR15
            have hF := sumR hF
            obtain rfl := someE hF
            exact QRet.sole (v := v63) ⟨rfl, trivial⟩ (hS.get (k := 0) rfl)
          · skip
            refine AWP.skip ?_
            refine QThen.nrm ?_
            refine AWP.seqR rfl ?_
            refine ASL.q (v := (.int .i64 x6_l0)) rfl rfl (Light.quiet (opMove rfl rfl)) ?_
            refine ASL.q (v := (.int .i64 (W (x6_l0 - 1)))) rfl rfl (Light.quiet (opInt rfl rfl rfl rfl)) ?_
            refine ASL.q (v := w9) rfl rfl (Light.quiet (opMove rfl rfl)) ?_
            refine ASL.q (v := (.int .i64 x6_l0)) rfl rfl (Light.quiet (opMove rfl rfl)) ?_
            refine ASL.q (v := (.int .i64 (W (x6_l0 - 1)))) rfl rfl (Light.quiet (opInt rfl rfl rfl rfl)) ?_
            obtain ⟨a69, ha69, hF⟩ := bindE hF
            refine ASL.q (v := (ptrTo w9 ((W (x6_l0 - 1))).toNat 1)) rfl rfl (Light.quiet (kIxOx hS (j := 1) rfl ha69 rfl rfl rfl elemA_32 sizeA_3)) ?_
            refine ASL.q (v := (.int .i64 a69)) rfl rfl (Light.quiet (kLd (f := (AV.int .i64)) hS (j := 1) rfl ha69 rfl aggA_3 rfl (fun _ => rfl))) ?_
            refine ASL.q (v := (.int .i64 (W (((W (x6_l0 - 1))) - a69)))) rfl rfl (Light.quiet (opInt rfl rfl rfl rfl)) ?_
            refine ASL.q (v := (.int .i64 (W (((W (x6_l0 - 1))) - a69)))) rfl rfl (Light.quiet (opAssign rfl rfl)) ?_
            refine ASL.done ?_
            refine AWP.seq ?_
            refine AWP.seqR rfl ?_
            refine ASL.q (v := (.int .i64 (W (((W (x6_l0 - 1))) - a69)))) rfl rfl (Light.quiet (opMove rfl rfl)) ?_
            refine ASL.q (v := (.bool (decide (((W (((W (x6_l0 - 1))) - a69))) < 0)))) rfl rfl (Light.quiet (opInt rfl rfl rfl rfl)) ?_
            obtain ⟨c74, hc74, hF⟩ := bndE hF
            refine ASL.q (v := (.bool c74)) rfl rfl ((Quiet.cast (Light.quiet (opMove rfl rfl)) (congrArg AV.bool hc74.symm))) ?_
            refine ASL.g (v := (.ptr b7 1)) (.bool c74) false rfl (wF _) rfl (fun hG => by have q0 := gN hG; subst q0; exact Light.quiet (opFieldAddr rfl fieldA_59_1 rfl rfl)) ?_
            refine ASL.g (v := (.int .i64 a19.a)) (.bool c74) false rfl (wF _) rfl (fun hG => by have q0 := gN hG; subst q0; exact Light.quiet (kAt hS (j := 0) rfl rfl aggA_3 rfl rfl)) ?_
            refine ASL.g (v := (.int .i64 (W (((W (x6_l0 - 1))) - a69)))) (.bool c74) false rfl (wF _) rfl (fun hG => by have q0 := gN hG; subst q0; exact Light.quiet (opMove rfl rfl)) ?_
            refine ASL.g (v := (.bool (decide (a19.a ≠ ((W (((W (x6_l0 - 1))) - a69))))))) (.bool c74) false rfl (wF _) rfl (fun hG => by have q0 := gN hG; subst q0; exact Light.quiet (opInt rfl rfl rfl rfl)) ?_
            refine ASL.q (v := (.bool (c74 || (decide (a19.a ≠ ((W (((W (x6_l0 - 1))) - a69)))))))) rfl rfl (Light.quiet (opPick (b := c74) rfl rfl (by cases c74 <;> rfl))) ?_
            refine ASL.done ?_
            refine AWP.ifB hF rfl (fun hc31 hF => ?_) (fun hc31 hF => ?_)
            · skip
              refine AWP.seqR rfl ?_
              refine ASL.x rfl rfl (hLit (f := (AV.int .i64)) (zs := []) hS rfl rfl elemA_32 sizeA_3 zeroA_3 rfl rfl rfl rfl (by simp [cells]) (nlt rfl) ?_); rintro v80 G32 hK hS
              refine ASL.q (v := v80) rfl rfl (Light.quiet (opAssign rfl rfl)) ?_
              refine ASL.done ?_
              refine AWP.ret ?_
              refine QThen.rt ?_
              refine QBlock.ret ?_
              refine QThen.rt ?_
              refine QBlock.ret ?_
              refine QThen.rt ?_
              refine QThen.rt ?_
              refine QBlock.ret ?_
              refine QThen.rt ?_
              obtain rfl := (hx12 _ (someE hF).symm)
              have hF := hR15
              have hF := sumR hF
              obtain rfl := someE hF
              exact QRet.sole (v := v80) ⟨rfl, trivial⟩ (hS.get (k := 0) rfl)
            · skip
              refine AWP.skip ?_
              refine QThen.nrm ?_
              refine AWP.lastD [(0, false), (1, false), (2, false), (3, false), (4, false), (5, false), (6, false), (7, false), (8, false), (9, false), (10, false), (11, false)] mixed (by kernel_rfl) rfl ?_
              refine ARL.q0 (v := w9) rfl rfl (Light.quiet (opMove rfl rfl)) ?_
              refine ARL.q0 (v := (.int .i64 x6_l0)) rfl rfl (Light.quiet (opMove rfl rfl)) ?_
              refine ARL.q0 (v := (.int .i64 (W (x6_l0 - 1)))) rfl rfl (Light.quiet (opInt rfl rfl rfl rfl)) ?_
              obtain ⟨a84, ha84, hF⟩ := bindE hF
              refine ARL.q0 (v := (ptrTo w9 ((W (x6_l0 - 1))).toNat 1)) rfl rfl (Light.quiet (kIxOx hS (j := 1) rfl ha84 rfl rfl rfl elemA_32 sizeA_3)) ?_
              refine ARL.q (v := (.int .i64 a84)) rfl rfl (hS.aliveR (k := 1) rfl) (Light.quiet (kLd (f := (AV.int .i64)) hS (j := 1) rfl ha84 rfl aggA_3 rfl (fun _ => rfl))) ?_
              refine ARL.q0 (v := (.int .i64 (W (1 + a84)))) rfl rfl (Light.quiet (opInt rfl rfl rfl rfl)) ?_
              refine ARL.q0 (v := w9) rfl rfl (Light.quiet (opMove rfl rfl)) ?_
              refine ARL.q0 (v := (.int .i64 (W (((W (x6_l0 - 1))) - a69)))) rfl rfl (Light.quiet (opMove rfl rfl)) ?_
              obtain ⟨a89, ha89, hF⟩ := bindE hF
              refine ARL.q0 (v := (ptrTo w9 ((W (((W (x6_l0 - 1))) - a69))).toNat 1)) rfl rfl (Light.quiet (kIxOx hS (j := 1) rfl ha89 rfl rfl rfl elemA_32 sizeA_3)) ?_
              refine ARL.q (v := (.int .i64 a89)) rfl rfl (hS.aliveR (k := 1) rfl) (Light.quiet (kLd (f := (AV.int .i64)) hS (j := 1) rfl ha89 rfl aggA_3 rfl (fun _ => rfl))) ?_
              refine ARL.q0 (v := (.int .i64 (W (((W (1 + a84))) + a89)))) rfl rfl (Light.quiet (opInt rfl rfl rfl rfl)) ?_
              refine ARL.q0 (v := (.int .i64 (W (((W (1 + a84))) + a89)))) rfl rfl (Light.quiet (opAssign rfl rfl)) ?_
              refine ARL.done ?_
              refine QBlock.nrm ?_
              refine QThen.nrm ?_
              refine AWP.lastR rfl ?_
              refine ASL.q (v := w9) rfl rfl (Light.quiet (opMove rfl rfl)) ?_
              refine ASL.q (v := (.int .i64 (W (((W (1 + a84))) + a89)))) rfl rfl (Light.quiet (opMove rfl rfl)) ?_
              refine ASL.q (v := (.list 1 (List.map (AV.int .i64) [(W (((W (1 + a84))) + a89))]))) rfl rfl ((qLit (xs := [(.int .i64 (W (((W (1 + a84))) + a89)))]) rfl elemA_32 sizeA_3 zeroA_3 rfl rfl rfl rfl (by simp [cells]) (nlt rfl))) ?_
              obtain ⟨z95, hz95, hF⟩ := bindE hF
              refine ASL.x rfl rfl (hApp (f := (AV.int .i64)) (ws := [(W (((W (1 + a84))) + a89))]) hS (j := 1) rfl hz95 rfl elemA_32 rfl sizeA_3 bytesA_3 zeroA_3 rfl rfl rfl (fun _ => rfl) ?_); rintro v95 G34 hS
              refine ASL.q (v := v95) rfl rfl (Light.quiet (opAssign rfl rfl)) ?_
              refine ASL.done ?_
              refine QBlock.nrm ?_
              refine QThen.nrm ?_
              refine AWP.lastR rfl ?_
              refine ASL.q (v := (.int .i64 x6_l0)) rfl rfl (Light.quiet (opMove rfl rfl)) ?_
              refine ASL.q (v := (.int .i64 (W (x6_l0 + 1)))) rfl rfl (Light.quiet (opInt rfl rfl rfl rfl)) ?_
              refine ASL.q (v := (.int .i64 (W (x6_l0 + 1)))) rfl rfl (Light.quiet (opAssign rfl rfl)) ?_
              refine ASL.done ?_
              refine QThen.nrm ?_
              exact ⟨(z95, (W (x6_l0 + 1))), v95, (someE hF).symm, ⟨rfl, rfl, rfl, rfl, trivial⟩, (hS.pick [1] rfl rfl)⟩
        · skip
          refine AWP.seqR rfl ?_
          refine ASL.q (v := (.ptr b7 2)) rfl rfl (Light.quiet (opFieldAddr rfl fieldA_59_2 rfl rfl)) ?_
          refine ASL.q (v := (.int .i64 a19.b)) rfl rfl (Light.quiet (kAt hS (j := 0) rfl rfl aggA_3 rfl rfl)) ?_
          refine ASL.q (v := (.bool (decide (a19.b ≠ 0)))) rfl rfl (Light.quiet (opInt rfl rfl rfl rfl)) ?_
          refine ASL.done ?_
          refine AWP.ifP hF rfl (fun hc36 hF => ?_) (fun hc36 hF => ?_)
          · skip
            refine AWP.seqR rfl ?_
            refine ASL.x rfl rfl (hLit (f := (AV.int .i64)) (zs := []) hS rfl rfl elemA_32 sizeA_3 zeroA_3 rfl rfl rfl rfl (by simp [cells]) (nlt rfl) ?_); rintro v28 G37 hK hS
            refine ASL.q (v := v28) rfl rfl (Light.quiet (opAssign rfl rfl)) ?_
            refine ASL.done ?_
            refine AWP.ret ?_
            refine QBlock.ret ?_
            refine QThen.rt ?_
            refine QBlock.ret ?_
            refine QThen.rt ?_
            refine QThen.rt ?_
            refine QBlock.ret ?_
            refine QThen.rt ?_
            obtain rfl := (hx12 _ (someE hF).symm)
            have hF := hR15
            have hF := sumR hF
            obtain rfl := someE hF
            exact QRet.sole (v := v28) ⟨rfl, trivial⟩ (hS.get (k := 0) rfl)
          · skip
            refine AWP.skip ?_
            refine QBlock.nrm ?_
            refine QThen.nrm ?_
            refine AWP.lastR rfl ?_
            refine ASL.q (v := w9) rfl rfl (Light.quiet (opMove rfl rfl)) ?_
            refine ASL.q (v := (.int .i64 1)) rfl rfl (Light.quiet (opMove rfl rfl)) ?_
            refine ASL.q (v := (.list 1 (List.map (AV.int .i64) [1]))) rfl rfl ((qLit (xs := [(.int .i64 1)]) rfl elemA_32 sizeA_3 zeroA_3 rfl rfl rfl rfl (by simp [cells]) (nlt rfl))) ?_
            obtain ⟨z95, hz95, hF⟩ := bindE hF
            refine ASL.x rfl rfl (hApp (f := (AV.int .i64)) (ws := [1]) hS (j := 1) rfl hz95 rfl elemA_32 rfl sizeA_3 bytesA_3 zeroA_3 rfl rfl rfl (fun _ => rfl) ?_); rintro v95 G39 hS
            refine ASL.q (v := v95) rfl rfl (Light.quiet (opAssign rfl rfl)) ?_
            refine ASL.done ?_
            refine QBlock.nrm ?_
            refine QThen.nrm ?_
            refine AWP.lastR rfl ?_
            refine ASL.q (v := (.int .i64 x6_l0)) rfl rfl (Light.quiet (opMove rfl rfl)) ?_
            refine ASL.q (v := (.int .i64 (W (x6_l0 + 1)))) rfl rfl (Light.quiet (opInt rfl rfl rfl rfl)) ?_
            refine ASL.q (v := (.int .i64 (W (x6_l0 + 1)))) rfl rfl (Light.quiet (opAssign rfl rfl)) ?_
            refine ASL.done ?_
            refine QThen.nrm ?_
            exact ⟨(z95, (W (x6_l0 + 1))), v95, (someE hF).symm, ⟨rfl, rfl, rfl, rfl, trivial⟩, (hS.pick [1] rfl rfl)⟩
    · skip
      refine AWP.exit ?_
      refine QThen.ext ?_
      refine QThen.ext ?_
      refine QBlock.hit ?_
      obtain rfl := (hx12 _ (someE hF).symm)
      have hF := hR15
      have hF := sumL hF
      refine QThen.nrm ?_
      exact ⟨y8, w9, ⟨rfl, trivial⟩, (hS.pick [0] rfl rfl), hF⟩

set_option maxRecDepth 10000 in
theorem spec_LtlOk_ok {p0 : (List TNode)} {r : Bool} (hF : spec_LtlOk p0 = some r) : PC Try.prog 43 [(.list 3 (List.map TNode.av p0))] fun v => v = (.bool r) := by
  refine PC.enter Try.func43 rfl Try.ntmps43 (by simp) ?_
  have hS := Sep.void; unfold spec_LtlOk at hF
  refine AWP.seqR rfl ?_
  refine ASL.q (v := (.bool false)) rfl rfl (Light.quiet (opAssign rfl rfl)) ?_
  refine ASL.done ?_
  refine AWP.seq ?_
  refine AWP.seqR rfl ?_
  refine ASL.q (v := (.list 3 (List.map TNode.av p0))) rfl rfl (Light.quiet (opMove rfl rfl)) ?_
  refine ASL.q (v := (.int .i64 (p0.length : Int))) rfl rfl (Light.quiet (opLenMap (f := TNode.av) rfl rfl rfl lenT_24 rfl)) ?_
  refine ASL.q (v := (.bool (spec_l1In ((p0.length : Int)) 1 31))) rfl rfl ((qCall rfl rfl call_86 (spec_l1In_ok ((p0.length : Int)) 1 31) rfl)) ?_
  refine ASL.q (v := (.bool (!(spec_l1In ((p0.length : Int)) 1 31)))) rfl rfl (Light.quiet (opNot rfl rfl)) ?_
  refine ASL.done ?_
  refine AWP.ifB hF rfl (fun hc1 hF => ?_) (fun hc1 hF => ?_)
  · skip
    refine AWP.seqR rfl ?_
    refine ASL.q (v := (.bool false)) rfl rfl (Light.quiet (opAssign rfl rfl)) ?_
    refine ASL.done ?_
    refine AWP.ret ?_
    refine QThen.rt ?_
    obtain rfl := someE hF
    exact QRet.sole (v := (.bool false)) ⟨rfl, trivial⟩ rfl
  · skip
    refine AWP.skip ?_
    refine QThen.nrm ?_
    refine AWP.seqR rfl ?_
    refine ASL.x rfl rfl (hLit (f := (AV.int .i64)) (zs := []) hS rfl rfl elemA_32 sizeA_3 zeroA_3 rfl rfl rfl rfl (by simp [cells]) (nlt rfl) ?_); rintro v11 G2 hK hS
    refine ASL.q (v := v11) rfl rfl (Light.quiet (opAssign rfl rfl)) ?_
    refine ASL.done ?_
    refine AWP.seqM (fun e H => ∃ y4 : (List Int), ∃ w5 : AV, E.Told e [(0, (.list 3 (List.map TNode.av p0))), (3, w5)] ∧ E.Sep H [.row 1 w5 (List.map (AV.int .i64) y4)] ∧ spec_LtlOk.k0 p0 y4 = some r) ?_ ?_
    · rintro e0 G7 ⟨y4, w5, hT, hS, hF⟩; refine AWP.only _ hT ?_; unfold spec_LtlOk.k0 at hF
      refine AWP.seqR rfl ?_
      refine ASL.q (v := (.list 3 (List.map TNode.av p0))) rfl rfl (Light.quiet (opMove rfl rfl)) ?_
      refine ASL.q (v := w5) rfl rfl (Light.quiet (opMove rfl rfl)) ?_
      obtain ⟨a44, ha44, hF⟩ := bindE hF
      refine ASL.q (v := (.list 1 (List.map (AV.int .i64) a44))) rfl rfl ((qCallRL hS rfl rfl call_88 (spec_l2Sizes_ok ha44) ⟨.same _, .row (k := 0) rfl, trivial⟩ (Scal.ints _ _))) ?_
      refine ASL.q (v := (.list 1 (List.map (AV.int .i64) a44))) rfl rfl (Light.quiet (opAssign rfl rfl)) ?_
      refine ASL.done ?_
      refine AWP.seqR rfl ?_
      refine ASL.q (v := (.list 1 (List.map (AV.int .i64) a44))) rfl rfl (Light.quiet (opMove rfl rfl)) ?_
      refine ASL.q (v := (.int .i64 (a44.length : Int))) rfl rfl (Light.quiet (opLenMap (f := (AV.int .i64)) rfl rfl rfl lenT_32 rfl)) ?_
      refine ASL.q (v := (.list 3 (List.map TNode.av p0))) rfl rfl (Light.quiet (opMove rfl rfl)) ?_
      refine ASL.q (v := (.int .i64 (p0.length : Int))) rfl rfl (Light.quiet (opLenMap (f := TNode.av) rfl rfl rfl lenT_24 rfl)) ?_
      refine ASL.q (v := (.bool (decide (((a44.length : Int)) = ((p0.length : Int)))))) rfl rfl (Light.quiet (opInt rfl rfl rfl rfl)) ?_
      obtain ⟨c50, hc50, hF⟩ := bndE hF
      refine ASL.q (v := (.bool c50)) rfl rfl ((Quiet.cast (Light.quiet (opMove rfl rfl)) (congrArg AV.bool hc50.symm))) ?_
      refine ASL.g (v := (.list 1 (List.map (AV.int .i64) a44))) (.bool c50) true rfl (wT _) rfl (fun hG => by have q0 := hG; subst q0; exact Light.quiet (opMove rfl rfl)) ?_
      refine ASL.g (v := (.list 3 (List.map TNode.av p0))) (.bool c50) true rfl (wT _) rfl (fun hG => by have q0 := hG; subst q0; exact Light.quiet (opMove rfl rfl)) ?_
      refine ASL.g (v := (.int .i64 (p0.length : Int))) (.bool c50) true rfl (wT _) rfl (fun hG => by have q0 := hG; subst q0; exact Light.quiet (opLenMap (f := TNode.av) rfl rfl rfl lenT_24 rfl)) ?_
      refine ASL.g (v := (.int .i64 (W (((p0.length : Int)) - 1)))) (.bool c50) true rfl (wT _) rfl (fun hG => by have q0 := hG; subst q0; exact Light.quiet (opInt rfl rfl rfl rfl)) ?_
      obtain ⟨a55, ha55, hF⟩ := bindE hF
      refine ASL.g (v := (.rptr [(.int .i64 a55)])) (.bool c50) true rfl (wT _) rfl (fun hG => by have q0 := hG; subst q0; exact Light.quiet (kIx (f := (AV.int .i64)) (whenE ha55) rfl rfl rfl elemA_32 sizeA_3 rfl)) ?_
      refine ASL.g (v := (.int .i64 a55)) (.bool c50) true rfl (wT _) rfl (fun hG => by have q0 := hG; subst q0; exact Light.quiet (opLoadR rfl aggA_3 rfl rfl)) ?_
      refine ASL.g (v := (.list 3 (List.map TNode.av p0))) (.bool c50) true rfl (wT _) rfl (fun hG => by have q0 := hG; subst q0; exact Light.quiet (opMove rfl rfl)) ?_
      refine ASL.g (v := (.int .i64 (p0.length : Int))) (.bool c50) true rfl (wT _) rfl (fun hG => by have q0 := hG; subst q0; exact Light.quiet (opLenMap (f := TNode.av) rfl rfl rfl lenT_24 rfl)) ?_
      refine ASL.g (v := (.bool (decide (a55 = ((p0.length : Int)))))) (.bool c50) true rfl (wT _) rfl (fun hG => by have q0 := hG; subst q0; exact Light.quiet (opInt rfl rfl rfl rfl)) ?_
      refine ASL.q (v := (.bool (c50 && (decide (a55 = ((p0.length : Int))))))) rfl rfl (Light.quiet (opPick (b := c50) rfl rfl (by cases c50 <;> rfl))) ?_
      refine ASL.q (v := (.bool (c50 && (decide (a55 = ((p0.length : Int))))))) rfl rfl (Light.quiet (opAssign rfl rfl)) ?_
      refine ASL.done ?_
      refine AWP.ret ?_
      obtain rfl := someE hF
      exact QRet.sole (v := (.bool (c50 && (decide (a55 = ((p0.length : Int))))))) ⟨rfl, trivial⟩ rfl
    · skip
      refine AWP.seqR rfl ?_
      refine ASL.q (v := (.int .i64 0)) rfl rfl (Light.quiet (opAssign rfl rfl)) ?_
      refine ASL.done ?_
      refine AWP.block ?_
      obtain ⟨o14, hL13, hR15⟩ := bindE hF
      refine AWP.loopF (ω := AV) hL13 (fun s w => [(0, (.list 3 (List.map TNode.av p0))), (3, w), (4, (.int .i64 s.2))]) (fun s w => [.row 1 w (List.map (AV.int .i64) s.1)]) v11 ⟨rfl, rfl, rfl, trivial⟩ (hS.pick [0] rfl rfl) ?_
      rintro ⟨y8, x4_l0⟩ w9 G16 hS x11 hF hx12
      try dsimp only at hS ⊢
      have hF : spec_LtlOk.b0 p0 y8 x4_l0 = some x11 := hF; unfold spec_LtlOk.b0 at hF
      refine AWP.seq ?_
      refine AWP.seqR rfl ?_
      refine ASL.q (v := (.int .i64 x4_l0)) rfl rfl (Light.quiet (opMove rfl rfl)) ?_
      refine ASL.q (v := (.list 3 (List.map TNode.av p0))) rfl rfl (Light.quiet (opMove rfl rfl)) ?_
      refine ASL.q (v := (.int .i64 (p0.length : Int))) rfl rfl (Light.quiet (opLenMap (f := TNode.av) rfl rfl rfl lenT_24 rfl)) ?_
      refine ASL.q (v := (.bool (decide (x4_l0 < ((p0.length : Int)))))) rfl rfl (Light.quiet (opInt rfl rfl rfl rfl)) ?_
      refine ASL.done ?_
      refine AWP.ifP hF rfl (fun hc17 hF => ?_) (fun hc17 hF => ?_)
      · skip
        refine AWP.skip ?_
        refine QThen.nrm ?_
        refine AWP.seq ?_
        refine AWP.block ?_
        refine AWP.seqR rfl ?_
        refine ASL.q (v := (.list 3 (List.map TNode.av p0))) rfl rfl (Light.quiet (opMove rfl rfl)) ?_
        refine ASL.q (v := (.int .i64 x4_l0)) rfl rfl (Light.quiet (opMove rfl rfl)) ?_
        obtain ⟨a20, ha20, hF⟩ := bindE hF
        refine ASL.q (v := (.rptr [(.int .i64 a20.kind), (.int .i64 a20.a), (.int .i64 a20.b)])) rfl rfl (Light.quiet (kIx (f := TNode.av) ha20 rfl rfl rfl elemA_24 sizeA_59 rfl)) ?_
        refine ASL.q (v := (.rptr [(.int .i64 a20.kind), (.int .i64 a20.a), (.int .i64 a20.b)])) rfl rfl (Light.quiet (opFieldAddrR rfl fieldA_59_0 rfl rfl)) ?_
        refine ASL.q (v := (.int .i64 a20.kind)) rfl rfl (Light.quiet (opLoadR rfl aggA_3 rfl rfl)) ?_
        refine ASL.q (v := (.int .i64 (spec_l8Parts a20.kind))) rfl rfl ((qCall rfl rfl call_56 (spec_l8Parts_ok a20.kind) rfl)) ?_
        refine ASL.q (v := (.int .i64 (spec_l8Parts a20.kind))) rfl rfl (Light.quiet (opAssign rfl rfl)) ?_
        refine ASL.done ?_
        refine AWP.seq ?_
        refine AWP.seqR rfl ?_
        refine ASL.q (v := (.int .i64 (spec_l8Parts a20.kind))) rfl rfl (Light.quiet (opMove rfl rfl)) ?_
        refine ASL.q (v := (.bool (decide (((spec_l8Parts a20.kind)) < 0)))) rfl rfl (Light.quiet (opInt rfl rfl rfl rfl)) ?_
        obtain ⟨c26, hc26, hF⟩ := bndE hF
        refine ASL.q (v := (.bool c26)) rfl rfl ((Quiet.cast (Light.quiet (opMove rfl rfl)) (congrArg AV.bool hc26.symm))) ?_
        refine ASL.g (v := (.int .i64 (spec_l8Parts a20.kind))) (.bool c26) false rfl (wF _) rfl (fun hG => by have q0 := gN hG; subst q0; exact Light.quiet (opMove rfl rfl)) ?_
        refine ASL.g (v := (.bool (decide (((spec_l8Parts a20.kind)) = 0)))) (.bool c26) false rfl (wF _) rfl (fun hG => by have q0 := gN hG; subst q0; exact Light.quiet (opInt rfl rfl rfl rfl)) ?_
        obtain ⟨c29, hc29, hF⟩ := bndE hF
        refine ASL.g (v := (.bool c29)) (.bool c26) false rfl (wF _) rfl (fun hG => by have q0 := gN hG; subst q0; exact (Quiet.cast (Light.quiet (opMove rfl rfl)) (congrArg AV.bool hc29.symm))) ?_
        refine ASL.g (v := (.list 3 (List.map TNode.av p0))) (bif (!c26) then (.bool c29) else .tup []) true rfl (wGT _ _) rfl (fun hG => by have q0 := gN (gA1 hG); have q1 := gA2 hG; subst q0; subst q1; exact Light.quiet (opMove rfl rfl)) ?_
        refine ASL.g (v := (.int .i64 x4_l0)) (bif (!c26) then (.bool c29) else .tup []) true rfl (wGT _ _) rfl (fun hG => by have q0 := gN (gA1 hG); have q1 := gA2 hG; subst q0; subst q1; exact Light.quiet (opMove rfl rfl)) ?_
        obtain ⟨a32, ha32, hF⟩ := bindE hF
        refine ASL.g (v := (.rptr [(.int .i64 a32.kind), (.int .i64 a32.a), (.int .i64 a32.b)])) (bif (!c26) then (.bool c29) else .tup []) true rfl (wGT _ _) rfl (fun hG => by have q0 := gN (gA1 hG); have q1 := gA2 hG; subst q0; subst q1; exact Light.quiet (kIx (f := TNode.av) (whenE ha32) rfl rfl rfl elemA_24 sizeA_59 rfl)) ?_
        refine ASL.g (v := (TNode.av a32)) (bif (!c26) then (.bool c29) else .tup []) true rfl (wGT _ _) rfl (fun hG => by have q0 := gN (gA1 hG); have q1 := gA2 hG; subst q0; subst q1; exact Light.quiet (opLoadRA rfl aggA_59 sizeA_59 rfl (nlt rfl) rfl)) ?_
        refine ASL.g (v := (.bool (spec_l2Leaf a32))) (bif (!c26) then (.bool c29) else .tup []) true rfl (wGT _ _) rfl (fun hG => by have q0 := gN (gA1 hG); have q1 := gA2 hG; subst q0; subst q1; exact (qCall rfl rfl call_87 (spec_l2Leaf_ok a32) rfl)) ?_
        refine ASL.g (v := (.bool (!(spec_l2Leaf a32)))) (bif (!c26) then (.bool c29) else .tup []) true rfl (wGT _ _) rfl (fun hG => by have q0 := gN (gA1 hG); have q1 := gA2 hG; subst q0; subst q1; exact Light.quiet (opNot rfl rfl)) ?_
        refine ASL.g (v := (.bool (c29 && (!(spec_l2Leaf a32))))) (.bool c26) false rfl (wF _) rfl (fun hG => by have q0 := gN hG; subst q0; exact Light.quiet (opPick (b := c29) rfl rfl (by cases c29 <;> rfl))) ?_
        refine ASL.q (v := (.bool (c26 || (c29 && (!(spec_l2Leaf a32)))))) rfl rfl (Light.quiet (opPick (b := c26) rfl rfl (by cases c26 <;> rfl))) ?_
        refine ASL.done ?_
        refine AWP.ifB hF rfl (fun hc18 hF => ?_) (fun hc18 hF => ?_)
        · skip
          refine AWP.seqR rfl ?_
          refine ASL.q (v := (.bool false)) rfl rfl (Light.quiet (opAssign rfl rfl)) ?_
          refine ASL.done ?_
          refine AWP.ret ?_
          refine QThen.rt ?_
          refine QBlock.ret ?_
          refine QThen.rt ?_
          refine QThen.rt ?_
          refine QBlock.ret ?_
          refine QThen.rt ?_
          obtain rfl := (hx12 _ (someE hF).symm)
          have hF := hR15
          have hF := sumR hF
          obtain rfl := someE hF
          exact QRet.sole (v := (.bool false)) ⟨rfl, trivial⟩ rfl
        · skip
          refine AWP.skip ?_
          refine QThen.nrm ?_
          refine AWP.lastR rfl ?_
          refine ASL.q (v := w9) rfl rfl (Light.quiet (opMove rfl rfl)) ?_
          refine ASL.q (v := (.int .i64 (spec_l8Parts a20.kind))) rfl rfl (Light.quiet (opMove rfl rfl)) ?_
          refine ASL.q (v := (.list 1 (List.map (AV.int .i64) [(spec_l8Parts a20.kind)]))) rfl rfl ((qLit (xs := [(.int .i64 (spec_l8Parts a20.kind))]) rfl elemA_32 sizeA_3 zeroA_3 rfl rfl rfl rfl (by simp [cells]) (nlt rfl))) ?_
          obtain ⟨z41, hz41, hF⟩ := bindE hF
          refine ASL.x rfl rfl (hApp (f := (AV.int .i64)) (ws := [(spec_l8Parts a20.kind)]) hS (j := 0) rfl hz41 rfl elemA_32 rfl sizeA_3 bytesA_3 zeroA_3 rfl rfl rfl (fun _ => rfl) ?_); rintro v41 G19 hS
          refine ASL.q (v := v41) rfl rfl (Light.quiet (opAssign rfl rfl)) ?_
          refine ASL.done ?_
          refine QBlock.nrm ?_
          refine QThen.nrm ?_
          refine AWP.lastR rfl ?_
          refine ASL.q (v := (.int .i64 x4_l0)) rfl rfl (Light.quiet (opMove rfl rfl)) ?_
          refine ASL.q (v := (.int .i64 (W (x4_l0 + 1)))) rfl rfl (Light.quiet (opInt rfl rfl rfl rfl)) ?_
          refine ASL.q (v := (.int .i64 (W (x4_l0 + 1)))) rfl rfl (Light.quiet (opAssign rfl rfl)) ?_
          refine ASL.done ?_
          refine QThen.nrm ?_
          exact ⟨(z41, (W (x4_l0 + 1))), v41, (someE hF).symm, ⟨rfl, rfl, rfl, trivial⟩, (hS.pick [0] rfl rfl)⟩
      · skip
        refine AWP.exit ?_
        refine QThen.ext ?_
        refine QThen.ext ?_
        refine QBlock.hit ?_
        obtain rfl := (hx12 _ (someE hF).symm)
        have hF := hR15
        have hF := sumL hF
        refine QThen.nrm ?_
        exact ⟨y8, w9, ⟨rfl, rfl, trivial⟩, (hS.pick [0] rfl rfl), hF⟩

set_option maxRecDepth 10000 in
theorem spec_l6Places_ok (p0 : TWord) : PC Try.prog 105 [(TWord.av p0)] fun v => v = (.int .i64 (spec_l6Places p0)) := by
  generalize hF : spec_l6Places p0 = r
  refine PC.enter Try.func105 rfl Try.ntmps105 (by simp) ?_
  have hS := Sep.void; unfold spec_l6Places at hF
  refine AWP.seqR rfl ?_
  refine ASL.q (v := (.rptr [(.list 1 (List.map (AV.int .i64) p0.stem)), (.list 1 (List.map (AV.int .i64) p0.loop))])) rfl rfl ((qBoxI (v := (TWord.av p0)) rfl rfl rfl rfl)) ?_
  refine ASL.q (v := (.int .i64 0)) rfl rfl (Light.quiet (opAssign rfl rfl)) ?_
  refine ASL.done ?_
  refine AWP.seqR rfl ?_
  refine ASL.q (v := (.rptr [(.list 1 (List.map (AV.int .i64) p0.stem)), (.list 1 (List.map (AV.int .i64) p0.loop))])) rfl rfl (Light.quiet (opFieldAddrR rfl fieldA_41_0 rfl rfl)) ?_
  refine ASL.q (v := (.list 1 (List.map (AV.int .i64) p0.stem))) rfl rfl (Light.quiet (opLoadR rfl aggA_32 rfl rfl)) ?_
  refine ASL.q (v := (.int .i64 (p0.stem.length : Int))) rfl rfl (Light.quiet (opLenMap (f := (AV.int .i64)) rfl rfl rfl lenT_32 rfl)) ?_
  refine ASL.q (v := (.rptr [(.list 1 (List.map (AV.int .i64) p0.loop))])) rfl rfl (Light.quiet (opFieldAddrR rfl fieldA_41_1 rfl rfl)) ?_
  refine ASL.q (v := (.list 1 (List.map (AV.int .i64) p0.loop))) rfl rfl (Light.quiet (opLoadR rfl aggA_32 rfl rfl)) ?_
  refine ASL.q (v := (.int .i64 (p0.loop.length : Int))) rfl rfl (Light.quiet (opLenMap (f := (AV.int .i64)) rfl rfl rfl lenT_32 rfl)) ?_
  refine ASL.q (v := (.int .i64 (W (((p0.stem.length : Int)) + ((p0.loop.length : Int)))))) rfl rfl (Light.quiet (opInt rfl rfl rfl rfl)) ?_
  refine ASL.q (v := (.int .i64 (W (((p0.stem.length : Int)) + ((p0.loop.length : Int)))))) rfl rfl (Light.quiet (opAssign rfl rfl)) ?_
  refine ASL.done ?_
  refine AWP.ret ?_
  obtain rfl := hF
  exact QRet.sole (v := (.int .i64 (W (((p0.stem.length : Int)) + ((p0.loop.length : Int)))))) ⟨rfl, trivial⟩ rfl

set_option maxRecDepth 10000 in
theorem spec_l6After_ok (p0 : TWord) (p1 : Int) : PC Try.prog 126 [(TWord.av p0), (.int .i64 p1)] fun v => v = (.int .i64 (spec_l6After p0 p1)) := by
  generalize hF : spec_l6After p0 p1 = r
  refine PC.enter Try.func126 rfl Try.ntmps126 (by simp) ?_
  have hS := Sep.void; unfold spec_l6After at hF
  refine AWP.seqR rfl ?_
  refine ASL.q (v := (.rptr [(.list 1 (List.map (AV.int .i64) p0.stem)), (.list 1 (List.map (AV.int .i64) p0.loop))])) rfl rfl ((qBoxI (v := (TWord.av p0)) rfl rfl rfl rfl)) ?_
  refine ASL.q (v := (.int .i64 0)) rfl rfl (Light.quiet (opAssign rfl rfl)) ?_
  refine ASL.done ?_
  refine AWP.seq ?_
  refine AWP.seqR rfl ?_
  refine ASL.q (v := (.int .i64 p1)) rfl rfl (Light.quiet (opMove rfl rfl)) ?_
  refine ASL.q (v := (.int .i64 (W (p1 + 1)))) rfl rfl (Light.quiet (opInt rfl rfl rfl rfl)) ?_
  refine ASL.q (v := (TWord.av p0)) rfl rfl (Light.quiet (opLoadRA rfl aggA_41 sizeA_41 rfl (nlt rfl) rfl)) ?_
  refine ASL.q (v := (.int .i64 (spec_l6Places p0))) rfl rfl ((qCall rfl rfl call_105 (spec_l6Places_ok p0) rfl)) ?_
  refine ASL.q (v := (.bool (decide (((W (p1 + 1))) = ((spec_l6Places p0)))))) rfl rfl (Light.quiet (opInt rfl rfl rfl rfl)) ?_
  refine ASL.done ?_
  refine AWP.ifP hF rfl (fun hc1 hF => ?_) (fun hc1 hF => ?_)
  · skip
    refine AWP.seqR rfl ?_
    refine ASL.q (v := (.rptr [(.list 1 (List.map (AV.int .i64) p0.stem)), (.list 1 (List.map (AV.int .i64) p0.loop))])) rfl rfl (Light.quiet (opFieldAddrR rfl fieldA_41_0 rfl rfl)) ?_
    refine ASL.q (v := (.list 1 (List.map (AV.int .i64) p0.stem))) rfl rfl (Light.quiet (opLoadR rfl aggA_32 rfl rfl)) ?_
    refine ASL.q (v := (.int .i64 (p0.stem.length : Int))) rfl rfl (Light.quiet (opLenMap (f := (AV.int .i64)) rfl rfl rfl lenT_32 rfl)) ?_
    refine ASL.q (v := (.int .i64 (p0.stem.length : Int))) rfl rfl (Light.quiet (opAssign rfl rfl)) ?_
    refine ASL.done ?_
    refine AWP.ret ?_
    refine QThen.rt ?_
    obtain rfl := hF
    exact QRet.sole (v := (.int .i64 (p0.stem.length : Int))) ⟨rfl, trivial⟩ rfl
  · skip
    refine AWP.skip ?_
    refine QThen.nrm ?_
    refine AWP.seqR rfl ?_
    refine ASL.q (v := (.int .i64 p1)) rfl rfl (Light.quiet (opMove rfl rfl)) ?_
    refine ASL.q (v := (.int .i64 (W (p1 + 1)))) rfl rfl (Light.quiet (opInt rfl rfl rfl rfl)) ?_
    refine ASL.q (v := (.int .i64 (W (p1 + 1)))) rfl rfl (Light.quiet (opAssign rfl rfl)) ?_
    refine ASL.done ?_
    refine AWP.ret ?_
    obtain rfl := hF
    exact QRet.sole (v := (.int .i64 (W (p1 + 1)))) ⟨rfl, trivial⟩ rfl

set_option maxRecDepth 10000 in
theorem spec_l3At_ok {p0 : TWord} {p1 : Int} {r : Int} (hF : spec_l3At p0 p1 = some r) : PC Try.prog 84 [(TWord.av p0), (.int .i64 p1)] fun v => v = (.int .i64 r) := by
  refine PC.enter Try.func84 rfl Try.ntmps84 (by simp) ?_
  have hS := Sep.void; unfold spec_l3At at hF
  refine AWP.seqR rfl ?_
  refine ASL.q (v := (.rptr [(.list 1 (List.map (AV.int .i64) p0.stem)), (.list 1 (List.map (AV.int .i64) p0.loop))])) rfl rfl ((qBoxI (v := (TWord.av p0)) rfl rfl rfl rfl)) ?_
  refine ASL.q (v := (.int .i64 0)) rfl rfl (Light.quiet (opAssign rfl rfl)) ?_
  refine ASL.done ?_
  refine AWP.seq ?_
  refine AWP.seqR rfl ?_
  refine ASL.q (v := (.int .i64 p1)) rfl rfl (Light.quiet (opMove rfl rfl)) ?_
  refine ASL.q (v := (.rptr [(.list 1 (List.map (AV.int .i64) p0.stem)), (.list 1 (List.map (AV.int .i64) p0.loop))])) rfl rfl (Light.quiet (opFieldAddrR rfl fieldA_41_0 rfl rfl)) ?_
  refine ASL.q (v := (.list 1 (List.map (AV.int .i64) p0.stem))) rfl rfl (Light.quiet (opLoadR rfl aggA_32 rfl rfl)) ?_
  refine ASL.q (v := (.int .i64 (p0.stem.length : Int))) rfl rfl (Light.quiet (opLenMap (f := (AV.int .i64)) rfl rfl rfl lenT_32 rfl)) ?_
  refine ASL.q (v := (.bool (decide (p1 < ((p0.stem.length : Int)))))) rfl rfl (Light.quiet (opInt rfl rfl rfl rfl)) ?_
  refine ASL.done ?_
  refine AWP.ifP hF rfl (fun hc1 hF => ?_) (fun hc1 hF => ?_)
  · skip
    refine AWP.seqR rfl ?_
    refine ASL.q (v := (.rptr [(.list 1 (List.map (AV.int .i64) p0.stem)), (.list 1 (List.map (AV.int .i64) p0.loop))])) rfl rfl (Light.quiet (opFieldAddrR rfl fieldA_41_0 rfl rfl)) ?_
    refine ASL.q (v := (.list 1 (List.map (AV.int .i64) p0.stem))) rfl rfl (Light.quiet (opLoadR rfl aggA_32 rfl rfl)) ?_
    refine ASL.q (v := (.int .i64 p1)) rfl rfl (Light.quiet (opMove rfl rfl)) ?_
    obtain ⟨a13, ha13, hF⟩ := bindE hF
    refine ASL.q (v := (.rptr [(.int .i64 a13)])) rfl rfl (Light.quiet (kIx (f := (AV.int .i64)) ha13 rfl rfl rfl elemA_32 sizeA_3 rfl)) ?_
    refine ASL.q (v := (.int .i64 a13)) rfl rfl (Light.quiet (opLoadR rfl aggA_3 rfl rfl)) ?_
    refine ASL.q (v := (.int .i64 a13)) rfl rfl (Light.quiet (opAssign rfl rfl)) ?_
    refine ASL.done ?_
    refine AWP.ret ?_
    refine QThen.rt ?_
    obtain rfl := someE hF
    exact QRet.sole (v := (.int .i64 a13)) ⟨rfl, trivial⟩ rfl
  · skip
    refine AWP.skip ?_
    refine QThen.nrm ?_
    refine AWP.seqD [(0, false), (1, false), (2, false), (3, false), (4, false), (5, false), (6, false), (7, false), (8, false), (9, false), (10, false), (11, false), (12, false), (13, false)] mixed (by kernel_rfl) rfl ?_
    refine ARL.q0 (v := (.rptr [(.list 1 (List.map (AV.int .i64) p0.loop))])) rfl rfl (Light.quiet (opFieldAddrR rfl fieldA_41_1 rfl rfl)) ?_
    refine ARL.q0 (v := (.list 1 (List.map (AV.int .i64) p0.loop))) rfl rfl (Light.quiet (opLoadR rfl aggA_32 rfl rfl)) ?_
    refine ARL.q0 (v := (.int .i64 p1)) rfl rfl (Light.quiet (opMove rfl rfl)) ?_
    refine ARL.q0 (v := (.rptr [(.list 1 (List.map (AV.int .i64) p0.stem)), (.list 1 (List.map (AV.int .i64) p0.loop))])) rfl rfl (Light.quiet (opFieldAddrR rfl fieldA_41_0 rfl rfl)) ?_
    refine ARL.q0 (v := (.list 1 (List.map (AV.int .i64) p0.stem))) rfl rfl (Light.quiet (opLoadR rfl aggA_32 rfl rfl)) ?_
    refine ARL.q0 (v := (.int .i64 (p0.stem.length : Int))) rfl rfl (Light.quiet (opLenMap (f := (AV.int .i64)) rfl rfl rfl lenT_32 rfl)) ?_
    refine ARL.q0 (v := (.int .i64 (W (p1 - ((p0.stem.length : Int)))))) rfl rfl (Light.quiet (opInt rfl rfl rfl rfl)) ?_
    refine ARL.q0 (v := (.rptr [(.list 1 (List.map (AV.int .i64) p0.loop))])) rfl rfl (Light.quiet (opFieldAddrR rfl fieldA_41_1 rfl rfl)) ?_
    refine ARL.q0 (v := (.list 1 (List.map (AV.int .i64) p0.loop))) rfl rfl (Light.quiet (opLoadR rfl aggA_32 rfl rfl)) ?_
    refine ARL.q0 (v := (.int .i64 (p0.loop.length : Int))) rfl rfl (Light.quiet (opLenMap (f := (AV.int .i64)) rfl rfl rfl lenT_32 rfl)) ?_
    obtain ⟨u2, hu2, hF⟩ := bindE hF
    refine ARL.q0 (v := (.int .i64 (Int.tmod ((W (p1 - ((p0.stem.length : Int))))) ((p0.loop.length : Int))))) rfl rfl (Light.quiet (opRem rfl rfl rfl (of_decide_eq_true (chkE hu2)) rfl)) ?_
    obtain ⟨a26, ha26, hF⟩ := bindE hF
    refine ARL.q0 (v := (.rptr [(.int .i64 a26)])) rfl rfl (Light.quiet (kIx (f := (AV.int .i64)) ha26 rfl rfl rfl elemA_32 sizeA_3 rfl)) ?_
    refine ARL.q0 (v := (.int .i64 a26)) rfl rfl (Light.quiet (opLoadR rfl aggA_3 rfl rfl)) ?_
    refine ARL.q0 (v := (.int .i64 a26)) rfl rfl (Light.quiet (opAssign rfl rfl)) ?_
    refine ARL.done ?_
    refine AWP.ret ?_
    obtain rfl := someE hF
    exact QRet.sole (v := (.int .i64 a26)) ⟨rfl, trivial⟩ rfl

set_option maxRecDepth 10000 in
theorem spec_l9One_ok {p0 : TNode} {p1 : (List (List Bool))} {p2 : TWord} {p3 : Int} {p4 : (List Bool)} {r : Bool} (hF : spec_l9One p0 p1 p2 p3 p4 = some r) : PC Try.prog 106 [(TNode.av p0), (.list 1 (List.map (fun xs : (List Bool) => AV.list 1 (List.map AV.bool xs)) p1)), (TWord.av p2), (.int .i64 p3), (.list 1 (List.map AV.bool p4))] fun v => v = (.bool r) := by
  refine PC.enter Try.func106 rfl Try.ntmps106 (by simp) ?_
  have hS := Sep.void; unfold spec_l9One at hF
  refine AWP.seqR rfl ?_
  refine ASL.q (v := (.rptr [(.int .i64 p0.kind), (.int .i64 p0.a), (.int .i64 p0.b)])) rfl rfl ((qBoxI (v := (TNode.av p0)) rfl rfl rfl rfl)) ?_
  refine ASL.q (v := (.rptr [(.list 1 (List.map (AV.int .i64) p2.stem)), (.list 1 (List.map (AV.int .i64) p2.loop))])) rfl rfl ((qBoxI (v := (TWord.av p2)) rfl rfl rfl rfl)) ?_
  refine ASL.q (v := (.bool false)) rfl rfl (Light.quiet (opAssign rfl rfl)) ?_
  refine ASL.done ?_
  refine AWP.seqR rfl ?_
  refine ASL.q (v := (TWord.av p2)) rfl rfl (Light.quiet (opLoadRA rfl aggA_41 sizeA_41 rfl (nlt rfl) rfl)) ?_
  refine ASL.q (v := (.int .i64 p3)) rfl rfl (Light.quiet (opMove rfl rfl)) ?_
  refine ASL.q (v := (.int .i64 (spec_l6After p2 p3))) rfl rfl ((qCall rfl rfl call_126 (spec_l6After_ok p2 p3) rfl)) ?_
  refine ASL.q (v := (.int .i64 (spec_l6After p2 p3))) rfl rfl (Light.quiet (opAssign rfl rfl)) ?_
  refine ASL.done ?_
  refine AWP.seq ?_
  refine AWP.seqR rfl ?_
  refine ASL.q (v := (.rptr [(.int .i64 p0.kind), (.int .i64 p0.a), (.int .i64 p0.b)])) rfl rfl (Light.quiet (opFieldAddrR rfl fieldA_59_0 rfl rfl)) ?_
  refine ASL.q (v := (.int .i64 p0.kind)) rfl rfl (Light.quiet (opLoadR rfl aggA_3 rfl rfl)) ?_
  refine ASL.done ?_
  refine AWP.block ?_
  refine AWP.seqR rfl ?_
  refine ASL.q (v := (.bool (decide (p0.kind = 1)))) rfl rfl (Light.quiet (opInt rfl rfl rfl rfl)) ?_
  refine ASL.q (v := (.bool (decide (p0.kind = 1)))) rfl rfl (Light.quiet (opAssign rfl rfl)) ?_
  refine ASL.done ?_
  refine AWP.ifP hF rfl (fun hc1 hF => ?_) (fun hc1 hF => ?_)
  · skip
    refine AWP.seqR rfl ?_
    refine ASL.q (v := (.bool true)) rfl rfl (Light.quiet (opAssign rfl rfl)) ?_
    refine ASL.done ?_
    refine AWP.ret ?_
    refine QBlock.ret ?_
    refine QThen.rt ?_
    obtain rfl := someE hF
    exact QRet.sole (v := (.bool true)) ⟨rfl, trivial⟩ rfl
  · skip
    refine AWP.seqR rfl ?_
    refine ASL.q (v := (.bool (decide (p0.kind = 3)))) rfl rfl (Light.quiet (opInt rfl rfl rfl rfl)) ?_
    refine ASL.q (v := (.bool (decide (p0.kind = 3)))) rfl rfl (Light.quiet (opAssign rfl rfl)) ?_
    refine ASL.done ?_
    refine AWP.ifP hF rfl (fun hc2 hF => ?_) (fun hc2 hF => ?_)
    · skip
      refine AWP.seqD [(0, false), (1, false), (2, false), (3, false), (4, false), (5, false), (6, false), (7, false), (8, false)] mixed (by kernel_rfl) rfl ?_
      refine ARL.q0 (v := (TWord.av p2)) rfl rfl (Light.quiet (opLoadRA rfl aggA_41 sizeA_41 rfl (nlt rfl) rfl)) ?_
      refine ARL.q0 (v := (.int .i64 p3)) rfl rfl (Light.quiet (opMove rfl rfl)) ?_
      obtain ⟨a23, ha23, hF⟩ := bindE hF
      refine ARL.q0 (v := (.int .i64 a23)) rfl rfl ((qCall rfl rfl call_84 (spec_l3At_ok ha23) rfl)) ?_
      refine ARL.q0 (v := (.rptr [(.int .i64 p0.a), (.int .i64 p0.b)])) rfl rfl (Light.quiet (opFieldAddrR rfl fieldA_59_1 rfl rfl)) ?_
      refine ARL.q0 (v := (.int .i64 p0.a)) rfl rfl (Light.quiet (opLoadR rfl aggA_3 rfl rfl)) ?_
      obtain ⟨u3, hu3, hF⟩ := bindE hF
      refine ARL.q0 (v := (.int .i64 (shr .i64 a23 p0.a))) rfl rfl (Light.quiet (opShr rfl rfl rfl (of_decide_eq_true (chkE hu3)) rfl)) ?_
      refine ARL.q0 (v := (.int .i64 (bAnd .i64 ((shr .i64 a23 p0.a)) 1))) rfl rfl (Light.quiet (opInt rfl rfl rfl rfl)) ?_
      refine ARL.q0 (v := (.bool (decide (((bAnd .i64 ((shr .i64 a23 p0.a)) 1)) = 1)))) rfl rfl (Light.quiet (opInt rfl rfl rfl rfl)) ?_
      refine ARL.q0 (v := (.bool (decide (((bAnd .i64 ((shr .i64 a23 p0.a)) 1)) = 1)))) rfl rfl (Light.quiet (opAssign rfl rfl)) ?_
      refine ARL.done ?_
      refine AWP.ret ?_
      refine QBlock.ret ?_
      refine QThen.rt ?_
      obtain rfl := someE hF
      exact QRet.sole (v := (.bool (decide (((bAnd .i64 ((shr .i64 a23 p0.a)) 1)) = 1)))) ⟨rfl, trivial⟩ rfl
    · skip
      refine AWP.seqR rfl ?_
      refine ASL.q (v := (.bool (decide (p0.kind = 4)))) rfl rfl (Light.quiet (opInt rfl rfl rfl rfl)) ?_
      refine ASL.q (v := (.bool (decide (p0.kind = 4)))) rfl rfl (Light.quiet (opAssign rfl rfl)) ?_
      refine ASL.done ?_
      refine AWP.ifP hF rfl (fun hc4 hF => ?_) (fun hc4 hF => ?_)
      · skip
        refine AWP.seqR rfl ?_
        refine ASL.q (v := (.list 1 (List.map (fun xs : (List Bool) => AV.list 1 (List.map AV.bool xs)) p1))) rfl rfl (Light.quiet (opMove rfl rfl)) ?_
        refine ASL.q (v := (.rptr [(.int .i64 p0.a), (.int .i64 p0.b)])) rfl rfl (Light.quiet (opFieldAddrR rfl fieldA_59_1 rfl rfl)) ?_
        refine ASL.q (v := (.int .i64 p0.a)) rfl rfl (Light.quiet (opLoadR rfl aggA_3 rfl rfl)) ?_
        obtain ⟨a34, ha34, hF⟩ := bindE hF
        refine ASL.q (v := (.rptr [(.list 1 (List.map AV.bool a34))])) rfl rfl (Light.quiet (kIx (f := (fun xs : (List Bool) => AV.list 1 (List.map AV.bool xs))) ha34 rfl rfl rfl elemA_48 sizeA_56 rfl)) ?_
        refine ASL.q (v := (.list 1 (List.map AV.bool a34))) rfl rfl (Light.quiet (opLoadR rfl aggA_56 rfl rfl)) ?_
        refine ASL.q (v := (.int .i64 p3)) rfl rfl (Light.quiet (opMove rfl rfl)) ?_
        obtain ⟨a37, ha37, hF⟩ := bindE hF
        refine ASL.q (v := (.rptr [(.bool a37)])) rfl rfl (Light.quiet (kIx (f := AV.bool) ha37 rfl rfl rfl elemA_56 sizeA_4 rfl)) ?_
        refine ASL.q (v := (.bool a37)) rfl rfl (Light.quiet (opLoadR rfl aggA_4 rfl rfl)) ?_
        refine ASL.q (v := (.bool (!a37))) rfl rfl (Light.quiet (opNot rfl rfl)) ?_
        refine ASL.q (v := (.bool (!a37))) rfl rfl (Light.quiet (opAssign rfl rfl)) ?_
        refine ASL.done ?_
        refine AWP.ret ?_
        refine QBlock.ret ?_
        refine QThen.rt ?_
        obtain rfl := someE hF
        exact QRet.sole (v := (.bool (!a37))) ⟨rfl, trivial⟩ rfl
      · skip
        refine AWP.seqR rfl ?_
        refine ASL.q (v := (.bool (decide (p0.kind = 5)))) rfl rfl (Light.quiet (opInt rfl rfl rfl rfl)) ?_
        refine ASL.q (v := (.bool (decide (p0.kind = 5)))) rfl rfl (Light.quiet (opAssign rfl rfl)) ?_
        refine ASL.done ?_
        refine AWP.ifP hF rfl (fun hc5 hF => ?_) (fun hc5 hF => ?_)
        · skip
          refine AWP.seqR rfl ?_
          refine ASL.q (v := (.list 1 (List.map (fun xs : (List Bool) => AV.list 1 (List.map AV.bool xs)) p1))) rfl rfl (Light.quiet (opMove rfl rfl)) ?_
          refine ASL.q (v := (.rptr [(.int .i64 p0.a), (.int .i64 p0.b)])) rfl rfl (Light.quiet (opFieldAddrR rfl fieldA_59_1 rfl rfl)) ?_
          refine ASL.q (v := (.int .i64 p0.a)) rfl rfl (Light.quiet (opLoadR rfl aggA_3 rfl rfl)) ?_
          obtain ⟨a45, ha45, hF⟩ := bindE hF
          refine ASL.q (v := (.rptr [(.list 1 (List.map AV.bool a45))])) rfl rfl (Light.quiet (kIx (f := (fun xs : (List Bool) => AV.list 1 (List.map AV.bool xs))) ha45 rfl rfl rfl elemA_48 sizeA_56 rfl)) ?_
          refine ASL.q (v := (.list 1 (List.map AV.bool a45))) rfl rfl (Light.quiet (opLoadR rfl aggA_56 rfl rfl)) ?_
          refine ASL.q (v := (.int .i64 p3)) rfl rfl (Light.quiet (opMove rfl rfl)) ?_
          obtain ⟨a48, ha48, hF⟩ := bindE hF
          refine ASL.q (v := (.rptr [(.bool a48)])) rfl rfl (Light.quiet (kIx (f := AV.bool) ha48 rfl rfl rfl elemA_56 sizeA_4 rfl)) ?_
          refine ASL.q (v := (.bool a48)) rfl rfl (Light.quiet (opLoadR rfl aggA_4 rfl rfl)) ?_
          refine ASL.q (v := (.bool a48)) rfl rfl (Light.quiet (opMove rfl rfl)) ?_
          refine ASL.g (v := (.list 1 (List.map (fun xs : (List Bool) => AV.list 1 (List.map AV.bool xs)) p1))) (.bool a48) true rfl (wT _) rfl (fun hG => by have q0 := hG; subst q0; exact Light.quiet (opMove rfl rfl)) ?_
          refine ASL.g (v := (.rptr [(.int .i64 p0.b)])) (.bool a48) true rfl (wT _) rfl (fun hG => by have q0 := hG; subst q0; exact Light.quiet (opFieldAddrR rfl fieldA_59_2 rfl rfl)) ?_
          refine ASL.g (v := (.int .i64 p0.b)) (.bool a48) true rfl (wT _) rfl (fun hG => by have q0 := hG; subst q0; exact Light.quiet (opLoadR rfl aggA_3 rfl rfl)) ?_
          obtain ⟨a54, ha54, hF⟩ := bindE hF
          refine ASL.g (v := (.rptr [(.list 1 (List.map AV.bool a54))])) (.bool a48) true rfl (wT _) rfl (fun hG => by have q0 := hG; subst q0; exact Light.quiet (kIx (f := (fun xs : (List Bool) => AV.list 1 (List.map AV.bool xs))) (whenE ha54) rfl rfl rfl elemA_48 sizeA_56 rfl)) ?_
          refine ASL.g (v := (.list 1 (List.map AV.bool a54))) (.bool a48) true rfl (wT _) rfl (fun hG => by have q0 := hG; subst q0; exact Light.quiet (opLoadR rfl aggA_56 rfl rfl)) ?_
          refine ASL.g (v := (.int .i64 p3)) (.bool a48) true rfl (wT _) rfl (fun hG => by have q0 := hG; subst q0; exact Light.quiet (opMove rfl rfl)) ?_
          obtain ⟨a57, ha57, hF⟩ := bindE hF
          refine ASL.g (v := (.rptr [(.bool a57)])) (.bool a48) true rfl (wT _) rfl (fun hG => by have q0 := hG; subst q0; exact Light.quiet (kIx (f := AV.bool) (whenE ha57) rfl rfl rfl elemA_56 sizeA_4 rfl)) ?_
          refine ASL.g (v := (.bool a57)) (.bool a48) true rfl (wT _) rfl (fun hG => by have q0 := hG; subst q0; exact Light.quiet (opLoadR rfl aggA_4 rfl rfl)) ?_
          refine ASL.q (v := (.bool (a48 && a57))) rfl rfl (Light.quiet (opPick (b := a48) rfl rfl (by cases a48 <;> rfl))) ?_
          refine ASL.q (v := (.bool (a48 && a57))) rfl rfl (Light.quiet (opAssign rfl rfl)) ?_
          refine ASL.done ?_
          refine AWP.ret ?_
          refine QBlock.ret ?_
          refine QThen.rt ?_
          obtain rfl := someE hF
          exact QRet.sole (v := (.bool (a48 && a57))) ⟨rfl, trivial⟩ rfl
        · skip
          refine AWP.seqR rfl ?_
          refine ASL.q (v := (.bool (decide (p0.kind = 6)))) rfl rfl (Light.quiet (opInt rfl rfl rfl rfl)) ?_
          refine ASL.q (v := (.bool (decide (p0.kind = 6)))) rfl rfl (Light.quiet (opAssign rfl rfl)) ?_
          refine ASL.done ?_
          refine AWP.ifP hF rfl (fun hc6 hF => ?_) (fun hc6 hF => ?_)
          · skip
            refine AWP.seqR rfl ?_
            refine ASL.q (v := (.list 1 (List.map (fun xs : (List Bool) => AV.list 1 (List.map AV.bool xs)) p1))) rfl rfl (Light.quiet (opMove rfl rfl)) ?_
            refine ASL.q (v := (.rptr [(.int .i64 p0.a), (.int .i64 p0.b)])) rfl rfl (Light.quiet (opFieldAddrR rfl fieldA_59_1 rfl rfl)) ?_
            refine ASL.q (v := (.int .i64 p0.a)) rfl rfl (Light.quiet (opLoadR rfl aggA_3 rfl rfl)) ?_
            obtain ⟨a65, ha65, hF⟩ := bindE hF
            refine ASL.q (v := (.rptr [(.list 1 (List.map AV.bool a65))])) rfl rfl (Light.quiet (kIx (f := (fun xs : (List Bool) => AV.list 1 (List.map AV.bool xs))) ha65 rfl rfl rfl elemA_48 sizeA_56 rfl)) ?_
            refine ASL.q (v := (.list 1 (List.map AV.bool a65))) rfl rfl (Light.quiet (opLoadR rfl aggA_56 rfl rfl)) ?_
            refine ASL.q (v := (.int .i64 p3)) rfl rfl (Light.quiet (opMove rfl rfl)) ?_
            obtain ⟨a68, ha68, hF⟩ := bindE hF
            refine ASL.q (v := (.rptr [(.bool a68)])) rfl rfl (Light.quiet (kIx (f := AV.bool) ha68 rfl rfl rfl elemA_56 sizeA_4 rfl)) ?_
            refine ASL.q (v := (.bool a68)) rfl rfl (Light.quiet (opLoadR rfl aggA_4 rfl rfl)) ?_
            refine ASL.q (v := (.bool a68)) rfl rfl (Light.quiet (opMove rfl rfl)) ?_
            refine ASL.g (v := (.list 1 (List.map (fun xs : (List Bool) => AV.list 1 (List.map AV.bool xs)) p1))) (.bool a68) false rfl (wF _) rfl (fun hG => by have q0 := gN hG; subst q0; exact Light.quiet (opMove rfl rfl)) ?_
            refine ASL.g (v := (.rptr [(.int .i64 p0.b)])) (.bool a68) false rfl (wF _) rfl (fun hG => by have q0 := gN hG; subst q0; exact Light.quiet (opFieldAddrR rfl fieldA_59_2 rfl rfl)) ?_
            refine ASL.g (v := (.int .i64 p0.b)) (.bool a68) false rfl (wF _) rfl (fun hG => by have q0 := gN hG; subst q0; exact Light.quiet (opLoadR rfl aggA_3 rfl rfl)) ?_
            obtain ⟨a74, ha74, hF⟩ := bindE hF
            refine ASL.g (v := (.rptr [(.list 1 (List.map AV.bool a74))])) (.bool a68) false rfl (wF _) rfl (fun hG => by have q0 := gN hG; subst q0; exact Light.quiet (kIx (f := (fun xs : (List Bool) => AV.list 1 (List.map AV.bool xs))) (whenE ha74) rfl rfl rfl elemA_48 sizeA_56 rfl)) ?_
            refine ASL.g (v := (.list 1 (List.map AV.bool a74))) (.bool a68) false rfl (wF _) rfl (fun hG => by have q0 := gN hG; subst q0; exact Light.quiet (opLoadR rfl aggA_56 rfl rfl)) ?_
            refine ASL.g (v := (.int .i64 p3)) (.bool a68) false rfl (wF _) rfl (fun hG => by have q0 := gN hG; subst q0; exact Light.quiet (opMove rfl rfl)) ?_
            obtain ⟨a77, ha77, hF⟩ := bindE hF
            refine ASL.g (v := (.rptr [(.bool a77)])) (.bool a68) false rfl (wF _) rfl (fun hG => by have q0 := gN hG; subst q0; exact Light.quiet (kIx (f := AV.bool) (whenE ha77) rfl rfl rfl elemA_56 sizeA_4 rfl)) ?_
            refine ASL.g (v := (.bool a77)) (.bool a68) false rfl (wF _) rfl (fun hG => by have q0 := gN hG; subst q0; exact Light.quiet (opLoadR rfl aggA_4 rfl rfl)) ?_
            refine ASL.q (v := (.bool (a68 || a77))) rfl rfl (Light.quiet (opPick (b := a68) rfl rfl (by cases a68 <;> rfl))) ?_
            refine ASL.q (v := (.bool (a68 || a77))) rfl rfl (Light.quiet (opAssign rfl rfl)) ?_
            refine ASL.done ?_
            refine AWP.ret ?_
            refine QBlock.ret ?_
            refine QThen.rt ?_
            obtain rfl := someE hF
            exact QRet.sole (v := (.bool (a68 || a77))) ⟨rfl, trivial⟩ rfl
          · skip
            refine AWP.seqR rfl ?_
            refine ASL.q (v := (.bool (decide (p0.kind = 7)))) rfl rfl (Light.quiet (opInt rfl rfl rfl rfl)) ?_
            refine ASL.q (v := (.bool (decide (p0.kind = 7)))) rfl rfl (Light.quiet (opAssign rfl rfl)) ?_
            refine ASL.done ?_
            refine AWP.ifP hF rfl (fun hc7 hF => ?_) (fun hc7 hF => ?_)
            · skip
              refine AWP.seqR rfl ?_
              refine ASL.q (v := (.list 1 (List.map (fun xs : (List Bool) => AV.list 1 (List.map AV.bool xs)) p1))) rfl rfl (Light.quiet (opMove rfl rfl)) ?_
              refine ASL.q (v := (.rptr [(.int .i64 p0.a), (.int .i64 p0.b)])) rfl rfl (Light.quiet (opFieldAddrR rfl fieldA_59_1 rfl rfl)) ?_
              refine ASL.q (v := (.int .i64 p0.a)) rfl rfl (Light.quiet (opLoadR rfl aggA_3 rfl rfl)) ?_
              obtain ⟨a85, ha85, hF⟩ := bindE hF
              refine ASL.q (v := (.rptr [(.list 1 (List.map AV.bool a85))])) rfl rfl (Light.quiet (kIx (f := (fun xs : (List Bool) => AV.list 1 (List.map AV.bool xs))) ha85 rfl rfl rfl elemA_48 sizeA_56 rfl)) ?_
              refine ASL.q (v := (.list 1 (List.map AV.bool a85))) rfl rfl (Light.quiet (opLoadR rfl aggA_56 rfl rfl)) ?_
              refine ASL.q (v := (.int .i64 (spec_l6After p2 p3))) rfl rfl (Light.quiet (opMove rfl rfl)) ?_
              obtain ⟨a88, ha88, hF⟩ := bindE hF
              refine ASL.q (v := (.rptr [(.bool a88)])) rfl rfl (Light.quiet (kIx (f := AV.bool) ha88 rfl rfl rfl elemA_56 sizeA_4 rfl)) ?_
              refine ASL.q (v := (.bool a88)) rfl rfl (Light.quiet (opLoadR rfl aggA_4 rfl rfl)) ?_
              refine ASL.q (v := (.bool a88)) rfl rfl (Light.quiet (opAssign rfl rfl)) ?_
              refine ASL.done ?_
              refine AWP.ret ?_
              refine QBlock.ret ?_
              refine QThen.rt ?_
              obtain rfl := someE hF
              exact QRet.sole (v := (.bool a88)) ⟨rfl, trivial⟩ rfl
            · skip
              refine AWP.seqR rfl ?_
              refine ASL.q (v := (.bool (decide (p0.kind = 8)))) rfl rfl (Light.quiet (opInt rfl rfl rfl rfl)) ?_
              refine ASL.q (v := (.bool (decide (p0.kind = 8)))) rfl rfl (Light.quiet (opAssign rfl rfl)) ?_
              refine ASL.done ?_
              refine AWP.ifP hF rfl (fun hc8 hF => ?_) (fun hc8 hF => ?_)
              · skip
                refine AWP.seqR rfl ?_
                refine ASL.q (v := (.list 1 (List.map (fun xs : (List Bool) => AV.list 1 (List.map AV.bool xs)) p1))) rfl rfl (Light.quiet (opMove rfl rfl)) ?_
                refine ASL.q (v := (.rptr [(.int .i64 p0.b)])) rfl rfl (Light.quiet (opFieldAddrR rfl fieldA_59_2 rfl rfl)) ?_
                refine ASL.q (v := (.int .i64 p0.b)) rfl rfl (Light.quiet (opLoadR rfl aggA_3 rfl rfl)) ?_
                obtain ⟨a95, ha95, hF⟩ := bindE hF
                refine ASL.q (v := (.rptr [(.list 1 (List.map AV.bool a95))])) rfl rfl (Light.quiet (kIx (f := (fun xs : (List Bool) => AV.list 1 (List.map AV.bool xs))) ha95 rfl rfl rfl elemA_48 sizeA_56 rfl)) ?_
                refine ASL.q (v := (.list 1 (List.map AV.bool a95))) rfl rfl (Light.quiet (opLoadR rfl aggA_56 rfl rfl)) ?_
                refine ASL.q (v := (.int .i64 p3)) rfl rfl (Light.quiet (opMove rfl rfl)) ?_
                obtain ⟨a98, ha98, hF⟩ := bindE hF
                refine ASL.q (v := (.rptr [(.bool a98)])) rfl rfl (Light.quiet (kIx (f := AV.bool) ha98 rfl rfl rfl elemA_56 sizeA_4 rfl)) ?_
                refine ASL.q (v := (.bool a98)) rfl rfl (Light.quiet (opLoadR rfl aggA_4 rfl rfl)) ?_
                refine ASL.q (v := (.bool a98)) rfl rfl (Light.quiet (opMove rfl rfl)) ?_
                refine ASL.g (v := (.list 1 (List.map (fun xs : (List Bool) => AV.list 1 (List.map AV.bool xs)) p1))) (.bool a98) false rfl (wF _) rfl (fun hG => by have q0 := gN hG; subst q0; exact Light.quiet (opMove rfl rfl)) ?_
                refine ASL.g (v := (.rptr [(.int .i64 p0.a), (.int .i64 p0.b)])) (.bool a98) false rfl (wF _) rfl (fun hG => by have q0 := gN hG; subst q0; exact Light.quiet (opFieldAddrR rfl fieldA_59_1 rfl rfl)) ?_
                refine ASL.g (v := (.int .i64 p0.a)) (.bool a98) false rfl (wF _) rfl (fun hG => by have q0 := gN hG; subst q0; exact Light.quiet (opLoadR rfl aggA_3 rfl rfl)) ?_
                obtain ⟨a104, ha104, hF⟩ := bindE hF
                refine ASL.g (v := (.rptr [(.list 1 (List.map AV.bool a104))])) (.bool a98) false rfl (wF _) rfl (fun hG => by have q0 := gN hG; subst q0; exact Light.quiet (kIx (f := (fun xs : (List Bool) => AV.list 1 (List.map AV.bool xs))) (whenE ha104) rfl rfl rfl elemA_48 sizeA_56 rfl)) ?_
                refine ASL.g (v := (.list 1 (List.map AV.bool a104))) (.bool a98) false rfl (wF _) rfl (fun hG => by have q0 := gN hG; subst q0; exact Light.quiet (opLoadR rfl aggA_56 rfl rfl)) ?_
                refine ASL.g (v := (.int .i64 p3)) (.bool a98) false rfl (wF _) rfl (fun hG => by have q0 := gN hG; subst q0; exact Light.quiet (opMove rfl rfl)) ?_
                obtain ⟨a107, ha107, hF⟩ := bindE hF
                refine ASL.g (v := (.rptr [(.bool a107)])) (.bool a98) false rfl (wF _) rfl (fun hG => by have q0 := gN hG; subst q0; exact Light.quiet (kIx (f := AV.bool) (whenE ha107) rfl rfl rfl elemA_56 sizeA_4 rfl)) ?_
                refine ASL.g (v := (.bool a107)) (.bool a98) false rfl (wF _) rfl (fun hG => by have q0 := gN hG; subst q0; exact Light.quiet (opLoadR rfl aggA_4 rfl rfl)) ?_
                refine ASL.g (v := (.bool a107)) (.bool a98) false rfl (wF _) rfl (fun hG => by have q0 := gN hG; subst q0; exact Light.quiet (opMove rfl rfl)) ?_
                refine ASL.g (v := (.list 1 (List.map AV.bool p4))) (bif (!a98) then (.bool a107) else .tup []) true rfl (wGT _ _) rfl (fun hG => by have q0 := gN (gA1 hG); have q1 := gA2 hG; subst q0; subst q1; exact Light.quiet (opMove rfl rfl)) ?_
                refine ASL.g (v := (.int .i64 (spec_l6After p2 p3))) (bif (!a98) then (.bool a107) else .tup []) true rfl (wGT _ _) rfl (fun hG => by have q0 := gN (gA1 hG); have q1 := gA2 hG; subst q0; subst q1; exact Light.quiet (opMove rfl rfl)) ?_
                obtain ⟨a112, ha112, hF⟩ := bindE hF
                refine ASL.g (v := (.rptr [(.bool a112)])) (bif (!a98) then (.bool a107) else .tup []) true rfl (wGT _ _) rfl (fun hG => by have q0 := gN (gA1 hG); have q1 := gA2 hG; subst q0; subst q1; exact Light.quiet (kIx (f := AV.bool) (whenE ha112) rfl rfl rfl elemA_56 sizeA_4 rfl)) ?_
                refine ASL.g (v := (.bool a112)) (bif (!a98) then (.bool a107) else .tup []) true rfl (wGT _ _) rfl (fun hG => by have q0 := gN (gA1 hG); have q1 := gA2 hG; subst q0; subst q1; exact Light.quiet (opLoadR rfl aggA_4 rfl rfl)) ?_
                refine ASL.g (v := (.bool (a107 && a112))) (.bool a98) false rfl (wF _) rfl (fun hG => by have q0 := gN hG; subst q0; exact Light.quiet (opPick (b := a107) rfl rfl (by cases a107 <;> rfl))) ?_
                refine ASL.q (v := (.bool (a98 || (a107 && a112)))) rfl rfl (Light.quiet (opPick (b := a98) rfl rfl (by cases a98 <;> rfl))) ?_
                refine ASL.q (v := (.bool (a98 || (a107 && a112)))) rfl rfl (Light.quiet (opAssign rfl rfl)) ?_
                refine ASL.done ?_
                refine AWP.ret ?_
                refine QBlock.ret ?_
                refine QThen.rt ?_
                obtain rfl := someE hF
                exact QRet.sole (v := (.bool (a98 || (a107 && a112)))) ⟨rfl, trivial⟩ rfl
              · skip
                refine AWP.seqR rfl ?_
                refine ASL.q (v := (.bool (decide (p0.kind = 9)))) rfl rfl (Light.quiet (opInt rfl rfl rfl rfl)) ?_
                refine ASL.q (v := (.bool (decide (p0.kind = 9)))) rfl rfl (Light.quiet (opAssign rfl rfl)) ?_
                refine ASL.done ?_
                refine AWP.ifP hF rfl (fun hc9 hF => ?_) (fun hc9 hF => ?_)
                · skip
                  refine AWP.seqR rfl ?_
                  refine ASL.q (v := (.list 1 (List.map (fun xs : (List Bool) => AV.list 1 (List.map AV.bool xs)) p1))) rfl rfl (Light.quiet (opMove rfl rfl)) ?_
                  refine ASL.q (v := (.rptr [(.int .i64 p0.b)])) rfl rfl (Light.quiet (opFieldAddrR rfl fieldA_59_2 rfl rfl)) ?_
                  refine ASL.q (v := (.int .i64 p0.b)) rfl rfl (Light.quiet (opLoadR rfl aggA_3 rfl rfl)) ?_
                  obtain ⟨a121, ha121, hF⟩ := bindE hF
                  refine ASL.q (v := (.rptr [(.list 1 (List.map AV.bool a121))])) rfl rfl (Light.quiet (kIx (f := (fun xs : (List Bool) => AV.list 1 (List.map AV.bool xs))) ha121 rfl rfl rfl elemA_48 sizeA_56 rfl)) ?_
                  refine ASL.q (v := (.list 1 (List.map AV.bool a121))) rfl rfl (Light.quiet (opLoadR rfl aggA_56 rfl rfl)) ?_
                  refine ASL.q (v := (.int .i64 p3)) rfl rfl (Light.quiet (opMove rfl rfl)) ?_
                  obtain ⟨a124, ha124, hF⟩ := bindE hF
                  refine ASL.q (v := (.rptr [(.bool a124)])) rfl rfl (Light.quiet (kIx (f := AV.bool) ha124 rfl rfl rfl elemA_56 sizeA_4 rfl)) ?_
                  refine ASL.q (v := (.bool a124)) rfl rfl (Light.quiet (opLoadR rfl aggA_4 rfl rfl)) ?_
                  refine ASL.q (v := (.bool a124)) rfl rfl (Light.quiet (opMove rfl rfl)) ?_
                  refine ASL.g (v := (.list 1 (List.map (fun xs : (List Bool) => AV.list 1 (List.map AV.bool xs)) p1))) (.bool a124) true rfl (wT _) rfl (fun hG => by have q0 := hG; subst q0; exact Light.quiet (opMove rfl rfl)) ?_
                  refine ASL.g (v := (.rptr [(.int .i64 p0.a), (.int .i64 p0.b)])) (.bool a124) true rfl (wT _) rfl (fun hG => by have q0 := hG; subst q0; exact Light.quiet (opFieldAddrR rfl fieldA_59_1 rfl rfl)) ?_
                  refine ASL.g (v := (.int .i64 p0.a)) (.bool a124) true rfl (wT _) rfl (fun hG => by have q0 := hG; subst q0; exact Light.quiet (opLoadR rfl aggA_3 rfl rfl)) ?_
                  obtain ⟨a130, ha130, hF⟩ := bindE hF
                  refine ASL.g (v := (.rptr [(.list 1 (List.map AV.bool a130))])) (.bool a124) true rfl (wT _) rfl (fun hG => by have q0 := hG; subst q0; exact Light.quiet (kIx (f := (fun xs : (List Bool) => AV.list 1 (List.map AV.bool xs))) (whenE ha130) rfl rfl rfl elemA_48 sizeA_56 rfl)) ?_
                  refine ASL.g (v := (.list 1 (List.map AV.bool a130))) (.bool a124) true rfl (wT _) rfl (fun hG => by have q0 := hG; subst q0; exact Light.quiet (opLoadR rfl aggA_56 rfl rfl)) ?_
                  refine ASL.g (v := (.int .i64 p3)) (.bool a124) true rfl (wT _) rfl (fun hG => by have q0 := hG; subst q0; exact Light.quiet (opMove rfl rfl)) ?_
                  obtain ⟨a133, ha133, hF⟩ := bindE hF
                  refine ASL.g (v := (.rptr [(.bool a133)])) (.bool a124) true rfl (wT _) rfl (fun hG => by have q0 := hG; subst q0; exact Light.quiet (kIx (f := AV.bool) (whenE ha133) rfl rfl rfl elemA_56 sizeA_4 rfl)) ?_
                  refine ASL.g (v := (.bool a133)) (.bool a124) true rfl (wT _) rfl (fun hG => by have q0 := hG; subst q0; exact Light.quiet (opLoadR rfl aggA_4 rfl rfl)) ?_
                  refine ASL.g (v := (.bool a133)) (.bool a124) true rfl (wT _) rfl (fun hG => by have q0 := hG; subst q0; exact Light.quiet (opMove rfl rfl)) ?_
                  refine ASL.g (v := (.list 1 (List.map AV.bool p4))) (bif a124 then (.bool a133) else .tup []) false rfl (wGF _ _) rfl (fun hG => by have q0 := gA1 hG; have q1 := gN (gA2 hG); subst q0; subst q1; exact Light.quiet (opMove rfl rfl)) ?_
                  refine ASL.g (v := (.int .i64 (spec_l6After p2 p3))) (bif a124 then (.bool a133) else .tup []) false rfl (wGF _ _) rfl (fun hG => by have q0 := gA1 hG; have q1 := gN (gA2 hG); subst q0; subst q1; exact Light.quiet (opMove rfl rfl)) ?_
                  obtain ⟨a138, ha138, hF⟩ := bindE hF
                  refine ASL.g (v := (.rptr [(.bool a138)])) (bif a124 then (.bool a133) else .tup []) false rfl (wGF _ _) rfl (fun hG => by have q0 := gA1 hG; have q1 := gN (gA2 hG); subst q0; subst q1; exact Light.quiet (kIx (f := AV.bool) (whenE ha138) rfl rfl rfl elemA_56 sizeA_4 rfl)) ?_
                  refine ASL.g (v := (.bool a138)) (bif a124 then (.bool a133) else .tup []) false rfl (wGF _ _) rfl (fun hG => by have q0 := gA1 hG; have q1 := gN (gA2 hG); subst q0; subst q1; exact Light.quiet (opLoadR rfl aggA_4 rfl rfl)) ?_
                  refine ASL.g (v := (.bool (a133 || a138))) (.bool a124) true rfl (wT _) rfl (fun hG => by have q0 := hG; subst q0; exact Light.quiet (opPick (b := a133) rfl rfl (by cases a133 <;> rfl))) ?_
                  refine ASL.q (v := (.bool (a124 && (a133 || a138)))) rfl rfl (Light.quiet (opPick (b := a124) rfl rfl (by cases a124 <;> rfl))) ?_
                  refine ASL.q (v := (.bool (a124 && (a133 || a138)))) rfl rfl (Light.quiet (opAssign rfl rfl)) ?_
                  refine ASL.done ?_
                  refine AWP.ret ?_
                  refine QBlock.ret ?_
                  refine QThen.rt ?_
                  obtain rfl := someE hF
                  exact QRet.sole (v := (.bool (a124 && (a133 || a138)))) ⟨rfl, trivial⟩ rfl
                · skip
                  refine AWP.seqR rfl ?_
                  refine ASL.q (v := (.bool (decide (p0.kind = 10)))) rfl rfl (Light.quiet (opInt rfl rfl rfl rfl)) ?_
                  refine ASL.q (v := (.bool (decide (p0.kind = 10)))) rfl rfl (Light.quiet (opAssign rfl rfl)) ?_
                  refine ASL.done ?_
                  refine AWP.ifP hF rfl (fun hc10 hF => ?_) (fun hc10 hF => ?_)
                  · skip
                    refine AWP.seqR rfl ?_
                    refine ASL.q (v := (.list 1 (List.map (fun xs : (List Bool) => AV.list 1 (List.map AV.bool xs)) p1))) rfl rfl (Light.quiet (opMove rfl rfl)) ?_
                    refine ASL.q (v := (.rptr [(.int .i64 p0.a), (.int .i64 p0.b)])) rfl rfl (Light.quiet (opFieldAddrR rfl fieldA_59_1 rfl rfl)) ?_
                    refine ASL.q (v := (.int .i64 p0.a)) rfl rfl (Light.quiet (opLoadR rfl aggA_3 rfl rfl)) ?_
                    obtain ⟨a147, ha147, hF⟩ := bindE hF
                    refine ASL.q (v := (.rptr [(.list 1 (List.map AV.bool a147))])) rfl rfl (Light.quiet (kIx (f := (fun xs : (List Bool) => AV.list 1 (List.map AV.bool xs))) ha147 rfl rfl rfl elemA_48 sizeA_56 rfl)) ?_
                    refine ASL.q (v := (.list 1 (List.map AV.bool a147))) rfl rfl (Light.quiet (opLoadR rfl aggA_56 rfl rfl)) ?_
                    refine ASL.q (v := (.int .i64 p3)) rfl rfl (Light.quiet (opMove rfl rfl)) ?_
                    obtain ⟨a150, ha150, hF⟩ := bindE hF
                    refine ASL.q (v := (.rptr [(.bool a150)])) rfl rfl (Light.quiet (kIx (f := AV.bool) ha150 rfl rfl rfl elemA_56 sizeA_4 rfl)) ?_
                    refine ASL.q (v := (.bool a150)) rfl rfl (Light.quiet (opLoadR rfl aggA_4 rfl rfl)) ?_
                    refine ASL.q (v := (.bool a150)) rfl rfl (Light.quiet (opMove rfl rfl)) ?_
                    refine ASL.g (v := (.list 1 (List.map AV.bool p4))) (.bool a150) false rfl (wF _) rfl (fun hG => by have q0 := gN hG; subst q0; exact Light.quiet (opMove rfl rfl)) ?_
                    refine ASL.g (v := (.int .i64 (spec_l6After p2 p3))) (.bool a150) false rfl (wF _) rfl (fun hG => by have q0 := gN hG; subst q0; exact Light.quiet (opMove rfl rfl)) ?_
                    obtain ⟨a155, ha155, hF⟩ := bindE hF
                    refine ASL.g (v := (.rptr [(.bool a155)])) (.bool a150) false rfl (wF _) rfl (fun hG => by have q0 := gN hG; subst q0; exact Light.quiet (kIx (f := AV.bool) (whenE ha155) rfl rfl rfl elemA_56 sizeA_4 rfl)) ?_
                    refine ASL.g (v := (.bool a155)) (.bool a150) false rfl (wF _) rfl (fun hG => by have q0 := gN hG; subst q0; exact Light.quiet (opLoadR rfl aggA_4 rfl rfl)) ?_
                    refine ASL.q (v := (.bool (a150 || a155))) rfl rfl (Light.quiet (opPick (b := a150) rfl rfl (by cases a150 <;> rfl))) ?_
                    refine ASL.q (v := (.bool (a150 || a155))) rfl rfl (Light.quiet (opAssign rfl rfl)) ?_
                    refine ASL.done ?_
                    refine AWP.ret ?_
                    refine QBlock.ret ?_
                    refine QThen.rt ?_
                    obtain rfl := someE hF
                    exact QRet.sole (v := (.bool (a150 || a155))) ⟨rfl, trivial⟩ rfl
                  · skip
                    refine AWP.seqR rfl ?_
                    refine ASL.q (v := (.bool (decide (p0.kind = 11)))) rfl rfl (Light.quiet (opInt rfl rfl rfl rfl)) ?_
                    refine ASL.q (v := (.bool (decide (p0.kind = 11)))) rfl rfl (Light.quiet (opAssign rfl rfl)) ?_
                    refine ASL.done ?_
                    refine AWP.ifP hF rfl (fun hc11 hF => ?_) (fun hc11 hF => ?_)
                    · skip
                      refine AWP.seqR rfl ?_
                      refine ASL.q (v := (.list 1 (List.map (fun xs : (List Bool) => AV.list 1 (List.map AV.bool xs)) p1))) rfl rfl (Light.quiet (opMove rfl rfl)) ?_
                      refine ASL.q (v := (.rptr [(.int .i64 p0.a), (.int .i64 p0.b)])) rfl rfl (Light.quiet (opFieldAddrR rfl fieldA_59_1 rfl rfl)) ?_
                      refine ASL.q (v := (.int .i64 p0.a)) rfl rfl (Light.quiet (opLoadR rfl aggA_3 rfl rfl)) ?_
                      obtain ⟨a163, ha163, hF⟩ := bindE hF
                      refine ASL.q (v := (.rptr [(.list 1 (List.map AV.bool a163))])) rfl rfl (Light.quiet (kIx (f := (fun xs : (List Bool) => AV.list 1 (List.map AV.bool xs))) ha163 rfl rfl rfl elemA_48 sizeA_56 rfl)) ?_
                      refine ASL.q (v := (.list 1 (List.map AV.bool a163))) rfl rfl (Light.quiet (opLoadR rfl aggA_56 rfl rfl)) ?_
                      refine ASL.q (v := (.int .i64 p3)) rfl rfl (Light.quiet (opMove rfl rfl)) ?_
                      obtain ⟨a166, ha166, hF⟩ := bindE hF
                      refine ASL.q (v := (.rptr [(.bool a166)])) rfl rfl (Light.quiet (kIx (f := AV.bool) ha166 rfl rfl rfl elemA_56 sizeA_4 rfl)) ?_
                      refine ASL.q (v := (.bool a166)) rfl rfl (Light.quiet (opLoadR rfl aggA_4 rfl rfl)) ?_
                      refine ASL.q (v := (.bool a166)) rfl rfl (Light.quiet (opMove rfl rfl)) ?_
                      refine ASL.g (v := (.list 1 (List.map AV.bool p4))) (.bool a166) true rfl (wT _) rfl (fun hG => by have q0 := hG; subst q0; exact Light.quiet (opMove rfl rfl)) ?_
                      refine ASL.g (v := (.int .i64 (spec_l6After p2 p3))) (.bool a166) true rfl (wT _) rfl (fun hG => by have q0 := hG; subst q0; exact Light.quiet (opMove rfl rfl)) ?_
                      obtain ⟨a171, ha171, hF⟩ := bindE hF
                      refine ASL.g (v := (.rptr [(.bool a171)])) (.bool a166) true rfl (wT _) rfl (fun hG => by have q0 := hG; subst q0; exact Light.quiet (kIx (f := AV.bool) (whenE ha171) rfl rfl rfl elemA_56 sizeA_4 rfl)) ?_
                      refine ASL.g (v := (.bool a171)) (.bool a166) true rfl (wT _) rfl (fun hG => by have q0 := hG; subst q0; exact Light.quiet (opLoadR rfl aggA_4 rfl rfl)) ?_
                      refine ASL.q (v := (.bool (a166 && a171))) rfl rfl (Light.quiet (opPick (b := a166) rfl rfl (by cases a166 <;> rfl))) ?_
                      refine ASL.q (v := (.bool (a166 && a171))) rfl rfl (Light.quiet (opAssign rfl rfl)) ?_
                      refine ASL.done ?_
                      refine AWP.ret ?_
                      refine QBlock.ret ?_
                      refine QThen.rt ?_
                      obtain rfl := someE hF
                      exact QRet.sole (v := (.bool (a166 && a171))) ⟨rfl, trivial⟩ rfl
                    · skip
                      refine AWP.skip ?_
                      refine QBlock.nrm ?_
                      refine QThen.nrm ?_
                      refine AWP.seqR rfl ?_
                      refine ASL.q (v := (.bool false)) rfl rfl (Light.quiet (opAssign rfl rfl)) ?_
                      refine ASL.done ?_
                      refine AWP.ret ?_
                      obtain rfl := someE hF
                      exact QRet.sole (v := (.bool false)) ⟨rfl, trivial⟩ rfl

set_option maxRecDepth 10000 in
theorem spec_l9Row_ok {p0 : TNode} {p1 : (List (List Bool))} {p2 : TWord} {r : (List Bool)} (hF : spec_l9Row p0 p1 p2 = some r) : PO Try.prog 73 [(TNode.av p0), (.list 1 (List.map (fun xs : (List Bool) => AV.list 1 (List.map AV.bool xs)) p1)), (TWord.av p2)] 1 (List.map AV.bool r) := by
  refine HC.enter Try.func73 rfl Try.ntmps73 (by simp) ?_
  have hS := Sep.void; unfold spec_l9Row at hF
  refine AWP.seqR rfl ?_
  refine ASL.q (v := (.rptr [(.int .i64 p0.kind), (.int .i64 p0.a), (.int .i64 p0.b)])) rfl rfl ((qBoxI (v := (TNode.av p0)) rfl rfl rfl rfl)) ?_
  refine ASL.q (v := (.rptr [(.list 1 (List.map (AV.int .i64) p2.stem)), (.list 1 (List.map (AV.int .i64) p2.loop))])) rfl rfl ((qBoxI (v := (TWord.av p2)) rfl rfl rfl rfl)) ?_
  have hS := hNil (s := 1) (f := AV.bool) hS
  refine ASL.q (v := .nil) rfl rfl (Light.quiet (opAssign rfl rfl)) ?_
  refine ASL.done ?_
  refine AWP.seqR rfl ?_
  refine ASL.q (v := (TWord.av p2)) rfl rfl (Light.quiet (opLoadRA rfl aggA_41 sizeA_41 rfl (nlt rfl) rfl)) ?_
  refine ASL.q (v := (.int .i64 (spec_l6Places p2))) rfl rfl ((qCall rfl rfl call_105 (spec_l6Places_ok p2) rfl)) ?_
  refine ASL.q (v := (.int .i64 (spec_l6Places p2))) rfl rfl (Light.quiet (opAssign rfl rfl)) ?_
  refine ASL.done ?_
  refine AWP.seqR rfl ?_
  refine ASL.q (v := (.int .i64 (spec_l6Places p2))) rfl rfl (Light.quiet (opMove rfl rfl)) ?_
  obtain ⟨z15, hz15, hF⟩ := bindE hF
  refine ASL.x rfl rfl (hMk (f := AV.bool) hS hz15 (by decide) rfl elemA_56 sizeA_4 bytesA_4 zeroA_4 rfl rfl (by decide) rfl rfl ?_); rintro v15 G2 hK hS
  refine ASL.q (v := v15) rfl rfl (Light.quiet (opAssign rfl rfl)) ?_
  refine ASL.done ?_
  refine AWP.seqM (fun e H => ∃ y4 : (List Bool), E.Told e [(1, (.list 1 (List.map (fun xs : (List Bool) => AV.list 1 (List.map AV.bool xs)) p1))), (3, (.rptr [(.int .i64 p0.kind), (.int .i64 p0.a), (.int .i64 p0.b)])), (5, (.rptr [(.list 1 (List.map (AV.int .i64) p2.stem)), (.list 1 (List.map (AV.int .i64) p2.loop))])), (7, (.int .i64 (spec_l6Places p2))), (8, v15)] ∧ E.Sep H [.row 1 v15 (List.map AV.bool y4)] ∧ spec_l9Row.k0 p0 p1 p2 y4 = some r) ?_ ?_
  · rintro e0 G26 ⟨y4, hT, hS, hF⟩; refine AWP.only _ hT ?_; unfold spec_l9Row.k0 at hF
    refine AWP.seqM (fun e H => ∃ y5 : (List Bool), E.Told e [(8, v15)] ∧ E.Sep H [.row 1 v15 (List.map AV.bool y5)] ∧ spec_l9Row.k1 y5 = some r) ?_ ?_
    · rintro e0 G6 ⟨y5, hT, hS, hF⟩; refine AWP.only _ hT ?_; unfold spec_l9Row.k1 at hF
      refine AWP.seqR rfl ?_
      refine ASL.q (v := v15) rfl rfl (Light.quiet (opMove rfl rfl)) ?_
      refine ASL.q (v := v15) rfl rfl (Light.quiet (opAssign rfl rfl)) ?_
      refine ASL.done ?_
      refine AWP.ret ?_
      obtain rfl := someE hF
      exact QRet.sole (v := v15) ⟨rfl, trivial⟩ (hS.get (k := 0) rfl)
    · skip
      refine AWP.seqR rfl ?_
      refine ASL.q (v := (.int .i64 0)) rfl rfl (Light.quiet (opAssign rfl rfl)) ?_
      refine ASL.done ?_
      refine AWP.block ?_
      obtain ⟨o11, hL10, hR12⟩ := bindE hF
      refine AWP.loopF (ω := Unit) hL10 (fun s w => [(1, (.list 1 (List.map (fun xs : (List Bool) => AV.list 1 (List.map AV.bool xs)) p1))), (3, (.rptr [(.int .i64 p0.kind), (.int .i64 p0.a), (.int .i64 p0.b)])), (5, (.rptr [(.list 1 (List.map (AV.int .i64) p2.stem)), (.list 1 (List.map (AV.int .i64) p2.loop))])), (7, (.int .i64 (spec_l6Places p2))), (8, v15), (10, (.int .i64 s.2))]) (fun s w => [.row 1 v15 (List.map AV.bool s.1)]) () ⟨rfl, rfl, rfl, rfl, rfl, rfl, trivial⟩ (hS.pick [0] rfl rfl) ?_
      rintro ⟨y7, x10_l0⟩ _ G13 hS x8 hF hx9
      try dsimp only at hS ⊢
      have hF : spec_l9Row.b0 p0 p1 p2 y7 x10_l0 = some x8 := hF; unfold spec_l9Row.b0 at hF
      refine AWP.seq ?_
      refine AWP.seqR rfl ?_
      refine ASL.q (v := (.int .i64 x10_l0)) rfl rfl (Light.quiet (opMove rfl rfl)) ?_
      refine ASL.q (v := (.bool (decide (x10_l0 < 2)))) rfl rfl (Light.quiet (opInt rfl rfl rfl rfl)) ?_
      refine ASL.done ?_
      refine AWP.ifP hF rfl (fun hc14 hF => ?_) (fun hc14 hF => ?_)
      · skip
        refine AWP.skip ?_
        refine QThen.nrm ?_
        refine AWP.seqM (fun e H => ∃ y15 : (List Bool), E.Told e [(1, (.list 1 (List.map (fun xs : (List Bool) => AV.list 1 (List.map AV.bool xs)) p1))), (3, (.rptr [(.int .i64 p0.kind), (.int .i64 p0.a), (.int .i64 p0.b)])), (5, (.rptr [(.list 1 (List.map (AV.int .i64) p2.stem)), (.list 1 (List.map (AV.int .i64) p2.loop))])), (7, (.int .i64 (spec_l6Places p2))), (8, v15), (10, (.int .i64 x10_l0))] ∧ E.Sep H [.row 1 v15 (List.map AV.bool y15)] ∧ spec_l9Row.k2 x10_l0 y15 = some x8) ?_ ?_
        · rintro e0 G16 ⟨y15, hT, hS, hF⟩; refine AWP.only _ hT ?_; unfold spec_l9Row.k2 at hF
          refine AWP.lastR rfl ?_
          refine ASL.q (v := (.int .i64 x10_l0)) rfl rfl (Light.quiet (opMove rfl rfl)) ?_
          refine ASL.q (v := (.int .i64 (W (x10_l0 + 1)))) rfl rfl (Light.quiet (opInt rfl rfl rfl rfl)) ?_
          refine ASL.q (v := (.int .i64 (W (x10_l0 + 1)))) rfl rfl (Light.quiet (opAssign rfl rfl)) ?_
          refine ASL.done ?_
          refine QThen.nrm ?_
          exact ⟨(y15, (W (x10_l0 + 1))), (), (someE hF).symm, ⟨rfl, rfl, rfl, rfl, rfl, rfl, trivial⟩, (hS.pick [0] rfl rfl)⟩
        · skip
          refine AWP.block ?_
          refine AWP.seqR rfl ?_
          refine ASL.q (v := (.int .i64 (spec_l6Places p2))) rfl rfl (Light.quiet (opMove rfl rfl)) ?_
          refine ASL.q (v := (.int .i64 (W (((spec_l6Places p2)) - 1)))) rfl rfl (Light.quiet (opInt rfl rfl rfl rfl)) ?_
          refine ASL.q (v := (.int .i64 (W (((spec_l6Places p2)) - 1)))) rfl rfl (Light.quiet (opAssign rfl rfl)) ?_
          refine ASL.done ?_
          refine AWP.block ?_
          obtain ⟨o21, hL20, hR22⟩ := bindE hF
          refine AWP.loopF (ω := Unit) hL20 (fun s w => [(1, (.list 1 (List.map (fun xs : (List Bool) => AV.list 1 (List.map AV.bool xs)) p1))), (3, (.rptr [(.int .i64 p0.kind), (.int .i64 p0.a), (.int .i64 p0.b)])), (5, (.rptr [(.list 1 (List.map (AV.int .i64) p2.stem)), (.list 1 (List.map (AV.int .i64) p2.loop))])), (7, (.int .i64 (spec_l6Places p2))), (8, v15), (10, (.int .i64 x10_l0)), (11, (.int .i64 s.2))]) (fun s w => [.row 1 v15 (List.map AV.bool s.1)]) () ⟨rfl, rfl, rfl, rfl, rfl, rfl, rfl, trivial⟩ (hS.pick [0] rfl rfl) ?_
          rintro ⟨y17, x11_l1⟩ _ G23 hS x18 hF hx19
          try dsimp only at hS ⊢
          have hF : spec_l9Row.b1 p0 p1 p2 y17 x11_l1 = some x18 := hF; unfold spec_l9Row.b1 at hF
          refine AWP.seq ?_
          refine AWP.seqR rfl ?_
          refine ASL.q (v := (.int .i64 x11_l1)) rfl rfl (Light.quiet (opMove rfl rfl)) ?_
          refine ASL.q (v := (.bool (decide (x11_l1 ≥ 0)))) rfl rfl (Light.quiet (opInt rfl rfl rfl rfl)) ?_
          refine ASL.done ?_
          refine AWP.ifP hF rfl (fun hc24 hF => ?_) (fun hc24 hF => ?_)
          · skip
            refine AWP.skip ?_
            refine QThen.nrm ?_
            refine AWP.seq ?_
            refine AWP.block ?_
            refine AWP.lastR rfl ?_
            refine ASL.q (v := v15) rfl rfl (Light.quiet (opMove rfl rfl)) ?_
            refine ASL.q (v := (.int .i64 x11_l1)) rfl rfl (Light.quiet (opMove rfl rfl)) ?_
            refine ASL.q (v := (TNode.av p0)) rfl rfl (Light.quiet (opLoadRA rfl aggA_59 sizeA_59 rfl (nlt rfl) rfl)) ?_
            refine ASL.q (v := (.list 1 (List.map (fun xs : (List Bool) => AV.list 1 (List.map AV.bool xs)) p1))) rfl rfl (Light.quiet (opMove rfl rfl)) ?_
            refine ASL.q (v := (TWord.av p2)) rfl rfl (Light.quiet (opLoadRA rfl aggA_41 sizeA_41 rfl (nlt rfl) rfl)) ?_
            refine ASL.q (v := (.int .i64 x11_l1)) rfl rfl (Light.quiet (opMove rfl rfl)) ?_
            refine ASL.q (v := v15) rfl rfl (Light.quiet (opMove rfl rfl)) ?_
            obtain ⟨a49, ha49, hF⟩ := bindE hF
            refine ASL.q (v := (.bool a49)) rfl rfl ((qCallR hS rfl rfl call_106 (spec_l9One_ok ha49) ⟨.same _, .same _, .same _, .same _, .row (k := 0) rfl, trivial⟩ (by constructor))) ?_
            obtain ⟨m50, hm50, hF⟩ := bindE hF
            refine ASL.q (v := (ptrTo v15 m50 1)) rfl rfl (Light.quiet (kIxO hS (j := 0) rfl hm50 rfl rfl rfl elemA_56 sizeA_4)) ?_
            refine ASL.n rfl rfl (hSt (f := AV.bool) (a := a49) hS (j := 0) rfl hm50 rfl sizeA_4 rfl rfl ⟨rfl, rfl, rfl⟩ ?_); rintro G25 hS
            refine ASL.done ?_
            refine QBlock.nrm ?_
            refine QThen.nrm ?_
            refine AWP.lastR rfl ?_
            refine ASL.q (v := (.int .i64 x11_l1)) rfl rfl (Light.quiet (opMove rfl rfl)) ?_
            refine ASL.q (v := (.int .i64 (W (x11_l1 - 1)))) rfl rfl (Light.quiet (opInt rfl rfl rfl rfl)) ?_
            refine ASL.q (v := (.int .i64 (W (x11_l1 - 1)))) rfl rfl (Light.quiet (opAssign rfl rfl)) ?_
            refine ASL.done ?_
            refine QThen.nrm ?_
            exact ⟨((y17.set m50 a49), (W (x11_l1 - 1))), (), (someE hF).symm, ⟨rfl, rfl, rfl, rfl, rfl, rfl, rfl, trivial⟩, (hS.pick [0] rfl rfl)⟩
          · skip
            refine AWP.exit ?_
            refine QThen.ext ?_
            refine QThen.ext ?_
            refine QBlock.hit ?_
            obtain rfl := (hx19 _ (someE hF).symm)
            have hF := hR22
            refine QBlock.nrm ?_
            refine QThen.nrm ?_
            exact ⟨y17, ⟨rfl, rfl, rfl, rfl, rfl, rfl, trivial⟩, (hS.pick [0] rfl rfl), hF⟩
      · skip
        refine AWP.exit ?_
        refine QThen.ext ?_
        refine QThen.ext ?_
        refine QBlock.hit ?_
        obtain rfl := (hx9 _ (someE hF).symm)
        have hF := hR12
        refine QThen.nrm ?_
        exact ⟨y7, ⟨rfl, trivial⟩, (hS.pick [0] rfl rfl), hF⟩
  · skip
    refine AWP.seqR rfl ?_
    refine ASL.q (v := (.int .i64 0)) rfl rfl (Light.quiet (opAssign rfl rfl)) ?_
    refine ASL.done ?_
    refine AWP.block ?_
    obtain ⟨o31, hL30, hR32⟩ := bindE hF
    refine AWP.loopF (ω := Unit) hL30 (fun s w => [(1, (.list 1 (List.map (fun xs : (List Bool) => AV.list 1 (List.map AV.bool xs)) p1))), (3, (.rptr [(.int .i64 p0.kind), (.int .i64 p0.a), (.int .i64 p0.b)])), (5, (.rptr [(.list 1 (List.map (AV.int .i64) p2.stem)), (.list 1 (List.map (AV.int .i64) p2.loop))])), (7, (.int .i64 (spec_l6Places p2))), (8, v15), (9, (.int .i64 s.2))]) (fun s w => [.row 1 v15 (List.map AV.bool s.1)]) () ⟨rfl, rfl, rfl, rfl, rfl, rfl, trivial⟩ (hS.pick [0] rfl rfl) ?_
    rintro ⟨y27, x9_l2⟩ _ G33 hS x28 hF hx29
    try dsimp only at hS ⊢
    have hF : spec_l9Row.b2 p2 p0 y27 x9_l2 = some x28 := hF; unfold spec_l9Row.b2 at hF
    refine AWP.seq ?_
    refine AWP.seqR rfl ?_
    refine ASL.q (v := (.int .i64 x9_l2)) rfl rfl (Light.quiet (opMove rfl rfl)) ?_
    refine ASL.q (v := (.int .i64 (spec_l6Places p2))) rfl rfl (Light.quiet (opMove rfl rfl)) ?_
    refine ASL.q (v := (.bool (decide (x9_l2 < ((spec_l6Places p2)))))) rfl rfl (Light.quiet (opInt rfl rfl rfl rfl)) ?_
    refine ASL.done ?_
    refine AWP.ifP hF rfl (fun hc34 hF => ?_) (fun hc34 hF => ?_)
    · skip
      refine AWP.skip ?_
      refine QThen.nrm ?_
      refine AWP.seq ?_
      refine AWP.block ?_
      refine AWP.lastR rfl ?_
      refine ASL.q (v := v15) rfl rfl (Light.quiet (opMove rfl rfl)) ?_
      refine ASL.q (v := (.int .i64 x9_l2)) rfl rfl (Light.quiet (opMove rfl rfl)) ?_
      refine ASL.q (v := (.rptr [(.int .i64 p0.kind), (.int .i64 p0.a), (.int .i64 p0.b)])) rfl rfl (Light.quiet (opFieldAddrR rfl fieldA_59_0 rfl rfl)) ?_
      refine ASL.q (v := (.int .i64 p0.kind)) rfl rfl (Light.quiet (opLoadR rfl aggA_3 rfl rfl)) ?_
      refine ASL.q (v := (.bool (decide (p0.kind = 9)))) rfl rfl (Light.quiet (opInt rfl rfl rfl rfl)) ?_
      obtain ⟨c26, hc26, hF⟩ := bndE hF
      refine ASL.q (v := (.bool c26)) rfl rfl ((Quiet.cast (Light.quiet (opMove rfl rfl)) (congrArg AV.bool hc26.symm))) ?_
      refine ASL.g (v := (.rptr [(.int .i64 p0.kind), (.int .i64 p0.a), (.int .i64 p0.b)])) (.bool c26) false rfl (wF _) rfl (fun hG => by have q0 := gN hG; subst q0; exact Light.quiet (opFieldAddrR rfl fieldA_59_0 rfl rfl)) ?_
      refine ASL.g (v := (.int .i64 p0.kind)) (.bool c26) false rfl (wF _) rfl (fun hG => by have q0 := gN hG; subst q0; exact Light.quiet (opLoadR rfl aggA_3 rfl rfl)) ?_
      refine ASL.g (v := (.bool (decide (p0.kind = 11)))) (.bool c26) false rfl (wF _) rfl (fun hG => by have q0 := gN hG; subst q0; exact Light.quiet (opInt rfl rfl rfl rfl)) ?_
      refine ASL.q (v := (.bool (c26 || (decide (p0.kind = 11))))) rfl rfl (Light.quiet (opPick (b := c26) rfl rfl (by cases c26 <;> rfl))) ?_
      obtain ⟨m31, hm31, hF⟩ := bindE hF
      refine ASL.q (v := (ptrTo v15 m31 1)) rfl rfl (Light.quiet (kIxO hS (j := 0) rfl hm31 rfl rfl rfl elemA_56 sizeA_4)) ?_
      refine ASL.n rfl rfl (hSt (f := AV.bool) (a := (c26 || (decide (p0.kind = 11)))) hS (j := 0) rfl hm31 rfl sizeA_4 rfl rfl ⟨rfl, rfl, rfl⟩ ?_); rintro G35 hS
      refine ASL.done ?_
      refine QBlock.nrm ?_
      refine QThen.nrm ?_
      refine AWP.lastR rfl ?_
      refine ASL.q (v := (.int .i64 x9_l2)) rfl rfl (Light.quiet (opMove rfl rfl)) ?_
      refine ASL.q (v := (.int .i64 (W (x9_l2 + 1)))) rfl rfl (Light.quiet (opInt rfl rfl rfl rfl)) ?_
      refine ASL.q (v := (.int .i64 (W (x9_l2 + 1)))) rfl rfl (Light.quiet (opAssign rfl rfl)) ?_
      refine ASL.done ?_
      refine QThen.nrm ?_
      exact ⟨((y27.set m31 ((c26 || (decide (p0.kind = 11))))), (W (x9_l2 + 1))), (), (someE hF).symm, ⟨rfl, rfl, rfl, rfl, rfl, rfl, trivial⟩, (hS.pick [0] rfl rfl)⟩
    · skip
      refine AWP.exit ?_
      refine QThen.ext ?_
      refine QThen.ext ?_
      refine QBlock.hit ?_
      obtain rfl := (hx29 _ (someE hF).symm)
      have hF := hR32
      refine QThen.nrm ?_
      exact ⟨y27, ⟨rfl, rfl, rfl, rfl, rfl, trivial⟩, (hS.pick [0] rfl rfl), hF⟩

set_option maxRecDepth 10000 in
theorem spec_LtlTable_ok {p0 : (List TNode)} {p1 : TWord} {r : (List (List Bool))} (hF : spec_LtlTable p0 p1 = some r) : HS Try.prog 30 [(.list 3 (List.map TNode.av p0)), (TWord.av p1)] [] fun v L' => ∃ o0 : AV, ∃ o0_s : List AV, v = o0 ∧ L' = [.rows 1 o0 o0_s (List.map (List.map AV.bool) r) none] := by
  intro H S hS
  refine HC.enter Try.func30 rfl Try.ntmps30 (by simp) ?_
  simp only [List.cons_append, List.nil_append] at hS
  unfold spec_LtlTable at hF
  refine AWP.seqR rfl ?_
  refine ASL.q (v := (.rptr [(.list 1 (List.map (AV.int .i64) p1.stem)), (.list 1 (List.map (AV.int .i64) p1.loop))])) rfl rfl ((qBoxI (v := (TWord.av p1)) rfl rfl rfl rfl)) ?_
  have hS := hNilRs (s := 1) (f := AV.bool) hS
  refine ASL.q (v := .nil) rfl rfl (Light.quiet (opAssign rfl rfl)) ?_
  refine ASL.done ?_
  refine AWP.seqR rfl ?_
  refine ASL.x rfl rfl (hLit (f := (fun xs : (List Bool) => AV.list 1 (List.map AV.bool xs))) (zs := []) hS rfl rfl elemA_48 sizeA_56 zeroA_56 rfl rfl rfl rfl (by simp [cells]) (nlt rfl) ?_); rintro v7 G2 hK hS
  have hS := Sep.rows0 (s := 1) (f := AV.bool) hS rfl
  refine ASL.q (v := v7) rfl rfl (Light.quiet (opAssign rfl rfl)) ?_
  refine ASL.done ?_
  refine AWP.seq ?_
  refine AWP.seqR rfl ?_
  refine ASL.q (v := (.list 3 (List.map TNode.av p0))) rfl rfl (Light.quiet (opMove rfl rfl)) ?_
  obtain ⟨a9, ha9, hF⟩ := bindE hF
  refine ASL.q (v := (.bool a9)) rfl rfl ((qCall rfl rfl call_43 (spec_LtlOk_ok ha9) rfl)) ?_
  refine ASL.q (v := (.bool (!a9))) rfl rfl (Light.quiet (opNot rfl rfl)) ?_
  obtain ⟨c11, hc11, hF⟩ := bndE hF
  refine ASL.q (v := (.bool c11)) rfl rfl ((Quiet.cast (Light.quiet (opMove rfl rfl)) (congrArg AV.bool hc11.symm))) ?_
  refine ASL.g (v := (TWord.av p1)) (.bool c11) false rfl (wF _) rfl (fun hG => by have q0 := gN hG; subst q0; exact Light.quiet (opLoadRA rfl aggA_41 sizeA_41 rfl (nlt rfl) rfl)) ?_
  obtain ⟨a13, ha13, hF⟩ := bindE hF
  refine ASL.g (v := (.bool a13)) (.bool c11) false rfl (wF _) rfl (fun hG => by have q0 := gN hG; subst q0; exact (qCall rfl rfl call_72 (spec_l3Right_ok (whenE ha13)) rfl)) ?_
  refine ASL.g (v := (.bool (!a13))) (.bool c11) false rfl (wF _) rfl (fun hG => by have q0 := gN hG; subst q0; exact Light.quiet (opNot rfl rfl)) ?_
  refine ASL.q (v := (.bool (c11 || (!a13)))) rfl rfl (Light.quiet (opPick (b := c11) rfl rfl (by cases c11 <;> rfl))) ?_
  refine ASL.done ?_
  refine AWP.ifB hF rfl (fun hc4 hF => ?_) (fun hc4 hF => ?_)
  · skip
    refine AWP.seqR rfl ?_
    refine ASL.q (v := v7) rfl rfl (Light.quiet (opMove rfl rfl)) ?_
    refine ASL.q (v := v7) rfl rfl (Light.quiet (opAssign rfl rfl)) ?_
    refine ASL.done ?_
    refine AWP.ret ?_
    refine QThen.rt ?_
    obtain rfl := someE hF
    exact QRet.sole (v := v7) ⟨rfl, trivial⟩ ⟨_, ⟨v7, [], rfl, rfl⟩, hS.pick [0, 2] rfl rfl⟩
  · skip
    refine AWP.skip ?_
    refine QThen.nrm ?_
    refine AWP.seqM (fun e H => ∃ y5 : (List (List Bool)), ∃ w6 : AV, ∃ w8 : List AV, E.Told e [(5, w6)] ∧ E.Sep H [.rows 1 w6 w8 (List.map (List.map AV.bool) y5) none, .snap S] ∧ spec_LtlTable.k0 y5 = some r) ?_ ?_
    · rintro e0 G9 ⟨y5, w6, w8, hT, hS, hF⟩; refine AWP.only _ hT ?_; unfold spec_LtlTable.k0 at hF
      refine AWP.seqR rfl ?_
      refine ASL.q (v := w6) rfl rfl (Light.quiet (opMove rfl rfl)) ?_
      refine ASL.q (v := w6) rfl rfl (Light.quiet (opAssign rfl rfl)) ?_
      refine ASL.done ?_
      refine AWP.ret ?_
      obtain rfl := someE hF
      exact QRet.sole (v := w6) ⟨rfl, trivial⟩ ⟨_, ⟨w6, w8, rfl, rfl⟩, hS.pick [0, 1] rfl rfl⟩
    · skip
      refine AWP.seqR rfl ?_
      refine ASL.q (v := (.int .i64 0)) rfl rfl (Light.quiet (opAssign rfl rfl)) ?_
      refine ASL.done ?_
      refine AWP.block ?_
      obtain ⟨o17, hL16, hR18⟩ := bindE hF
      refine AWP.loopF (ω := (AV × (List AV))) hL16 (fun s w => [(0, (.list 3 (List.map TNode.av p0))), (3, (.rptr [(.list 1 (List.map (AV.int .i64) p1.stem)), (.list 1 (List.map (AV.int .i64) p1.loop))])), (5, w.1), (6, (.int .i64 s.2))]) (fun s w => [.rows 1 w.1 w.2 (List.map (List.map AV.bool) s.1) none, .snap S]) (v7, []) ⟨rfl, rfl, rfl, rfl, trivial⟩ (hS.pick [0, 2] rfl rfl) ?_
      rintro ⟨y10, x6_l0⟩ ⟨w11, w13⟩ G19 hS x14 hF hx15
      try dsimp only at hS ⊢
      have hF : spec_LtlTable.b0 p0 p1 y10 x6_l0 = some x14 := hF; unfold spec_LtlTable.b0 at hF
      refine AWP.seq ?_
      refine AWP.seqR rfl ?_
      refine ASL.q (v := (.int .i64 x6_l0)) rfl rfl (Light.quiet (opMove rfl rfl)) ?_
      refine ASL.q (v := (.list 3 (List.map TNode.av p0))) rfl rfl (Light.quiet (opMove rfl rfl)) ?_
      refine ASL.q (v := (.int .i64 (p0.length : Int))) rfl rfl (Light.quiet (opLenMap (f := TNode.av) rfl rfl rfl lenT_24 rfl)) ?_
      refine ASL.q (v := (.bool (decide (x6_l0 < ((p0.length : Int)))))) rfl rfl (Light.quiet (opInt rfl rfl rfl rfl)) ?_
      refine ASL.done ?_
      refine AWP.ifP hF rfl (fun hc20 hF => ?_) (fun hc20 hF => ?_)
      · skip
        refine AWP.skip ?_
        refine QThen.nrm ?_
        refine AWP.seq ?_
        refine AWP.block ?_
        refine AWP.lastD [(0, false), (1, false), (2, false), (3, false), (4, false), (5, false), (6, false), (7, true), (8, false), (9, true), (10, false)] mixed (by kernel_rfl) rfl ?_
        refine ARL.q0 (v := w11) rfl rfl (Light.quiet (opMove rfl rfl)) ?_
        refine ARL.q0 (v := (.list 3 (List.map TNode.av p0))) rfl rfl (Light.quiet (opMove rfl rfl)) ?_
        refine ARL.q0 (v := (.int .i64 x6_l0)) rfl rfl (Light.quiet (opMove rfl rfl)) ?_
        obtain ⟨a26, ha26, hF⟩ := bindE hF
        refine ARL.q0 (v := (.rptr [(.int .i64 a26.kind), (.int .i64 a26.a), (.int .i64 a26.b)])) rfl rfl (Light.quiet (kIx (f := TNode.av) ha26 rfl rfl rfl elemA_24 sizeA_59 rfl)) ?_
        refine ARL.q0 (v := (TNode.av a26)) rfl rfl (Light.quiet (opLoadRA rfl aggA_59 sizeA_59 rfl (nlt rfl) rfl)) ?_
        refine ARL.q0 (v := w11) rfl rfl (Light.quiet (opMove rfl rfl)) ?_
        refine ARL.q0 (v := (TWord.av p1)) rfl rfl (Light.quiet (opLoadRA rfl aggA_41 sizeA_41 rfl (nlt rfl) rfl)) ?_
        obtain ⟨a30, ha30, hF⟩ := bindE hF
        refine ARL.x rfl rfl rfl (hCallOR hS rfl rfl call_73 (spec_l9Row_ok ha30) ⟨.same _, RAS.rowsF (k := 0) rfl, .same _, trivial⟩ (Scal.row (fun _ => by intro c hc; simp only [cells, List.mem_singleton] at hc; subst hc; constructor)) ?_); rintro v30 G21 hK hS; refine ⟨hK, ?_⟩
        refine ARL.q0 (v := (.list 1 [v30])) rfl rfl ((qLitO hS (i := 0) rfl rfl elemA_48 sizeA_56 zeroA_56 rfl rfl rfl (nlt rfl))) ?_
        obtain ⟨z32, hz32, hF⟩ := bindE hF
        refine ARL.y rfl rfl rfl rfl (hAppRows (f := AV.bool) (us := a30) (hS.pick (L' := [.row 1 v30 (List.map AV.bool a30), .rows 1 w11 w13 (List.map (List.map AV.bool) y10) none, .snap S]) [0, 1, 2] rfl rfl) hz32 rfl elemA_48 rfl sizeA_56 bytesA_56 zeroA_56 rfl rfl rfl ?_); rintro v32 G23 hS
        refine ARL.q0 (v := v32) rfl rfl (Light.quiet (opAssign rfl rfl)) ?_
        refine ARL.done ?_
        refine QBlock.nrm ?_
        refine QThen.nrm ?_
        refine AWP.lastR rfl ?_
        refine ASL.q (v := (.int .i64 x6_l0)) rfl rfl (Light.quiet (opMove rfl rfl)) ?_
        refine ASL.q (v := (.int .i64 (W (x6_l0 + 1)))) rfl rfl (Light.quiet (opInt rfl rfl rfl rfl)) ?_
        refine ASL.q (v := (.int .i64 (W (x6_l0 + 1)))) rfl rfl (Light.quiet (opAssign rfl rfl)) ?_
        refine ASL.done ?_
        refine QThen.nrm ?_
        exact ⟨(z32, (W (x6_l0 + 1))), (v32, (w13 ++ [v30])), (someE hF).symm, ⟨rfl, rfl, rfl, rfl, trivial⟩, (hS.pick [0, 1] rfl rfl)⟩
      · skip
        refine AWP.exit ?_
        refine QThen.ext ?_
        refine QThen.ext ?_
        refine QBlock.hit ?_
        obtain rfl := (hx15 _ (someE hF).symm)
        have hF := hR18
        refine QThen.nrm ?_
        exact ⟨y10, w11, w13, ⟨rfl, trivial⟩, (hS.pick [0, 1] rfl rfl), hF⟩

set_option maxRecDepth 10000 in
theorem spec_LtlAt_ok {p0 : (List TNode)} {p1 : TWord} {p2 : Int} {r : Bool} (hF : spec_LtlAt p0 p1 p2 = some r) : PC Try.prog 22 [(.list 3 (List.map TNode.av p0)), (TWord.av p1), (.int .i64 p2)] fun v => v = (.bool r) := by
  refine PC.enter Try.func22 rfl Try.ntmps22 (by simp) ?_
  have hS := Sep.void; unfold spec_LtlAt at hF
  refine AWP.seqR rfl ?_
  refine ASL.q (v := (.rptr [(.list 1 (List.map (AV.int .i64) p1.stem)), (.list 1 (List.map (AV.int .i64) p1.loop))])) rfl rfl ((qBoxI (v := (TWord.av p1)) rfl rfl rfl rfl)) ?_
  refine ASL.q (v := (.bool false)) rfl rfl (Light.quiet (opAssign rfl rfl)) ?_
  refine ASL.done ?_
  refine AWP.seqR rfl ?_
  refine ASL.q (v := (.list 3 (List.map TNode.av p0))) rfl rfl (Light.quiet (opMove rfl rfl)) ?_
  refine ASL.q (v := (TWord.av p1)) rfl rfl (Light.quiet (opLoadRA rfl aggA_41 sizeA_41 rfl (nlt rfl) rfl)) ?_
  obtain ⟨a10, ha10, hF⟩ := bindE hF
  refine ASL.x rfl rfl (hCallSR hS rfl rfl call_30 (spec_LtlTable_ok ha10) ⟨.same _, .same _, trivial⟩ (by rintro w1 _ G ⟨_, w2, rfl, rfl⟩ hG; exact ⟨(hG.scRs (k := 0) rfl), ⟨⟨rfl, rowsScal (fun _ => by intro c hc; simp only [cells, List.mem_singleton] at hc; subst hc; constructor) _⟩, trivial⟩⟩) ?_); rintro w1 _ G4 ⟨_, w2, rfl, rfl⟩ hK hS
  refine ASL.q (v := w1) rfl rfl (Light.quiet (opAssign rfl rfl)) ?_
  refine ASL.done ?_
  refine AWP.seq ?_
  refine AWP.seqR rfl ?_
  refine ASL.q (v := w1) rfl rfl (Light.quiet (opMove rfl rfl)) ?_
  refine ASL.q (v := (.int .i64 (a10.length : Int))) rfl rfl (Light.quiet (kLenRows hS (j := 0) rfl rfl rfl rfl lenT_48 rfl)) ?_
  refine ASL.q (v := (.bool (decide (((a10.length : Int)) = 0)))) rfl rfl (Light.quiet (opInt rfl rfl rfl rfl)) ?_
  obtain ⟨c14, hc14, hF⟩ := bndE hF
  refine ASL.q (v := (.bool c14)) rfl rfl ((Quiet.cast (Light.quiet (opMove rfl rfl)) (congrArg AV.bool hc14.symm))) ?_
  refine ASL.g (v := (.int .i64 p2)) (.bool c14) false rfl (wF _) rfl (fun hG => by have q0 := gN hG; subst q0; exact Light.quiet (opMove rfl rfl)) ?_
  refine ASL.g (v := (.bool (decide (p2 < 0)))) (.bool c14) false rfl (wF _) rfl (fun hG => by have q0 := gN hG; subst q0; exact Light.quiet (opInt rfl rfl rfl rfl)) ?_
  refine ASL.q (v := (.bool (c14 || (decide (p2 < 0))))) rfl rfl (Light.quiet (opPick (b := c14) rfl rfl (by cases c14 <;> rfl))) ?_
  refine ASL.done ?_
  refine AWP.ifB hF rfl (fun hc5 hF => ?_) (fun hc5 hF => ?_)
  · skip
    refine AWP.seqR rfl ?_
    refine ASL.q (v := (.bool false)) rfl rfl (Light.quiet (opAssign rfl rfl)) ?_
    refine ASL.done ?_
    refine AWP.ret ?_
    refine QThen.rt ?_
    obtain rfl := someE hF
    exact QRet.sole (v := (.bool false)) ⟨rfl, trivial⟩ rfl
  · skip
    refine AWP.skip ?_
    refine QThen.nrm ?_
    refine AWP.seqM (fun e H => ∃ x2_1 : Int, E.Told e [(2, (.int .i64 x2_1)), (7, w1)] ∧ E.Sep H [.rows 1 w1 w2 (List.map (List.map AV.bool) a10) none] ∧ spec_LtlAt.k0 a10 x2_1 = some r) ?_ ?_
    · rintro e0 G7 ⟨x2_1, hT, hS, hF⟩; refine AWP.only _ hT ?_; unfold spec_LtlAt.k0 at hF
      refine AWP.seqR rfl ?_
      refine ASL.q (v := w1) rfl rfl (Light.quiet (opMove rfl rfl)) ?_
      refine ASL.q (v := w1) rfl rfl (Light.quiet (opMove rfl rfl)) ?_
      refine ASL.q (v := (.int .i64 (a10.length : Int))) rfl rfl (Light.quiet (kLenRows hS (j := 0) rfl rfl rfl rfl lenT_48 rfl)) ?_
      refine ASL.q (v := (.int .i64 (W (((a10.length : Int)) - 1)))) rfl rfl (Light.quiet (opInt rfl rfl rfl rfl)) ?_
      obtain ⟨m40, hm40, hF⟩ := bindE hF
      refine ASL.q (v := (ptrTo w1 m40 1)) rfl rfl (Light.quiet (kIxRows hS (j := 0) rfl hm40 rfl rfl rfl elemA_48 sizeA_56)) ?_
      refine ASL.q (v := (w2.getD m40 .undef)) rfl rfl (Light.quiet (kLdRows hS (j := 0) rfl hm40 rfl aggA_56 rfl)) ?_
      have hS := hS.lend (k := 0) rfl hm40
      refine ASL.q (v := (.int .i64 x2_1)) rfl rfl (Light.quiet (opMove rfl rfl)) ?_
      obtain ⟨a43, ha43, hF⟩ := bindE hF
      refine ASL.q (v := (ptrTo (w2.getD m40 .undef) x2_1.toNat 1)) rfl rfl (Light.quiet (kIxOx hS (j := 0) rfl ha43 rfl rfl rfl elemA_56 sizeA_4)) ?_
      refine ASL.q (v := (.bool a43)) rfl rfl (Light.quiet (kLd (f := AV.bool) hS (j := 0) rfl ha43 rfl aggA_4 rfl (fun _ => rfl))) ?_
      refine ASL.q (v := (.bool a43)) rfl rfl (Light.quiet (opAssign rfl rfl)) ?_
      refine ASL.done ?_
      have hS := (hS.pick (L' := [.row 1 (w2.getD m40 .undef) (List.map AV.bool ((a10.getD m40 []))), .rows 1 w1 w2 (List.map (List.map AV.bool) a10) (some m40)]) [0, 1] rfl rfl).unlend hm40
      refine AWP.ret ?_
      obtain rfl := someE hF
      exact QRet.sole (v := (.bool a43)) ⟨rfl, trivial⟩ rfl
    · skip
      refine AWP.seqR rfl ?_
      refine ASL.q (v := (.int .i64 p2)) rfl rfl (Light.quiet (opMove rfl rfl)) ?_
      refine ASL.q (v := (.rptr [(.list 1 (List.map (AV.int .i64) p1.stem)), (.list 1 (List.map (AV.int .i64) p1.loop))])) rfl rfl (Light.quiet (opFieldAddrR rfl fieldA_41_0 rfl rfl)) ?_
      refine ASL.q (v := (.list 1 (List.map (AV.int .i64) p1.stem))) rfl rfl (Light.quiet (opLoadR rfl aggA_32 rfl rfl)) ?_
      refine ASL.q (v := (.int .i64 (p1.stem.length : Int))) rfl rfl (Light.quiet (opLenMap (f := (AV.int .i64)) rfl rfl rfl lenT_32 rfl)) ?_
      refine ASL.q (v := (.bool (decide (p2 ≥ ((p1.stem.length : Int)))))) rfl rfl (Light.quiet (opInt rfl rfl rfl rfl)) ?_
      refine ASL.done ?_
      refine AWP.ifP hF rfl (fun hc8 hF => ?_) (fun hc8 hF => ?_)
      · skip
        refine AWP.lastD [(0, false), (1, false), (2, false), (3, false), (4, false), (5, false), (6, false), (7, false), (8, false), (9, false), (10, false), (11, false), (12, false), (13, false)] mixed (by kernel_rfl) rfl ?_
        refine ARL.q0 (v := (.rptr [(.list 1 (List.map (AV.int .i64) p1.stem)), (.list 1 (List.map (AV.int .i64) p1.loop))])) rfl rfl (Light.quiet (opFieldAddrR rfl fieldA_41_0 rfl rfl)) ?_
        refine ARL.q0 (v := (.list 1 (List.map (AV.int .i64) p1.stem))) rfl rfl (Light.quiet (opLoadR rfl aggA_32 rfl rfl)) ?_
        refine ARL.q0 (v := (.int .i64 (p1.stem.length : Int))) rfl rfl (Light.quiet (opLenMap (f := (AV.int .i64)) rfl rfl rfl lenT_32 rfl)) ?_
        refine ARL.q0 (v := (.int .i64 p2)) rfl rfl (Light.quiet (opMove rfl rfl)) ?_
        refine ARL.q0 (v := (.rptr [(.list 1 (List.map (AV.int .i64) p1.stem)), (.list 1 (List.map (AV.int .i64) p1.loop))])) rfl rfl (Light.quiet (opFieldAddrR rfl fieldA_41_0 rfl rfl)) ?_
        refine ARL.q0 (v := (.list 1 (List.map (AV.int .i64) p1.stem))) rfl rfl (Light.quiet (opLoadR rfl aggA_32 rfl rfl)) ?_
        refine ARL.q0 (v := (.int .i64 (p1.stem.length : Int))) rfl rfl (Light.quiet (opLenMap (f := (AV.int .i64)) rfl rfl rfl lenT_32 rfl)) ?_
        refine ARL.q0 (v := (.int .i64 (W (p2 - ((p1.stem.length : Int)))))) rfl rfl (Light.quiet (opInt rfl rfl rfl rfl)) ?_
        refine ARL.q0 (v := (.rptr [(.list 1 (List.map (AV.int .i64) p1.loop))])) rfl rfl (Light.quiet (opFieldAddrR rfl fieldA_41_1 rfl rfl)) ?_
        refine ARL.q0 (v := (.list 1 (List.map (AV.int .i64) p1.loop))) rfl rfl (Light.quiet (opLoadR rfl aggA_32 rfl rfl)) ?_
        refine ARL.q0 (v := (.int .i64 (p1.loop.length : Int))) rfl rfl (Light.quiet (opLenMap (f := (AV.int .i64)) rfl rfl rfl lenT_32 rfl)) ?_
        obtain ⟨u9, hu9, hF⟩ := bindE hF
        refine ARL.q0 (v := (.int .i64 (Int.tmod ((W (p2 - ((p1.stem.length : Int))))) ((p1.loop.length : Int))))) rfl rfl (Light.quiet (opRem rfl rfl rfl (of_decide_eq_true (chkE hu9)) rfl)) ?_
        refine ARL.q0 (v := (.int .i64 (W (((p1.stem.length : Int)) + ((Int.tmod ((W (p2 - ((p1.stem.length : Int))))) ((p1.loop.length : Int)))))))) rfl rfl (Light.quiet (opInt rfl rfl rfl rfl)) ?_
        refine ARL.q0 (v := (.int .i64 (W (((p1.stem.length : Int)) + ((Int.tmod ((W (p2 - ((p1.stem.length : Int))))) ((p1.loop.length : Int)))))))) rfl rfl (Light.quiet (opAssign rfl rfl)) ?_
        refine ARL.done ?_
        refine QThen.nrm ?_
        exact ⟨(W (((p1.stem.length : Int)) + ((Int.tmod ((W (p2 - ((p1.stem.length : Int))))) ((p1.loop.length : Int)))))), ⟨rfl, rfl, trivial⟩, (hS.pick [0] rfl rfl), hF⟩
      · skip
        refine AWP.skip ?_
        refine QThen.nrm ?_
        exact ⟨p2, ⟨rfl, rfl, trivial⟩, (hS.pick [0] rfl rfl), hF⟩

set_option maxRecDepth 10000 in
theorem slices_Clone_int_int_ok {p0 : (List Int)} {r : (List Int)} (hF : slices_Clone_int_int p0 = some r) : PO Try.prog 93 [(.list 1 (List.map (AV.int .i64) p0))] 1 (List.map (AV.int .i64) r) := by
  refine HC.enter Try.func93 rfl Try.ntmps93 (by simp) ?_
  have hS := Sep.void; unfold slices_Clone_int_int at hF
  refine AWP.seqR rfl ?_
  have hS := hNil (s := 1) (f := (AV.int .i64)) hS
  refine ASL.q (v := .nil) rfl rfl (Light.quiet (opAssign rfl rfl)) ?_
  refine ASL.done ?_
  refine AWP.seq ?_
  refine AWP.seqR rfl ?_
  refine ASL.q (v := (.list 1 (List.map (AV.int .i64) p0))) rfl rfl (Light.quiet (opMove rfl rfl)) ?_
  refine ASL.x rfl rfl (opNilT rfl und_32 rfl rfl ?_); rintro b4 hb4
  refine ASL.done ?_
  refine AWP.ifN hF rfl (fun h => by simpa using hb4 h) (fun h g => by subst h; exact g) (fun hF => ?_) (fun hF => ?_)
  · skip
    refine AWP.seqR rfl ?_
    have hS := hNil (s := 1) (f := (AV.int .i64)) hS
    refine ASL.q (v := .nil) rfl rfl (Light.quiet (opAssign rfl rfl)) ?_
    refine ASL.done ?_
    refine AWP.ret ?_
    refine QThen.rt ?_
    obtain rfl := someE hF
    exact QRet.sole (v := .nil) ⟨rfl, trivial⟩ (hS.get (k := 0) rfl)
  · skip
    refine AWP.skip ?_
    refine QThen.nrm ?_
    refine AWP.seqR rfl ?_
    refine ASL.x rfl rfl (hLit (f := (AV.int .i64)) (zs := []) hS rfl rfl elemA_32 sizeA_3 zeroA_3 rfl rfl rfl rfl (by simp [cells]) (nlt rfl) ?_); rintro v5 G3 hK hS
    refine ASL.q (v := (.list 1 (List.map (AV.int .i64) p0))) rfl rfl (Light.quiet (opMove rfl rfl)) ?_
    obtain ⟨z7, hz7, hF⟩ := bindE hF
    refine ASL.x rfl rfl (hApp (f := (AV.int .i64)) (ws := p0) hS (j := 0) rfl hz7 rfl elemA_32 rfl sizeA_3 bytesA_3 zeroA_3 rfl rfl rfl (fun _ => rfl) ?_); rintro v7 G5 hS
    refine ASL.q (v := v7) rfl rfl (Light.quiet (opAssign rfl rfl)) ?_
    refine ASL.done ?_
    refine AWP.ret ?_
    obtain rfl := someE hF
    exact QRet.sole (v := v7) ⟨rfl, trivial⟩ (hS.get (k := 0) rfl)

set_option maxRecDepth 10000 in
theorem impl_copyWord_ok {p0 : TWord} {r : TWord} (hF : impl_copyWord p0 = some r) : PC Try.prog 91 [(TWord.av p0)] fun v => v = (TWord.av r) := by
  refine PC.enter Try.func91 rfl Try.ntmps91 (by simp) ?_
  have hS := Sep.void; unfold impl_copyWord at hF
  refine AWP.seqR rfl ?_
  refine ASL.q (v := (.rptr [(.list 1 (List.map (AV.int .i64) p0.stem)), (.list 1 (List.map (AV.int .i64) p0.loop))])) rfl rfl ((qBoxI (v := (TWord.av p0)) rfl rfl rfl rfl)) ?_
  refine ASL.x rfl rfl (hNewZ hS [(.list 1 (List.map (AV.int .i64) [])), (.list 1 (List.map (AV.int .i64) []))] rfl zeroA_41 ⟨.inr ⟨_, rfl, rfl⟩, .inr ⟨_, rfl, rfl⟩, trivial⟩ ?_); rintro b2 G1 hK hS
  refine ASL.done ?_
  refine AWP.seqD [(0, false), (1, false), (2, false), (3, false), (4, false), (5, false), (6, false), (7, true)] mixed (by kernel_rfl) rfl ?_
  refine ARL.q0 (v := (.rptr [(.list 1 (List.map (AV.int .i64) p0.stem)), (.list 1 (List.map (AV.int .i64) p0.loop))])) rfl rfl (Light.quiet (opFieldAddrR rfl fieldA_41_0 rfl rfl)) ?_
  refine ARL.q0 (v := (.list 1 (List.map (AV.int .i64) p0.stem))) rfl rfl (Light.quiet (opLoadR rfl aggA_32 rfl rfl)) ?_
  obtain ⟨a5, ha5, hF⟩ := bindE hF
  refine ARL.q0 (v := (.list 1 (List.map (AV.int .i64) a5))) rfl rfl ((qCall rfl rfl call_93 (PO.list (slices_Clone_int_int_ok ha5)) rfl)) ?_
  refine ARL.q0 (v := (.rptr [(.list 1 (List.map (AV.int .i64) p0.loop))])) rfl rfl (Light.quiet (opFieldAddrR rfl fieldA_41_1 rfl rfl)) ?_
  refine ARL.q0 (v := (.list 1 (List.map (AV.int .i64) p0.loop))) rfl rfl (Light.quiet (opLoadR rfl aggA_32 rfl rfl)) ?_
  obtain ⟨a8, ha8, hF⟩ := bindE hF
  refine ARL.q0 (v := (.list 1 (List.map (AV.int .i64) a8))) rfl rfl ((qCall rfl rfl call_93 (PO.list (slices_Clone_int_int_ok ha8)) rfl)) ?_
  refine ARL.q0 (v := (.agg [(.list 1 (List.map (AV.int .i64) a5)), (.list 1 (List.map (AV.int .i64) a8))])) rfl rfl (Light.quiet (opBuildZ (zs := [(.list 1 (List.map (AV.int .i64) [])), (.list 1 (List.map (AV.int .i64) []))]) rfl plan_41 zeroA_41 ⟨.inr ⟨_, rfl, rfl⟩, .inr ⟨_, rfl, rfl⟩, trivial⟩ rfl)) ?_
  refine ARL.n rfl rfl rfl rfl (hPutA hS (j := 0) rfl rfl sizeA_41 rfl rfl rfl rfl rfl (nlt rfl) ?_); rintro G3 hS
  refine ARL.done ?_
  refine AWP.ret ?_
  obtain rfl := someE hF
  exact QRet.sole (v := (.agg [(.list 1 (List.map (AV.int .i64) a5)), (.list 1 (List.map (AV.int .i64) a8))])) ⟨resOne.at hS (k := 0) rfl rfl aggA_41 sizeA_41, trivial⟩ rfl

theorem slices_Grow_int_int_ok {p0 : List Int} {p1 : Int} {r : List Int} (hF : slices_Grow_int_int p0 p1 = some r) : PO Try.prog 112 [.nil, .int .i64 p1] 1 (List.map (AV.int .i64) r) := by
  unfold slices_Grow_int_int at hF
  split at hF
  · rename_i h; cases hF; exact slices_Grow_of ⟨h.2.1, h.2.2⟩
  · cases hF

set_option maxRecDepth 10000 in
theorem slices_Concat_int_int_ok {p0 : (List (List Int))} {r : (List Int)} (hF : slices_Concat_int_int p0 = some r) : PO Try.prog 92 [(.list 1 (List.map (fun xs : (List Int) => AV.list 1 (List.map (AV.int .i64) xs)) p0))] 1 (List.map (AV.int .i64) r) := by
  refine HC.enter Try.func92 rfl Try.ntmps92 (by simp) ?_
  have hS := Sep.void; unfold slices_Concat_int_int at hF
  refine AWP.seqR rfl ?_
  have hS := hNil (s := 1) (f := (AV.int .i64)) hS
  refine ASL.q (v := .nil) rfl rfl (Light.quiet (opAssign rfl rfl)) ?_
  refine ASL.done ?_
  refine AWP.seqR rfl ?_
  refine ASL.q (v := (.int .i64 0)) rfl rfl (Light.quiet (opAssign rfl rfl)) ?_
  refine ASL.done ?_
  refine AWP.seqM (fun e H => ∃ x3_1 : Int, E.Told e [(0, (.list 1 (List.map (fun xs : (List Int) => AV.list 1 (List.map (AV.int .i64) xs)) p0))), (3, (.int .i64 x3_1))] ∧ E.Sep H [] ∧ slices_Concat_int_int.k0 p0 x3_1 = some r) ?_ ?_
  · rintro e0 G20 ⟨x3_1, hT, hS, hF⟩; refine AWP.only _ hT ?_; unfold slices_Concat_int_int.k0 at hF
    refine AWP.seqR rfl ?_
    refine ASL.q (v := (.int .i64 x3_1)) rfl rfl (Light.quiet (opMove rfl rfl)) ?_
    obtain ⟨a24, ha24, hF⟩ := bindE hF
    refine ASL.x rfl rfl (hCallO hS rfl rfl call_112 (slices_Grow_int_int_ok ha24) rfl ?_); rintro v24 G2 hK hS
    refine ASL.q (v := v24) rfl rfl (Light.quiet (opAssign rfl rfl)) ?_
    refine ASL.done ?_
    refine AWP.seqM (fun e H => ∃ y4 : (List Int), ∃ w5 : AV, E.Told e [(6, w5)] ∧ E.Sep H [.row 1 w5 (List.map (AV.int .i64) y4)] ∧ slices_Concat_int_int.k1 y4 = some r) ?_ ?_
    · rintro e0 G7 ⟨y4, w5, hT, hS, hF⟩; refine AWP.only _ hT ?_; unfold slices_Concat_int_int.k1 at hF
      refine AWP.seqR rfl ?_
      refine ASL.q (v := w5) rfl rfl (Light.quiet (opMove rfl rfl)) ?_
      refine ASL.q (v := w5) rfl rfl (Light.quiet (opAssign rfl rfl)) ?_
      refine ASL.done ?_
      refine AWP.ret ?_
      obtain rfl := someE hF
      exact QRet.sole (v := w5) ⟨rfl, trivial⟩ (hS.get (k := 0) rfl)
    · skip
      refine AWP.seqR rfl ?_
      refine ASL.q (v := (.list 1 (List.map (fun xs : (List Int) => AV.list 1 (List.map (AV.int .i64) xs)) p0))) rfl rfl (Light.quiet (opMove rfl rfl)) ?_
      refine ASL.q (v := (.int .i64 (p0.length : Int))) rfl rfl (Light.quiet (opLenMap (f := (fun xs : (List Int) => AV.list 1 (List.map (AV.int .i64) xs))) rfl rfl rfl lenT_120 rfl)) ?_
      refine ASL.q (v := (.int .i64 0)) rfl rfl (Light.quiet (opMove rfl rfl)) ?_
      refine ASL.done ?_
      refine AWP.block ?_
      obtain ⟨o14, hL13, hR15⟩ := bindE hF
      refine AWP.loopF (ω := AV) hL13 (fun s w => [(6, w), (25, (.list 1 (List.map (fun xs : (List Int) => AV.list 1 (List.map (AV.int .i64) xs)) p0))), (26, (.int .i64 (p0.length : Int))), (27, (.int .i64 s.2))]) (fun s w => [.row 1 w (List.map (AV.int .i64) s.1)]) v24 ⟨rfl, rfl, rfl, rfl, trivial⟩ (hS.pick [0] rfl rfl) ?_
      rintro ⟨y8, x27_l0⟩ w9 G16 hS x11 hF hx12
      try dsimp only at hS ⊢
      have hF : slices_Concat_int_int.b0 p0 y8 x27_l0 = some x11 := hF; unfold slices_Concat_int_int.b0 at hF
      refine AWP.seqR rfl ?_
      refine ASL.q (v := (.bool (decide (x27_l0 < ((p0.length : Int)))))) rfl rfl (Light.quiet (opInt rfl rfl rfl rfl)) ?_
      refine ASL.done ?_
      refine AWP.seq ?_
      refine AWP.ifP hF rfl (fun hc17 hF => ?_) (fun hc17 hF => ?_)
      · skip
        refine AWP.skip ?_
        refine QThen.nrm ?_
        refine AWP.seq ?_
        refine AWP.block ?_
        refine AWP.seqR rfl ?_
        obtain ⟨a29, ha29, hF⟩ := bindE hF
        refine ASL.q (v := (.rptr [(.list 1 (List.map (AV.int .i64) a29))])) rfl rfl (Light.quiet (kIx (f := (fun xs : (List Int) => AV.list 1 (List.map (AV.int .i64) xs))) ha29 rfl rfl rfl elemA_120 sizeA_32 rfl)) ?_
        refine ASL.q (v := (.list 1 (List.map (AV.int .i64) a29))) rfl rfl (Light.quiet (opLoadR rfl aggA_32 rfl rfl)) ?_
        refine ASL.q (v := (.list 1 (List.map (AV.int .i64) a29))) rfl rfl (Light.quiet (opAssign rfl rfl)) ?_
        refine ASL.done ?_
        refine AWP.lastR rfl ?_
        refine ASL.q (v := w9) rfl rfl (Light.quiet (opMove rfl rfl)) ?_
        refine ASL.q (v := (.list 1 (List.map (AV.int .i64) a29))) rfl rfl (Light.quiet (opMove rfl rfl)) ?_
        obtain ⟨z33, hz33, hF⟩ := bindE hF
        refine ASL.x rfl rfl (hApp (f := (AV.int .i64)) (ws := a29) hS (j := 0) rfl hz33 rfl elemA_32 rfl sizeA_3 bytesA_3 zeroA_3 rfl rfl rfl (fun _ => rfl) ?_); rintro v33 G18 hS
        refine ASL.q (v := v33) rfl rfl (Light.quiet (opAssign rfl rfl)) ?_
        refine ASL.done ?_
        refine QBlock.nrm ?_
        refine QThen.nrm ?_
        refine AWP.lastR rfl ?_
        refine ASL.q (v := (.int .i64 (W (x27_l0 + 1)))) rfl rfl (Light.quiet (opInt rfl rfl rfl rfl)) ?_
        refine ASL.q (v := (.int .i64 (W (x27_l0 + 1)))) rfl rfl (Light.quiet (opMove rfl rfl)) ?_
        refine ASL.done ?_
        refine QThen.nrm ?_
        exact ⟨(z33, (W (x27_l0 + 1))), v33, (someE hF).symm, ⟨rfl, rfl, rfl, rfl, trivial⟩, (hS.pick [0] rfl rfl)⟩
      · skip
        refine AWP.exit ?_
        refine QThen.ext ?_
        refine QThen.ext ?_
        refine QBlock.hit ?_
        obtain rfl := (hx12 _ (someE hF).symm)
        have hF := hR15
        refine QThen.nrm ?_
        exact ⟨y8, w9, ⟨rfl, trivial⟩, (hS.pick [0] rfl rfl), hF⟩
  · skip
    refine AWP.seqR rfl ?_
    refine ASL.q (v := (.list 1 (List.map (fun xs : (List Int) => AV.list 1 (List.map (AV.int .i64) xs)) p0))) rfl rfl (Light.quiet (opMove rfl rfl)) ?_
    refine ASL.q (v := (.int .i64 (p0.length : Int))) rfl rfl (Light.quiet (opLenMap (f := (fun xs : (List Int) => AV.list 1 (List.map (AV.int .i64) xs))) rfl rfl rfl lenT_120 rfl)) ?_
    refine ASL.q (v := (.int .i64 0)) rfl rfl (Light.quiet (opMove rfl rfl)) ?_
    refine ASL.done ?_
    refine AWP.block ?_
    obtain ⟨o24, hL23, hR25⟩ := bindE hF
    refine AWP.loopF (ω := Unit) hL23 (fun s w => [(0, (.list 1 (List.map (fun xs : (List Int) => AV.list 1 (List.map (AV.int .i64) xs)) p0))), (3, (.int .i64 s.1)), (9, (.list 1 (List.map (fun xs : (List Int) => AV.list 1 (List.map (AV.int .i64) xs)) p0))), (10, (.int .i64 (p0.length : Int))), (11, (.int .i64 s.2))]) (fun s w => []) () ⟨rfl, rfl, rfl, rfl, rfl, trivial⟩ (hS.pick [] rfl rfl) ?_
    rintro ⟨x3_l1, x11_l1⟩ _ G26 hS x21 hF hx22
    try dsimp only at hS ⊢
    have hF : slices_Concat_int_int.b1 p0 x3_l1 x11_l1 = some x21 := hF; unfold slices_Concat_int_int.b1 at hF
    refine AWP.seqR rfl ?_
    refine ASL.q (v := (.bool (decide (x11_l1 < ((p0.length : Int)))))) rfl rfl (Light.quiet (opInt rfl rfl rfl rfl)) ?_
    refine ASL.done ?_
    refine AWP.seq ?_
    refine AWP.ifP hF rfl (fun hc27 hF => ?_) (fun hc27 hF => ?_)
    · skip
      refine AWP.skip ?_
      refine QThen.nrm ?_
      refine AWP.seq ?_
      refine AWP.block ?_
      refine AWP.seqR rfl ?_
      obtain ⟨a13, ha13, hF⟩ := bindE hF
      refine ASL.q (v := (.rptr [(.list 1 (List.map (AV.int .i64) a13))])) rfl rfl (Light.quiet (kIx (f := (fun xs : (List Int) => AV.list 1 (List.map (AV.int .i64) xs))) ha13 rfl rfl rfl elemA_120 sizeA_32 rfl)) ?_
      refine ASL.q (v := (.list 1 (List.map (AV.int .i64) a13))) rfl rfl (Light.quiet (opLoadR rfl aggA_32 rfl rfl)) ?_
      refine ASL.q (v := (.list 1 (List.map (AV.int .i64) a13))) rfl rfl (Light.quiet (opAssign rfl rfl)) ?_
      refine ASL.done ?_
      refine AWP.seqR rfl ?_
      refine ASL.q (v := (.int .i64 x3_l1)) rfl rfl (Light.quiet (opMove rfl rfl)) ?_
      refine ASL.q (v := (.list 1 (List.map (AV.int .i64) a13))) rfl rfl (Light.quiet (opMove rfl rfl)) ?_
      refine ASL.q (v := (.int .i64 (a13.length : Int))) rfl rfl (Light.quiet (opLenMap (f := (AV.int .i64)) rfl rfl rfl lenT_32 rfl)) ?_
      refine ASL.q (v := (.int .i64 (W (x3_l1 + ((a13.length : Int)))))) rfl rfl (Light.quiet (opInt rfl rfl rfl rfl)) ?_
      refine ASL.q (v := (.int .i64 (W (x3_l1 + ((a13.length : Int)))))) rfl rfl (Light.quiet (opAssign rfl rfl)) ?_
      refine ASL.done ?_
      refine AWP.seqR rfl ?_
      refine ASL.q (v := (.int .i64 (W (x3_l1 + ((a13.length : Int)))))) rfl rfl (Light.quiet (opMove rfl rfl)) ?_
      refine ASL.q (v := (.bool (decide (((W (x3_l1 + ((a13.length : Int))))) < 0)))) rfl rfl (Light.quiet (opInt rfl rfl rfl rfl)) ?_
      refine ASL.done ?_
      refine AWP.ifP hF rfl (fun hc28 hF => ?_) (fun hc28 hF => ?_)
      · skip
        cases hF
      · skip
        refine AWP.skip ?_
        refine QBlock.nrm ?_
        refine QThen.nrm ?_
        refine AWP.lastR rfl ?_
        refine ASL.q (v := (.int .i64 (W (x11_l1 + 1)))) rfl rfl (Light.quiet (opInt rfl rfl rfl rfl)) ?_
        refine ASL.q (v := (.int .i64 (W (x11_l1 + 1)))) rfl rfl (Light.quiet (opMove rfl rfl)) ?_
        refine ASL.done ?_
        refine QThen.nrm ?_
        exact ⟨((W (x3_l1 + ((a13.length : Int)))), (W (x11_l1 + 1))), (), (someE hF).symm, ⟨rfl, rfl, rfl, rfl, rfl, trivial⟩, (hS.pick [] rfl rfl)⟩
    · skip
      refine AWP.exit ?_
      refine QThen.ext ?_
      refine QThen.ext ?_
      refine QBlock.hit ?_
      obtain rfl := (hx22 _ (someE hF).symm)
      have hF := hR25
      refine QThen.nrm ?_
      exact ⟨x3_l1, ⟨rfl, rfl, trivial⟩, (hS.pick [] rfl rfl), hF⟩

set_option maxRecDepth 10000 in
theorem impl_WordTail_ok {p0 : TWord} {p1 : Int} {r : (TWord × Bool)} (hF : impl_WordTail p0 p1 = some r) : PC Try.prog 45 [(TWord.av p0), (.int .i64 p1)] fun v => v = .tup [(TWord.av r.1), (.bool r.2)] := by
  refine PC.enter Try.func45 rfl Try.ntmps45 (by simp) ?_
  have hS := Sep.void; unfold impl_WordTail at hF
  refine AWP.seqR rfl ?_
  refine ASL.q (v := (.rptr [(.list 1 (List.map (AV.int .i64) p0.stem)), (.list 1 (List.map (AV.int .i64) p0.loop))])) rfl rfl ((qBoxI (v := (TWord.av p0)) rfl rfl rfl rfl)) ?_
  refine ASL.x rfl rfl (hNewZ hS [(.list 1 (List.map (AV.int .i64) [])), (.list 1 (List.map (AV.int .i64) []))] rfl zeroA_41 ⟨.inr ⟨_, rfl, rfl⟩, .inr ⟨_, rfl, rfl⟩, trivial⟩ ?_); rintro b4 G1 hK hS
  refine ASL.q (v := (.bool false)) rfl rfl (Light.quiet (opAssign rfl rfl)) ?_
  refine ASL.done ?_
  refine AWP.seq ?_
  refine AWP.seqR rfl ?_
  refine ASL.q (v := (.int .i64 p1)) rfl rfl (Light.quiet (opMove rfl rfl)) ?_
  refine ASL.q (v := (.bool (impl_inRange p1 0 1000000))) rfl rfl ((qCall rfl rfl call_90 (impl_inRange_ok p1 0 1000000) rfl)) ?_
  refine ASL.q (v := (.bool (!(impl_inRange p1 0 1000000)))) rfl rfl (Light.quiet (opNot rfl rfl)) ?_
  obtain ⟨c10, hc10, hF⟩ := bndE hF
  refine ASL.q (v := (.bool c10)) rfl rfl ((Quiet.cast (Light.quiet (opMove rfl rfl)) (congrArg AV.bool hc10.symm))) ?_
  refine ASL.g (v := (TWord.av p0)) (.bool c10) false rfl (wF _) rfl (fun hG => by have q0 := gN hG; subst q0; exact Light.quiet (opLoadRA rfl aggA_41 sizeA_41 rfl (nlt rfl) rfl)) ?_
  obtain ⟨a12, ha12, hF⟩ := bindE hF
  refine ASL.g (v := (.bool a12)) (.bool c10) false rfl (wF _) rfl (fun hG => by have q0 := gN hG; subst q0; exact (qCall rfl rfl call_67 (impl_isRight_ok (whenE ha12)) rfl)) ?_
  refine ASL.g (v := (.bool (!a12))) (.bool c10) false rfl (wF _) rfl (fun hG => by have q0 := gN hG; subst q0; exact Light.quiet (opNot rfl rfl)) ?_
  refine ASL.q (v := (.bool (c10 || (!a12)))) rfl rfl (Light.quiet (opPick (b := c10) rfl rfl (by cases c10 <;> rfl))) ?_
  refine ASL.done ?_
  refine AWP.ifB hF rfl (fun hc3 hF => ?_) (fun hc3 hF => ?_)
  · skip
    refine AWP.seqR rfl ?_
    refine ASL.q (v := (.agg [(.list 1 (List.map (AV.int .i64) [])), (.list 1 (List.map (AV.int .i64) []))])) rfl rfl (Light.quiet (opBuildZ (zs := [(.list 1 (List.map (AV.int .i64) [])), (.list 1 (List.map (AV.int .i64) []))]) rfl plan_41 zeroA_41 ⟨.inr ⟨_, rfl, rfl⟩, .inr ⟨_, rfl, rfl⟩, trivial⟩ rfl)) ?_
    refine ASL.n rfl rfl (hPutA hS (j := 0) rfl rfl sizeA_41 rfl rfl rfl rfl rfl (nlt rfl) ?_); rintro G4 hS
    refine ASL.q (v := (.bool false)) rfl rfl (Light.quiet (opAssign rfl rfl)) ?_
    refine ASL.done ?_
    refine AWP.ret ?_
    refine QThen.rt ?_
    obtain rfl := someE hF
    exact QRet.many (vs := [(.agg [(.list 1 (List.map (AV.int .i64) [])), (.list 1 (List.map (AV.int .i64) []))]), (.bool false)]) ⟨resOne.at hS (k := 0) rfl rfl aggA_41 sizeA_41, rfl, trivial⟩ (by simp) rfl
  · skip
    refine AWP.skip ?_
    refine QThen.nrm ?_
    refine AWP.seq ?_
    refine AWP.seqR rfl ?_
    refine ASL.q (v := (.int .i64 p1)) rfl rfl (Light.quiet (opMove rfl rfl)) ?_
    refine ASL.q (v := (.rptr [(.list 1 (List.map (AV.int .i64) p0.stem)), (.list 1 (List.map (AV.int .i64) p0.loop))])) rfl rfl (Light.quiet (opFieldAddrR rfl fieldA_41_0 rfl rfl)) ?_
    refine ASL.q (v := (.list 1 (List.map (AV.int .i64) p0.stem))) rfl rfl (Light.quiet (opLoadR rfl aggA_32 rfl rfl)) ?_
    refine ASL.q (v := (.int .i64 (p0.stem.length : Int))) rfl rfl (Light.quiet (opLenMap (f := (AV.int .i64)) rfl rfl rfl lenT_32 rfl)) ?_
    refine ASL.q (v := (.bool (decide (p1 < ((p0.stem.length : Int)))))) rfl rfl (Light.quiet (opInt rfl rfl rfl rfl)) ?_
    refine ASL.done ?_
    refine AWP.ifP hF rfl (fun hc5 hF => ?_) (fun hc5 hF => ?_)
    · skip
      refine AWP.seqD [(0, false), (1, false), (2, false), (3, false), (4, false), (5, false), (6, false), (7, false), (8, true), (9, false)] mixed (by kernel_rfl) rfl ?_
      refine ARL.q0 (v := (.rptr [(.list 1 (List.map (AV.int .i64) p0.stem)), (.list 1 (List.map (AV.int .i64) p0.loop))])) rfl rfl (Light.quiet (opFieldAddrR rfl fieldA_41_0 rfl rfl)) ?_
      refine ARL.q0 (v := (.list 1 (List.map (AV.int .i64) p0.stem))) rfl rfl (Light.quiet (opLoadR rfl aggA_32 rfl rfl)) ?_
      refine ARL.q0 (v := (.int .i64 p1)) rfl rfl (Light.quiet (opMove rfl rfl)) ?_
      obtain ⟨a24, ha24, hF⟩ := bindE hF
      refine ARL.q0 (v := (.list 1 (List.map (AV.int .i64) a24))) rfl rfl (Light.quiet (opCutL (f := (AV.int .i64)) ha24 rfl elemA_32 sizeA_3 rfl (.inr ⟨_, _, rfl, rfl⟩) (.inl ⟨rfl, rfl, rfl⟩))) ?_
      refine ARL.q0 (v := (.rptr [(.list 1 (List.map (AV.int .i64) p0.loop))])) rfl rfl (Light.quiet (opFieldAddrR rfl fieldA_41_1 rfl rfl)) ?_
      refine ARL.q0 (v := (.list 1 (List.map (AV.int .i64) p0.loop))) rfl rfl (Light.quiet (opLoadR rfl aggA_32 rfl rfl)) ?_
      refine ARL.q0 (v := (.agg [(.list 1 (List.map (AV.int .i64) a24)), (.list 1 (List.map (AV.int .i64) p0.loop))])) rfl rfl (Light.quiet (opBuildZ (zs := [(.list 1 (List.map (AV.int .i64) [])), (.list 1 (List.map (AV.int .i64) []))]) rfl plan_41 zeroA_41 ⟨.inr ⟨_, rfl, rfl⟩, .inr ⟨_, rfl, rfl⟩, trivial⟩ rfl)) ?_
      obtain ⟨a28, ha28, hF⟩ := bindE hF
      refine ARL.q0 (v := (TWord.av a28)) rfl rfl ((qCall rfl rfl call_91 (impl_copyWord_ok ha28) rfl)) ?_
      refine ARL.n rfl rfl rfl rfl (hPutA hS (j := 0) rfl rfl sizeA_41 rfl rfl rfl rfl rfl (nlt rfl) ?_); rintro G6 hS
      refine ARL.q0 (v := (.bool true)) rfl rfl (Light.quiet (opAssign rfl rfl)) ?_
      refine ARL.done ?_
      refine AWP.ret ?_
      refine QThen.rt ?_
      obtain rfl := someE hF
      exact QRet.many (vs := [(TWord.av a28), (.bool true)]) ⟨resOne.at hS (k := 0) rfl rfl aggA_41 sizeA_41, rfl, trivial⟩ (by simp) rfl
    · skip
      refine AWP.skip ?_
      refine QThen.nrm ?_
      refine AWP.seqR rfl ?_
      refine ASL.q (v := (.int .i64 p1)) rfl rfl (Light.quiet (opMove rfl rfl)) ?_
      refine ASL.q (v := (.rptr [(.list 1 (List.map (AV.int .i64) p0.stem)), (.list 1 (List.map (AV.int .i64) p0.loop))])) rfl rfl (Light.quiet (opFieldAddrR rfl fieldA_41_0 rfl rfl)) ?_
      refine ASL.q (v := (.list 1 (List.map (AV.int .i64) p0.stem))) rfl rfl (Light.quiet (opLoadR rfl aggA_32 rfl rfl)) ?_
      refine ASL.q (v := (.int .i64 (p0.stem.length : Int))) rfl rfl (Light.quiet (opLenMap (f := (AV.int .i64)) rfl rfl rfl lenT_32 rfl)) ?_
      refine ASL.q (v := (.int .i64 (W (p1 - ((p0.stem.length : Int)))))) rfl rfl (Light.quiet (opInt rfl rfl rfl rfl)) ?_
      refine ASL.q (v := (.rptr [(.list 1 (List.map (AV.int .i64) p0.loop))])) rfl rfl (Light.quiet (opFieldAddrR rfl fieldA_41_1 rfl rfl)) ?_
      refine ASL.q (v := (.list 1 (List.map (AV.int .i64) p0.loop))) rfl rfl (Light.quiet (opLoadR rfl aggA_32 rfl rfl)) ?_
      refine ASL.q (v := (.int .i64 (p0.loop.length : Int))) rfl rfl (Light.quiet (opLenMap (f := (AV.int .i64)) rfl rfl rfl lenT_32 rfl)) ?_
      obtain ⟨u7, hu7, hF⟩ := bindE hF
      refine ASL.q (v := (.int .i64 (Int.tmod ((W (p1 - ((p0.stem.length : Int))))) ((p0.loop.length : Int))))) rfl rfl (Light.quiet (opRem rfl rfl rfl (of_decide_eq_true (chkE hu7)) rfl)) ?_
      refine ASL.q (v := (.int .i64 (Int.tmod ((W (p1 - ((p0.stem.length : Int))))) ((p0.loop.length : Int))))) rfl rfl (Light.quiet (opAssign rfl rfl)) ?_
      refine ASL.done ?_
      refine AWP.seqD [(0, false), (1, false), (2, false), (3, false), (4, false), (5, false), (6, false), (7, false), (8, false), (9, false), (10, false), (11, true), (12, false)] mixed (by kernel_rfl) rfl ?_
      refine ARL.q0 (v := (.rptr [(.list 1 (List.map (AV.int .i64) p0.loop))])) rfl rfl (Light.quiet (opFieldAddrR rfl fieldA_41_1 rfl rfl)) ?_
      refine ARL.q0 (v := (.list 1 (List.map (AV.int .i64) p0.loop))) rfl rfl (Light.quiet (opLoadR rfl aggA_32 rfl rfl)) ?_
      refine ARL.q0 (v := (.int .i64 (Int.tmod ((W (p1 - ((p0.stem.length : Int))))) ((p0.loop.length : Int))))) rfl rfl (Light.quiet (opMove rfl rfl)) ?_
      obtain ⟨a41, ha41, hF⟩ := bindE hF
      refine ARL.q0 (v := (.list 1 (List.map (AV.int .i64) a41))) rfl rfl (Light.quiet (opCutL (f := (AV.int .i64)) ha41 rfl elemA_32 sizeA_3 rfl (.inr ⟨_, _, rfl, rfl⟩) (.inl ⟨rfl, rfl, rfl⟩))) ?_
      refine ARL.q0 (v := (.rptr [(.list 1 (List.map (AV.int .i64) p0.loop))])) rfl rfl (Light.quiet (opFieldAddrR rfl fieldA_41_1 rfl rfl)) ?_
      refine ARL.q0 (v := (.list 1 (List.map (AV.int .i64) p0.loop))) rfl rfl (Light.quiet (opLoadR rfl aggA_32 rfl rfl)) ?_
      refine ARL.q0 (v := (.int .i64 (Int.tmod ((W (p1 - ((p0.stem.length : Int))))) ((p0.loop.length : Int))))) rfl rfl (Light.quiet (opMove rfl rfl)) ?_
      obtain ⟨a45, ha45, hF⟩ := bindE hF
      refine ARL.q0 (v := (.list 1 (List.map (AV.int .i64) a45))) rfl rfl (Light.quiet (opCutL (f := (AV.int .i64)) ha45 rfl elemA_32 sizeA_3 rfl (.inl ⟨rfl, rfl⟩) (.inr ⟨_, _, rfl, rfl, .inl rfl⟩))) ?_
      refine ARL.q0 (v := (.list 1 (List.map (fun xs : (List Int) => AV.list 1 (List.map (AV.int .i64) xs)) [a41, a45]))) rfl rfl ((qLit (xs := [(.list 1 (List.map (AV.int .i64) a41)), (.list 1 (List.map (AV.int .i64) a45))]) rfl elemA_120 sizeA_32 zeroA_32 rfl rfl rfl rfl (by simp [cells]) (nlt rfl))) ?_
      obtain ⟨a47, ha47, hF⟩ := bindE hF
      refine ARL.q0 (v := (.list 1 (List.map (AV.int .i64) a47))) rfl rfl ((qCall rfl rfl call_92 (PO.list (slices_Concat_int_int_ok ha47)) rfl)) ?_
      refine ARL.q0 (v := (.agg [(.list 1 (List.map (AV.int .i64) [])), (.list 1 (List.map (AV.int .i64) a47))])) rfl rfl (Light.quiet (opBuildZ (zs := [(.list 1 (List.map (AV.int .i64) [])), (.list 1 (List.map (AV.int .i64) []))]) rfl plan_41 zeroA_41 ⟨.inr ⟨_, rfl, rfl⟩, .inr ⟨_, rfl, rfl⟩, trivial⟩ rfl)) ?_
      refine ARL.n rfl rfl rfl rfl (hPutA hS (j := 0) rfl rfl sizeA_41 rfl rfl rfl rfl rfl (nlt rfl) ?_); rintro G8 hS
      refine ARL.q0 (v := (.bool true)) rfl rfl (Light.quiet (opAssign rfl rfl)) ?_
      refine ARL.done ?_
      refine AWP.ret ?_
      obtain rfl := someE hF
      exact QRet.many (vs := [(.agg [(.list 1 (List.map (AV.int .i64) [])), (.list 1 (List.map (AV.int .i64) a47))]), (.bool true)]) ⟨resOne.at hS (k := 0) rfl rfl aggA_41 sizeA_41, rfl, trivial⟩ (by simp) rfl

set_option maxRecDepth 10000 in
theorem impl_LtlTakes_ok {p0 : (List TNode)} {p1 : TWord} {r : Bool} (hF : impl_LtlTakes p0 p1 = some r) : PC Try.prog 29 [(.list 3 (List.map TNode.av p0)), (TWord.av p1)] fun v => v = (.bool r) := by
  refine PC.enter Try.func29 rfl Try.ntmps29 (by simp) ?_
  have hS := Sep.void; unfold impl_LtlTakes at hF
  refine AWP.seqR rfl ?_
  refine ASL.q (v := (.rptr [(.list 1 (List.map (AV.int .i64) p1.stem)), (.list 1 (List.map (AV.int .i64) p1.loop))])) rfl rfl ((qBoxI (v := (TWord.av p1)) rfl rfl rfl rfl)) ?_
  refine ASL.q (v := (.bool false)) rfl rfl (Light.quiet (opAssign rfl rfl)) ?_
  refine ASL.done ?_
  refine AWP.seqR rfl ?_
  refine ASL.q (v := (.list 3 (List.map TNode.av p0))) rfl rfl (Light.quiet (opMove rfl rfl)) ?_
  refine ASL.q (v := (TWord.av p1)) rfl rfl (Light.quiet (opLoadRA rfl aggA_41 sizeA_41 rfl (nlt rfl) rfl)) ?_
  obtain ⟨a7, ha7, hF⟩ := bindE hF
  refine ASL.q (v := (.bool a7)) rfl rfl ((qCall rfl rfl call_25 (impl_LtlAt_ok ha7) rfl)) ?_
  refine ASL.q (v := (.bool a7)) rfl rfl (Light.quiet (opAssign rfl rfl)) ?_
  refine ASL.done ?_
  refine AWP.ret ?_
  obtain rfl := someE hF
  exact QRet.sole (v := (.bool a7)) ⟨rfl, trivial⟩ rfl

set_option maxRecDepth 10000 in
theorem impl_reader_one_ok {p0 : Treader} {p1 : Int} {r : Treader} {bp0 : Nat} {wp0_list : AV} (hF : impl_reader_one p0 p1 = some r) : HS Try.prog 59 [(.ptr bp0 0), (.int .i64 p1)] [.cell bp0 [(.str p0.s), (.int .i64 p0.at_), (.int .i64 p0.code), wp0_list, .undef], .row 3 wp0_list (List.map TNode.av p0.list)] fun v L' => ∃ up0_list : AV, v = .tup [] ∧ L' = [.cell bp0 [(.str r.s), (.int .i64 r.at_), (.int .i64 r.code), up0_list, .undef], .row 3 up0_list (List.map TNode.av r.list)] := by
  intro H S hS
  refine HC.enter Try.func59 rfl Try.ntmps59 (by simp) ?_
  simp only [List.cons_append, List.nil_append] at hS
  unfold impl_reader_one at hF
  refine AWP.lastD [(0, false), (1, false), (2, false), (3, false), (4, false), (5, false), (6, false), (7, false), (8, false), (9, false), (10, false), (11, false), (12, false), (13, false), (14, true), (15, false), (16, false), (17, true)] mixed (by kernel_rfl) rfl ?_
  refine ARL.q0 (v := (.ptr bp0 0)) rfl rfl (Light.quiet (opMove rfl rfl)) ?_
  refine ARL.q0 (v := (.ptr bp0 0)) rfl rfl (Light.quiet (opMove rfl rfl)) ?_
  refine ARL.q0 (v := (.ptr bp0 0)) rfl rfl (Light.quiet (opNil rfl rfl rfl)) ?_
  refine ARL.q0 (v := (.ptr bp0 3)) rfl rfl (Light.quiet (opFieldAddr rfl fieldA_75_3 rfl rfl)) ?_
  refine ARL.q (v := wp0_list) rfl rfl (hS.aliveC (k := 0) rfl) (Light.quiet (kAt hS (j := 0) rfl rfl aggA_24 rfl rfl)) ?_
  refine ARL.q0 (v := (.int .i64 p1)) rfl rfl (Light.quiet (opMove rfl rfl)) ?_
  refine ARL.q0 (v := (.ptr bp0 0)) rfl rfl (Light.quiet (opMove rfl rfl)) ?_
  refine ARL.q0 (v := (.ptr bp0 0)) rfl rfl (Light.quiet (opNil rfl rfl rfl)) ?_
  refine ARL.q0 (v := (.ptr bp0 3)) rfl rfl (Light.quiet (opFieldAddr rfl fieldA_75_3 rfl rfl)) ?_
  refine ARL.q (v := wp0_list) rfl rfl (hS.aliveC (k := 0) rfl) (Light.quiet (kAt hS (j := 0) rfl rfl aggA_24 rfl rfl)) ?_
  refine ARL.q0 (v := (.int .i64 (p0.list.length : Int))) rfl rfl (Light.quiet (kLen hS (j := 1) rfl rfl rfl rfl lenT_24 rfl)) ?_
  refine ARL.q0 (v := (.int .i64 (W (((p0.list.length : Int)) - 1)))) rfl rfl (Light.quiet (opInt rfl rfl rfl rfl)) ?_
  refine ARL.q0 (v := (.agg [(.int .i64 p1), (.int .i64 (W (((p0.list.length : Int)) - 1))), (.int .i64 0)])) rfl rfl (Light.quiet (opBuildZ (zs := [(.int .i64 0), (.int .i64 0), (.int .i64 0)]) rfl plan_59 zeroA_59 ⟨.inl rfl, .inl rfl, .inl rfl, trivial⟩ rfl)) ?_
  refine ARL.q0 (v := (.list 3 (List.map TNode.av [(TNode.mk p1 ((W (((p0.list.length : Int)) - 1))) 0)]))) rfl rfl ((qLit (xs := [(.agg [(.int .i64 p1), (.int .i64 (W (((p0.list.length : Int)) - 1))), (.int .i64 0)])]) rfl elemA_24 sizeA_59 zeroA_59 rfl rfl rfl rfl (by simp [cells, TNode.av]) (nlt rfl))) ?_
  obtain ⟨z18, hz18, hF⟩ := bindE hF
  refine ARL.y rfl rfl rfl rfl (hApp (f := TNode.av) (ws := [(TNode.mk p1 ((W (((p0.list.length : Int)) - 1))) 0)]) hS (j := 1) rfl hz18 rfl elemA_24 rfl sizeA_59 bytesA_59 zeroA_59 rfl rfl rfl (fun _ => rfl) ?_); rintro v18 G3 hS
  refine ARL.q0 (v := (.ptr bp0 0)) rfl rfl (Light.quiet (opNil rfl rfl rfl)) ?_
  refine ARL.q0 (v := (.ptr bp0 3)) rfl rfl (Light.quiet (opFieldAddr rfl fieldA_75_3 rfl rfl)) ?_
  refine ARL.n rfl rfl rfl rfl (hPut hS (j := 0) rfl rfl sizeA_24 rfl rfl (hS.one (k := 1) rfl) (nlt rfl) ?_); rintro G5 hS
  refine ARL.done ?_
  refine QRet.end ?_
  obtain rfl := someE hF
  exact QRet.many (vs := []) trivial (by simp) ⟨_, ⟨v18, rfl, rfl⟩, hS.pick [0, 1, 2] rfl rfl⟩

set_option maxRecDepth 10000 in
theorem impl_fitting_ok {p0 : (List TNode)} {r : ((List TNode) × Bool)} {vp0 : AV} (hF : impl_fitting p0 = some r) : HS Try.prog 55 [vp0] [.row 3 vp0 (List.map TNode.av p0)] fun v L' => ∃ o0 : AV, v = .tup [o0, (.bool r.2)] ∧ L' = [.row 3 o0 (List.map TNode.av r.1)] := by
  intro H S hS
  refine HC.enter Try.func55 rfl Try.ntmps55 (by simp) ?_
  simp only [List.cons_append, List.nil_append] at hS
  unfold impl_fitting at hF
  refine AWP.seqR rfl ?_
  have hS := hNil (s := 3) (f := TNode.av) hS
  refine ASL.q (v := .nil) rfl rfl (Light.quiet (opAssign rfl rfl)) ?_
  refine ASL.q (v := (.bool false)) rfl rfl (Light.quiet (opAssign rfl rfl)) ?_
  refine ASL.done ?_
  refine AWP.seq ?_
  refine AWP.seqR rfl ?_
  refine ASL.q (v := vp0) rfl rfl (Light.quiet (opMove rfl rfl)) ?_
  refine ASL.q (v := (.int .i64 (p0.length : Int))) rfl rfl (Light.quiet (kLen hS (j := 1) rfl rfl rfl rfl lenT_24 rfl)) ?_
  refine ASL.q (v := (.bool (decide (((p0.length : Int)) > 31)))) rfl rfl (Light.quiet (opInt rfl rfl rfl rfl)) ?_
  refine ASL.done ?_
  refine AWP.ifP hF rfl (fun hc3 hF => ?_) (fun hc3 hF => ?_)
  · skip
    refine AWP.seqR rfl ?_
    have hS := hNil (s := 3) (f := TNode.av) hS
    refine ASL.q (v := .nil) rfl rfl (Light.quiet (opAssign rfl rfl)) ?_
    refine ASL.q (v := (.bool false)) rfl rfl (Light.quiet (opAssign rfl rfl)) ?_
    refine ASL.done ?_
    refine AWP.ret ?_
    refine QThen.rt ?_
    obtain rfl := someE hF
    exact QRet.many (vs := [.nil, (.bool false)]) ⟨rfl, rfl, trivial⟩ (by simp) ⟨_, ⟨.nil, rfl, rfl⟩, hS.pick [0, 3] rfl rfl⟩
  · skip
    refine AWP.skip ?_
    refine QThen.nrm ?_
    refine AWP.seqR rfl ?_
    refine ASL.q (v := vp0) rfl rfl (Light.quiet (opMove rfl rfl)) ?_
    refine ASL.q (v := vp0) rfl rfl (Light.quiet (opAssign rfl rfl)) ?_
    refine ASL.q (v := (.bool true)) rfl rfl (Light.quiet (opAssign rfl rfl)) ?_
    refine ASL.done ?_
    refine AWP.ret ?_
    obtain rfl := someE hF
    exact QRet.many (vs := [vp0, (.bool true)]) ⟨rfl, rfl, trivial⟩ (by simp) ⟨_, ⟨vp0, rfl, rfl⟩, hS.pick [1, 2] rfl rfl⟩

set_option maxRecDepth 10000 in
theorem impl_LtlNot_ok {p0 : (List TNode)} {r : ((List TNode) × Bool)} (hF : impl_LtlNot p0 = some r) : HS Try.prog 14 [(.list 3 (List.map TNode.av p0))] [] fun v L' => ∃ o0 : AV, v = .tup [o0, (.bool r.2)] ∧ L' = [.row 3 o0 (List.map TNode.av r.1)] := by
  intro H S hS
  refine HC.enter Try.func14 rfl Try.ntmps14 (by simp) ?_
  simp only [List.cons_append, List.nil_append] at hS
  unfold impl_LtlNot at hF
  refine AWP.seqR rfl ?_
  have hS := hNil (s := 3) (f := TNode.av) hS
  refine ASL.q (v := .nil) rfl rfl (Light.quiet (opAssign rfl rfl)) ?_
  refine ASL.q (v := (.bool false)) rfl rfl (Light.quiet (opAssign rfl rfl)) ?_
  refine ASL.done ?_
  refine AWP.seq ?_
  refine AWP.seqR rfl ?_
  refine ASL.q (v := (.list 3 (List.map TNode.av p0))) rfl rfl (Light.quiet (opMove rfl rfl)) ?_
  obtain ⟨a6, ha6, hF⟩ := bindE hF
  refine ASL.q (v := (.bool a6)) rfl rfl ((qCall rfl rfl call_16 (impl_LtlOk_ok ha6) rfl)) ?_
  refine ASL.q (v := (.bool (!a6))) rfl rfl (Light.quiet (opNot rfl rfl)) ?_
  refine ASL.done ?_
  refine AWP.ifB hF rfl (fun hc2 hF => ?_) (fun hc2 hF => ?_)
  · skip
    refine AWP.seqR rfl ?_
    have hS := hNil (s := 3) (f := TNode.av) hS
    refine ASL.q (v := .nil) rfl rfl (Light.quiet (opAssign rfl rfl)) ?_
    refine ASL.q (v := (.bool false)) rfl rfl (Light.quiet (opAssign rfl rfl)) ?_
    refine ASL.done ?_
    refine AWP.ret ?_
    refine QThen.rt ?_
    obtain rfl := someE hF
    exact QRet.many (vs := [.nil, (.bool false)]) ⟨rfl, rfl, trivial⟩ (by simp) ⟨_, ⟨.nil, rfl, rfl⟩, hS.pick [0, 2] rfl rfl⟩
  · skip
    refine AWP.skip ?_
    refine QThen.nrm ?_
    refine AWP.seqR rfl ?_
    refine ASL.q (v := (.agg [(.str ⟨#[]⟩), (.int .i64 0), (.int .i64 0), .nil, .undef])) rfl rfl (Light.quiet (opBuildZ (zs := [(.str ⟨#[]⟩), (.int .i64 0), (.int .i64 0), .nil, .undef]) rfl plan_75 zeroA_75 ⟨.inl rfl, .inl rfl, .inl rfl, .inl rfl, .inl rfl, trivial⟩ rfl)) ?_
    have hS := hNil (s := 3) (f := TNode.av) hS
    refine ASL.x rfl rfl (hBox hS rfl rfl rfl ?_); rintro b9 G4 hK hS
    refine ASL.q (v := (.ptr b9 0)) rfl rfl (Light.quiet (opAssign rfl rfl)) ?_
    refine ASL.done ?_
    refine AWP.seqR rfl ?_
    refine ASL.q (v := (.ptr b9 0)) rfl rfl (Light.quiet (opMove rfl rfl)) ?_
    refine ASL.q (v := (.ptr b9 0)) rfl rfl (Light.quiet (opMove rfl rfl)) ?_
    refine ASL.q (v := (.ptr b9 0)) rfl rfl (Light.quiet (opNil rfl rfl rfl)) ?_
    refine ASL.q (v := (.ptr b9 3)) rfl rfl (Light.quiet (opFieldAddr rfl fieldA_75_3 rfl rfl)) ?_
    refine ASL.q (v := .nil) rfl rfl (Light.quiet (kAt hS (j := 0) rfl rfl aggA_24 rfl rfl)) ?_
    refine ASL.q (v := (.list 3 (List.map TNode.av p0))) rfl rfl (Light.quiet (opMove rfl rfl)) ?_
    obtain ⟨z16, hz16, hF⟩ := bindE hF
    refine ASL.x rfl rfl (hApp (f := TNode.av) (ws := p0) hS (j := 1) rfl hz16 rfl elemA_24 rfl sizeA_59 bytesA_59 zeroA_59 rfl rfl rfl (fun _ => rfl) ?_); rintro v16 G7 hS
    refine ASL.q (v := (.ptr b9 0)) rfl rfl (Light.quiet (opNil rfl rfl rfl)) ?_
    refine ASL.q (v := (.ptr b9 3)) rfl rfl (Light.quiet (opFieldAddr rfl fieldA_75_3 rfl rfl)) ?_
    refine ASL.n rfl rfl (hPut hS (j := 0) rfl rfl sizeA_24 rfl rfl (hS.one (k := 1) rfl) (nlt rfl) ?_); rintro G9 hS
    refine ASL.done ?_
    refine AWP.seqR rfl ?_
    refine ASL.q (v := (.ptr b9 0)) rfl rfl (Light.quiet (opMove rfl rfl)) ?_
    obtain ⟨a20, ha20, hF⟩ := bindE hF
    refine ASL.x rfl rfl (hCallS hS [0, 1, 2, 3] (F := [.row 3 .nil (List.map TNode.av ([])), .snap S]) rfl rfl rfl call_59 (impl_reader_one_ok ha20) rfl rfl ?_); rintro _ _ G12 ⟨w10, rfl, rfl⟩ hS
    refine ASL.done ?_
    refine AWP.seqR rfl ?_
    refine ASL.q (v := (.ptr b9 0)) rfl rfl (Light.quiet (opMove rfl rfl)) ?_
    refine ASL.q (v := (.ptr b9 0)) rfl rfl (Light.quiet (opNil rfl rfl rfl)) ?_
    refine ASL.q (v := (.ptr b9 3)) rfl rfl (Light.quiet (opFieldAddr rfl fieldA_75_3 rfl rfl)) ?_
    refine ASL.q (v := w10) rfl rfl (Light.quiet (kAt hS (j := 0) rfl rfl aggA_24 rfl rfl)) ?_
    obtain ⟨a25, ha25, hF⟩ := bindE hF
    refine ASL.x rfl rfl (hCallS hS [1, 0, 2, 3] (F := [.cell b9 [(.str a20.s), (.int .i64 a20.at_), (.int .i64 a20.code), w10, .undef], .row 3 .nil (List.map TNode.av ([])), .snap S]) rfl rfl rfl call_55 (impl_fitting_ok ha25) rfl rfl ?_); rintro _ _ G15 ⟨w13, rfl, rfl⟩ hS
    refine ASL.q (v := w13) rfl rfl (Light.quiet (opExtract rfl rfl rfl)) ?_
    refine ASL.q (v := (.bool a25.2)) rfl rfl (Light.quiet (opExtract rfl rfl rfl)) ?_
    refine ASL.q (v := w13) rfl rfl (Light.quiet (opAssign rfl rfl)) ?_
    refine ASL.q (v := (.bool a25.2)) rfl rfl (Light.quiet (opAssign rfl rfl)) ?_
    refine ASL.done ?_
    refine AWP.ret ?_
    obtain rfl := someE hF
    exact QRet.many (vs := [w13, (.bool a25.2)]) ⟨rfl, rfl, trivial⟩ (by simp) ⟨_, ⟨w13, rfl, rfl⟩, hS.pick [0, 3] rfl rfl⟩

end Go.Proofs.Ytjjlkncefgfljaa
