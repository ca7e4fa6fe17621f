/- Each of these functions of the program comes to just what its plain function says: FnExactOmegaOk. -/
import Derived.Test.YtpikdepigcmfnaaDOmegaOk
import Derived.Test.YtpikdepigcmfnaaFa
import Derived.Test.YtpikdepigcmfnaaKReOk
namespace Go.Proofs.Ytpikdepigcmfnaa
open Go Go.RowKit E
set_option linter.unusedVariables false
set_option maxRecDepth 10000 in
theorem laws_szOmega_ok (p0 : TOmega) (p1 : Int) : PC Try.prog 72 [(TOmega.av p0), (.int .i64 p1)] fun v => v = (.int .i64 (laws_szOmega p0 p1)) := by
  generalize hF : laws_szOmega p0 p1 = r
  refine PC.enter Try.func72 rfl Try.ntmps72 (by simp) ?_
  have hS := Sep.void; unfold laws_szOmega at hF
  refine AWP.seqR rfl ?_
  refine ASL.q (v := (.rptr [(.list 3 (List.map TNode.av p0.stem)), (.list 3 (List.map TNode.av p0.loop))])) rfl rfl ((qBoxI (v := (TOmega.av p0)) rfl rfl rfl rfl)) ?_
  refine ASL.q (v := (.int .i64 0)) rfl rfl (Light.quiet (opAssign rfl rfl)) ?_
  refine ASL.done ?_
  refine AWP.seqR rfl ?_
  refine ASL.q (v := (.rptr [(.list 3 (List.map TNode.av p0.stem)), (.list 3 (List.map TNode.av p0.loop))])) rfl rfl (Light.quiet (opFieldAddrR rfl fieldA_94_0 rfl rfl)) ?_
  refine ASL.q (v := (.list 3 (List.map TNode.av p0.stem))) rfl rfl (Light.quiet (opLoadR rfl aggA_22 rfl rfl)) ?_
  refine ASL.q (v := (.int .i64 p1)) rfl rfl (Light.quiet (opMove rfl rfl)) ?_
  refine ASL.q (v := (.int .i64 (laws_szNodeS p0.stem p1))) rfl rfl ((qCall rfl rfl call_15 (laws_szNodeS_ok p0.stem p1) rfl)) ?_
  refine ASL.q (v := (.int .i64 (laws_szNodeS p0.stem p1))) rfl rfl (Light.quiet (opAssign rfl rfl)) ?_
  refine ASL.done ?_
  refine AWP.seq ?_
  refine AWP.seqR rfl ?_
  refine ASL.q (v := (.int .i64 (laws_szNodeS p0.stem p1))) rfl rfl (Light.quiet (opMove rfl rfl)) ?_
  refine ASL.q (v := (.bool (decide (((laws_szNodeS p0.stem p1)) < 0)))) rfl rfl (Light.quiet (opInt rfl rfl rfl rfl)) ?_
  refine ASL.done ?_
  refine AWP.ifP hF rfl (fun hc1 hF => ?_) (fun hc1 hF => ?_)
  · skip
    refine AWP.seqR rfl ?_
    refine ASL.q (v := (.int .i64 (-1))) rfl rfl (Light.quiet (opAssign rfl rfl)) ?_
    refine ASL.done ?_
    refine AWP.ret ?_
    refine QThen.rt ?_
    obtain rfl := hF
    exact QRet.sole (v := (.int .i64 (-1))) ⟨rfl, trivial⟩ rfl
  · skip
    refine AWP.skip ?_
    refine QThen.nrm ?_
    refine AWP.seqR rfl ?_
    refine ASL.q (v := (.rptr [(.list 3 (List.map TNode.av p0.loop))])) rfl rfl (Light.quiet (opFieldAddrR rfl fieldA_94_1 rfl rfl)) ?_
    refine ASL.q (v := (.list 3 (List.map TNode.av p0.loop))) rfl rfl (Light.quiet (opLoadR rfl aggA_22 rfl rfl)) ?_
    refine ASL.q (v := (.int .i64 (laws_szNodeS p0.stem p1))) rfl rfl (Light.quiet (opMove rfl rfl)) ?_
    refine ASL.q (v := (.int .i64 (laws_szNodeS p0.loop ((laws_szNodeS p0.stem p1))))) rfl rfl ((qCall rfl rfl call_15 (laws_szNodeS_ok p0.loop ((laws_szNodeS p0.stem p1))) rfl)) ?_
    refine ASL.q (v := (.int .i64 (laws_szNodeS p0.loop ((laws_szNodeS p0.stem p1))))) rfl rfl (Light.quiet (opAssign rfl rfl)) ?_
    refine ASL.done ?_
    refine AWP.seq ?_
    refine AWP.seqR rfl ?_
    refine ASL.q (v := (.int .i64 (laws_szNodeS p0.loop ((laws_szNodeS p0.stem p1))))) rfl rfl (Light.quiet (opMove rfl rfl)) ?_
    refine ASL.q (v := (.bool (decide (((laws_szNodeS p0.loop ((laws_szNodeS p0.stem p1)))) < 0)))) rfl rfl (Light.quiet (opInt rfl rfl rfl rfl)) ?_
    refine ASL.done ?_
    refine AWP.ifP hF rfl (fun hc2 hF => ?_) (fun hc2 hF => ?_)
    · skip
      refine AWP.seqR rfl ?_
      refine ASL.q (v := (.int .i64 (-1))) rfl rfl (Light.quiet (opAssign rfl rfl)) ?_
      refine ASL.done ?_
      refine AWP.ret ?_
      refine QThen.rt ?_
      obtain rfl := hF
      exact QRet.sole (v := (.int .i64 (-1))) ⟨rfl, trivial⟩ rfl
    · skip
      refine AWP.skip ?_
      refine QThen.nrm ?_
      refine AWP.seqR rfl ?_
      refine ASL.q (v := (.int .i64 (laws_szNodeS p0.loop ((laws_szNodeS p0.stem p1))))) rfl rfl (Light.quiet (opMove rfl rfl)) ?_
      refine ASL.q (v := (.int .i64 (laws_szNodeS p0.loop ((laws_szNodeS p0.stem p1))))) rfl rfl (Light.quiet (opAssign rfl rfl)) ?_
      refine ASL.done ?_
      refine AWP.ret ?_
      obtain rfl := hF
      exact QRet.sole (v := (.int .i64 (laws_szNodeS p0.loop ((laws_szNodeS p0.stem p1))))) ⟨rfl, trivial⟩ rfl

set_option maxRecDepth 10000 in
theorem laws_szOmegaS_ok {p0 : (List TOmega)} {p1 : Int} {r : Int} (hF : laws_szOmegaS p0 p1 = some r) : PC Try.prog 32 [(.list 2 (List.map TOmega.av p0)), (.int .i64 p1)] fun v => v = (.int .i64 r) := by
  refine PC.enter Try.func32 rfl Try.ntmps32 (by simp) ?_
  have hS := Sep.void; unfold laws_szOmegaS at hF
  refine AWP.seqR rfl ?_
  refine ASL.q (v := (.int .i64 0)) rfl rfl (Light.quiet (opAssign rfl rfl)) ?_
  refine ASL.done ?_
  refine AWP.seqR rfl ?_
  refine ASL.q (v := (.int .i64 p1)) rfl rfl (Light.quiet (opMove rfl rfl)) ?_
  refine ASL.q (v := (.list 2 (List.map TOmega.av p0))) rfl rfl (Light.quiet (opMove rfl rfl)) ?_
  refine ASL.q (v := (.int .i64 (p0.length : Int))) rfl rfl (Light.quiet (opLenMap (f := TOmega.av) rfl rfl rfl lenT_39 rfl)) ?_
  refine ASL.q (v := (.int .i64 (W (p1 - ((p0.length : Int)))))) rfl rfl (Light.quiet (opInt rfl rfl rfl rfl)) ?_
  refine ASL.q (v := (.int .i64 (W (p1 - ((p0.length : Int)))))) rfl rfl (Light.quiet (opAssign rfl rfl)) ?_
  refine ASL.done ?_
  refine AWP.seq ?_
  refine AWP.seqR rfl ?_
  refine ASL.q (v := (.int .i64 (W (p1 - ((p0.length : Int)))))) rfl rfl (Light.quiet (opMove rfl rfl)) ?_
  refine ASL.q (v := (.bool (decide (((W (p1 - ((p0.length : Int))))) < 0)))) rfl rfl (Light.quiet (opInt rfl rfl rfl rfl)) ?_
  refine ASL.done ?_
  refine AWP.ifP hF rfl (fun hc1 hF => ?_) (fun hc1 hF => ?_)
  · skip
    refine AWP.seqR rfl ?_
    refine ASL.q (v := (.int .i64 (-1))) rfl rfl (Light.quiet (opAssign rfl rfl)) ?_
    refine ASL.done ?_
    refine AWP.ret ?_
    refine QThen.rt ?_
    obtain rfl := someE hF
    exact QRet.sole (v := (.int .i64 (-1))) ⟨rfl, trivial⟩ rfl
  · skip
    refine AWP.skip ?_
    refine QThen.nrm ?_
    refine AWP.seqM (fun e H => ∃ x1_1 : Int, E.Told e [(1, (.int .i64 x1_1))] ∧ E.Sep H [] ∧ laws_szOmegaS.k0 x1_1 = some r) ?_ ?_
    · rintro e0 G2 ⟨x1_1, hT, hS, hF⟩; refine AWP.only _ hT ?_; unfold laws_szOmegaS.k0 at hF
      refine AWP.seqR rfl ?_
      refine ASL.q (v := (.int .i64 x1_1)) rfl rfl (Light.quiet (opMove rfl rfl)) ?_
      refine ASL.q (v := (.int .i64 x1_1)) rfl rfl (Light.quiet (opAssign rfl rfl)) ?_
      refine ASL.done ?_
      refine AWP.ret ?_
      obtain rfl := someE hF
      exact QRet.sole (v := (.int .i64 x1_1)) ⟨rfl, trivial⟩ rfl
    · skip
      refine AWP.seqR rfl ?_
      refine ASL.q (v := (.int .i64 0)) rfl rfl (Light.quiet (opAssign rfl rfl)) ?_
      refine ASL.done ?_
      refine AWP.block ?_
      obtain ⟨o6, hL5, hR7⟩ := bindE hF
      refine AWP.loopF (ω := Unit) hL5 (fun s w => [(0, (.list 2 (List.map TOmega.av p0))), (1, (.int .i64 s.1)), (5, (.int .i64 s.2))]) (fun s w => []) () ⟨rfl, rfl, rfl, trivial⟩ (hS.pick [] rfl rfl) ?_
      rintro ⟨x1_l0, x5_l0⟩ _ G8 hS x3 hF hx4
      try dsimp only at hS ⊢
      have hF : laws_szOmegaS.b0 p0 x1_l0 x5_l0 = some x3 := hF; unfold laws_szOmegaS.b0 at hF
      refine AWP.seq ?_
      refine AWP.seqR rfl ?_
      refine ASL.q (v := (.int .i64 x5_l0)) rfl rfl (Light.quiet (opMove rfl rfl)) ?_
      refine ASL.q (v := (.list 2 (List.map TOmega.av p0))) rfl rfl (Light.quiet (opMove rfl rfl)) ?_
      refine ASL.q (v := (.int .i64 (p0.length : Int))) rfl rfl (Light.quiet (opLenMap (f := TOmega.av) rfl rfl rfl lenT_39 rfl)) ?_
      refine ASL.q (v := (.bool (decide (x5_l0 < ((p0.length : Int)))))) rfl rfl (Light.quiet (opInt rfl rfl rfl rfl)) ?_
      refine ASL.done ?_
      refine AWP.ifP hF rfl (fun hc9 hF => ?_) (fun hc9 hF => ?_)
      · skip
        refine AWP.skip ?_
        refine QThen.nrm ?_
        refine AWP.seq ?_
        refine AWP.block ?_
        refine AWP.seqR rfl ?_
        refine ASL.q (v := (.list 2 (List.map TOmega.av p0))) rfl rfl (Light.quiet (opMove rfl rfl)) ?_
        refine ASL.q (v := (.int .i64 x5_l0)) rfl rfl (Light.quiet (opMove rfl rfl)) ?_
        obtain ⟨a20, ha20, hF⟩ := bindE hF
        refine ASL.q (v := (.rptr [(.list 3 (List.map TNode.av a20.stem)), (.list 3 (List.map TNode.av a20.loop))])) rfl rfl (Light.quiet (kIx (f := TOmega.av) ha20 rfl rfl rfl elemA_39 sizeA_94 rfl)) ?_
        refine ASL.q (v := (TOmega.av a20)) rfl rfl (Light.quiet (opLoadRA rfl aggA_94 sizeA_94 rfl (nlt rfl) rfl)) ?_
        refine ASL.q (v := (.int .i64 x1_l0)) rfl rfl (Light.quiet (opMove rfl rfl)) ?_
        refine ASL.q (v := (.int .i64 (laws_szOmega a20 x1_l0))) rfl rfl ((qCall rfl rfl call_72 (laws_szOmega_ok a20 x1_l0) rfl)) ?_
        refine ASL.q (v := (.int .i64 (laws_szOmega a20 x1_l0))) rfl rfl (Light.quiet (opAssign rfl rfl)) ?_
        refine ASL.done ?_
        refine AWP.seqR rfl ?_
        refine ASL.q (v := (.int .i64 (laws_szOmega a20 x1_l0))) rfl rfl (Light.quiet (opMove rfl rfl)) ?_
        refine ASL.q (v := (.bool (decide (((laws_szOmega a20 x1_l0)) < 0)))) rfl rfl (Light.quiet (opInt rfl rfl rfl rfl)) ?_
        refine ASL.done ?_
        refine AWP.ifP hF rfl (fun hc10 hF => ?_) (fun hc10 hF => ?_)
        · skip
          refine AWP.seqR rfl ?_
          refine ASL.q (v := (.int .i64 (-1))) rfl rfl (Light.quiet (opAssign rfl rfl)) ?_
          refine ASL.done ?_
          refine AWP.ret ?_
          refine QBlock.ret ?_
          refine QThen.rt ?_
          refine QThen.rt ?_
          refine QBlock.ret ?_
          refine QThen.rt ?_
          obtain rfl := (hx4 _ (someE hF).symm)
          have hF := hR7
          have hF := sumR hF
          obtain rfl := someE hF
          exact QRet.sole (v := (.int .i64 (-1))) ⟨rfl, trivial⟩ rfl
        · skip
          refine AWP.skip ?_
          refine QBlock.nrm ?_
          refine QThen.nrm ?_
          refine AWP.lastR rfl ?_
          refine ASL.q (v := (.int .i64 x5_l0)) rfl rfl (Light.quiet (opMove rfl rfl)) ?_
          refine ASL.q (v := (.int .i64 (W (x5_l0 + 1)))) rfl rfl (Light.quiet (opInt rfl rfl rfl rfl)) ?_
          refine ASL.q (v := (.int .i64 (W (x5_l0 + 1)))) rfl rfl (Light.quiet (opAssign rfl rfl)) ?_
          refine ASL.done ?_
          refine QThen.nrm ?_
          exact ⟨((laws_szOmega a20 x1_l0), (W (x5_l0 + 1))), (), (someE hF).symm, ⟨rfl, rfl, rfl, trivial⟩, (hS.pick [] rfl rfl)⟩
      · skip
        refine AWP.exit ?_
        refine QThen.ext ?_
        refine QThen.ext ?_
        refine QBlock.hit ?_
        obtain rfl := (hx4 _ (someE hF).symm)
        have hF := hR7
        have hF := sumL hF
        refine QThen.nrm ?_
        exact ⟨x1_l0, ⟨rfl, trivial⟩, (hS.pick [] rfl rfl), hF⟩

set_option maxRecDepth 10000 in
theorem laws_toOmega_ok {p0 : TOmega} {r : TOmega} (hF : laws_toOmega p0 = some r) : PC Try.prog 73 [(TOmega.av p0)] fun v => v = (TOmega.av r) := by
  refine PC.enter Try.func73 rfl Try.ntmps73 (by simp) ?_
  have hS := Sep.void; unfold laws_toOmega at hF
  refine AWP.seqR rfl ?_
  refine ASL.q (v := (.rptr [(.list 3 (List.map TNode.av p0.stem)), (.list 3 (List.map TNode.av p0.loop))])) rfl rfl ((qBoxI (v := (TOmega.av p0)) rfl rfl rfl rfl)) ?_
  refine ASL.x rfl rfl (hNewZ hS [(.list 3 (List.map TNode.av [])), (.list 3 (List.map TNode.av []))] rfl zeroA_96 ⟨.inr ⟨_, rfl, rfl⟩, .inr ⟨_, rfl, rfl⟩, trivial⟩ ?_); rintro b2 G1 hK hS
  refine ASL.done ?_
  refine AWP.seqR rfl ?_
  refine ASL.x rfl rfl (hNewZ hS [(.list 3 (List.map TNode.av [])), (.list 3 (List.map TNode.av []))] rfl zeroA_96 ⟨.inr ⟨_, rfl, rfl⟩, .inr ⟨_, rfl, rfl⟩, trivial⟩ ?_); rintro b3 G3 hK hS
  refine ASL.done ?_
  refine AWP.seqR rfl ?_
  refine ASL.q (v := (.rptr [(.list 3 (List.map TNode.av p0.stem)), (.list 3 (List.map TNode.av p0.loop))])) rfl rfl (Light.quiet (opFieldAddrR rfl fieldA_94_0 rfl rfl)) ?_
  refine ASL.q (v := (.list 3 (List.map TNode.av p0.stem))) rfl rfl (Light.quiet (opLoadR rfl aggA_22 rfl rfl)) ?_
  obtain ⟨a6, ha6, hF⟩ := bindE hF
  refine ASL.q (v := (.list 3 (List.map TNode.av a6))) rfl rfl ((qCall rfl rfl call_17 (PO.list (laws_toNodeS_ok ha6)) rfl)) ?_
  refine ASL.q (v := (.ptr b3 0)) rfl rfl (Light.quiet (opFieldAddr rfl fieldA_96_0 rfl rfl)) ?_
  refine ASL.n rfl rfl (hPut hS (j := 0) rfl rfl sizeA_25 rfl rfl rfl (nlt rfl) ?_); rintro G5 hS
  refine ASL.done ?_
  refine AWP.seqR rfl ?_
  refine ASL.q (v := (.rptr [(.list 3 (List.map TNode.av p0.loop))])) rfl rfl (Light.quiet (opFieldAddrR rfl fieldA_94_1 rfl rfl)) ?_
  refine ASL.q (v := (.list 3 (List.map TNode.av p0.loop))) rfl rfl (Light.quiet (opLoadR rfl aggA_22 rfl rfl)) ?_
  obtain ⟨a10, ha10, hF⟩ := bindE hF
  refine ASL.q (v := (.list 3 (List.map TNode.av a10))) rfl rfl ((qCall rfl rfl call_17 (PO.list (laws_toNodeS_ok ha10)) rfl)) ?_
  refine ASL.q (v := (.ptr b3 1)) rfl rfl (Light.quiet (opFieldAddr rfl fieldA_96_1 rfl rfl)) ?_
  refine ASL.n rfl rfl (hPut hS (j := 0) rfl rfl sizeA_25 rfl rfl rfl (nlt rfl) ?_); rintro G6 hS
  refine ASL.done ?_
  refine AWP.seqR rfl ?_
  refine ASL.q (v := (.agg [(.list 3 (List.map TNode.av a6)), (.list 3 (List.map TNode.av a10))])) rfl rfl (Light.quiet (kAtA hS (j := 0) rfl rfl aggA_96 sizeA_96 rfl (nlt rfl) rfl)) ?_
  refine ASL.n rfl rfl (hPutA hS (j := 1) rfl rfl sizeA_96 rfl rfl rfl rfl rfl (nlt rfl) ?_); rintro G7 hS
  refine ASL.done ?_
  refine AWP.ret ?_
  obtain rfl := someE hF
  exact QRet.sole (v := (.agg [(.list 3 (List.map TNode.av a6)), (.list 3 (List.map TNode.av a10))])) ⟨resOne.at hS (k := 1) rfl rfl aggA_96 sizeA_96, trivial⟩ rfl

set_option maxRecDepth 10000 in
theorem laws_toOmegaS_ok {p0 : (List TOmega)} {r : (List TOmega)} (hF : laws_toOmegaS p0 = some r) : PO Try.prog 34 [(.list 2 (List.map TOmega.av p0))] 2 (List.map TOmega.av r) := by
  refine HC.enter Try.func34 rfl Try.ntmps34 (by simp) ?_
  have hS := Sep.void; unfold laws_toOmegaS at hF
  refine AWP.seqR rfl ?_
  have hS := hNil (s := 2) (f := TOmega.av) hS
  refine ASL.q (v := .nil) rfl rfl (Light.quiet (opAssign rfl rfl)) ?_
  refine ASL.done ?_
  refine AWP.seqR rfl ?_
  refine ASL.q (v := (.list 2 (List.map TOmega.av p0))) rfl rfl (Light.quiet (opMove rfl rfl)) ?_
  refine ASL.q (v := (.int .i64 (p0.length : Int))) rfl rfl (Light.quiet (opLenMap (f := TOmega.av) rfl rfl rfl lenT_39 rfl)) ?_
  obtain ⟨z7, hz7, hF⟩ := bindE hF
  refine ASL.x rfl rfl (hMkZ (f := TOmega.av) hS hz7 (by decide) rfl elemA_42 sizeA_96 bytesA_96 zeroA_96 ⟨.inr ⟨_, rfl, rfl⟩, .inr ⟨_, rfl, rfl⟩, trivial⟩ rfl (by decide) rfl rfl ?_); rintro v7 G2 hK hS
  refine ASL.q (v := v7) rfl rfl (Light.quiet (opAssign rfl rfl)) ?_
  refine ASL.done ?_
  refine AWP.seqM (fun e H => ∃ y4 : (List TOmega), E.Told e [(3, v7)] ∧ E.Sep H [.row 2 v7 (List.map TOmega.av y4)] ∧ laws_toOmegaS.k0 y4 = some r) ?_ ?_
  · rintro e0 G5 ⟨y4, hT, hS, hF⟩; refine AWP.only _ hT ?_; unfold laws_toOmegaS.k0 at hF
    refine AWP.seqR rfl ?_
    refine ASL.q (v := v7) rfl rfl (Light.quiet (opMove rfl rfl)) ?_
    refine ASL.q (v := v7) rfl rfl (Light.quiet (opAssign rfl rfl)) ?_
    refine ASL.done ?_
    refine AWP.ret ?_
    obtain rfl := someE hF
    exact QRet.sole (v := v7) ⟨rfl, trivial⟩ (hS.get (k := 0) rfl)
  · skip
    refine AWP.seqR rfl ?_
    refine ASL.q (v := (.int .i64 0)) rfl rfl (Light.quiet (opAssign rfl rfl)) ?_
    refine ASL.done ?_
    refine AWP.block ?_
    obtain ⟨o10, hL9, hR11⟩ := bindE hF
    refine AWP.loopF (ω := Unit) hL9 (fun s w => [(0, (.list 2 (List.map TOmega.av p0))), (3, v7), (4, (.int .i64 s.2))]) (fun s w => [.row 2 v7 (List.map TOmega.av s.1)]) () ⟨rfl, rfl, rfl, trivial⟩ (hS.pick [0] rfl rfl) ?_
    rintro ⟨y6, x4_l0⟩ _ G12 hS x7 hF hx8
    try dsimp only at hS ⊢
    have hF : laws_toOmegaS.b0 p0 y6 x4_l0 = some x7 := hF; unfold laws_toOmegaS.b0 at hF
    refine AWP.seq ?_
    refine AWP.seqR rfl ?_
    refine ASL.q (v := (.int .i64 x4_l0)) rfl rfl (Light.quiet (opMove rfl rfl)) ?_
    refine ASL.q (v := (.list 2 (List.map TOmega.av p0))) rfl rfl (Light.quiet (opMove rfl rfl)) ?_
    refine ASL.q (v := (.int .i64 (p0.length : Int))) rfl rfl (Light.quiet (opLenMap (f := TOmega.av) rfl rfl rfl lenT_39 rfl)) ?_
    refine ASL.q (v := (.bool (decide (x4_l0 < ((p0.length : Int)))))) rfl rfl (Light.quiet (opInt rfl rfl rfl rfl)) ?_
    refine ASL.done ?_
    refine AWP.ifP hF rfl (fun hc13 hF => ?_) (fun hc13 hF => ?_)
    · skip
      refine AWP.skip ?_
      refine QThen.nrm ?_
      refine AWP.seq ?_
      refine AWP.block ?_
      refine AWP.lastR rfl ?_
      refine ASL.q (v := v7) rfl rfl (Light.quiet (opMove rfl rfl)) ?_
      refine ASL.q (v := (.int .i64 x4_l0)) rfl rfl (Light.quiet (opMove rfl rfl)) ?_
      refine ASL.q (v := (.list 2 (List.map TOmega.av p0))) rfl rfl (Light.quiet (opMove rfl rfl)) ?_
      refine ASL.q (v := (.int .i64 x4_l0)) rfl rfl (Light.quiet (opMove rfl rfl)) ?_
      obtain ⟨a18, ha18, hF⟩ := bindE hF
      refine ASL.q (v := (.rptr [(.list 3 (List.map TNode.av a18.stem)), (.list 3 (List.map TNode.av a18.loop))])) rfl rfl (Light.quiet (kIx (f := TOmega.av) ha18 rfl rfl rfl elemA_39 sizeA_94 rfl)) ?_
      refine ASL.q (v := (TOmega.av a18)) rfl rfl (Light.quiet (opLoadRA rfl aggA_94 sizeA_94 rfl (nlt rfl) rfl)) ?_
      obtain ⟨a20, ha20, hF⟩ := bindE hF
      refine ASL.q (v := (TOmega.av a20)) rfl rfl ((qCall rfl rfl call_73 (laws_toOmega_ok ha20) rfl)) ?_
      obtain ⟨m21, hm21, hF⟩ := bindE hF
      refine ASL.q (v := (ptrTo v7 m21 2)) rfl rfl (Light.quiet (kIxO hS (j := 0) rfl hm21 rfl rfl rfl elemA_42 sizeA_96)) ?_
      refine ASL.n rfl rfl (hSt (f := TOmega.av) (a := a20) hS (j := 0) rfl hm21 rfl sizeA_96 rfl rfl ⟨rfl, rfl, rfl⟩ ?_); rintro G14 hS
      refine ASL.done ?_
      refine QBlock.nrm ?_
      refine QThen.nrm ?_
      refine AWP.lastR rfl ?_
      refine ASL.q (v := (.int .i64 x4_l0)) rfl rfl (Light.quiet (opMove rfl rfl)) ?_
      refine ASL.q (v := (.int .i64 (W (x4_l0 + 1)))) rfl rfl (Light.quiet (opInt rfl rfl rfl rfl)) ?_
      refine ASL.q (v := (.int .i64 (W (x4_l0 + 1)))) rfl rfl (Light.quiet (opAssign rfl rfl)) ?_
      refine ASL.done ?_
      refine QThen.nrm ?_
      exact ⟨((y6.set m21 a20), (W (x4_l0 + 1))), (), (someE hF).symm, ⟨rfl, rfl, rfl, trivial⟩, (hS.pick [0] rfl rfl)⟩
    · skip
      refine AWP.exit ?_
      refine QThen.ext ?_
      refine QThen.ext ?_
      refine QBlock.hit ?_
      obtain rfl := (hx8 _ (someE hF).symm)
      have hF := hR11
      refine QThen.nrm ?_
      exact ⟨y6, ⟨rfl, trivial⟩, (hS.pick [0] rfl rfl), hF⟩

set_option maxRecDepth 10000 in
theorem spec_OmegaOk_ok {p0 : (List TOmega)} {r : Bool} (hF : spec_OmegaOk p0 = some r) : PC Try.prog 33 [(.list 2 (List.map TOmega.av p0))] fun v => v = (.bool r) := by
  refine PC.enter Try.func33 rfl Try.ntmps33 (by simp) ?_
  have hS := Sep.void; unfold spec_OmegaOk at hF
  refine AWP.seqR rfl ?_
  refine ASL.q (v := (.bool false)) rfl rfl (Light.quiet (opAssign rfl rfl)) ?_
  refine ASL.done ?_
  refine AWP.seq ?_
  refine AWP.seqR rfl ?_
  refine ASL.q (v := (.list 2 (List.map TOmega.av p0))) rfl rfl (Light.quiet (opMove rfl rfl)) ?_
  refine ASL.q (v := (.int .i64 (p0.length : Int))) rfl rfl (Light.quiet (opLenMap (f := TOmega.av) rfl rfl rfl lenT_42 rfl)) ?_
  refine ASL.q (v := (.bool (decide (((p0.length : Int)) > 4)))) rfl rfl (Light.quiet (opInt rfl rfl rfl rfl)) ?_
  refine ASL.done ?_
  refine AWP.ifP hF rfl (fun hc1 hF => ?_) (fun hc1 hF => ?_)
  · skip
    refine AWP.seqR rfl ?_
    refine ASL.q (v := (.bool false)) rfl rfl (Light.quiet (opAssign rfl rfl)) ?_
    refine ASL.done ?_
    refine AWP.ret ?_
    refine QThen.rt ?_
    obtain rfl := someE hF
    exact QRet.sole (v := (.bool false)) ⟨rfl, trivial⟩ rfl
  · skip
    refine AWP.skip ?_
    refine QThen.nrm ?_
    refine AWP.seqM (fun e H => E.Told e [] ∧ E.Sep H [] ∧ spec_OmegaOk.k0 = some r) ?_ ?_
    · rintro e0 G2 ⟨hT, hS, hF⟩; refine AWP.only _ hT ?_; unfold spec_OmegaOk.k0 at hF
      refine AWP.seqR rfl ?_
      refine ASL.q (v := (.bool true)) rfl rfl (Light.quiet (opAssign rfl rfl)) ?_
      refine ASL.done ?_
      refine AWP.ret ?_
      obtain rfl := someE hF
      exact QRet.sole (v := (.bool true)) ⟨rfl, trivial⟩ rfl
    · skip
      refine AWP.seqR rfl ?_
      refine ASL.q (v := (.int .i64 0)) rfl rfl (Light.quiet (opAssign rfl rfl)) ?_
      refine ASL.done ?_
      refine AWP.block ?_
      obtain ⟨o6, hL5, hR7⟩ := bindE hF
      refine AWP.loopF (ω := Unit) hL5 (fun s w => [(0, (.list 2 (List.map TOmega.av p0))), (3, (.int .i64 s))]) (fun s w => []) () ⟨rfl, rfl, trivial⟩ (hS.pick [] rfl rfl) ?_
      rintro x3_l0 _ G8 hS x3 hF hx4
      try dsimp only at hS ⊢
      have hF : spec_OmegaOk.b0 p0 x3_l0 = some x3 := hF; unfold spec_OmegaOk.b0 at hF
      refine AWP.seq ?_
      refine AWP.seqR rfl ?_
      refine ASL.q (v := (.int .i64 x3_l0)) rfl rfl (Light.quiet (opMove rfl rfl)) ?_
      refine ASL.q (v := (.list 2 (List.map TOmega.av p0))) rfl rfl (Light.quiet (opMove rfl rfl)) ?_
      refine ASL.q (v := (.int .i64 (p0.length : Int))) rfl rfl (Light.quiet (opLenMap (f := TOmega.av) rfl rfl rfl lenT_42 rfl)) ?_
      refine ASL.q (v := (.bool (decide (x3_l0 < ((p0.length : Int)))))) rfl rfl (Light.quiet (opInt rfl rfl rfl rfl)) ?_
      refine ASL.done ?_
      refine AWP.ifP hF rfl (fun hc9 hF => ?_) (fun hc9 hF => ?_)
      · skip
        refine AWP.skip ?_
        refine QThen.nrm ?_
        refine AWP.seq ?_
        refine AWP.block ?_
        refine AWP.seqR rfl ?_
        refine ASL.q (v := (.list 2 (List.map TOmega.av p0))) rfl rfl (Light.quiet (opMove rfl rfl)) ?_
        refine ASL.q (v := (.int .i64 x3_l0)) rfl rfl (Light.quiet (opMove rfl rfl)) ?_
        obtain ⟨a15, ha15, hF⟩ := bindE hF
        refine ASL.q (v := (.rptr [(.list 3 (List.map TNode.av a15.stem)), (.list 3 (List.map TNode.av a15.loop))])) rfl rfl (Light.quiet (kIx (f := TOmega.av) ha15 rfl rfl rfl elemA_42 sizeA_96 rfl)) ?_
        refine ASL.q (v := (.rptr [(.list 3 (List.map TNode.av a15.stem)), (.list 3 (List.map TNode.av a15.loop))])) rfl rfl (Light.quiet (opFieldAddrR rfl fieldA_96_0 rfl rfl)) ?_
        refine ASL.q (v := (.list 3 (List.map TNode.av a15.stem))) rfl rfl (Light.quiet (opLoadR rfl aggA_25 rfl rfl)) ?_
        obtain ⟨a18, ha18, hF⟩ := bindE hF
        refine ASL.q (v := (.bool a18)) rfl rfl ((qCall rfl rfl call_16 (spec_ReOk_ok ha18) rfl)) ?_
        refine ASL.q (v := (.bool (!a18))) rfl rfl (Light.quiet (opNot rfl rfl)) ?_
        obtain ⟨c20, hc20, hF⟩ := bndE hF
        refine ASL.q (v := (.bool c20)) rfl rfl ((Quiet.cast (Light.quiet (opMove rfl rfl)) (congrArg AV.bool hc20.symm))) ?_
        refine ASL.g (v := (.list 2 (List.map TOmega.av p0))) (.bool c20) false rfl (wF _) rfl (fun hG => by have q0 := gN hG; subst q0; exact Light.quiet (opMove rfl rfl)) ?_
        refine ASL.g (v := (.int .i64 x3_l0)) (.bool c20) false rfl (wF _) rfl (fun hG => by have q0 := gN hG; subst q0; exact Light.quiet (opMove rfl rfl)) ?_
        obtain ⟨a23, ha23, hF⟩ := bindE hF
        refine ASL.g (v := (.rptr [(.list 3 (List.map TNode.av a23.stem)), (.list 3 (List.map TNode.av a23.loop))])) (.bool c20) false rfl (wF _) rfl (fun hG => by have q0 := gN hG; subst q0; exact Light.quiet (kIx (f := TOmega.av) (whenE ha23) rfl rfl rfl elemA_42 sizeA_96 rfl)) ?_
        refine ASL.g (v := (.rptr [(.list 3 (List.map TNode.av a23.loop))])) (.bool c20) false rfl (wF _) rfl (fun hG => by have q0 := gN hG; subst q0; exact Light.quiet (opFieldAddrR rfl fieldA_96_1 rfl rfl)) ?_
        refine ASL.g (v := (.list 3 (List.map TNode.av a23.loop))) (.bool c20) false rfl (wF _) rfl (fun hG => by have q0 := gN hG; subst q0; exact Light.quiet (opLoadR rfl aggA_25 rfl rfl)) ?_
        obtain ⟨a26, ha26, hF⟩ := bindE hF
        refine ASL.g (v := (.bool a26)) (.bool c20) false rfl (wF _) rfl (fun hG => by have q0 := gN hG; subst q0; exact (qCall rfl rfl call_16 (spec_ReOk_ok (whenE ha26)) rfl)) ?_
        refine ASL.g (v := (.bool (!a26))) (.bool c20) false rfl (wF _) rfl (fun hG => by have q0 := gN hG; subst q0; exact Light.quiet (opNot rfl rfl)) ?_
        refine ASL.q (v := (.bool (c20 || (!a26)))) rfl rfl (Light.quiet (opPick (b := c20) rfl rfl (by cases c20 <;> rfl))) ?_
        refine ASL.done ?_
        refine AWP.ifB hF rfl (fun hc10 hF => ?_) (fun hc10 hF => ?_)
        · skip
          refine AWP.seqR rfl ?_
          refine ASL.q (v := (.bool false)) rfl rfl (Light.quiet (opAssign rfl rfl)) ?_
          refine ASL.done ?_
          refine AWP.ret ?_
          refine QBlock.ret ?_
          refine QThen.rt ?_
          refine QThen.rt ?_
          refine QBlock.ret ?_
          refine QThen.rt ?_
          obtain rfl := (hx4 _ (someE hF).symm)
          have hF := hR7
          have hF := sumR hF
          obtain rfl := someE hF
          exact QRet.sole (v := (.bool false)) ⟨rfl, trivial⟩ rfl
        · skip
          refine AWP.skip ?_
          refine QBlock.nrm ?_
          refine QThen.nrm ?_
          refine AWP.lastR rfl ?_
          refine ASL.q (v := (.int .i64 x3_l0)) rfl rfl (Light.quiet (opMove rfl rfl)) ?_
          refine ASL.q (v := (.int .i64 (W (x3_l0 + 1)))) rfl rfl (Light.quiet (opInt rfl rfl rfl rfl)) ?_
          refine ASL.q (v := (.int .i64 (W (x3_l0 + 1)))) rfl rfl (Light.quiet (opAssign rfl rfl)) ?_
          refine ASL.done ?_
          refine QThen.nrm ?_
          exact ⟨(W (x3_l0 + 1)), (), (someE hF).symm, ⟨rfl, rfl, trivial⟩, (hS.pick [] rfl rfl)⟩
      · skip
        refine AWP.exit ?_
        refine QThen.ext ?_
        refine QThen.ext ?_
        refine QBlock.hit ?_
        obtain rfl := (hx4 _ (someE hF).symm)
        have hF := hR7
        have hF := sumL hF
        refine QThen.nrm ?_
        exact ⟨trivial, (hS.pick [] rfl rfl), hF⟩

set_option maxRecDepth 10000 in
theorem impl_OmegaOk_ok {p0 : (List TOmega)} {r : Bool} (hF : impl_OmegaOk p0 = some r) : PC Try.prog 35 [(.list 2 (List.map TOmega.av p0))] fun v => v = (.bool r) := by
  refine PC.enter Try.func35 rfl Try.ntmps35 (by simp) ?_
  have hS := Sep.void; unfold impl_OmegaOk at hF
  refine AWP.seqR rfl ?_
  refine ASL.q (v := (.bool false)) rfl rfl (Light.quiet (opAssign rfl rfl)) ?_
  refine ASL.done ?_
  refine AWP.seqM (fun e H => E.Told e [(0, (.list 2 (List.map TOmega.av p0)))] ∧ E.Sep H [] ∧ impl_OmegaOk.k0 p0 = some r) ?_ ?_
  · rintro e0 G1 ⟨hT, hS, hF⟩; refine AWP.only _ hT ?_; unfold impl_OmegaOk.k0 at hF
    refine AWP.seqR rfl ?_
    refine ASL.q (v := (.list 2 (List.map TOmega.av p0))) rfl rfl (Light.quiet (opMove rfl rfl)) ?_
    refine ASL.q (v := (.int .i64 (p0.length : Int))) rfl rfl (Light.quiet (opLenMap (f := TOmega.av) rfl rfl rfl lenT_42 rfl)) ?_
    refine ASL.q (v := (.bool (decide (((p0.length : Int)) ≤ 4)))) rfl rfl (Light.quiet (opInt rfl rfl rfl rfl)) ?_
    refine ASL.q (v := (.bool (decide (((p0.length : Int)) ≤ 4)))) rfl rfl (Light.quiet (opAssign rfl rfl)) ?_
    refine ASL.done ?_
    refine AWP.ret ?_
    obtain rfl := someE hF
    exact QRet.sole (v := (.bool (decide (((p0.length : Int)) ≤ 4)))) ⟨rfl, trivial⟩ rfl
  · skip
    refine AWP.seqR rfl ?_
    refine ASL.q (v := (.list 2 (List.map TOmega.av p0))) rfl rfl (Light.quiet (opMove rfl rfl)) ?_
    refine ASL.q (v := (.int .i64 (p0.length : Int))) rfl rfl (Light.quiet (opLenMap (f := TOmega.av) rfl rfl rfl lenT_42 rfl)) ?_
    refine ASL.q (v := (.int .i64 0)) rfl rfl (Light.quiet (opMove rfl rfl)) ?_
    refine ASL.done ?_
    refine AWP.block ?_
    obtain ⟨o5, hL4, hR6⟩ := bindE hF
    refine AWP.loopF (ω := Unit) hL4 (fun s w => [(0, (.list 2 (List.map TOmega.av p0))), (5, (.list 2 (List.map TOmega.av p0))), (6, (.int .i64 (p0.length : Int))), (7, (.int .i64 s))]) (fun s w => []) () ⟨rfl, rfl, rfl, rfl, trivial⟩ (hS.pick [] rfl rfl) ?_
    rintro x7_l0 _ G7 hS x2 hF hx3
    try dsimp only at hS ⊢
    have hF : impl_OmegaOk.b0 p0 x7_l0 = some x2 := hF; unfold impl_OmegaOk.b0 at hF
    refine AWP.seqR rfl ?_
    refine ASL.q (v := (.bool (decide (x7_l0 < ((p0.length : Int)))))) rfl rfl (Light.quiet (opInt rfl rfl rfl rfl)) ?_
    refine ASL.done ?_
    refine AWP.seq ?_
    refine AWP.ifP hF rfl (fun hc8 hF => ?_) (fun hc8 hF => ?_)
    · skip
      refine AWP.skip ?_
      refine QThen.nrm ?_
      refine AWP.seq ?_
      refine AWP.block ?_
      refine AWP.seqR rfl ?_
      obtain ⟨a9, ha9, hF⟩ := bindE hF
      refine ASL.q (v := (.rptr [(.list 3 (List.map TNode.av a9.stem)), (.list 3 (List.map TNode.av a9.loop))])) rfl rfl (Light.quiet (kIx (f := TOmega.av) ha9 rfl rfl rfl elemA_42 sizeA_96 rfl)) ?_
      refine ASL.q (v := (TOmega.av a9)) rfl rfl (Light.quiet (opLoadRA rfl aggA_96 sizeA_96 rfl (nlt rfl) rfl)) ?_
      refine ASL.x rfl rfl (hNewZ hS [(.list 3 (List.map TNode.av [])), (.list 3 (List.map TNode.av []))] rfl zeroA_96 ⟨.inr ⟨_, rfl, rfl⟩, .inr ⟨_, rfl, rfl⟩, trivial⟩ ?_); rintro b4 G9 hK hS
      refine ASL.n rfl rfl (hPutA hS (j := 0) rfl rfl sizeA_96 rfl rfl rfl rfl rfl (nlt rfl) ?_); rintro G11 hS
      refine ASL.done ?_
      refine AWP.seqR rfl ?_
      refine ASL.q (v := (.ptr b4 0)) rfl rfl (Light.quiet (opFieldAddr rfl fieldA_96_0 rfl rfl)) ?_
      refine ASL.q (v := (.list 3 (List.map TNode.av a9.stem))) rfl rfl (Light.quiet (kAt hS (j := 0) rfl rfl aggA_25 rfl rfl)) ?_
      obtain ⟨a13, ha13, hF⟩ := bindE hF
      refine ASL.q (v := (.bool a13)) rfl rfl ((qCall rfl rfl call_18 (impl_ReOk_ok ha13) rfl)) ?_
      refine ASL.q (v := (.bool (!a13))) rfl rfl (Light.quiet (opNot rfl rfl)) ?_
      obtain ⟨c15, hc15, hF⟩ := bndE hF
      refine ASL.q (v := (.bool c15)) rfl rfl ((Quiet.cast (Light.quiet (opMove rfl rfl)) (congrArg AV.bool hc15.symm))) ?_
      refine ASL.g (v := (.ptr b4 1)) (.bool c15) false rfl (wF _) rfl (fun hG => by have q0 := gN hG; subst q0; exact Light.quiet (opFieldAddr rfl fieldA_96_1 rfl rfl)) ?_
      refine ASL.g (v := (.list 3 (List.map TNode.av a9.loop))) (.bool c15) false rfl (wF _) rfl (fun hG => by have q0 := gN hG; subst q0; exact Light.quiet (kAt hS (j := 0) rfl rfl aggA_25 rfl rfl)) ?_
      obtain ⟨a18, ha18, hF⟩ := bindE hF
      refine ASL.g (v := (.bool a18)) (.bool c15) false rfl (wF _) rfl (fun hG => by have q0 := gN hG; subst q0; exact (qCall rfl rfl call_18 (impl_ReOk_ok (whenE ha18)) rfl)) ?_
      refine ASL.g (v := (.bool (!a18))) (.bool c15) false rfl (wF _) rfl (fun hG => by have q0 := gN hG; subst q0; exact Light.quiet (opNot rfl rfl)) ?_
      refine ASL.q (v := (.bool (c15 || (!a18)))) rfl rfl (Light.quiet (opPick (b := c15) rfl rfl (by cases c15 <;> rfl))) ?_
      refine ASL.done ?_
      refine AWP.ifB hF rfl (fun hc12 hF => ?_) (fun hc12 hF => ?_)
      · skip
        refine AWP.seqR rfl ?_
        refine ASL.q (v := (.bool false)) rfl rfl (Light.quiet (opAssign rfl rfl)) ?_
        refine ASL.done ?_
        refine AWP.ret ?_
        refine QBlock.ret ?_
        refine QThen.rt ?_
        refine QThen.rt ?_
        refine QBlock.ret ?_
        refine QThen.rt ?_
        obtain rfl := (hx3 _ (someE hF).symm)
        have hF := hR6
        have hF := sumR hF
        obtain rfl := someE hF
        exact QRet.sole (v := (.bool false)) ⟨rfl, trivial⟩ rfl
      · skip
        refine AWP.skip ?_
        refine QBlock.nrm ?_
        refine QThen.nrm ?_
        refine AWP.lastR rfl ?_
        refine ASL.q (v := (.int .i64 (W (x7_l0 + 1)))) rfl rfl (Light.quiet (opInt rfl rfl rfl rfl)) ?_
        refine ASL.q (v := (.int .i64 (W (x7_l0 + 1)))) rfl rfl (Light.quiet (opMove rfl rfl)) ?_
        refine ASL.done ?_
        refine QThen.nrm ?_
        exact ⟨(W (x7_l0 + 1)), (), (someE hF).symm, ⟨rfl, rfl, rfl, rfl, trivial⟩, (hS.pick [] rfl rfl)⟩
    · skip
      refine AWP.exit ?_
      refine QThen.ext ?_
      refine QThen.ext ?_
      refine QBlock.hit ?_
      obtain rfl := (hx3 _ (someE hF).symm)
      have hF := hR6
      have hF := sumL hF
      refine QThen.nrm ?_
      exact ⟨⟨rfl, trivial⟩, (hS.pick [] rfl rfl), hF⟩

set_option maxRecDepth 10000 in
theorem laws_eqOmega_ok {p0 : TOmega} {p1 : TOmega} {r : Bool} (hF : laws_eqOmega p0 p1 = some r) : PC Try.prog 74 [(TOmega.av p0), (TOmega.av p1)] fun v => v = (.bool r) := by
  refine PC.enter Try.func74 rfl Try.ntmps74 (by simp) ?_
  have hS := Sep.void; unfold laws_eqOmega at hF
  refine AWP.seqR rfl ?_
  refine ASL.q (v := (.rptr [(.list 3 (List.map TNode.av p0.stem)), (.list 3 (List.map TNode.av p0.loop))])) rfl rfl ((qBoxI (v := (TOmega.av p0)) rfl rfl rfl rfl)) ?_
  refine ASL.q (v := (.rptr [(.list 3 (List.map TNode.av p1.stem)), (.list 3 (List.map TNode.av p1.loop))])) rfl rfl ((qBoxI (v := (TOmega.av p1)) rfl rfl rfl rfl)) ?_
  refine ASL.q (v := (.bool false)) rfl rfl (Light.quiet (opAssign rfl rfl)) ?_
  refine ASL.done ?_
  refine AWP.seq ?_
  refine AWP.seqR rfl ?_
  refine ASL.q (v := (.rptr [(.list 3 (List.map TNode.av p0.stem)), (.list 3 (List.map TNode.av p0.loop))])) rfl rfl (Light.quiet (opFieldAddrR rfl fieldA_96_0 rfl rfl)) ?_
  refine ASL.q (v := (.list 3 (List.map TNode.av p0.stem))) rfl rfl (Light.quiet (opLoadR rfl aggA_25 rfl rfl)) ?_
  refine ASL.q (v := (.rptr [(.list 3 (List.map TNode.av p1.stem)), (.list 3 (List.map TNode.av p1.loop))])) rfl rfl (Light.quiet (opFieldAddrR rfl fieldA_96_0 rfl rfl)) ?_
  refine ASL.q (v := (.list 3 (List.map TNode.av p1.stem))) rfl rfl (Light.quiet (opLoadR rfl aggA_25 rfl rfl)) ?_
  obtain ⟨a9, ha9, hF⟩ := bindE hF
  refine ASL.q (v := (.bool a9)) rfl rfl ((qCall rfl rfl call_19 (laws_eqNodeS_ok ha9) rfl)) ?_
  refine ASL.q (v := (.bool (!a9))) rfl rfl (Light.quiet (opNot rfl rfl)) ?_
  refine ASL.done ?_
  refine AWP.ifB hF rfl (fun hc1 hF => ?_) (fun hc1 hF => ?_)
  · skip
    refine AWP.seqR rfl ?_
    refine ASL.q (v := (.bool false)) rfl rfl (Light.quiet (opAssign rfl rfl)) ?_
    refine ASL.done ?_
    refine AWP.ret ?_
    refine QThen.rt ?_
    obtain rfl := someE hF
    exact QRet.sole (v := (.bool false)) ⟨rfl, trivial⟩ rfl
  · skip
    refine AWP.skip ?_
    refine QThen.nrm ?_
    refine AWP.seq ?_
    refine AWP.seqR rfl ?_
    refine ASL.q (v := (.rptr [(.list 3 (List.map TNode.av p0.loop))])) rfl rfl (Light.quiet (opFieldAddrR rfl fieldA_96_1 rfl rfl)) ?_
    refine ASL.q (v := (.list 3 (List.map TNode.av p0.loop))) rfl rfl (Light.quiet (opLoadR rfl aggA_25 rfl rfl)) ?_
    refine ASL.q (v := (.rptr [(.list 3 (List.map TNode.av p1.loop))])) rfl rfl (Light.quiet (opFieldAddrR rfl fieldA_96_1 rfl rfl)) ?_
    refine ASL.q (v := (.list 3 (List.map TNode.av p1.loop))) rfl rfl (Light.quiet (opLoadR rfl aggA_25 rfl rfl)) ?_
    obtain ⟨a15, ha15, hF⟩ := bindE hF
    refine ASL.q (v := (.bool a15)) rfl rfl ((qCall rfl rfl call_19 (laws_eqNodeS_ok ha15) rfl)) ?_
    refine ASL.q (v := (.bool (!a15))) rfl rfl (Light.quiet (opNot rfl rfl)) ?_
    refine ASL.done ?_
    refine AWP.ifB hF rfl (fun hc2 hF => ?_) (fun hc2 hF => ?_)
    · skip
      refine AWP.seqR rfl ?_
      refine ASL.q (v := (.bool false)) rfl rfl (Light.quiet (opAssign rfl rfl)) ?_
      refine ASL.done ?_
      refine AWP.ret ?_
      refine QThen.rt ?_
      obtain rfl := someE hF
      exact QRet.sole (v := (.bool false)) ⟨rfl, trivial⟩ rfl
    · skip
      refine AWP.skip ?_
      refine QThen.nrm ?_
      refine AWP.seqR rfl ?_
      refine ASL.q (v := (.bool true)) rfl rfl (Light.quiet (opAssign rfl rfl)) ?_
      refine ASL.done ?_
      refine AWP.ret ?_
      obtain rfl := someE hF
      exact QRet.sole (v := (.bool true)) ⟨rfl, trivial⟩ rfl

set_option maxRecDepth 10000 in
theorem laws_eqOmegaS_ok {p0 : (List TOmega)} {p1 : (List TOmega)} {r : Bool} (hF : laws_eqOmegaS p0 p1 = some r) : PC Try.prog 36 [(.list 2 (List.map TOmega.av p0)), (.list 2 (List.map TOmega.av p1))] fun v => v = (.bool r) := by
  refine PC.enter Try.func36 rfl Try.ntmps36 (by simp) ?_
  have hS := Sep.void; unfold laws_eqOmegaS at hF
  refine AWP.seqR rfl ?_
  refine ASL.q (v := (.bool false)) rfl rfl (Light.quiet (opAssign rfl rfl)) ?_
  refine ASL.done ?_
  refine AWP.seq ?_
  refine AWP.seqR rfl ?_
  refine ASL.q (v := (.list 2 (List.map TOmega.av p0))) rfl rfl (Light.quiet (opMove rfl rfl)) ?_
  refine ASL.q (v := (.int .i64 (p0.length : Int))) rfl rfl (Light.quiet (opLenMap (f := TOmega.av) rfl rfl rfl lenT_42 rfl)) ?_
  refine ASL.q (v := (.list 2 (List.map TOmega.av p1))) rfl rfl (Light.quiet (opMove rfl rfl)) ?_
  refine ASL.q (v := (.int .i64 (p1.length : Int))) rfl rfl (Light.quiet (opLenMap (f := TOmega.av) rfl rfl rfl lenT_42 rfl)) ?_
  refine ASL.q (v := (.bool (decide (((p0.length : Int)) ≠ ((p1.length : Int)))))) rfl rfl (Light.quiet (opInt rfl rfl rfl rfl)) ?_
  refine ASL.done ?_
  refine AWP.ifP hF rfl (fun hc1 hF => ?_) (fun hc1 hF => ?_)
  · skip
    refine AWP.seqR rfl ?_
    refine ASL.q (v := (.bool false)) rfl rfl (Light.quiet (opAssign rfl rfl)) ?_
    refine ASL.done ?_
    refine AWP.ret ?_
    refine QThen.rt ?_
    obtain rfl := someE hF
    exact QRet.sole (v := (.bool false)) ⟨rfl, trivial⟩ rfl
  · skip
    refine AWP.skip ?_
    refine QThen.nrm ?_
    refine AWP.seqM (fun e H => E.Told e [] ∧ E.Sep H [] ∧ laws_eqOmegaS.k0 = some r) ?_ ?_
    · rintro e0 G2 ⟨hT, hS, hF⟩; refine AWP.only _ hT ?_; unfold laws_eqOmegaS.k0 at hF
      refine AWP.seqR rfl ?_
      refine ASL.q (v := (.bool true)) rfl rfl (Light.quiet (opAssign rfl rfl)) ?_
      refine ASL.done ?_
      refine AWP.ret ?_
      obtain rfl := someE hF
      exact QRet.sole (v := (.bool true)) ⟨rfl, trivial⟩ rfl
    · skip
      refine AWP.seqR rfl ?_
      refine ASL.q (v := (.int .i64 0)) rfl rfl (Light.quiet (opAssign rfl rfl)) ?_
      refine ASL.done ?_
      refine AWP.block ?_
      obtain ⟨o6, hL5, hR7⟩ := bindE hF
      refine AWP.loopF (ω := Unit) hL5 (fun s w => [(0, (.list 2 (List.map TOmega.av p0))), (1, (.list 2 (List.map TOmega.av p1))), (5, (.int .i64 s))]) (fun s w => []) () ⟨rfl, rfl, rfl, trivial⟩ (hS.pick [] rfl rfl) ?_
      rintro x5_l0 _ G8 hS x3 hF hx4
      try dsimp only at hS ⊢
      have hF : laws_eqOmegaS.b0 p0 p1 x5_l0 = some x3 := hF; unfold laws_eqOmegaS.b0 at hF
      refine AWP.seq ?_
      refine AWP.seqR rfl ?_
      refine ASL.q (v := (.int .i64 x5_l0)) rfl rfl (Light.quiet (opMove rfl rfl)) ?_
      refine ASL.q (v := (.list 2 (List.map TOmega.av p0))) rfl rfl (Light.quiet (opMove rfl rfl)) ?_
      refine ASL.q (v := (.int .i64 (p0.length : Int))) rfl rfl (Light.quiet (opLenMap (f := TOmega.av) rfl rfl rfl lenT_42 rfl)) ?_
      refine ASL.q (v := (.bool (decide (x5_l0 < ((p0.length : Int)))))) rfl rfl (Light.quiet (opInt rfl rfl rfl rfl)) ?_
      refine ASL.done ?_
      refine AWP.ifP hF rfl (fun hc9 hF => ?_) (fun hc9 hF => ?_)
      · skip
        refine AWP.skip ?_
        refine QThen.nrm ?_
        refine AWP.seq ?_
        refine AWP.block ?_
        refine AWP.seqD [(0, false), (1, false), (2, false), (3, false), (4, false), (5, false), (6, false), (7, false), (8, false), (9, false)] mixed (by kernel_rfl) rfl ?_
        refine ARL.q0 (v := (.list 2 (List.map TOmega.av p0))) rfl rfl (Light.quiet (opMove rfl rfl)) ?_
        refine ARL.q0 (v := (.int .i64 x5_l0)) rfl rfl (Light.quiet (opMove rfl rfl)) ?_
        obtain ⟨a19, ha19, hF⟩ := bindE hF
        refine ARL.q0 (v := (.rptr [(.list 3 (List.map TNode.av a19.stem)), (.list 3 (List.map TNode.av a19.loop))])) rfl rfl (Light.quiet (kIx (f := TOmega.av) ha19 rfl rfl rfl elemA_42 sizeA_96 rfl)) ?_
        refine ARL.q0 (v := (TOmega.av a19)) rfl rfl (Light.quiet (opLoadRA rfl aggA_96 sizeA_96 rfl (nlt rfl) rfl)) ?_
        refine ARL.q0 (v := (.list 2 (List.map TOmega.av p1))) rfl rfl (Light.quiet (opMove rfl rfl)) ?_
        refine ARL.q0 (v := (.int .i64 x5_l0)) rfl rfl (Light.quiet (opMove rfl rfl)) ?_
        obtain ⟨a23, ha23, hF⟩ := bindE hF
        refine ARL.q0 (v := (.rptr [(.list 3 (List.map TNode.av a23.stem)), (.list 3 (List.map TNode.av a23.loop))])) rfl rfl (Light.quiet (kIx (f := TOmega.av) ha23 rfl rfl rfl elemA_42 sizeA_96 rfl)) ?_
        refine ARL.q0 (v := (TOmega.av a23)) rfl rfl (Light.quiet (opLoadRA rfl aggA_96 sizeA_96 rfl (nlt rfl) rfl)) ?_
        obtain ⟨a25, ha25, hF⟩ := bindE hF
        refine ARL.q0 (v := (.bool a25)) rfl rfl ((qCall rfl rfl call_74 (laws_eqOmega_ok ha25) rfl)) ?_
        refine ARL.q0 (v := (.bool (!a25))) rfl rfl (Light.quiet (opNot rfl rfl)) ?_
        refine ARL.done ?_
        refine AWP.ifB hF rfl (fun hc10 hF => ?_) (fun hc10 hF => ?_)
        · skip
          refine AWP.seqR rfl ?_
          refine ASL.q (v := (.bool false)) rfl rfl (Light.quiet (opAssign rfl rfl)) ?_
          refine ASL.done ?_
          refine AWP.ret ?_
          refine QBlock.ret ?_
          refine QThen.rt ?_
          refine QThen.rt ?_
          refine QBlock.ret ?_
          refine QThen.rt ?_
          obtain rfl := (hx4 _ (someE hF).symm)
          have hF := hR7
          have hF := sumR hF
          obtain rfl := someE hF
          exact QRet.sole (v := (.bool false)) ⟨rfl, trivial⟩ rfl
        · skip
          refine AWP.skip ?_
          refine QBlock.nrm ?_
          refine QThen.nrm ?_
          refine AWP.lastR rfl ?_
          refine ASL.q (v := (.int .i64 x5_l0)) rfl rfl (Light.quiet (opMove rfl rfl)) ?_
          refine ASL.q (v := (.int .i64 (W (x5_l0 + 1)))) rfl rfl (Light.quiet (opInt rfl rfl rfl rfl)) ?_
          refine ASL.q (v := (.int .i64 (W (x5_l0 + 1)))) rfl rfl (Light.quiet (opAssign rfl rfl)) ?_
          refine ASL.done ?_
          refine QThen.nrm ?_
          exact ⟨(W (x5_l0 + 1)), (), (someE hF).symm, ⟨rfl, rfl, rfl, trivial⟩, (hS.pick [] rfl rfl)⟩
      · skip
        refine AWP.exit ?_
        refine QThen.ext ?_
        refine QThen.ext ?_
        refine QBlock.hit ?_
        obtain rfl := (hx4 _ (someE hF).symm)
        have hF := hR7
        have hF := sumL hF
        refine QThen.nrm ?_
        exact ⟨trivial, (hS.pick [] rfl rfl), hF⟩

set_option maxRecDepth 10000 in
theorem laws_FnExactOmegaOk_ok {p0 : (List TOmega)} {r : Bool} (hF : laws_FnExactOmegaOk p0 = some r) : PC Try.prog 8 [(.list 2 (List.map TOmega.av p0))] fun v => v = (.bool r) := by
  refine PC.enter Try.func8 rfl Try.ntmps8 (by simp) ?_
  have hS := Sep.void; unfold laws_FnExactOmegaOk at hF
  refine AWP.seqR rfl ?_
  refine ASL.q (v := (.bool false)) rfl rfl (Light.quiet (opAssign rfl rfl)) ?_
  refine ASL.done ?_
  refine AWP.seqR rfl ?_
  refine ASL.q (v := (.int .i64 1048576)) rfl rfl (Light.quiet (opAssign rfl rfl)) ?_
  refine ASL.done ?_
  refine AWP.seqR rfl ?_
  refine ASL.q (v := (.list 2 (List.map TOmega.av p0))) rfl rfl (Light.quiet (opMove rfl rfl)) ?_
  refine ASL.q (v := (.int .i64 1048576)) rfl rfl (Light.quiet (opMove rfl rfl)) ?_
  obtain ⟨a9, ha9, hF⟩ := bindE hF
  refine ASL.q (v := (.int .i64 a9)) rfl rfl ((qCall rfl rfl call_32 (laws_szOmegaS_ok ha9) rfl)) ?_
  refine ASL.q (v := (.int .i64 a9)) rfl rfl (Light.quiet (opAssign rfl rfl)) ?_
  refine ASL.done ?_
  refine AWP.seq ?_
  refine AWP.seqR rfl ?_
  refine ASL.q (v := (.int .i64 a9)) rfl rfl (Light.quiet (opMove rfl rfl)) ?_
  refine ASL.q (v := (.bool (decide (a9 < 0)))) rfl rfl (Light.quiet (opInt rfl rfl rfl rfl)) ?_
  refine ASL.done ?_
  refine AWP.ifP hF rfl (fun hc1 hF => ?_) (fun hc1 hF => ?_)
  · skip
    refine AWP.seqR rfl ?_
    refine ASL.q (v := (.bool true)) rfl rfl (Light.quiet (opAssign rfl rfl)) ?_
    refine ASL.done ?_
    refine AWP.ret ?_
    refine QThen.rt ?_
    obtain rfl := someE hF
    exact QRet.sole (v := (.bool true)) ⟨rfl, trivial⟩ rfl
  · skip
    refine AWP.skip ?_
    refine QThen.nrm ?_
    refine AWP.seqR rfl ?_
    refine ASL.q (v := (.list 2 (List.map TOmega.av p0))) rfl rfl (Light.quiet (opMove rfl rfl)) ?_
    obtain ⟨a13, ha13, hF⟩ := bindE hF
    refine ASL.q (v := (.list 2 (List.map TOmega.av a13))) rfl rfl ((qCall rfl rfl call_34 (PO.list (laws_toOmegaS_ok ha13)) rfl)) ?_
    obtain ⟨a14, ha14, hF⟩ := bindE hF
    refine ASL.q (v := (.bool a14)) rfl rfl ((qCall rfl rfl call_33 (spec_OmegaOk_ok ha14) rfl)) ?_
    refine ASL.q (v := (.bool a14)) rfl rfl (Light.quiet (opAssign rfl rfl)) ?_
    refine ASL.done ?_
    refine AWP.seqR rfl ?_
    refine ASL.q (v := (.list 2 (List.map TOmega.av p0))) rfl rfl (Light.quiet (opMove rfl rfl)) ?_
    obtain ⟨a16, ha16, hF⟩ := bindE hF
    refine ASL.q (v := (.list 2 (List.map TOmega.av a16))) rfl rfl ((qCall rfl rfl call_34 (PO.list (laws_toOmegaS_ok ha16)) rfl)) ?_
    refine ASL.q (v := (.list 2 (List.map TOmega.av a16))) rfl rfl (Light.quiet (opAssign rfl rfl)) ?_
    refine ASL.done ?_
    refine AWP.seqR rfl ?_
    refine ASL.q (v := (.list 2 (List.map TOmega.av a16))) rfl rfl (Light.quiet (opMove rfl rfl)) ?_
    obtain ⟨a18, ha18, hF⟩ := bindE hF
    refine ASL.q (v := (.bool a18)) rfl rfl ((qCall rfl rfl call_35 (impl_OmegaOk_ok ha18) rfl)) ?_
    refine ASL.q (v := (.bool a18)) rfl rfl (Light.quiet (opAssign rfl rfl)) ?_
    refine ASL.done ?_
    refine AWP.seq ?_
    refine AWP.seqR rfl ?_
    refine ASL.q (v := (.bool a18)) rfl rfl (Light.quiet (opMove rfl rfl)) ?_
    refine ASL.q (v := (.bool a14)) rfl rfl (Light.quiet (opMove rfl rfl)) ?_
    refine ASL.q (v := (.bool (!(a18 == a14)))) rfl rfl (Light.quiet (opBoolEq rfl rfl rfl und_4 rfl)) ?_
    refine ASL.done ?_
    refine AWP.ifB hF rfl (fun hc2 hF => ?_) (fun hc2 hF => ?_)
    · skip
      refine AWP.seqR rfl ?_
      refine ASL.q (v := (.bool false)) rfl rfl (Light.quiet (opAssign rfl rfl)) ?_
      refine ASL.done ?_
      refine AWP.ret ?_
      refine QThen.rt ?_
      obtain rfl := someE hF
      exact QRet.sole (v := (.bool false)) ⟨rfl, trivial⟩ rfl
    · skip
      refine AWP.skip ?_
      refine QThen.nrm ?_
      refine AWP.seq ?_
      refine AWP.seqR rfl ?_
      refine ASL.q (v := (.list 2 (List.map TOmega.av a16))) rfl rfl (Light.quiet (opMove rfl rfl)) ?_
      refine ASL.q (v := (.list 2 (List.map TOmega.av p0))) rfl rfl (Light.quiet (opMove rfl rfl)) ?_
      obtain ⟨a24, ha24, hF⟩ := bindE hF
      refine ASL.q (v := (.list 2 (List.map TOmega.av a24))) rfl rfl ((qCall rfl rfl call_34 (PO.list (laws_toOmegaS_ok ha24)) rfl)) ?_
      obtain ⟨a25, ha25, hF⟩ := bindE hF
      refine ASL.q (v := (.bool a25)) rfl rfl ((qCall rfl rfl call_36 (laws_eqOmegaS_ok ha25) rfl)) ?_
      refine ASL.q (v := (.bool (!a25))) rfl rfl (Light.quiet (opNot rfl rfl)) ?_
      refine ASL.done ?_
      refine AWP.ifB hF rfl (fun hc3 hF => ?_) (fun hc3 hF => ?_)
      · skip
        refine AWP.seqR rfl ?_
        refine ASL.q (v := (.bool false)) rfl rfl (Light.quiet (opAssign rfl rfl)) ?_
        refine ASL.done ?_
        refine AWP.ret ?_
        refine QThen.rt ?_
        obtain rfl := someE hF
        exact QRet.sole (v := (.bool false)) ⟨rfl, trivial⟩ rfl
      · skip
        refine AWP.skip ?_
        refine QThen.nrm ?_
        refine AWP.seqR rfl ?_
        refine ASL.q (v := (.bool true)) rfl rfl (Light.quiet (opAssign rfl rfl)) ?_
        refine ASL.done ?_
        refine AWP.ret ?_
        obtain rfl := someE hF
        exact QRet.sole (v := (.bool true)) ⟨rfl, trivial⟩ rfl

end Go.Proofs.Ytpikdepigcmfnaa
