/- Each of these functions of the program comes to just what its plain function says: FnExactOmegaPrint. -/
import Derived.Test.YtmmgpcnngaekoaaDOmegaPrint
import Derived.Test.YtmmgpcnngaekoaaFa
import Derived.Test.YtmmgpcnngaekoaaSJ
namespace Go.Proofs.Ytmmgpcnngaekoaa
open Go Go.RowKit E
set_option linter.unusedVariables false
set_option maxRecDepth 10000 in
theorem laws_szNodeS_ok (p0 : (List TNode)) (p1 : Int) : PC Try.prog 73 [(.list 3 (List.map TNode.av p0)), (.int .i64 p1)] fun v => v = (.int .i64 (laws_szNodeS p0 p1)) := by
  generalize hF : laws_szNodeS p0 p1 = r
  refine PC.enter Try.func73 rfl Try.ntmps73 (by simp) ?_
  have hS := Sep.void; unfold laws_szNodeS at hF
  refine AWP.seqR rfl ?_
  refine ASL.q (v := (.int .i64 0)) rfl rfl (Light.quiet (opAssign rfl rfl)) ?_
  refine ASL.done ?_
  refine AWP.seqR rfl ?_
  refine ASL.q (v := (.int .i64 p1)) rfl rfl (Light.quiet (opMove rfl rfl)) ?_
  refine ASL.q (v := (.list 3 (List.map TNode.av p0))) rfl rfl (Light.quiet (opMove rfl rfl)) ?_
  refine ASL.q (v := (.int .i64 (p0.length : Int))) rfl rfl (Light.quiet (opLenMap (f := TNode.av) rfl rfl rfl lenT_64 rfl)) ?_
  refine ASL.q (v := (.int .i64 (W (p1 - ((p0.length : Int)))))) rfl rfl (Light.quiet (opInt rfl rfl rfl rfl)) ?_
  refine ASL.q (v := (.int .i64 (W (p1 - ((p0.length : Int)))))) rfl rfl (Light.quiet (opAssign rfl rfl)) ?_
  refine ASL.done ?_
  refine AWP.seq ?_
  refine AWP.seqR rfl ?_
  refine ASL.q (v := (.int .i64 (W (p1 - ((p0.length : Int)))))) rfl rfl (Light.quiet (opMove rfl rfl)) ?_
  refine ASL.q (v := (.bool (decide (((W (p1 - ((p0.length : Int))))) < 0)))) rfl rfl (Light.quiet (opInt rfl rfl rfl rfl)) ?_
  refine ASL.done ?_
  refine AWP.ifP hF rfl (fun hc1 hF => ?_) (fun hc1 hF => ?_)
  · skip
    refine AWP.seqR rfl ?_
    refine ASL.q (v := (.int .i64 (-1))) rfl rfl (Light.quiet (opAssign rfl rfl)) ?_
    refine ASL.done ?_
    refine AWP.ret ?_
    refine QThen.rt ?_
    obtain rfl := hF
    exact QRet.sole (v := (.int .i64 (-1))) ⟨rfl, trivial⟩ rfl
  · skip
    refine AWP.skip ?_
    refine QThen.nrm ?_
    refine AWP.seqR rfl ?_
    refine ASL.q (v := (.int .i64 (W (p1 - ((p0.length : Int)))))) rfl rfl (Light.quiet (opMove rfl rfl)) ?_
    refine ASL.q (v := (.int .i64 (W (p1 - ((p0.length : Int)))))) rfl rfl (Light.quiet (opAssign rfl rfl)) ?_
    refine ASL.done ?_
    refine AWP.ret ?_
    obtain rfl := hF
    exact QRet.sole (v := (.int .i64 (W (p1 - ((p0.length : Int)))))) ⟨rfl, trivial⟩ rfl

set_option maxRecDepth 10000 in
theorem laws_szOmega_ok (p0 : TOmega) (p1 : Int) : PC Try.prog 44 [(TOmega.av p0), (.int .i64 p1)] fun v => v = (.int .i64 (laws_szOmega p0 p1)) := by
  generalize hF : laws_szOmega p0 p1 = r
  refine PC.enter Try.func44 rfl Try.ntmps44 (by simp) ?_
  have hS := Sep.void; unfold laws_szOmega at hF
  refine AWP.seqR rfl ?_
  refine ASL.q (v := (.rptr [(.list 3 (List.map TNode.av p0.stem)), (.list 3 (List.map TNode.av p0.loop))])) rfl rfl ((qBoxI (v := (TOmega.av p0)) rfl rfl rfl rfl)) ?_
  refine ASL.q (v := (.int .i64 0)) rfl rfl (Light.quiet (opAssign rfl rfl)) ?_
  refine ASL.done ?_
  refine AWP.seqR rfl ?_
  refine ASL.q (v := (.rptr [(.list 3 (List.map TNode.av p0.stem)), (.list 3 (List.map TNode.av p0.loop))])) rfl rfl (Light.quiet (opFieldAddrR rfl fieldA_66_0 rfl rfl)) ?_
  refine ASL.q (v := (.list 3 (List.map TNode.av p0.stem))) rfl rfl (Light.quiet (opLoadR rfl aggA_64 rfl rfl)) ?_
  refine ASL.q (v := (.int .i64 p1)) rfl rfl (Light.quiet (opMove rfl rfl)) ?_
  refine ASL.q (v := (.int .i64 (laws_szNodeS p0.stem p1))) rfl rfl ((qCall rfl rfl call_73 (laws_szNodeS_ok p0.stem p1) rfl)) ?_
  refine ASL.q (v := (.int .i64 (laws_szNodeS p0.stem p1))) rfl rfl (Light.quiet (opAssign rfl rfl)) ?_
  refine ASL.done ?_
  refine AWP.seq ?_
  refine AWP.seqR rfl ?_
  refine ASL.q (v := (.int .i64 (laws_szNodeS p0.stem p1))) rfl rfl (Light.quiet (opMove rfl rfl)) ?_
  refine ASL.q (v := (.bool (decide (((laws_szNodeS p0.stem p1)) < 0)))) rfl rfl (Light.quiet (opInt rfl rfl rfl rfl)) ?_
  refine ASL.done ?_
  refine AWP.ifP hF rfl (fun hc1 hF => ?_) (fun hc1 hF => ?_)
  · skip
    refine AWP.seqR rfl ?_
    refine ASL.q (v := (.int .i64 (-1))) rfl rfl (Light.quiet (opAssign rfl rfl)) ?_
    refine ASL.done ?_
    refine AWP.ret ?_
    refine QThen.rt ?_
    obtain rfl := hF
    exact QRet.sole (v := (.int .i64 (-1))) ⟨rfl, trivial⟩ rfl
  · skip
    refine AWP.skip ?_
    refine QThen.nrm ?_
    refine AWP.seqR rfl ?_
    refine ASL.q (v := (.rptr [(.list 3 (List.map TNode.av p0.loop))])) rfl rfl (Light.quiet (opFieldAddrR rfl fieldA_66_1 rfl rfl)) ?_
    refine ASL.q (v := (.list 3 (List.map TNode.av p0.loop))) rfl rfl (Light.quiet (opLoadR rfl aggA_64 rfl rfl)) ?_
    refine ASL.q (v := (.int .i64 (laws_szNodeS p0.stem p1))) rfl rfl (Light.quiet (opMove rfl rfl)) ?_
    refine ASL.q (v := (.int .i64 (laws_szNodeS p0.loop ((laws_szNodeS p0.stem p1))))) rfl rfl ((qCall rfl rfl call_73 (laws_szNodeS_ok p0.loop ((laws_szNodeS p0.stem p1))) rfl)) ?_
    refine ASL.q (v := (.int .i64 (laws_szNodeS p0.loop ((laws_szNodeS p0.stem p1))))) rfl rfl (Light.quiet (opAssign rfl rfl)) ?_
    refine ASL.done ?_
    refine AWP.seq ?_
    refine AWP.seqR rfl ?_
    refine ASL.q (v := (.int .i64 (laws_szNodeS p0.loop ((laws_szNodeS p0.stem p1))))) rfl rfl (Light.quiet (opMove rfl rfl)) ?_
    refine ASL.q (v := (.bool (decide (((laws_szNodeS p0.loop ((laws_szNodeS p0.stem p1)))) < 0)))) rfl rfl (Light.quiet (opInt rfl rfl rfl rfl)) ?_
    refine ASL.done ?_
    refine AWP.ifP hF rfl (fun hc2 hF => ?_) (fun hc2 hF => ?_)
    · skip
      refine AWP.seqR rfl ?_
      refine ASL.q (v := (.int .i64 (-1))) rfl rfl (Light.quiet (opAssign rfl rfl)) ?_
      refine ASL.done ?_
      refine AWP.ret ?_
      refine QThen.rt ?_
      obtain rfl := hF
      exact QRet.sole (v := (.int .i64 (-1))) ⟨rfl, trivial⟩ rfl
    · skip
      refine AWP.skip ?_
      refine QThen.nrm ?_
      refine AWP.seqR rfl ?_
      refine ASL.q (v := (.int .i64 (laws_szNodeS p0.loop ((laws_szNodeS p0.stem p1))))) rfl rfl (Light.quiet (opMove rfl rfl)) ?_
      refine ASL.q (v := (.int .i64 (laws_szNodeS p0.loop ((laws_szNodeS p0.stem p1))))) rfl rfl (Light.quiet (opAssign rfl rfl)) ?_
      refine ASL.done ?_
      refine AWP.ret ?_
      obtain rfl := hF
      exact QRet.sole (v := (.int .i64 (laws_szNodeS p0.loop ((laws_szNodeS p0.stem p1))))) ⟨rfl, trivial⟩ rfl

set_option maxRecDepth 10000 in
theorem laws_szOmegaS_ok {p0 : (List TOmega)} {p1 : Int} {r : Int} (hF : laws_szOmegaS p0 p1 = some r) : PC Try.prog 13 [(.list 2 (List.map TOmega.av p0)), (.int .i64 p1)] fun v => v = (.int .i64 r) := by
  refine PC.enter Try.func13 rfl Try.ntmps13 (by simp) ?_
  have hS := Sep.void; unfold laws_szOmegaS at hF
  refine AWP.seqR rfl ?_
  refine ASL.q (v := (.int .i64 0)) rfl rfl (Light.quiet (opAssign rfl rfl)) ?_
  refine ASL.done ?_
  refine AWP.seqR rfl ?_
  refine ASL.q (v := (.int .i64 p1)) rfl rfl (Light.quiet (opMove rfl rfl)) ?_
  refine ASL.q (v := (.list 2 (List.map TOmega.av p0))) rfl rfl (Light.quiet (opMove rfl rfl)) ?_
  refine ASL.q (v := (.int .i64 (p0.length : Int))) rfl rfl (Light.quiet (opLenMap (f := TOmega.av) rfl rfl rfl lenT_32 rfl)) ?_
  refine ASL.q (v := (.int .i64 (W (p1 - ((p0.length : Int)))))) rfl rfl (Light.quiet (opInt rfl rfl rfl rfl)) ?_
  refine ASL.q (v := (.int .i64 (W (p1 - ((p0.length : Int)))))) rfl rfl (Light.quiet (opAssign rfl rfl)) ?_
  refine ASL.done ?_
  refine AWP.seq ?_
  refine AWP.seqR rfl ?_
  refine ASL.q (v := (.int .i64 (W (p1 - ((p0.length : Int)))))) rfl rfl (Light.quiet (opMove rfl rfl)) ?_
  refine ASL.q (v := (.bool (decide (((W (p1 - ((p0.length : Int))))) < 0)))) rfl rfl (Light.quiet (opInt rfl rfl rfl rfl)) ?_
  refine ASL.done ?_
  refine AWP.ifP hF rfl (fun hc1 hF => ?_) (fun hc1 hF => ?_)
  · skip
    refine AWP.seqR rfl ?_
    refine ASL.q (v := (.int .i64 (-1))) rfl rfl (Light.quiet (opAssign rfl rfl)) ?_
    refine ASL.done ?_
    refine AWP.ret ?_
    refine QThen.rt ?_
    obtain rfl := someE hF
    exact QRet.sole (v := (.int .i64 (-1))) ⟨rfl, trivial⟩ rfl
  · skip
    refine AWP.skip ?_
    refine QThen.nrm ?_
    refine AWP.seqM (fun e H => ∃ x1_1 : Int, E.Told e [(1, (.int .i64 x1_1))] ∧ E.Sep H [] ∧ laws_szOmegaS.k0 x1_1 = some r) ?_ ?_
    · rintro e0 G2 ⟨x1_1, hT, hS, hF⟩; refine AWP.only _ hT ?_; unfold laws_szOmegaS.k0 at hF
      refine AWP.seqR rfl ?_
      refine ASL.q (v := (.int .i64 x1_1)) rfl rfl (Light.quiet (opMove rfl rfl)) ?_
      refine ASL.q (v := (.int .i64 x1_1)) rfl rfl (Light.quiet (opAssign rfl rfl)) ?_
      refine ASL.done ?_
      refine AWP.ret ?_
      obtain rfl := someE hF
      exact QRet.sole (v := (.int .i64 x1_1)) ⟨rfl, trivial⟩ rfl
    · skip
      refine AWP.seqR rfl ?_
      refine ASL.q (v := (.int .i64 0)) rfl rfl (Light.quiet (opAssign rfl rfl)) ?_
      refine ASL.done ?_
      refine AWP.block ?_
      obtain ⟨o6, hL5, hR7⟩ := bindE hF
      refine AWP.loopF (ω := Unit) hL5 (fun s w => [(0, (.list 2 (List.map TOmega.av p0))), (1, (.int .i64 s.1)), (5, (.int .i64 s.2))]) (fun s w => []) () ⟨rfl, rfl, rfl, trivial⟩ (hS.pick [] rfl rfl) ?_
      rintro ⟨x1_l0, x5_l0⟩ _ G8 hS x3 hF hx4
      try dsimp only at hS ⊢
      have hF : laws_szOmegaS.b0 p0 x1_l0 x5_l0 = some x3 := hF; unfold laws_szOmegaS.b0 at hF
      refine AWP.seq ?_
      refine AWP.seqR rfl ?_
      refine ASL.q (v := (.int .i64 x5_l0)) rfl rfl (Light.quiet (opMove rfl rfl)) ?_
      refine ASL.q (v := (.list 2 (List.map TOmega.av p0))) rfl rfl (Light.quiet (opMove rfl rfl)) ?_
      refine ASL.q (v := (.int .i64 (p0.length : Int))) rfl rfl (Light.quiet (opLenMap (f := TOmega.av) rfl rfl rfl lenT_32 rfl)) ?_
      refine ASL.q (v := (.bool (decide (x5_l0 < ((p0.length : Int)))))) rfl rfl (Light.quiet (opInt rfl rfl rfl rfl)) ?_
      refine ASL.done ?_
      refine AWP.ifP hF rfl (fun hc9 hF => ?_) (fun hc9 hF => ?_)
      · skip
        refine AWP.skip ?_
        refine QThen.nrm ?_
        refine AWP.seq ?_
        refine AWP.block ?_
        refine AWP.seqR rfl ?_
        refine ASL.q (v := (.list 2 (List.map TOmega.av p0))) rfl rfl (Light.quiet (opMove rfl rfl)) ?_
        refine ASL.q (v := (.int .i64 x5_l0)) rfl rfl (Light.quiet (opMove rfl rfl)) ?_
        obtain ⟨a20, ha20, hF⟩ := bindE hF
        refine ASL.q (v := (.rptr [(.list 3 (List.map TNode.av a20.stem)), (.list 3 (List.map TNode.av a20.loop))])) rfl rfl (Light.quiet (kIx (f := TOmega.av) ha20 rfl rfl rfl elemA_32 sizeA_66 rfl)) ?_
        refine ASL.q (v := (TOmega.av a20)) rfl rfl (Light.quiet (opLoadRA rfl aggA_66 sizeA_66 rfl (nlt rfl) rfl)) ?_
        refine ASL.q (v := (.int .i64 x1_l0)) rfl rfl (Light.quiet (opMove rfl rfl)) ?_
        refine ASL.q (v := (.int .i64 (laws_szOmega a20 x1_l0))) rfl rfl ((qCall rfl rfl call_44 (laws_szOmega_ok a20 x1_l0) rfl)) ?_
        refine ASL.q (v := (.int .i64 (laws_szOmega a20 x1_l0))) rfl rfl (Light.quiet (opAssign rfl rfl)) ?_
        refine ASL.done ?_
        refine AWP.seqR rfl ?_
        refine ASL.q (v := (.int .i64 (laws_szOmega a20 x1_l0))) rfl rfl (Light.quiet (opMove rfl rfl)) ?_
        refine ASL.q (v := (.bool (decide (((laws_szOmega a20 x1_l0)) < 0)))) rfl rfl (Light.quiet (opInt rfl rfl rfl rfl)) ?_
        refine ASL.done ?_
        refine AWP.ifP hF rfl (fun hc10 hF => ?_) (fun hc10 hF => ?_)
        · skip
          refine AWP.seqR rfl ?_
          refine ASL.q (v := (.int .i64 (-1))) rfl rfl (Light.quiet (opAssign rfl rfl)) ?_
          refine ASL.done ?_
          refine AWP.ret ?_
          refine QBlock.ret ?_
          refine QThen.rt ?_
          refine QThen.rt ?_
          refine QBlock.ret ?_
          refine QThen.rt ?_
          obtain rfl := (hx4 _ (someE hF).symm)
          have hF := hR7
          have hF := sumR hF
          obtain rfl := someE hF
          exact QRet.sole (v := (.int .i64 (-1))) ⟨rfl, trivial⟩ rfl
        · skip
          refine AWP.skip ?_
          refine QBlock.nrm ?_
          refine QThen.nrm ?_
          refine AWP.lastR rfl ?_
          refine ASL.q (v := (.int .i64 x5_l0)) rfl rfl (Light.quiet (opMove rfl rfl)) ?_
          refine ASL.q (v := (.int .i64 (W (x5_l0 + 1)))) rfl rfl (Light.quiet (opInt rfl rfl rfl rfl)) ?_
          refine ASL.q (v := (.int .i64 (W (x5_l0 + 1)))) rfl rfl (Light.quiet (opAssign rfl rfl)) ?_
          refine ASL.done ?_
          refine QThen.nrm ?_
          exact ⟨((laws_szOmega a20 x1_l0), (W (x5_l0 + 1))), (), (someE hF).symm, ⟨rfl, rfl, rfl, trivial⟩, (hS.pick [] rfl rfl)⟩
      · skip
        refine AWP.exit ?_
        refine QThen.ext ?_
        refine QThen.ext ?_
        refine QBlock.hit ?_
        obtain rfl := (hx4 _ (someE hF).symm)
        have hF := hR7
        have hF := sumL hF
        refine QThen.nrm ?_
        exact ⟨x1_l0, ⟨rfl, trivial⟩, (hS.pick [] rfl rfl), hF⟩

set_option maxRecDepth 10000 in
theorem laws_toNode_ok (p0 : TNode) : PC Try.prog 91 [(TNode.av p0)] fun v => v = (TNode.av (laws_toNode p0)) := by
  generalize hF : laws_toNode p0 = r
  refine PC.enter Try.func91 rfl Try.ntmps91 (by simp) ?_
  have hS := Sep.void; unfold laws_toNode at hF
  refine AWP.seqR rfl ?_
  refine ASL.q (v := (.rptr [(.int .i64 p0.kind), (.int .i64 p0.a), (.int .i64 p0.b)])) rfl rfl ((qBoxI (v := (TNode.av p0)) rfl rfl rfl rfl)) ?_
  refine ASL.x rfl rfl (hNewZ hS [(.int .i64 0), (.int .i64 0), (.int .i64 0)] rfl zeroA_31 ⟨.inl rfl, .inl rfl, .inl rfl, trivial⟩ ?_); rintro b2 G1 hK hS
  refine ASL.done ?_
  refine AWP.seqR rfl ?_
  refine ASL.x rfl rfl (hNewZ hS [(.int .i64 0), (.int .i64 0), (.int .i64 0)] rfl zeroA_31 ⟨.inl rfl, .inl rfl, .inl rfl, trivial⟩ ?_); rintro b3 G3 hK hS
  refine ASL.done ?_
  refine AWP.seqR rfl ?_
  refine ASL.q (v := (.rptr [(.int .i64 p0.kind), (.int .i64 p0.a), (.int .i64 p0.b)])) rfl rfl (Light.quiet (opFieldAddrR rfl fieldA_111_0 rfl rfl)) ?_
  refine ASL.q (v := (.int .i64 p0.kind)) rfl rfl (Light.quiet (opLoadR rfl aggA_3 rfl rfl)) ?_
  refine ASL.q (v := (.ptr b3 0)) rfl rfl (Light.quiet (opFieldAddr rfl fieldA_31_0 rfl rfl)) ?_
  refine ASL.n rfl rfl (hPut hS (j := 0) rfl rfl sizeA_3 rfl rfl rfl (nlt rfl) ?_); rintro G5 hS
  refine ASL.done ?_
  refine AWP.seqR rfl ?_
  refine ASL.q (v := (.rptr [(.int .i64 p0.a), (.int .i64 p0.b)])) rfl rfl (Light.quiet (opFieldAddrR rfl fieldA_111_1 rfl rfl)) ?_
  refine ASL.q (v := (.int .i64 p0.a)) rfl rfl (Light.quiet (opLoadR rfl aggA_3 rfl rfl)) ?_
  refine ASL.q (v := (.ptr b3 1)) rfl rfl (Light.quiet (opFieldAddr rfl fieldA_31_1 rfl rfl)) ?_
  refine ASL.n rfl rfl (hPut hS (j := 0) rfl rfl sizeA_3 rfl rfl rfl (nlt rfl) ?_); rintro G6 hS
  refine ASL.done ?_
  refine AWP.seqR rfl ?_
  refine ASL.q (v := (.rptr [(.int .i64 p0.b)])) rfl rfl (Light.quiet (opFieldAddrR rfl fieldA_111_2 rfl rfl)) ?_
  refine ASL.q (v := (.int .i64 p0.b)) rfl rfl (Light.quiet (opLoadR rfl aggA_3 rfl rfl)) ?_
  refine ASL.q (v := (.ptr b3 2)) rfl rfl (Light.quiet (opFieldAddr rfl fieldA_31_2 rfl rfl)) ?_
  refine ASL.n rfl rfl (hPut hS (j := 0) rfl rfl sizeA_3 rfl rfl rfl (nlt rfl) ?_); rintro G7 hS
  refine ASL.done ?_
  refine AWP.seqR rfl ?_
  refine ASL.q (v := (TNode.av p0)) rfl rfl (Light.quiet (kAtA hS (j := 0) rfl rfl aggA_31 sizeA_31 rfl (nlt rfl) rfl)) ?_
  refine ASL.n rfl rfl (hPutA hS (j := 1) rfl rfl sizeA_31 rfl rfl rfl rfl rfl (nlt rfl) ?_); rintro G8 hS
  refine ASL.done ?_
  refine AWP.ret ?_
  obtain rfl := hF
  exact QRet.sole (v := (TNode.av p0)) ⟨resOne.at hS (k := 1) rfl rfl aggA_31 sizeA_31, trivial⟩ rfl

set_option maxRecDepth 10000 in
theorem laws_toNodeS_ok {p0 : (List TNode)} {r : (List TNode)} (hF : laws_toNodeS p0 = some r) : PO Try.prog 74 [(.list 3 (List.map TNode.av p0))] 3 (List.map TNode.av r) := by
  refine HC.enter Try.func74 rfl Try.ntmps74 (by simp) ?_
  have hS := Sep.void; unfold laws_toNodeS at hF
  refine AWP.seqR rfl ?_
  have hS := hNil (s := 3) (f := TNode.av) hS
  refine ASL.q (v := .nil) rfl rfl (Light.quiet (opAssign rfl rfl)) ?_
  refine ASL.done ?_
  refine AWP.seqR rfl ?_
  refine ASL.q (v := (.list 3 (List.map TNode.av p0))) rfl rfl (Light.quiet (opMove rfl rfl)) ?_
  refine ASL.q (v := (.int .i64 (p0.length : Int))) rfl rfl (Light.quiet (opLenMap (f := TNode.av) rfl rfl rfl lenT_64 rfl)) ?_
  obtain ⟨z7, hz7, hF⟩ := bindE hF
  refine ASL.x rfl rfl (hMk (f := TNode.av) hS hz7 (by decide) rfl elemA_24 sizeA_31 bytesA_31 zeroA_31 rfl rfl (by decide) rfl rfl ?_); rintro v7 G2 hK hS
  refine ASL.q (v := v7) rfl rfl (Light.quiet (opAssign rfl rfl)) ?_
  refine ASL.done ?_
  refine AWP.seqM (fun e H => ∃ y4 : (List TNode), E.Told e [(3, v7)] ∧ E.Sep H [.row 3 v7 (List.map TNode.av y4)] ∧ laws_toNodeS.k0 y4 = some r) ?_ ?_
  · rintro e0 G5 ⟨y4, hT, hS, hF⟩; refine AWP.only _ hT ?_; unfold laws_toNodeS.k0 at hF
    refine AWP.seqR rfl ?_
    refine ASL.q (v := v7) rfl rfl (Light.quiet (opMove rfl rfl)) ?_
    refine ASL.q (v := v7) rfl rfl (Light.quiet (opAssign rfl rfl)) ?_
    refine ASL.done ?_
    refine AWP.ret ?_
    obtain rfl := someE hF
    exact QRet.sole (v := v7) ⟨rfl, trivial⟩ (hS.get (k := 0) rfl)
  · skip
    refine AWP.seqR rfl ?_
    refine ASL.q (v := (.int .i64 0)) rfl rfl (Light.quiet (opAssign rfl rfl)) ?_
    refine ASL.done ?_
    refine AWP.block ?_
    obtain ⟨o10, hL9, hR11⟩ := bindE hF
    refine AWP.loopF (ω := Unit) hL9 (fun s w => [(0, (.list 3 (List.map TNode.av p0))), (3, v7), (4, (.int .i64 s.2))]) (fun s w => [.row 3 v7 (List.map TNode.av s.1)]) () ⟨rfl, rfl, rfl, trivial⟩ (hS.pick [0] rfl rfl) ?_
    rintro ⟨y6, x4_l0⟩ _ G12 hS x7 hF hx8
    try dsimp only at hS ⊢
    have hF : laws_toNodeS.b0 p0 y6 x4_l0 = some x7 := hF; unfold laws_toNodeS.b0 at hF
    refine AWP.seq ?_
    refine AWP.seqR rfl ?_
    refine ASL.q (v := (.int .i64 x4_l0)) rfl rfl (Light.quiet (opMove rfl rfl)) ?_
    refine ASL.q (v := (.list 3 (List.map TNode.av p0))) rfl rfl (Light.quiet (opMove rfl rfl)) ?_
    refine ASL.q (v := (.int .i64 (p0.length : Int))) rfl rfl (Light.quiet (opLenMap (f := TNode.av) rfl rfl rfl lenT_64 rfl)) ?_
    refine ASL.q (v := (.bool (decide (x4_l0 < ((p0.length : Int)))))) rfl rfl (Light.quiet (opInt rfl rfl rfl rfl)) ?_
    refine ASL.done ?_
    refine AWP.ifP hF rfl (fun hc13 hF => ?_) (fun hc13 hF => ?_)
    · skip
      refine AWP.skip ?_
      refine QThen.nrm ?_
      refine AWP.seq ?_
      refine AWP.block ?_
      refine AWP.lastR rfl ?_
      refine ASL.q (v := v7) rfl rfl (Light.quiet (opMove rfl rfl)) ?_
      refine ASL.q (v := (.int .i64 x4_l0)) rfl rfl (Light.quiet (opMove rfl rfl)) ?_
      refine ASL.q (v := (.list 3 (List.map TNode.av p0))) rfl rfl (Light.quiet (opMove rfl rfl)) ?_
      refine ASL.q (v := (.int .i64 x4_l0)) rfl rfl (Light.quiet (opMove rfl rfl)) ?_
      obtain ⟨a18, ha18, hF⟩ := bindE hF
      refine ASL.q (v := (.rptr [(.int .i64 a18.kind), (.int .i64 a18.a), (.int .i64 a18.b)])) rfl rfl (Light.quiet (kIx (f := TNode.av) ha18 rfl rfl rfl elemA_64 sizeA_111 rfl)) ?_
      refine ASL.q (v := (TNode.av a18)) rfl rfl (Light.quiet (opLoadRA rfl aggA_111 sizeA_111 rfl (nlt rfl) rfl)) ?_
      refine ASL.q (v := (TNode.av (laws_toNode a18))) rfl rfl ((qCall rfl rfl call_91 (laws_toNode_ok a18) rfl)) ?_
      obtain ⟨m21, hm21, hF⟩ := bindE hF
      refine ASL.q (v := (ptrTo v7 m21 3)) rfl rfl (Light.quiet (kIxO hS (j := 0) rfl hm21 rfl rfl rfl elemA_24 sizeA_31)) ?_
      refine ASL.n rfl rfl (hSt (f := TNode.av) (a := (laws_toNode a18)) hS (j := 0) rfl hm21 rfl sizeA_31 rfl rfl ⟨rfl, rfl, rfl⟩ ?_); rintro G14 hS
      refine ASL.done ?_
      refine QBlock.nrm ?_
      refine QThen.nrm ?_
      refine AWP.lastR rfl ?_
      refine ASL.q (v := (.int .i64 x4_l0)) rfl rfl (Light.quiet (opMove rfl rfl)) ?_
      refine ASL.q (v := (.int .i64 (W (x4_l0 + 1)))) rfl rfl (Light.quiet (opInt rfl rfl rfl rfl)) ?_
      refine ASL.q (v := (.int .i64 (W (x4_l0 + 1)))) rfl rfl (Light.quiet (opAssign rfl rfl)) ?_
      refine ASL.done ?_
      refine QThen.nrm ?_
      exact ⟨((y6.set m21 ((laws_toNode a18))), (W (x4_l0 + 1))), (), (someE hF).symm, ⟨rfl, rfl, rfl, trivial⟩, (hS.pick [0] rfl rfl)⟩
    · skip
      refine AWP.exit ?_
      refine QThen.ext ?_
      refine QThen.ext ?_
      refine QBlock.hit ?_
      obtain rfl := (hx8 _ (someE hF).symm)
      have hF := hR11
      refine QThen.nrm ?_
      exact ⟨y6, ⟨rfl, trivial⟩, (hS.pick [0] rfl rfl), hF⟩

set_option maxRecDepth 10000 in
theorem laws_toOmega_ok {p0 : TOmega} {r : TOmega} (hF : laws_toOmega p0 = some r) : PC Try.prog 47 [(TOmega.av p0)] fun v => v = (TOmega.av r) := by
  refine PC.enter Try.func47 rfl Try.ntmps47 (by simp) ?_
  have hS := Sep.void; unfold laws_toOmega at hF
  refine AWP.seqR rfl ?_
  refine ASL.q (v := (.rptr [(.list 3 (List.map TNode.av p0.stem)), (.list 3 (List.map TNode.av p0.loop))])) rfl rfl ((qBoxI (v := (TOmega.av p0)) rfl rfl rfl rfl)) ?_
  refine ASL.x rfl rfl (hNewZ hS [(.list 3 (List.map TNode.av [])), (.list 3 (List.map TNode.av []))] rfl zeroA_69 ⟨.inr ⟨_, rfl, rfl⟩, .inr ⟨_, rfl, rfl⟩, trivial⟩ ?_); rintro b2 G1 hK hS
  refine ASL.done ?_
  refine AWP.seqR rfl ?_
  refine ASL.x rfl rfl (hNewZ hS [(.list 3 (List.map TNode.av [])), (.list 3 (List.map TNode.av []))] rfl zeroA_69 ⟨.inr ⟨_, rfl, rfl⟩, .inr ⟨_, rfl, rfl⟩, trivial⟩ ?_); rintro b3 G3 hK hS
  refine ASL.done ?_
  refine AWP.seqR rfl ?_
  refine ASL.q (v := (.rptr [(.list 3 (List.map TNode.av p0.stem)), (.list 3 (List.map TNode.av p0.loop))])) rfl rfl (Light.quiet (opFieldAddrR rfl fieldA_66_0 rfl rfl)) ?_
  refine ASL.q (v := (.list 3 (List.map TNode.av p0.stem))) rfl rfl (Light.quiet (opLoadR rfl aggA_64 rfl rfl)) ?_
  obtain ⟨a6, ha6, hF⟩ := bindE hF
  refine ASL.q (v := (.list 3 (List.map TNode.av a6))) rfl rfl ((qCall rfl rfl call_74 (PO.list (laws_toNodeS_ok ha6)) rfl)) ?_
  refine ASL.q (v := (.ptr b3 0)) rfl rfl (Light.quiet (opFieldAddr rfl fieldA_69_0 rfl rfl)) ?_
  refine ASL.n rfl rfl (hPut hS (j := 0) rfl rfl sizeA_24 rfl rfl rfl (nlt rfl) ?_); rintro G5 hS
  refine ASL.done ?_
  refine AWP.seqR rfl ?_
  refine ASL.q (v := (.rptr [(.list 3 (List.map TNode.av p0.loop))])) rfl rfl (Light.quiet (opFieldAddrR rfl fieldA_66_1 rfl rfl)) ?_
  refine ASL.q (v := (.list 3 (List.map TNode.av p0.loop))) rfl rfl (Light.quiet (opLoadR rfl aggA_64 rfl rfl)) ?_
  obtain ⟨a10, ha10, hF⟩ := bindE hF
  refine ASL.q (v := (.list 3 (List.map TNode.av a10))) rfl rfl ((qCall rfl rfl call_74 (PO.list (laws_toNodeS_ok ha10)) rfl)) ?_
  refine ASL.q (v := (.ptr b3 1)) rfl rfl (Light.quiet (opFieldAddr rfl fieldA_69_1 rfl rfl)) ?_
  refine ASL.n rfl rfl (hPut hS (j := 0) rfl rfl sizeA_24 rfl rfl rfl (nlt rfl) ?_); rintro G6 hS
  refine ASL.done ?_
  refine AWP.seqR rfl ?_
  refine ASL.q (v := (.agg [(.list 3 (List.map TNode.av a6)), (.list 3 (List.map TNode.av a10))])) rfl rfl (Light.quiet (kAtA hS (j := 0) rfl rfl aggA_69 sizeA_69 rfl (nlt rfl) rfl)) ?_
  refine ASL.n rfl rfl (hPutA hS (j := 1) rfl rfl sizeA_69 rfl rfl rfl rfl rfl (nlt rfl) ?_); rintro G7 hS
  refine ASL.done ?_
  refine AWP.ret ?_
  obtain rfl := someE hF
  exact QRet.sole (v := (.agg [(.list 3 (List.map TNode.av a6)), (.list 3 (List.map TNode.av a10))])) ⟨resOne.at hS (k := 1) rfl rfl aggA_69 sizeA_69, trivial⟩ rfl

set_option maxRecDepth 10000 in
theorem laws_toOmegaS_ok {p0 : (List TOmega)} {r : (List TOmega)} (hF : laws_toOmegaS p0 = some r) : PO Try.prog 15 [(.list 2 (List.map TOmega.av p0))] 2 (List.map TOmega.av r) := by
  refine HC.enter Try.func15 rfl Try.ntmps15 (by simp) ?_
  have hS := Sep.void; unfold laws_toOmegaS at hF
  refine AWP.seqR rfl ?_
  have hS := hNil (s := 2) (f := TOmega.av) hS
  refine ASL.q (v := .nil) rfl rfl (Light.quiet (opAssign rfl rfl)) ?_
  refine ASL.done ?_
  refine AWP.seqR rfl ?_
  refine ASL.q (v := (.list 2 (List.map TOmega.av p0))) rfl rfl (Light.quiet (opMove rfl rfl)) ?_
  refine ASL.q (v := (.int .i64 (p0.length : Int))) rfl rfl (Light.quiet (opLenMap (f := TOmega.av) rfl rfl rfl lenT_32 rfl)) ?_
  obtain ⟨z7, hz7, hF⟩ := bindE hF
  refine ASL.x rfl rfl (hMkZ (f := TOmega.av) hS hz7 (by decide) rfl elemA_35 sizeA_69 bytesA_69 zeroA_69 ⟨.inr ⟨_, rfl, rfl⟩, .inr ⟨_, rfl, rfl⟩, trivial⟩ rfl (by decide) rfl rfl ?_); rintro v7 G2 hK hS
  refine ASL.q (v := v7) rfl rfl (Light.quiet (opAssign rfl rfl)) ?_
  refine ASL.done ?_
  refine AWP.seqM (fun e H => ∃ y4 : (List TOmega), E.Told e [(3, v7)] ∧ E.Sep H [.row 2 v7 (List.map TOmega.av y4)] ∧ laws_toOmegaS.k0 y4 = some r) ?_ ?_
  · rintro e0 G5 ⟨y4, hT, hS, hF⟩; refine AWP.only _ hT ?_; unfold laws_toOmegaS.k0 at hF
    refine AWP.seqR rfl ?_
    refine ASL.q (v := v7) rfl rfl (Light.quiet (opMove rfl rfl)) ?_
    refine ASL.q (v := v7) rfl rfl (Light.quiet (opAssign rfl rfl)) ?_
    refine ASL.done ?_
    refine AWP.ret ?_
    obtain rfl := someE hF
    exact QRet.sole (v := v7) ⟨rfl, trivial⟩ (hS.get (k := 0) rfl)
  · skip
    refine AWP.seqR rfl ?_
    refine ASL.q (v := (.int .i64 0)) rfl rfl (Light.quiet (opAssign rfl rfl)) ?_
    refine ASL.done ?_
    refine AWP.block ?_
    obtain ⟨o10, hL9, hR11⟩ := bindE hF
    refine AWP.loopF (ω := Unit) hL9 (fun s w => [(0, (.list 2 (List.map TOmega.av p0))), (3, v7), (4, (.int .i64 s.2))]) (fun s w => [.row 2 v7 (List.map TOmega.av s.1)]) () ⟨rfl, rfl, rfl, trivial⟩ (hS.pick [0] rfl rfl) ?_
    rintro ⟨y6, x4_l0⟩ _ G12 hS x7 hF hx8
    try dsimp only at hS ⊢
    have hF : laws_toOmegaS.b0 p0 y6 x4_l0 = some x7 := hF; unfold laws_toOmegaS.b0 at hF
    refine AWP.seq ?_
    refine AWP.seqR rfl ?_
    refine ASL.q (v := (.int .i64 x4_l0)) rfl rfl (Light.quiet (opMove rfl rfl)) ?_
    refine ASL.q (v := (.list 2 (List.map TOmega.av p0))) rfl rfl (Light.quiet (opMove rfl rfl)) ?_
    refine ASL.q (v := (.int .i64 (p0.length : Int))) rfl rfl (Light.quiet (opLenMap (f := TOmega.av) rfl rfl rfl lenT_32 rfl)) ?_
    refine ASL.q (v := (.bool (decide (x4_l0 < ((p0.length : Int)))))) rfl rfl (Light.quiet (opInt rfl rfl rfl rfl)) ?_
    refine ASL.done ?_
    refine AWP.ifP hF rfl (fun hc13 hF => ?_) (fun hc13 hF => ?_)
    · skip
      refine AWP.skip ?_
      refine QThen.nrm ?_
      refine AWP.seq ?_
      refine AWP.block ?_
      refine AWP.lastR rfl ?_
      refine ASL.q (v := v7) rfl rfl (Light.quiet (opMove rfl rfl)) ?_
      refine ASL.q (v := (.int .i64 x4_l0)) rfl rfl (Light.quiet (opMove rfl rfl)) ?_
      refine ASL.q (v := (.list 2 (List.map TOmega.av p0))) rfl rfl (Light.quiet (opMove rfl rfl)) ?_
      refine ASL.q (v := (.int .i64 x4_l0)) rfl rfl (Light.quiet (opMove rfl rfl)) ?_
      obtain ⟨a18, ha18, hF⟩ := bindE hF
      refine ASL.q (v := (.rptr [(.list 3 (List.map TNode.av a18.stem)), (.list 3 (List.map TNode.av a18.loop))])) rfl rfl (Light.quiet (kIx (f := TOmega.av) ha18 rfl rfl rfl elemA_32 sizeA_66 rfl)) ?_
      refine ASL.q (v := (TOmega.av a18)) rfl rfl (Light.quiet (opLoadRA rfl aggA_66 sizeA_66 rfl (nlt rfl) rfl)) ?_
      obtain ⟨a20, ha20, hF⟩ := bindE hF
      refine ASL.q (v := (TOmega.av a20)) rfl rfl ((qCall rfl rfl call_47 (laws_toOmega_ok ha20) rfl)) ?_
      obtain ⟨m21, hm21, hF⟩ := bindE hF
      refine ASL.q (v := (ptrTo v7 m21 2)) rfl rfl (Light.quiet (kIxO hS (j := 0) rfl hm21 rfl rfl rfl elemA_35 sizeA_69)) ?_
      refine ASL.n rfl rfl (hSt (f := TOmega.av) (a := a20) hS (j := 0) rfl hm21 rfl sizeA_69 rfl rfl ⟨rfl, rfl, rfl⟩ ?_); rintro G14 hS
      refine ASL.done ?_
      refine QBlock.nrm ?_
      refine QThen.nrm ?_
      refine AWP.lastR rfl ?_
      refine ASL.q (v := (.int .i64 x4_l0)) rfl rfl (Light.quiet (opMove rfl rfl)) ?_
      refine ASL.q (v := (.int .i64 (W (x4_l0 + 1)))) rfl rfl (Light.quiet (opInt rfl rfl rfl rfl)) ?_
      refine ASL.q (v := (.int .i64 (W (x4_l0 + 1)))) rfl rfl (Light.quiet (opAssign rfl rfl)) ?_
      refine ASL.done ?_
      refine QThen.nrm ?_
      exact ⟨((y6.set m21 a20), (W (x4_l0 + 1))), (), (someE hF).symm, ⟨rfl, rfl, rfl, trivial⟩, (hS.pick [0] rfl rfl)⟩
    · skip
      refine AWP.exit ?_
      refine QThen.ext ?_
      refine QThen.ext ?_
      refine QBlock.hit ?_
      obtain rfl := (hx8 _ (someE hF).symm)
      have hF := hR11
      refine QThen.nrm ?_
      exact ⟨y6, ⟨rfl, trivial⟩, (hS.pick [0] rfl rfl), hF⟩

set_option maxRecDepth 10000 in
theorem spec_l1In_ok (p0 : Int) (p1 : Int) (p2 : Int) : PC Try.prog 36 [(.int .i64 p0), (.int .i64 p1), (.int .i64 p2)] fun v => v = (.bool (spec_l1In p0 p1 p2)) := by
  generalize hF : spec_l1In p0 p1 p2 = r
  refine PC.enter Try.func36 rfl Try.ntmps36 (by simp) ?_
  have hS := Sep.void; unfold spec_l1In at hF
  refine AWP.seqR rfl ?_
  refine ASL.q (v := (.bool false)) rfl rfl (Light.quiet (opAssign rfl rfl)) ?_
  refine ASL.done ?_
  refine AWP.seqR rfl ?_
  refine ASL.q (v := (.int .i64 p0)) rfl rfl (Light.quiet (opMove rfl rfl)) ?_
  refine ASL.q (v := (.int .i64 p1)) rfl rfl (Light.quiet (opMove rfl rfl)) ?_
  refine ASL.q (v := (.bool (decide (p0 ≥ p1)))) rfl rfl (Light.quiet (opInt rfl rfl rfl rfl)) ?_
  obtain ⟨c10, hc10, hF⟩ := bndE hF
  refine ASL.q (v := (.bool c10)) rfl rfl ((Quiet.cast (Light.quiet (opMove rfl rfl)) (congrArg AV.bool hc10.symm))) ?_
  refine ASL.g (v := (.int .i64 p0)) (.bool c10) true rfl (wT _) rfl (fun hG => by have q0 := hG; subst q0; exact Light.quiet (opMove rfl rfl)) ?_
  refine ASL.g (v := (.int .i64 p2)) (.bool c10) true rfl (wT _) rfl (fun hG => by have q0 := hG; subst q0; exact Light.quiet (opMove rfl rfl)) ?_
  refine ASL.g (v := (.bool (decide (p0 ≤ p2)))) (.bool c10) true rfl (wT _) rfl (fun hG => by have q0 := hG; subst q0; exact Light.quiet (opInt rfl rfl rfl rfl)) ?_
  refine ASL.q (v := (.bool (c10 && (decide (p0 ≤ p2))))) rfl rfl (Light.quiet (opPick (b := c10) rfl rfl (by cases c10 <;> rfl))) ?_
  refine ASL.q (v := (.bool (c10 && (decide (p0 ≤ p2))))) rfl rfl (Light.quiet (opAssign rfl rfl)) ?_
  refine ASL.done ?_
  refine AWP.ret ?_
  obtain rfl := hF
  exact QRet.sole (v := (.bool (c10 && (decide (p0 ≤ p2))))) ⟨rfl, trivial⟩ rfl

set_option maxRecDepth 10000 in
theorem spec_l11Parts_ok (p0 : Int) : PC Try.prog 37 [(.int .i64 p0)] fun v => v = (.int .i64 (spec_l11Parts p0)) := by
  generalize hF : spec_l11Parts p0 = r
  refine PC.enter Try.func37 rfl Try.ntmps37 (by simp) ?_
  have hS := Sep.void; unfold spec_l11Parts at hF
  refine AWP.seqR rfl ?_
  refine ASL.q (v := (.int .i64 0)) rfl rfl (Light.quiet (opAssign rfl rfl)) ?_
  refine ASL.done ?_
  refine AWP.seq ?_
  refine AWP.seqR rfl ?_
  refine ASL.q (v := (.int .i64 p0)) rfl rfl (Light.quiet (opMove rfl rfl)) ?_
  refine ASL.done ?_
  refine AWP.block ?_
  refine AWP.seqM (fun e H => ∃ x4_1 : Bool, E.Told e [(3, (.int .i64 p0)), (4, (.bool x4_1))] ∧ E.Sep H [] ∧ spec_l11Parts.k0 p0 x4_1 = r) ?_ ?_
  · rintro e0 G6 ⟨x4_1, hT, hS, hF⟩; refine AWP.only _ hT ?_; unfold spec_l11Parts.k0 at hF
    refine AWP.ifB hF rfl (fun hc1 hF => ?_) (fun hc1 hF => ?_)
    · skip
      refine AWP.seqR rfl ?_
      refine ASL.q (v := (.int .i64 0)) rfl rfl (Light.quiet (opAssign rfl rfl)) ?_
      refine ASL.done ?_
      refine AWP.ret ?_
      refine QBlock.ret ?_
      refine QThen.rt ?_
      obtain rfl := hF
      exact QRet.sole (v := (.int .i64 0)) ⟨rfl, trivial⟩ rfl
    · skip
      refine AWP.seqR rfl ?_
      refine ASL.q (v := (.bool (decide (p0 = 4)))) rfl rfl (Light.quiet (opInt rfl rfl rfl rfl)) ?_
      refine ASL.q (v := (.bool (decide (p0 = 4)))) rfl rfl (Light.quiet (opAssign rfl rfl)) ?_
      refine ASL.done ?_
      refine AWP.ifP hF rfl (fun hc2 hF => ?_) (fun hc2 hF => ?_)
      · skip
        refine AWP.seqR rfl ?_
        refine ASL.q (v := (.int .i64 1)) rfl rfl (Light.quiet (opAssign rfl rfl)) ?_
        refine ASL.done ?_
        refine AWP.ret ?_
        refine QBlock.ret ?_
        refine QThen.rt ?_
        obtain rfl := hF
        exact QRet.sole (v := (.int .i64 1)) ⟨rfl, trivial⟩ rfl
      · skip
        refine AWP.seq ?_
        refine AWP.seqR rfl ?_
        refine ASL.q (v := (.bool (decide (p0 = 5)))) rfl rfl (Light.quiet (opInt rfl rfl rfl rfl)) ?_
        refine ASL.q (v := (.bool (decide (p0 = 5)))) rfl rfl (Light.quiet (opAssign rfl rfl)) ?_
        refine ASL.done ?_
        refine AWP.ifP hF rfl (fun hc3 hF => ?_) (fun hc3 hF => ?_)
        · skip
          refine AWP.skip ?_
          refine QThen.nrm ?_
          refine AWP.ifP hF rfl (fun hc4 hF => ?_) (fun hc4 hF => ?_)
          · skip
            refine AWP.seqR rfl ?_
            refine ASL.q (v := (.int .i64 2)) rfl rfl (Light.quiet (opAssign rfl rfl)) ?_
            refine ASL.done ?_
            refine AWP.ret ?_
            refine QBlock.ret ?_
            refine QThen.rt ?_
            obtain rfl := hF
            exact QRet.sole (v := (.int .i64 2)) ⟨rfl, trivial⟩ rfl
          · skip
            refine AWP.skip ?_
            refine QBlock.nrm ?_
            refine QThen.nrm ?_
            refine AWP.seqR rfl ?_
            refine ASL.q (v := (.int .i64 (-1))) rfl rfl (Light.quiet (opAssign rfl rfl)) ?_
            refine ASL.done ?_
            refine AWP.ret ?_
            obtain rfl := hF
            exact QRet.sole (v := (.int .i64 (-1))) ⟨rfl, trivial⟩ rfl
        · skip
          refine AWP.lastR rfl ?_
          refine ASL.q (v := (.bool (decide (p0 = 6)))) rfl rfl (Light.quiet (opInt rfl rfl rfl rfl)) ?_
          refine ASL.q (v := (.bool (decide (p0 = 6)))) rfl rfl (Light.quiet (opAssign rfl rfl)) ?_
          refine ASL.done ?_
          refine QThen.nrm ?_
          refine AWP.ifP hF rfl (fun hc5 hF => ?_) (fun hc5 hF => ?_)
          · skip
            refine AWP.seqR rfl ?_
            refine ASL.q (v := (.int .i64 2)) rfl rfl (Light.quiet (opAssign rfl rfl)) ?_
            refine ASL.done ?_
            refine AWP.ret ?_
            refine QBlock.ret ?_
            refine QThen.rt ?_
            obtain rfl := hF
            exact QRet.sole (v := (.int .i64 2)) ⟨rfl, trivial⟩ rfl
          · skip
            refine AWP.skip ?_
            refine QBlock.nrm ?_
            refine QThen.nrm ?_
            refine AWP.seqR rfl ?_
            refine ASL.q (v := (.int .i64 (-1))) rfl rfl (Light.quiet (opAssign rfl rfl)) ?_
            refine ASL.done ?_
            refine AWP.ret ?_
            obtain rfl := hF
            exact QRet.sole (v := (.int .i64 (-1))) ⟨rfl, trivial⟩ rfl
  · skip
    refine AWP.seqR rfl ?_
    refine ASL.q (v := (.bool (decide (p0 = 1)))) rfl rfl (Light.quiet (opInt rfl rfl rfl rfl)) ?_
    refine ASL.q (v := (.bool (decide (p0 = 1)))) rfl rfl (Light.quiet (opAssign rfl rfl)) ?_
    refine ASL.done ?_
    refine AWP.ifP hF rfl (fun hc7 hF => ?_) (fun hc7 hF => ?_)
    · skip
      refine AWP.skip ?_
      refine QThen.nrm ?_
      exact ⟨(decide (p0 = 1)), ⟨rfl, rfl, trivial⟩, (hS.pick [] rfl rfl), hF⟩
    · skip
      refine AWP.seqR rfl ?_
      refine ASL.q (v := (.bool (decide (p0 = 2)))) rfl rfl (Light.quiet (opInt rfl rfl rfl rfl)) ?_
      refine ASL.q (v := (.bool (decide (p0 = 2)))) rfl rfl (Light.quiet (opAssign rfl rfl)) ?_
      refine ASL.done ?_
      refine AWP.ifP hF rfl (fun hc8 hF => ?_) (fun hc8 hF => ?_)
      · skip
        refine AWP.skip ?_
        refine QThen.nrm ?_
        exact ⟨(decide (p0 = 2)), ⟨rfl, rfl, trivial⟩, (hS.pick [] rfl rfl), hF⟩
      · skip
        refine AWP.lastR rfl ?_
        refine ASL.q (v := (.bool (decide (p0 = 3)))) rfl rfl (Light.quiet (opInt rfl rfl rfl rfl)) ?_
        refine ASL.q (v := (.bool (decide (p0 = 3)))) rfl rfl (Light.quiet (opAssign rfl rfl)) ?_
        refine ASL.done ?_
        refine QThen.nrm ?_
        exact ⟨(decide (p0 = 3)), ⟨rfl, rfl, trivial⟩, (hS.pick [] rfl rfl), hF⟩

set_option maxRecDepth 10000 in
theorem spec_l2Letter_ok (p0 : Int) : PC Try.prog 38 [(.int .i64 p0)] fun v => v = (.bool (spec_l2Letter p0)) := by
  generalize hF : spec_l2Letter p0 = r
  refine PC.enter Try.func38 rfl Try.ntmps38 (by simp) ?_
  have hS := Sep.void; unfold spec_l2Letter at hF
  refine AWP.seqR rfl ?_
  refine ASL.q (v := (.bool false)) rfl rfl (Light.quiet (opAssign rfl rfl)) ?_
  refine ASL.done ?_
  refine AWP.seqR rfl ?_
  refine ASL.q (v := (.int .i64 p0)) rfl rfl (Light.quiet (opMove rfl rfl)) ?_
  refine ASL.q (v := (.bool (spec_l1In p0 0 7))) rfl rfl ((qCall rfl rfl call_36 (spec_l1In_ok p0 0 7) rfl)) ?_
  refine ASL.q (v := (.bool (spec_l1In p0 0 7))) rfl rfl (Light.quiet (opAssign rfl rfl)) ?_
  refine ASL.done ?_
  refine AWP.ret ?_
  obtain rfl := hF
  exact QRet.sole (v := (.bool (spec_l1In p0 0 7))) ⟨rfl, trivial⟩ rfl

set_option maxRecDepth 10000 in
theorem spec_l2Sizes_ok {p0 : (List TNode)} {p1 : (List Int)} {r : (List Int)} (hF : spec_l2Sizes p0 p1 = some r) : PO Try.prog 39 [(.list 3 (List.map TNode.av p0)), (.list 1 (List.map (AV.int .i64) p1))] 1 (List.map (AV.int .i64) r) := by
  refine HC.enter Try.func39 rfl Try.ntmps39 (by simp) ?_
  have hS := Sep.void; unfold spec_l2Sizes at hF
  refine AWP.seqR rfl ?_
  have hS := hNil (s := 1) (f := (AV.int .i64)) hS
  refine ASL.q (v := .nil) rfl rfl (Light.quiet (opAssign rfl rfl)) ?_
  refine ASL.done ?_
  refine AWP.seqR rfl ?_
  refine ASL.x rfl rfl (hLit (f := (AV.int .i64)) (zs := []) hS rfl rfl elemA_25 sizeA_3 zeroA_3 rfl rfl rfl rfl (by simp [cells]) (nlt rfl) ?_); rintro v10 G2 hK hS
  refine ASL.q (v := v10) rfl rfl (Light.quiet (opAssign rfl rfl)) ?_
  refine ASL.done ?_
  refine AWP.seqM (fun e H => ∃ y4 : (List Int), ∃ w5 : AV, E.Told e [(5, w5)] ∧ E.Sep H [.row 1 w5 (List.map (AV.int .i64) y4)] ∧ spec_l2Sizes.k0 y4 = some r) ?_ ?_
  · rintro e0 G7 ⟨y4, w5, hT, hS, hF⟩; refine AWP.only _ hT ?_; unfold spec_l2Sizes.k0 at hF
    refine AWP.seqR rfl ?_
    refine ASL.q (v := w5) rfl rfl (Light.quiet (opMove rfl rfl)) ?_
    refine ASL.q (v := w5) rfl rfl (Light.quiet (opAssign rfl rfl)) ?_
    refine ASL.done ?_
    refine AWP.ret ?_
    obtain rfl := someE hF
    exact QRet.sole (v := w5) ⟨rfl, trivial⟩ (hS.get (k := 0) rfl)
  · skip
    refine AWP.seqR rfl ?_
    refine ASL.q (v := (.int .i64 0)) rfl rfl (Light.quiet (opAssign rfl rfl)) ?_
    refine ASL.done ?_
    refine AWP.block ?_
    obtain ⟨o14, hL13, hR15⟩ := bindE hF
    refine AWP.loopF (ω := AV) hL13 (fun s w => [(0, (.list 3 (List.map TNode.av p0))), (1, (.list 1 (List.map (AV.int .i64) p1))), (5, w), (6, (.int .i64 s.2))]) (fun s w => [.row 1 w (List.map (AV.int .i64) s.1)]) v10 ⟨rfl, rfl, rfl, rfl, trivial⟩ (hS.pick [0] rfl rfl) ?_
    rintro ⟨y8, x6_l0⟩ w9 G16 hS x11 hF hx12
    try dsimp only at hS ⊢
    have hF : spec_l2Sizes.b0 p0 p1 y8 x6_l0 = some x11 := hF; unfold spec_l2Sizes.b0 at hF
    refine AWP.seq ?_
    refine AWP.seqR rfl ?_
    refine ASL.q (v := (.int .i64 x6_l0)) rfl rfl (Light.quiet (opMove rfl rfl)) ?_
    refine ASL.q (v := (.list 3 (List.map TNode.av p0))) rfl rfl (Light.quiet (opMove rfl rfl)) ?_
    refine ASL.q (v := (.int .i64 (p0.length : Int))) rfl rfl (Light.quiet (opLenMap (f := TNode.av) rfl rfl rfl lenT_24 rfl)) ?_
    refine ASL.q (v := (.bool (decide (x6_l0 < ((p0.length : Int)))))) rfl rfl (Light.quiet (opInt rfl rfl rfl rfl)) ?_
    refine ASL.done ?_
    refine AWP.ifP hF rfl (fun hc17 hF => ?_) (fun hc17 hF => ?_)
    · skip
      refine AWP.skip ?_
      refine QThen.nrm ?_
      refine AWP.seq ?_
      refine AWP.block ?_
      refine AWP.seqR rfl ?_
      refine ASL.q (v := (.list 3 (List.map TNode.av p0))) rfl rfl (Light.quiet (opMove rfl rfl)) ?_
      refine ASL.q (v := (.int .i64 x6_l0)) rfl rfl (Light.quiet (opMove rfl rfl)) ?_
      obtain ⟨a19, ha19, hF⟩ := bindE hF
      refine ASL.q (v := (.rptr [(.int .i64 a19.kind), (.int .i64 a19.a), (.int .i64 a19.b)])) rfl rfl (Light.quiet (kIx (f := TNode.av) ha19 rfl rfl rfl elemA_24 sizeA_31 rfl)) ?_
      refine ASL.q (v := (TNode.av a19)) rfl rfl (Light.quiet (opLoadRA rfl aggA_31 sizeA_31 rfl (nlt rfl) rfl)) ?_
      refine ASL.x rfl rfl (hNewZ hS [(.int .i64 0), (.int .i64 0), (.int .i64 0)] rfl zeroA_31 ⟨.inl rfl, .inl rfl, .inl rfl, trivial⟩ ?_); rintro b7 G18 hK hS
      refine ASL.n rfl rfl (hPutA hS (j := 0) rfl rfl sizeA_31 rfl rfl rfl rfl rfl (nlt rfl) ?_); rintro G20 hS
      refine ASL.done ?_
      refine AWP.seqR rfl ?_
      refine ASL.q (v := (.int .i64 1)) rfl rfl (Light.quiet (opAssign rfl rfl)) ?_
      refine ASL.done ?_
      refine AWP.seq ?_
      refine AWP.seqR rfl ?_
      refine ASL.q (v := (.list 1 (List.map (AV.int .i64) p1))) rfl rfl (Light.quiet (opMove rfl rfl)) ?_
      refine ASL.q (v := (.int .i64 x6_l0)) rfl rfl (Light.quiet (opMove rfl rfl)) ?_
      obtain ⟨a23, ha23, hF⟩ := bindE hF
      refine ASL.q (v := (.rptr [(.int .i64 a23)])) rfl rfl (Light.quiet (kIx (f := (AV.int .i64)) ha23 rfl rfl rfl elemA_25 sizeA_3 rfl)) ?_
      refine ASL.q (v := (.int .i64 a23)) rfl rfl (Light.quiet (opLoadR rfl aggA_3 rfl rfl)) ?_
      refine ASL.done ?_
      refine AWP.block ?_
      refine AWP.seqR rfl ?_
      refine ASL.q (v := (.bool (decide (a23 = 1)))) rfl rfl (Light.quiet (opInt rfl rfl rfl rfl)) ?_
      refine ASL.q (v := (.bool (decide (a23 = 1)))) rfl rfl (Light.quiet (opAssign rfl rfl)) ?_
      refine ASL.done ?_
      refine AWP.ifP hF rfl (fun hc21 hF => ?_) (fun hc21 hF => ?_)
      · skip
        refine AWP.seq ?_
        refine AWP.seqR rfl ?_
        refine ASL.q (v := (.int .i64 x6_l0)) rfl rfl (Light.quiet (opMove rfl rfl)) ?_
        refine ASL.q (v := (.bool (decide (x6_l0 < 1)))) rfl rfl (Light.quiet (opInt rfl rfl rfl rfl)) ?_
        obtain ⟨c33, hc33, hF⟩ := bndE hF
        refine ASL.q (v := (.bool c33)) rfl rfl ((Quiet.cast (Light.quiet (opMove rfl rfl)) (congrArg AV.bool hc33.symm))) ?_
        refine ASL.g (v := (.ptr b7 1)) (.bool c33) false rfl (wF _) rfl (fun hG => by have q0 := gN hG; subst q0; exact Light.quiet (opFieldAddr rfl fieldA_31_1 rfl rfl)) ?_
        refine ASL.g (v := (.int .i64 a19.a)) (.bool c33) false rfl (wF _) rfl (fun hG => by have q0 := gN hG; subst q0; exact Light.quiet (kAt hS (j := 0) rfl rfl aggA_3 rfl rfl)) ?_
        refine ASL.g (v := (.int .i64 x6_l0)) (.bool c33) false rfl (wF _) rfl (fun hG => by have q0 := gN hG; subst q0; exact Light.quiet (opMove rfl rfl)) ?_
        refine ASL.g (v := (.int .i64 (W (x6_l0 - 1)))) (.bool c33) false rfl (wF _) rfl (fun hG => by have q0 := gN hG; subst q0; exact Light.quiet (opInt rfl rfl rfl rfl)) ?_
        refine ASL.g (v := (.bool (decide (a19.a ≠ ((W (x6_l0 - 1))))))) (.bool c33) false rfl (wF _) rfl (fun hG => by have q0 := gN hG; subst q0; exact Light.quiet (opInt rfl rfl rfl rfl)) ?_
        refine ASL.q (v := (.bool (c33 || (decide (a19.a ≠ ((W (x6_l0 - 1)))))))) rfl rfl (Light.quiet (opPick (b := c33) rfl rfl (by cases c33 <;> rfl))) ?_
        obtain ⟨c40, hc40, hF⟩ := bndE hF
        refine ASL.q (v := (.bool c40)) rfl rfl ((Quiet.cast (Light.quiet (opMove rfl rfl)) (congrArg AV.bool hc40.symm))) ?_
        refine ASL.g (v := (.ptr b7 2)) (.bool c40) false rfl (wF _) rfl (fun hG => by have q0 := gN hG; subst q0; exact Light.quiet (opFieldAddr rfl fieldA_31_2 rfl rfl)) ?_
        refine ASL.g (v := (.int .i64 a19.b)) (.bool c40) false rfl (wF _) rfl (fun hG => by have q0 := gN hG; subst q0; exact Light.quiet (kAt hS (j := 0) rfl rfl aggA_3 rfl rfl)) ?_
        refine ASL.g (v := (.bool (decide (a19.b ≠ 0)))) (.bool c40) false rfl (wF _) rfl (fun hG => by have q0 := gN hG; subst q0; exact Light.quiet (opInt rfl rfl rfl rfl)) ?_
        refine ASL.q (v := (.bool (c40 || (decide (a19.b ≠ 0))))) rfl rfl (Light.quiet (opPick (b := c40) rfl rfl (by cases c40 <;> rfl))) ?_
        refine ASL.done ?_
        refine AWP.ifB hF rfl (fun hc22 hF => ?_) (fun hc22 hF => ?_)
        · skip
          refine AWP.seqR rfl ?_
          refine ASL.x rfl rfl (hLit (f := (AV.int .i64)) (zs := []) hS rfl rfl elemA_25 sizeA_3 zeroA_3 rfl rfl rfl rfl (by simp [cells]) (nlt rfl) ?_); rintro v45 G23 hK hS
          refine ASL.q (v := v45) rfl rfl (Light.quiet (opAssign rfl rfl)) ?_
          refine ASL.done ?_
          refine AWP.ret ?_
          refine QThen.rt ?_
          refine QBlock.ret ?_
          refine QThen.rt ?_
          refine QBlock.ret ?_
          refine QThen.rt ?_
          refine QThen.rt ?_
          refine QBlock.ret ?_
          refine QThen.rt ?_
          obtain rfl := (hx12 _ (someE hF).symm)
          have hF := hR15
          have hF := sumR hF
          obtain rfl := someE hF
          exact QRet.sole (v := v45) ⟨rfl, trivial⟩ (hS.get (k := 0) rfl)
        · skip
          refine AWP.skip ?_
          refine QThen.nrm ?_
          refine AWP.lastR rfl ?_
          refine ASL.q (v := w9) rfl rfl (Light.quiet (opMove rfl rfl)) ?_
          refine ASL.q (v := (.int .i64 x6_l0)) rfl rfl (Light.quiet (opMove rfl rfl)) ?_
          refine ASL.q (v := (.int .i64 (W (x6_l0 - 1)))) rfl rfl (Light.quiet (opInt rfl rfl rfl rfl)) ?_
          obtain ⟨a49, ha49, hF⟩ := bindE hF
          refine ASL.q (v := (ptrTo w9 ((W (x6_l0 - 1))).toNat 1)) rfl rfl (Light.quiet (kIxOx hS (j := 1) rfl ha49 rfl rfl rfl elemA_25 sizeA_3)) ?_
          refine ASL.q (v := (.int .i64 a49)) rfl rfl (Light.quiet (kLd (f := (AV.int .i64)) hS (j := 1) rfl ha49 rfl aggA_3 rfl (fun _ => rfl))) ?_
          refine ASL.q (v := (.int .i64 (W (1 + a49)))) rfl rfl (Light.quiet (opInt rfl rfl rfl rfl)) ?_
          refine ASL.q (v := (.int .i64 (W (1 + a49)))) rfl rfl (Light.quiet (opAssign rfl rfl)) ?_
          refine ASL.done ?_
          refine QBlock.nrm ?_
          refine QThen.nrm ?_
          refine AWP.lastR rfl ?_
          refine ASL.q (v := w9) rfl rfl (Light.quiet (opMove rfl rfl)) ?_
          refine ASL.q (v := (.int .i64 (W (1 + a49)))) rfl rfl (Light.quiet (opMove rfl rfl)) ?_
          refine ASL.q (v := (.list 1 (List.map (AV.int .i64) [(W (1 + a49))]))) rfl rfl ((qLit (xs := [(.int .i64 (W (1 + a49)))]) rfl elemA_25 sizeA_3 zeroA_3 rfl rfl rfl rfl (by simp [cells]) (nlt rfl))) ?_
          obtain ⟨z95, hz95, hF⟩ := bindE hF
          refine ASL.x rfl rfl (hApp (f := (AV.int .i64)) (ws := [(W (1 + a49))]) hS (j := 1) rfl hz95 rfl elemA_25 rfl sizeA_3 bytesA_3 zeroA_3 rfl rfl rfl (fun _ => rfl) ?_); rintro v95 G25 hS
          refine ASL.q (v := v95) rfl rfl (Light.quiet (opAssign rfl rfl)) ?_
          refine ASL.done ?_
          refine QBlock.nrm ?_
          refine QThen.nrm ?_
          refine AWP.lastR rfl ?_
          refine ASL.q (v := (.int .i64 x6_l0)) rfl rfl (Light.quiet (opMove rfl rfl)) ?_
          refine ASL.q (v := (.int .i64 (W (x6_l0 + 1)))) rfl rfl (Light.quiet (opInt rfl rfl rfl rfl)) ?_
          refine ASL.q (v := (.int .i64 (W (x6_l0 + 1)))) rfl rfl (Light.quiet (opAssign rfl rfl)) ?_
          refine ASL.done ?_
          refine QThen.nrm ?_
          exact ⟨(z95, (W (x6_l0 + 1))), v95, (someE hF).symm, ⟨rfl, rfl, rfl, rfl, trivial⟩, (hS.pick [1] rfl rfl)⟩
      · skip
        refine AWP.seqR rfl ?_
        refine ASL.q (v := (.bool (decide (a23 = 2)))) rfl rfl (Light.quiet (opInt rfl rfl rfl rfl)) ?_
        refine ASL.q (v := (.bool (decide (a23 = 2)))) rfl rfl (Light.quiet (opAssign rfl rfl)) ?_
        refine ASL.done ?_
        refine AWP.ifP hF rfl (fun hc27 hF => ?_) (fun hc27 hF => ?_)
        · skip
          refine AWP.seq ?_
          refine AWP.seqR rfl ?_
          refine ASL.q (v := (.int .i64 x6_l0)) rfl rfl (Light.quiet (opMove rfl rfl)) ?_
          refine ASL.q (v := (.bool (decide (x6_l0 < 2)))) rfl rfl (Light.quiet (opInt rfl rfl rfl rfl)) ?_
          obtain ⟨c56, hc56, hF⟩ := bndE hF
          refine ASL.q (v := (.bool c56)) rfl rfl ((Quiet.cast (Light.quiet (opMove rfl rfl)) (congrArg AV.bool hc56.symm))) ?_
          refine ASL.g (v := (.ptr b7 2)) (.bool c56) false rfl (wF _) rfl (fun hG => by have q0 := gN hG; subst q0; exact Light.quiet (opFieldAddr rfl fieldA_31_2 rfl rfl)) ?_
          refine ASL.g (v := (.int .i64 a19.b)) (.bool c56) false rfl (wF _) rfl (fun hG => by have q0 := gN hG; subst q0; exact Light.quiet (kAt hS (j := 0) rfl rfl aggA_3 rfl rfl)) ?_
          refine ASL.g (v := (.int .i64 x6_l0)) (.bool c56) false rfl (wF _) rfl (fun hG => by have q0 := gN hG; subst q0; exact Light.quiet (opMove rfl rfl)) ?_
          refine ASL.g (v := (.int .i64 (W (x6_l0 - 1)))) (.bool c56) false rfl (wF _) rfl (fun hG => by have q0 := gN hG; subst q0; exact Light.quiet (opInt rfl rfl rfl rfl)) ?_
          refine ASL.g (v := (.bool (decide (a19.b ≠ ((W (x6_l0 - 1))))))) (.bool c56) false rfl (wF _) rfl (fun hG => by have q0 := gN hG; subst q0; exact Light.quiet (opInt rfl rfl rfl rfl)) ?_
          refine ASL.q (v := (.bool (c56 || (decide (a19.b ≠ ((W (x6_l0 - 1)))))))) rfl rfl (Light.quiet (opPick (b := c56) rfl rfl (by cases c56 <;> rfl))) ?_
          refine ASL.done ?_
          refine AWP.ifB hF rfl (fun hc28 hF => ?_) (fun hc28 hF => ?_)
          · skip
            refine AWP.seqR rfl ?_
            refine ASL.x rfl rfl (hLit (f := (AV.int .i64)) (zs := []) hS rfl rfl elemA_25 sizeA_3 zeroA_3 rfl rfl rfl rfl (by simp [cells]) (nlt rfl) ?_); rintro v63 G29 hK hS
            refine ASL.q (v := v63) rfl rfl (Light.quiet (opAssign rfl rfl)) ?_
            refine ASL.done ?_
            refine AWP.ret ?_
            refine QThen.rt ?_
            refine QBlock.ret ?_
            refine QThen.rt ?_
            refine QBlock.ret ?_
            refine QThen.rt ?_
            refine QThen.rt ?_
            refine QBlock.ret ?_
            refine QThen.rt ?_
            obtain rfl := (hx12 _ (someE hF).symm)
            have hF := hR15
            have hF := sumR hF
            obtain rfl := someE hF
            exact QRet.sole (v := v63) ⟨rfl, trivial⟩ (hS.get (k := 0) rfl)
          · skip
            refine AWP.skip ?_
            refine QThen.nrm ?_
            refine AWP.seqR rfl ?_
            refine ASL.q (v := (.int .i64 x6_l0)) rfl rfl (Light.quiet (opMove rfl rfl)) ?_
            refine ASL.q (v := (.int .i64 (W (x6_l0 - 1)))) rfl rfl (Light.quiet (opInt rfl rfl rfl rfl)) ?_
            refine ASL.q (v := w9) rfl rfl (Light.quiet (opMove rfl rfl)) ?_
            refine ASL.q (v := (.int .i64 x6_l0)) rfl rfl (Light.quiet (opMove rfl rfl)) ?_
            refine ASL.q (v := (.int .i64 (W (x6_l0 - 1)))) rfl rfl (Light.quiet (opInt rfl rfl rfl rfl)) ?_
            obtain ⟨a69, ha69, hF⟩ := bindE hF
            refine ASL.q (v := (ptrTo w9 ((W (x6_l0 - 1))).toNat 1)) rfl rfl (Light.quiet (kIxOx hS (j := 1) rfl ha69 rfl rfl rfl elemA_25 sizeA_3)) ?_
            refine ASL.q (v := (.int .i64 a69)) rfl rfl (Light.quiet (kLd (f := (AV.int .i64)) hS (j := 1) rfl ha69 rfl aggA_3 rfl (fun _ => rfl))) ?_
            refine ASL.q (v := (.int .i64 (W (((W (x6_l0 - 1))) - a69)))) rfl rfl (Light.quiet (opInt rfl rfl rfl rfl)) ?_
            refine ASL.q (v := (.int .i64 (W (((W (x6_l0 - 1))) - a69)))) rfl rfl (Light.quiet (opAssign rfl rfl)) ?_
            refine ASL.done ?_
            refine AWP.seq ?_
            refine AWP.seqR rfl ?_
            refine ASL.q (v := (.int .i64 (W (((W (x6_l0 - 1))) - a69)))) rfl rfl (Light.quiet (opMove rfl rfl)) ?_
            refine ASL.q (v := (.bool (decide (((W (((W (x6_l0 - 1))) - a69))) < 0)))) rfl rfl (Light.quiet (opInt rfl rfl rfl rfl)) ?_
            obtain ⟨c74, hc74, hF⟩ := bndE hF
            refine ASL.q (v := (.bool c74)) rfl rfl ((Quiet.cast (Light.quiet (opMove rfl rfl)) (congrArg AV.bool hc74.symm))) ?_
            refine ASL.g (v := (.ptr b7 1)) (.bool c74) false rfl (wF _) rfl (fun hG => by have q0 := gN hG; subst q0; exact Light.quiet (opFieldAddr rfl fieldA_31_1 rfl rfl)) ?_
            refine ASL.g (v := (.int .i64 a19.a)) (.bool c74) false rfl (wF _) rfl (fun hG => by have q0 := gN hG; subst q0; exact Light.quiet (kAt hS (j := 0) rfl rfl aggA_3 rfl rfl)) ?_
            refine ASL.g (v := (.int .i64 (W (((W (x6_l0 - 1))) - a69)))) (.bool c74) false rfl (wF _) rfl (fun hG => by have q0 := gN hG; subst q0; exact Light.quiet (opMove rfl rfl)) ?_
            refine ASL.g (v := (.bool (decide (a19.a ≠ ((W (((W (x6_l0 - 1))) - a69))))))) (.bool c74) false rfl (wF _) rfl (fun hG => by have q0 := gN hG; subst q0; exact Light.quiet (opInt rfl rfl rfl rfl)) ?_
            refine ASL.q (v := (.bool (c74 || (decide (a19.a ≠ ((W (((W (x6_l0 - 1))) - a69)))))))) rfl rfl (Light.quiet (opPick (b := c74) rfl rfl (by cases c74 <;> rfl))) ?_
            refine ASL.done ?_
            refine AWP.ifB hF rfl (fun hc31 hF => ?_) (fun hc31 hF => ?_)
            · skip
              refine AWP.seqR rfl ?_
              refine ASL.x rfl rfl (hLit (f := (AV.int .i64)) (zs := []) hS rfl rfl elemA_25 sizeA_3 zeroA_3 rfl rfl rfl rfl (by simp [cells]) (nlt rfl) ?_); rintro v80 G32 hK hS
              refine ASL.q (v := v80) rfl rfl (Light.quiet (opAssign rfl rfl)) ?_
              refine ASL.done ?_
              refine AWP.ret ?_
              refine QThen.rt ?_
              refine QBlock.ret ?_
              refine QThen.rt ?_
              refine QBlock.ret ?_
              refine QThen.rt ?_
              refine QThen.rt ?_
              refine QBlock.ret ?_
              refine QThen.rt ?_
              obtain rfl := (hx12 _ (someE hF).symm)
              have hF := hR15
              have hF := sumR hF
              obtain rfl := someE hF
              exact QRet.sole (v := v80) ⟨rfl, trivial⟩ (hS.get (k := 0) rfl)
            · skip
              refine AWP.skip ?_
              refine QThen.nrm ?_
              refine AWP.lastD [(0, false), (1, false), (2, false), (3, false), (4, false), (5, false), (6, false), (7, false), (8, false), (9, false), (10, false), (11, false)] mixed (by kernel_rfl) rfl ?_
              refine ARL.q0 (v := w9) rfl rfl (Light.quiet (opMove rfl rfl)) ?_
              refine ARL.q0 (v := (.int .i64 x6_l0)) rfl rfl (Light.quiet (opMove rfl rfl)) ?_
              refine ARL.q0 (v := (.int .i64 (W (x6_l0 - 1)))) rfl rfl (Light.quiet (opInt rfl rfl rfl rfl)) ?_
              obtain ⟨a84, ha84, hF⟩ := bindE hF
              refine ARL.q0 (v := (ptrTo w9 ((W (x6_l0 - 1))).toNat 1)) rfl rfl (Light.quiet (kIxOx hS (j := 1) rfl ha84 rfl rfl rfl elemA_25 sizeA_3)) ?_
              refine ARL.q (v := (.int .i64 a84)) rfl rfl (hS.aliveR (k := 1) rfl) (Light.quiet (kLd (f := (AV.int .i64)) hS (j := 1) rfl ha84 rfl aggA_3 rfl (fun _ => rfl))) ?_
              refine ARL.q0 (v := (.int .i64 (W (1 + a84)))) rfl rfl (Light.quiet (opInt rfl rfl rfl rfl)) ?_
              refine ARL.q0 (v := w9) rfl rfl (Light.quiet (opMove rfl rfl)) ?_
              refine ARL.q0 (v := (.int .i64 (W (((W (x6_l0 - 1))) - a69)))) rfl rfl (Light.quiet (opMove rfl rfl)) ?_
              obtain ⟨a89, ha89, hF⟩ := bindE hF
              refine ARL.q0 (v := (ptrTo w9 ((W (((W (x6_l0 - 1))) - a69))).toNat 1)) rfl rfl (Light.quiet (kIxOx hS (j := 1) rfl ha89 rfl rfl rfl elemA_25 sizeA_3)) ?_
              refine ARL.q (v := (.int .i64 a89)) rfl rfl (hS.aliveR (k := 1) rfl) (Light.quiet (kLd (f := (AV.int .i64)) hS (j := 1) rfl ha89 rfl aggA_3 rfl (fun _ => rfl))) ?_
              refine ARL.q0 (v := (.int .i64 (W (((W (1 + a84))) + a89)))) rfl rfl (Light.quiet (opInt rfl rfl rfl rfl)) ?_
              refine ARL.q0 (v := (.int .i64 (W (((W (1 + a84))) + a89)))) rfl rfl (Light.quiet (opAssign rfl rfl)) ?_
              refine ARL.done ?_
              refine QBlock.nrm ?_
              refine QThen.nrm ?_
              refine AWP.lastR rfl ?_
              refine ASL.q (v := w9) rfl rfl (Light.quiet (opMove rfl rfl)) ?_
              refine ASL.q (v := (.int .i64 (W (((W (1 + a84))) + a89)))) rfl rfl (Light.quiet (opMove rfl rfl)) ?_
              refine ASL.q (v := (.list 1 (List.map (AV.int .i64) [(W (((W (1 + a84))) + a89))]))) rfl rfl ((qLit (xs := [(.int .i64 (W (((W (1 + a84))) + a89)))]) rfl elemA_25 sizeA_3 zeroA_3 rfl rfl rfl rfl (by simp [cells]) (nlt rfl))) ?_
              obtain ⟨z95, hz95, hF⟩ := bindE hF
              refine ASL.x rfl rfl (hApp (f := (AV.int .i64)) (ws := [(W (((W (1 + a84))) + a89))]) hS (j := 1) rfl hz95 rfl elemA_25 rfl sizeA_3 bytesA_3 zeroA_3 rfl rfl rfl (fun _ => rfl) ?_); rintro v95 G34 hS
              refine ASL.q (v := v95) rfl rfl (Light.quiet (opAssign rfl rfl)) ?_
              refine ASL.done ?_
              refine QBlock.nrm ?_
              refine QThen.nrm ?_
              refine AWP.lastR rfl ?_
              refine ASL.q (v := (.int .i64 x6_l0)) rfl rfl (Light.quiet (opMove rfl rfl)) ?_
              refine ASL.q (v := (.int .i64 (W (x6_l0 + 1)))) rfl rfl (Light.quiet (opInt rfl rfl rfl rfl)) ?_
              refine ASL.q (v := (.int .i64 (W (x6_l0 + 1)))) rfl rfl (Light.quiet (opAssign rfl rfl)) ?_
              refine ASL.done ?_
              refine QThen.nrm ?_
              exact ⟨(z95, (W (x6_l0 + 1))), v95, (someE hF).symm, ⟨rfl, rfl, rfl, rfl, trivial⟩, (hS.pick [1] rfl rfl)⟩
        · skip
          refine AWP.seqR rfl ?_
          refine ASL.q (v := (.ptr b7 2)) rfl rfl (Light.quiet (opFieldAddr rfl fieldA_31_2 rfl rfl)) ?_
          refine ASL.q (v := (.int .i64 a19.b)) rfl rfl (Light.quiet (kAt hS (j := 0) rfl rfl aggA_3 rfl rfl)) ?_
          refine ASL.q (v := (.bool (decide (a19.b ≠ 0)))) rfl rfl (Light.quiet (opInt rfl rfl rfl rfl)) ?_
          refine ASL.done ?_
          refine AWP.ifP hF rfl (fun hc36 hF => ?_) (fun hc36 hF => ?_)
          · skip
            refine AWP.seqR rfl ?_
            refine ASL.x rfl rfl (hLit (f := (AV.int .i64)) (zs := []) hS rfl rfl elemA_25 sizeA_3 zeroA_3 rfl rfl rfl rfl (by simp [cells]) (nlt rfl) ?_); rintro v28 G37 hK hS
            refine ASL.q (v := v28) rfl rfl (Light.quiet (opAssign rfl rfl)) ?_
            refine ASL.done ?_
            refine AWP.ret ?_
            refine QBlock.ret ?_
            refine QThen.rt ?_
            refine QBlock.ret ?_
            refine QThen.rt ?_
            refine QThen.rt ?_
            refine QBlock.ret ?_
            refine QThen.rt ?_
            obtain rfl := (hx12 _ (someE hF).symm)
            have hF := hR15
            have hF := sumR hF
            obtain rfl := someE hF
            exact QRet.sole (v := v28) ⟨rfl, trivial⟩ (hS.get (k := 0) rfl)
          · skip
            refine AWP.skip ?_
            refine QBlock.nrm ?_
            refine QThen.nrm ?_
            refine AWP.lastR rfl ?_
            refine ASL.q (v := w9) rfl rfl (Light.quiet (opMove rfl rfl)) ?_
            refine ASL.q (v := (.int .i64 1)) rfl rfl (Light.quiet (opMove rfl rfl)) ?_
            refine ASL.q (v := (.list 1 (List.map (AV.int .i64) [1]))) rfl rfl ((qLit (xs := [(.int .i64 1)]) rfl elemA_25 sizeA_3 zeroA_3 rfl rfl rfl rfl (by simp [cells]) (nlt rfl))) ?_
            obtain ⟨z95, hz95, hF⟩ := bindE hF
            refine ASL.x rfl rfl (hApp (f := (AV.int .i64)) (ws := [1]) hS (j := 1) rfl hz95 rfl elemA_25 rfl sizeA_3 bytesA_3 zeroA_3 rfl rfl rfl (fun _ => rfl) ?_); rintro v95 G39 hS
            refine ASL.q (v := v95) rfl rfl (Light.quiet (opAssign rfl rfl)) ?_
            refine ASL.done ?_
            refine QBlock.nrm ?_
            refine QThen.nrm ?_
            refine AWP.lastR rfl ?_
            refine ASL.q (v := (.int .i64 x6_l0)) rfl rfl (Light.quiet (opMove rfl rfl)) ?_
            refine ASL.q (v := (.int .i64 (W (x6_l0 + 1)))) rfl rfl (Light.quiet (opInt rfl rfl rfl rfl)) ?_
            refine ASL.q (v := (.int .i64 (W (x6_l0 + 1)))) rfl rfl (Light.quiet (opAssign rfl rfl)) ?_
            refine ASL.done ?_
            refine QThen.nrm ?_
            exact ⟨(z95, (W (x6_l0 + 1))), v95, (someE hF).symm, ⟨rfl, rfl, rfl, rfl, trivial⟩, (hS.pick [1] rfl rfl)⟩
    · skip
      refine AWP.exit ?_
      refine QThen.ext ?_
      refine QThen.ext ?_
      refine QBlock.hit ?_
      obtain rfl := (hx12 _ (someE hF).symm)
      have hF := hR15
      have hF := sumL hF
      refine QThen.nrm ?_
      exact ⟨y8, w9, ⟨rfl, trivial⟩, (hS.pick [0] rfl rfl), hF⟩

set_option maxRecDepth 10000 in
theorem spec_ReOk_ok {p0 : (List TNode)} {r : Bool} (hF : spec_ReOk p0 = some r) : PC Try.prog 9 [(.list 3 (List.map TNode.av p0))] fun v => v = (.bool r) := by
  refine PC.enter Try.func9 rfl Try.ntmps9 (by simp) ?_
  have hS := Sep.void; unfold spec_ReOk at hF
  refine AWP.seqR rfl ?_
  refine ASL.q (v := (.bool false)) rfl rfl (Light.quiet (opAssign rfl rfl)) ?_
  refine ASL.done ?_
  refine AWP.seq ?_
  refine AWP.seqR rfl ?_
  refine ASL.q (v := (.list 3 (List.map TNode.av p0))) rfl rfl (Light.quiet (opMove rfl rfl)) ?_
  refine ASL.q (v := (.int .i64 (p0.length : Int))) rfl rfl (Light.quiet (opLenMap (f := TNode.av) rfl rfl rfl lenT_24 rfl)) ?_
  refine ASL.q (v := (.bool (spec_l1In ((p0.length : Int)) 1 31))) rfl rfl ((qCall rfl rfl call_36 (spec_l1In_ok ((p0.length : Int)) 1 31) rfl)) ?_
  refine ASL.q (v := (.bool (!(spec_l1In ((p0.length : Int)) 1 31)))) rfl rfl (Light.quiet (opNot rfl rfl)) ?_
  refine ASL.done ?_
  refine AWP.ifB hF rfl (fun hc1 hF => ?_) (fun hc1 hF => ?_)
  · skip
    refine AWP.seqR rfl ?_
    refine ASL.q (v := (.bool false)) rfl rfl (Light.quiet (opAssign rfl rfl)) ?_
    refine ASL.done ?_
    refine AWP.ret ?_
    refine QThen.rt ?_
    obtain rfl := someE hF
    exact QRet.sole (v := (.bool false)) ⟨rfl, trivial⟩ rfl
  · skip
    refine AWP.skip ?_
    refine QThen.nrm ?_
    refine AWP.seqR rfl ?_
    refine ASL.x rfl rfl (hLit (f := (AV.int .i64)) (zs := []) hS rfl rfl elemA_25 sizeA_3 zeroA_3 rfl rfl rfl rfl (by simp [cells]) (nlt rfl) ?_); rintro v12 G2 hK hS
    refine ASL.q (v := v12) rfl rfl (Light.quiet (opAssign rfl rfl)) ?_
    refine ASL.done ?_
    refine AWP.seqM (fun e H => ∃ y4 : (List Int), ∃ w5 : AV, E.Told e [(0, (.list 3 (List.map TNode.av p0))), (3, w5)] ∧ E.Sep H [.row 1 w5 (List.map (AV.int .i64) y4)] ∧ spec_ReOk.k0 p0 y4 = some r) ?_ ?_
    · rintro e0 G7 ⟨y4, w5, hT, hS, hF⟩; refine AWP.only _ hT ?_; unfold spec_ReOk.k0 at hF
      refine AWP.seqR rfl ?_
      refine ASL.q (v := (.list 3 (List.map TNode.av p0))) rfl rfl (Light.quiet (opMove rfl rfl)) ?_
      refine ASL.q (v := w5) rfl rfl (Light.quiet (opMove rfl rfl)) ?_
      obtain ⟨a59, ha59, hF⟩ := bindE hF
      refine ASL.q (v := (.list 1 (List.map (AV.int .i64) a59))) rfl rfl ((qCallRL hS rfl rfl call_39 (spec_l2Sizes_ok ha59) ⟨.same _, .row (k := 0) rfl, trivial⟩ (Scal.ints _ _))) ?_
      refine ASL.q (v := (.list 1 (List.map (AV.int .i64) a59))) rfl rfl (Light.quiet (opAssign rfl rfl)) ?_
      refine ASL.done ?_
      refine AWP.seqR rfl ?_
      refine ASL.q (v := (.list 1 (List.map (AV.int .i64) a59))) rfl rfl (Light.quiet (opMove rfl rfl)) ?_
      refine ASL.q (v := (.int .i64 (a59.length : Int))) rfl rfl (Light.quiet (opLenMap (f := (AV.int .i64)) rfl rfl rfl lenT_25 rfl)) ?_
      refine ASL.q (v := (.list 3 (List.map TNode.av p0))) rfl rfl (Light.quiet (opMove rfl rfl)) ?_
      refine ASL.q (v := (.int .i64 (p0.length : Int))) rfl rfl (Light.quiet (opLenMap (f := TNode.av) rfl rfl rfl lenT_24 rfl)) ?_
      refine ASL.q (v := (.bool (decide (((a59.length : Int)) = ((p0.length : Int)))))) rfl rfl (Light.quiet (opInt rfl rfl rfl rfl)) ?_
      obtain ⟨c65, hc65, hF⟩ := bndE hF
      refine ASL.q (v := (.bool c65)) rfl rfl ((Quiet.cast (Light.quiet (opMove rfl rfl)) (congrArg AV.bool hc65.symm))) ?_
      refine ASL.g (v := (.list 1 (List.map (AV.int .i64) a59))) (.bool c65) true rfl (wT _) rfl (fun hG => by have q0 := hG; subst q0; exact Light.quiet (opMove rfl rfl)) ?_
      refine ASL.g (v := (.list 3 (List.map TNode.av p0))) (.bool c65) true rfl (wT _) rfl (fun hG => by have q0 := hG; subst q0; exact Light.quiet (opMove rfl rfl)) ?_
      refine ASL.g (v := (.int .i64 (p0.length : Int))) (.bool c65) true rfl (wT _) rfl (fun hG => by have q0 := hG; subst q0; exact Light.quiet (opLenMap (f := TNode.av) rfl rfl rfl lenT_24 rfl)) ?_
      refine ASL.g (v := (.int .i64 (W (((p0.length : Int)) - 1)))) (.bool c65) true rfl (wT _) rfl (fun hG => by have q0 := hG; subst q0; exact Light.quiet (opInt rfl rfl rfl rfl)) ?_
      obtain ⟨a70, ha70, hF⟩ := bindE hF
      refine ASL.g (v := (.rptr [(.int .i64 a70)])) (.bool c65) true rfl (wT _) rfl (fun hG => by have q0 := hG; subst q0; exact Light.quiet (kIx (f := (AV.int .i64)) (whenE ha70) rfl rfl rfl elemA_25 sizeA_3 rfl)) ?_
      refine ASL.g (v := (.int .i64 a70)) (.bool c65) true rfl (wT _) rfl (fun hG => by have q0 := hG; subst q0; exact Light.quiet (opLoadR rfl aggA_3 rfl rfl)) ?_
      refine ASL.g (v := (.list 3 (List.map TNode.av p0))) (.bool c65) true rfl (wT _) rfl (fun hG => by have q0 := hG; subst q0; exact Light.quiet (opMove rfl rfl)) ?_
      refine ASL.g (v := (.int .i64 (p0.length : Int))) (.bool c65) true rfl (wT _) rfl (fun hG => by have q0 := hG; subst q0; exact Light.quiet (opLenMap (f := TNode.av) rfl rfl rfl lenT_24 rfl)) ?_
      refine ASL.g (v := (.bool (decide (a70 = ((p0.length : Int)))))) (.bool c65) true rfl (wT _) rfl (fun hG => by have q0 := hG; subst q0; exact Light.quiet (opInt rfl rfl rfl rfl)) ?_
      refine ASL.q (v := (.bool (c65 && (decide (a70 = ((p0.length : Int))))))) rfl rfl (Light.quiet (opPick (b := c65) rfl rfl (by cases c65 <;> rfl))) ?_
      refine ASL.q (v := (.bool (c65 && (decide (a70 = ((p0.length : Int))))))) rfl rfl (Light.quiet (opAssign rfl rfl)) ?_
      refine ASL.done ?_
      refine AWP.ret ?_
      obtain rfl := someE hF
      exact QRet.sole (v := (.bool (c65 && (decide (a70 = ((p0.length : Int))))))) ⟨rfl, trivial⟩ rfl
    · skip
      refine AWP.seqR rfl ?_
      refine ASL.q (v := (.int .i64 0)) rfl rfl (Light.quiet (opAssign rfl rfl)) ?_
      refine ASL.done ?_
      refine AWP.block ?_
      obtain ⟨o14, hL13, hR15⟩ := bindE hF
      refine AWP.loopF (ω := AV) hL13 (fun s w => [(0, (.list 3 (List.map TNode.av p0))), (3, w), (4, (.int .i64 s.2))]) (fun s w => [.row 1 w (List.map (AV.int .i64) s.1)]) v12 ⟨rfl, rfl, rfl, trivial⟩ (hS.pick [0] rfl rfl) ?_
      rintro ⟨y8, x4_l0⟩ w9 G16 hS x11 hF hx12
      try dsimp only at hS ⊢
      have hF : spec_ReOk.b0 p0 y8 x4_l0 = some x11 := hF; unfold spec_ReOk.b0 at hF
      refine AWP.seq ?_
      refine AWP.seqR rfl ?_
      refine ASL.q (v := (.int .i64 x4_l0)) rfl rfl (Light.quiet (opMove rfl rfl)) ?_
      refine ASL.q (v := (.list 3 (List.map TNode.av p0))) rfl rfl (Light.quiet (opMove rfl rfl)) ?_
      refine ASL.q (v := (.int .i64 (p0.length : Int))) rfl rfl (Light.quiet (opLenMap (f := TNode.av) rfl rfl rfl lenT_24 rfl)) ?_
      refine ASL.q (v := (.bool (decide (x4_l0 < ((p0.length : Int)))))) rfl rfl (Light.quiet (opInt rfl rfl rfl rfl)) ?_
      refine ASL.done ?_
      refine AWP.ifP hF rfl (fun hc17 hF => ?_) (fun hc17 hF => ?_)
      · skip
        refine AWP.skip ?_
        refine QThen.nrm ?_
        refine AWP.seq ?_
        refine AWP.block ?_
        refine AWP.seqR rfl ?_
        refine ASL.q (v := (.list 3 (List.map TNode.av p0))) rfl rfl (Light.quiet (opMove rfl rfl)) ?_
        refine ASL.q (v := (.int .i64 x4_l0)) rfl rfl (Light.quiet (opMove rfl rfl)) ?_
        obtain ⟨a21, ha21, hF⟩ := bindE hF
        refine ASL.q (v := (.rptr [(.int .i64 a21.kind), (.int .i64 a21.a), (.int .i64 a21.b)])) rfl rfl (Light.quiet (kIx (f := TNode.av) ha21 rfl rfl rfl elemA_24 sizeA_31 rfl)) ?_
        refine ASL.q (v := (TNode.av a21)) rfl rfl (Light.quiet (opLoadRA rfl aggA_31 sizeA_31 rfl (nlt rfl) rfl)) ?_
        refine ASL.x rfl rfl (hNewZ hS [(.int .i64 0), (.int .i64 0), (.int .i64 0)] rfl zeroA_31 ⟨.inl rfl, .inl rfl, .inl rfl, trivial⟩ ?_); rintro b5 G18 hK hS
        refine ASL.n rfl rfl (hPutA hS (j := 0) rfl rfl sizeA_31 rfl rfl rfl rfl rfl (nlt rfl) ?_); rintro G20 hS
        refine ASL.done ?_
        refine AWP.seqR rfl ?_
        refine ASL.q (v := (.ptr b5 0)) rfl rfl (Light.quiet (opFieldAddr rfl fieldA_31_0 rfl rfl)) ?_
        refine ASL.q (v := (.int .i64 a21.kind)) rfl rfl (Light.quiet (kAt hS (j := 0) rfl rfl aggA_3 rfl rfl)) ?_
        refine ASL.q (v := (.int .i64 (spec_l11Parts a21.kind))) rfl rfl ((qCall rfl rfl call_37 (spec_l11Parts_ok a21.kind) rfl)) ?_
        refine ASL.q (v := (.int .i64 (spec_l11Parts a21.kind))) rfl rfl (Light.quiet (opAssign rfl rfl)) ?_
        refine ASL.done ?_
        refine AWP.seq ?_
        refine AWP.seqR rfl ?_
        refine ASL.q (v := (.int .i64 (spec_l11Parts a21.kind))) rfl rfl (Light.quiet (opMove rfl rfl)) ?_
        refine ASL.q (v := (.bool (decide (((spec_l11Parts a21.kind)) < 0)))) rfl rfl (Light.quiet (opInt rfl rfl rfl rfl)) ?_
        obtain ⟨c28, hc28, hF⟩ := bndE hF
        refine ASL.q (v := (.bool c28)) rfl rfl ((Quiet.cast (Light.quiet (opMove rfl rfl)) (congrArg AV.bool hc28.symm))) ?_
        refine ASL.g (v := (.int .i64 (spec_l11Parts a21.kind))) (.bool c28) false rfl (wF _) rfl (fun hG => by have q0 := gN hG; subst q0; exact Light.quiet (opMove rfl rfl)) ?_
        refine ASL.g (v := (.bool (decide (((spec_l11Parts a21.kind)) = 0)))) (.bool c28) false rfl (wF _) rfl (fun hG => by have q0 := gN hG; subst q0; exact Light.quiet (opInt rfl rfl rfl rfl)) ?_
        obtain ⟨c31, hc31, hF⟩ := bndE hF
        refine ASL.g (v := (.bool c31)) (.bool c28) false rfl (wF _) rfl (fun hG => by have q0 := gN hG; subst q0; exact (Quiet.cast (Light.quiet (opMove rfl rfl)) (congrArg AV.bool hc31.symm))) ?_
        refine ASL.g (v := (.ptr b5 0)) (bif (!c28) then (.bool c31) else .tup []) true rfl (wGT _ _) rfl (fun hG => by have q0 := gN (gA1 hG); have q1 := gA2 hG; subst q0; subst q1; exact Light.quiet (opFieldAddr rfl fieldA_31_0 rfl rfl)) ?_
        refine ASL.g (v := (.int .i64 a21.kind)) (bif (!c28) then (.bool c31) else .tup []) true rfl (wGT _ _) rfl (fun hG => by have q0 := gN (gA1 hG); have q1 := gA2 hG; subst q0; subst q1; exact Light.quiet (kAt hS (j := 0) rfl rfl aggA_3 rfl rfl)) ?_
        refine ASL.g (v := (.bool (decide (a21.kind = 3)))) (bif (!c28) then (.bool c31) else .tup []) true rfl (wGT _ _) rfl (fun hG => by have q0 := gN (gA1 hG); have q1 := gA2 hG; subst q0; subst q1; exact Light.quiet (opInt rfl rfl rfl rfl)) ?_
        obtain ⟨c35, hc35, hF⟩ := bndE hF
        refine ASL.g (v := (.bool c35)) (bif (!c28) then (.bool c31) else .tup []) true rfl (wGT _ _) rfl (fun hG => by have q0 := gN (gA1 hG); have q1 := gA2 hG; subst q0; subst q1; exact (Quiet.cast (Light.quiet (opMove rfl rfl)) (congrArg AV.bool hc35.symm))) ?_
        refine ASL.g (v := (.ptr b5 1)) (bif ((!c28) && c31) then (.bool c35) else .tup []) true rfl (wGT _ _) rfl (fun hG => by have q0 := gN (gA1 (gA1 hG)); have q1 := gA2 (gA1 hG); have q2 := gA2 hG; subst q0; subst q1; subst q2; exact Light.quiet (opFieldAddr rfl fieldA_31_1 rfl rfl)) ?_
        refine ASL.g (v := (.int .i64 a21.a)) (bif ((!c28) && c31) then (.bool c35) else .tup []) true rfl (wGT _ _) rfl (fun hG => by have q0 := gN (gA1 (gA1 hG)); have q1 := gA2 (gA1 hG); have q2 := gA2 hG; subst q0; subst q1; subst q2; exact Light.quiet (kAt hS (j := 0) rfl rfl aggA_3 rfl rfl)) ?_
        refine ASL.g (v := (.bool (spec_l2Letter a21.a))) (bif ((!c28) && c31) then (.bool c35) else .tup []) true rfl (wGT _ _) rfl (fun hG => by have q0 := gN (gA1 (gA1 hG)); have q1 := gA2 (gA1 hG); have q2 := gA2 hG; subst q0; subst q1; subst q2; exact (qCall rfl rfl call_38 (spec_l2Letter_ok a21.a) rfl)) ?_
        refine ASL.g (v := (.bool (!(spec_l2Letter a21.a)))) (bif ((!c28) && c31) then (.bool c35) else .tup []) true rfl (wGT _ _) rfl (fun hG => by have q0 := gN (gA1 (gA1 hG)); have q1 := gA2 (gA1 hG); have q2 := gA2 hG; subst q0; subst q1; subst q2; exact Light.quiet (opNot rfl rfl)) ?_
        refine ASL.g (v := (.bool (c35 && (!(spec_l2Letter a21.a))))) (bif (!c28) then (.bool c31) else .tup []) true rfl (wGT _ _) rfl (fun hG => by have q0 := gN (gA1 hG); have q1 := gA2 hG; subst q0; subst q1; exact Light.quiet (opPick (b := c35) rfl rfl (by cases c35 <;> rfl))) ?_
        obtain ⟨c41, hc41, hF⟩ := bndE hF
        refine ASL.g (v := (.bool c41)) (bif (!c28) then (.bool c31) else .tup []) true rfl (wGT _ _) rfl (fun hG => by have q0 := gN (gA1 hG); have q1 := gA2 hG; subst q0; subst q1; exact (Quiet.cast (Light.quiet (opMove rfl rfl)) (congrArg AV.bool hc41.symm))) ?_
        refine ASL.g (v := (.ptr b5 0)) (bif ((!c28) && c31) then (.bool c41) else .tup []) false rfl (wGF _ _) rfl (fun hG => by have q0 := gN (gA1 (gA1 hG)); have q1 := gA2 (gA1 hG); have q2 := gN (gA2 hG); subst q0; subst q1; subst q2; exact Light.quiet (opFieldAddr rfl fieldA_31_0 rfl rfl)) ?_
        refine ASL.g (v := (.int .i64 a21.kind)) (bif ((!c28) && c31) then (.bool c41) else .tup []) false rfl (wGF _ _) rfl (fun hG => by have q0 := gN (gA1 (gA1 hG)); have q1 := gA2 (gA1 hG); have q2 := gN (gA2 hG); subst q0; subst q1; subst q2; exact Light.quiet (kAt hS (j := 0) rfl rfl aggA_3 rfl rfl)) ?_
        refine ASL.g (v := (.bool (decide (a21.kind ≠ 3)))) (bif ((!c28) && c31) then (.bool c41) else .tup []) false rfl (wGF _ _) rfl (fun hG => by have q0 := gN (gA1 (gA1 hG)); have q1 := gA2 (gA1 hG); have q2 := gN (gA2 hG); subst q0; subst q1; subst q2; exact Light.quiet (opInt rfl rfl rfl rfl)) ?_
        obtain ⟨c45, hc45, hF⟩ := bndE hF
        refine ASL.g (v := (.bool c45)) (bif ((!c28) && c31) then (.bool c41) else .tup []) false rfl (wGF _ _) rfl (fun hG => by have q0 := gN (gA1 (gA1 hG)); have q1 := gA2 (gA1 hG); have q2 := gN (gA2 hG); subst q0; subst q1; subst q2; exact (Quiet.cast (Light.quiet (opMove rfl rfl)) (congrArg AV.bool hc45.symm))) ?_
        refine ASL.g (v := (.ptr b5 1)) (bif (((!c28) && c31) && (!c41)) then (.bool c45) else .tup []) true rfl (wGT _ _) rfl (fun hG => by have q0 := gN (gA1 (gA1 (gA1 hG))); have q1 := gA2 (gA1 (gA1 hG)); have q2 := gN (gA2 (gA1 hG)); have q3 := gA2 hG; subst q0; subst q1; subst q2; subst q3; exact Light.quiet (opFieldAddr rfl fieldA_31_1 rfl rfl)) ?_
        refine ASL.g (v := (.int .i64 a21.a)) (bif (((!c28) && c31) && (!c41)) then (.bool c45) else .tup []) true rfl (wGT _ _) rfl (fun hG => by have q0 := gN (gA1 (gA1 (gA1 hG))); have q1 := gA2 (gA1 (gA1 hG)); have q2 := gN (gA2 (gA1 hG)); have q3 := gA2 hG; subst q0; subst q1; subst q2; subst q3; exact Light.quiet (kAt hS (j := 0) rfl rfl aggA_3 rfl rfl)) ?_
        refine ASL.g (v := (.bool (decide (a21.a ≠ 0)))) (bif (((!c28) && c31) && (!c41)) then (.bool c45) else .tup []) true rfl (wGT _ _) rfl (fun hG => by have q0 := gN (gA1 (gA1 (gA1 hG))); have q1 := gA2 (gA1 (gA1 hG)); have q2 := gN (gA2 (gA1 hG)); have q3 := gA2 hG; subst q0; subst q1; subst q2; subst q3; exact Light.quiet (opInt rfl rfl rfl rfl)) ?_
        refine ASL.g (v := (.bool (c45 && (decide (a21.a ≠ 0))))) (bif ((!c28) && c31) then (.bool c41) else .tup []) false rfl (wGF _ _) rfl (fun hG => by have q0 := gN (gA1 (gA1 hG)); have q1 := gA2 (gA1 hG); have q2 := gN (gA2 hG); subst q0; subst q1; subst q2; exact Light.quiet (opPick (b := c45) rfl rfl (by cases c45 <;> rfl))) ?_
        refine ASL.g (v := (.bool (c41 || (c45 && (decide (a21.a ≠ 0)))))) (bif (!c28) then (.bool c31) else .tup []) true rfl (wGT _ _) rfl (fun hG => by have q0 := gN (gA1 hG); have q1 := gA2 hG; subst q0; subst q1; exact Light.quiet (opPick (b := c41) rfl rfl (by cases c41 <;> rfl))) ?_
        refine ASL.g (v := (.bool (c31 && (c41 || (c45 && (decide (a21.a ≠ 0))))))) (.bool c28) false rfl (wF _) rfl (fun hG => by have q0 := gN hG; subst q0; exact Light.quiet (opPick (b := c31) rfl rfl (by cases c31 <;> rfl))) ?_
        refine ASL.q (v := (.bool (c28 || (c31 && (c41 || (c45 && (decide (a21.a ≠ 0)))))))) rfl rfl (Light.quiet (opPick (b := c28) rfl rfl (by cases c28 <;> rfl))) ?_
        refine ASL.done ?_
        refine AWP.ifB hF rfl (fun hc21 hF => ?_) (fun hc21 hF => ?_)
        · skip
          refine AWP.seqR rfl ?_
          refine ASL.q (v := (.bool false)) rfl rfl (Light.quiet (opAssign rfl rfl)) ?_
          refine ASL.done ?_
          refine AWP.ret ?_
          refine QThen.rt ?_
          refine QBlock.ret ?_
          refine QThen.rt ?_
          refine QThen.rt ?_
          refine QBlock.ret ?_
          refine QThen.rt ?_
          obtain rfl := (hx12 _ (someE hF).symm)
          have hF := hR15
          have hF := sumR hF
          obtain rfl := someE hF
          exact QRet.sole (v := (.bool false)) ⟨rfl, trivial⟩ rfl
        · skip
          refine AWP.skip ?_
          refine QThen.nrm ?_
          refine AWP.lastR rfl ?_
          refine ASL.q (v := w9) rfl rfl (Light.quiet (opMove rfl rfl)) ?_
          refine ASL.q (v := (.int .i64 (spec_l11Parts a21.kind))) rfl rfl (Light.quiet (opMove rfl rfl)) ?_
          refine ASL.q (v := (.list 1 (List.map (AV.int .i64) [(spec_l11Parts a21.kind)]))) rfl rfl ((qLit (xs := [(.int .i64 (spec_l11Parts a21.kind))]) rfl elemA_25 sizeA_3 zeroA_3 rfl rfl rfl rfl (by simp [cells]) (nlt rfl))) ?_
          obtain ⟨z56, hz56, hF⟩ := bindE hF
          refine ASL.x rfl rfl (hApp (f := (AV.int .i64)) (ws := [(spec_l11Parts a21.kind)]) hS (j := 1) rfl hz56 rfl elemA_25 rfl sizeA_3 bytesA_3 zeroA_3 rfl rfl rfl (fun _ => rfl) ?_); rintro v56 G22 hS
          refine ASL.q (v := v56) rfl rfl (Light.quiet (opAssign rfl rfl)) ?_
          refine ASL.done ?_
          refine QBlock.nrm ?_
          refine QThen.nrm ?_
          refine AWP.lastR rfl ?_
          refine ASL.q (v := (.int .i64 x4_l0)) rfl rfl (Light.quiet (opMove rfl rfl)) ?_
          refine ASL.q (v := (.int .i64 (W (x4_l0 + 1)))) rfl rfl (Light.quiet (opInt rfl rfl rfl rfl)) ?_
          refine ASL.q (v := (.int .i64 (W (x4_l0 + 1)))) rfl rfl (Light.quiet (opAssign rfl rfl)) ?_
          refine ASL.done ?_
          refine QThen.nrm ?_
          exact ⟨(z56, (W (x4_l0 + 1))), v56, (someE hF).symm, ⟨rfl, rfl, rfl, trivial⟩, (hS.pick [1] rfl rfl)⟩
      · skip
        refine AWP.exit ?_
        refine QThen.ext ?_
        refine QThen.ext ?_
        refine QBlock.hit ?_
        obtain rfl := (hx12 _ (someE hF).symm)
        have hF := hR15
        have hF := sumL hF
        refine QThen.nrm ?_
        exact ⟨y8, w9, ⟨rfl, rfl, trivial⟩, (hS.pick [0] rfl rfl), hF⟩

set_option maxRecDepth 10000 in
theorem spec_OmegaOk_ok {p0 : (List TOmega)} {r : Bool} (hF : spec_OmegaOk p0 = some r) : PC Try.prog 45 [(.list 2 (List.map TOmega.av p0))] fun v => v = (.bool r) := by
  refine PC.enter Try.func45 rfl Try.ntmps45 (by simp) ?_
  have hS := Sep.void; unfold spec_OmegaOk at hF
  refine AWP.seqR rfl ?_
  refine ASL.q (v := (.bool false)) rfl rfl (Light.quiet (opAssign rfl rfl)) ?_
  refine ASL.done ?_
  refine AWP.seq ?_
  refine AWP.seqR rfl ?_
  refine ASL.q (v := (.list 2 (List.map TOmega.av p0))) rfl rfl (Light.quiet (opMove rfl rfl)) ?_
  refine ASL.q (v := (.int .i64 (p0.length : Int))) rfl rfl (Light.quiet (opLenMap (f := TOmega.av) rfl rfl rfl lenT_35 rfl)) ?_
  refine ASL.q (v := (.bool (decide (((p0.length : Int)) > 4)))) rfl rfl (Light.quiet (opInt rfl rfl rfl rfl)) ?_
  refine ASL.done ?_
  refine AWP.ifP hF rfl (fun hc1 hF => ?_) (fun hc1 hF => ?_)
  · skip
    refine AWP.seqR rfl ?_
    refine ASL.q (v := (.bool false)) rfl rfl (Light.quiet (opAssign rfl rfl)) ?_
    refine ASL.done ?_
    refine AWP.ret ?_
    refine QThen.rt ?_
    obtain rfl := someE hF
    exact QRet.sole (v := (.bool false)) ⟨rfl, trivial⟩ rfl
  · skip
    refine AWP.skip ?_
    refine QThen.nrm ?_
    refine AWP.seqM (fun e H => E.Told e [] ∧ E.Sep H [] ∧ spec_OmegaOk.k0 = some r) ?_ ?_
    · rintro e0 G2 ⟨hT, hS, hF⟩; refine AWP.only _ hT ?_; unfold spec_OmegaOk.k0 at hF
      refine AWP.seqR rfl ?_
      refine ASL.q (v := (.bool true)) rfl rfl (Light.quiet (opAssign rfl rfl)) ?_
      refine ASL.done ?_
      refine AWP.ret ?_
      obtain rfl := someE hF
      exact QRet.sole (v := (.bool true)) ⟨rfl, trivial⟩ rfl
    · skip
      refine AWP.seqR rfl ?_
      refine ASL.q (v := (.int .i64 0)) rfl rfl (Light.quiet (opAssign rfl rfl)) ?_
      refine ASL.done ?_
      refine AWP.block ?_
      obtain ⟨o6, hL5, hR7⟩ := bindE hF
      refine AWP.loopF (ω := Unit) hL5 (fun s w => [(0, (.list 2 (List.map TOmega.av p0))), (3, (.int .i64 s))]) (fun s w => []) () ⟨rfl, rfl, trivial⟩ (hS.pick [] rfl rfl) ?_
      rintro x3_l0 _ G8 hS x3 hF hx4
      try dsimp only at hS ⊢
      have hF : spec_OmegaOk.b0 p0 x3_l0 = some x3 := hF; unfold spec_OmegaOk.b0 at hF
      refine AWP.seq ?_
      refine AWP.seqR rfl ?_
      refine ASL.q (v := (.int .i64 x3_l0)) rfl rfl (Light.quiet (opMove rfl rfl)) ?_
      refine ASL.q (v := (.list 2 (List.map TOmega.av p0))) rfl rfl (Light.quiet (opMove rfl rfl)) ?_
      refine ASL.q (v := (.int .i64 (p0.length : Int))) rfl rfl (Light.quiet (opLenMap (f := TOmega.av) rfl rfl rfl lenT_35 rfl)) ?_
      refine ASL.q (v := (.bool (decide (x3_l0 < ((p0.length : Int)))))) rfl rfl (Light.quiet (opInt rfl rfl rfl rfl)) ?_
      refine ASL.done ?_
      refine AWP.ifP hF rfl (fun hc9 hF => ?_) (fun hc9 hF => ?_)
      · skip
        refine AWP.skip ?_
        refine QThen.nrm ?_
        refine AWP.seq ?_
        refine AWP.block ?_
        refine AWP.seqR rfl ?_
        refine ASL.q (v := (.list 2 (List.map TOmega.av p0))) rfl rfl (Light.quiet (opMove rfl rfl)) ?_
        refine ASL.q (v := (.int .i64 x3_l0)) rfl rfl (Light.quiet (opMove rfl rfl)) ?_
        obtain ⟨a15, ha15, hF⟩ := bindE hF
        refine ASL.q (v := (.rptr [(.list 3 (List.map TNode.av a15.stem)), (.list 3 (List.map TNode.av a15.loop))])) rfl rfl (Light.quiet (kIx (f := TOmega.av) ha15 rfl rfl rfl elemA_35 sizeA_69 rfl)) ?_
        refine ASL.q (v := (.rptr [(.list 3 (List.map TNode.av a15.stem)), (.list 3 (List.map TNode.av a15.loop))])) rfl rfl (Light.quiet (opFieldAddrR rfl fieldA_69_0 rfl rfl)) ?_
        refine ASL.q (v := (.list 3 (List.map TNode.av a15.stem))) rfl rfl (Light.quiet (opLoadR rfl aggA_24 rfl rfl)) ?_
        obtain ⟨a18, ha18, hF⟩ := bindE hF
        refine ASL.q (v := (.bool a18)) rfl rfl ((qCall rfl rfl call_9 (spec_ReOk_ok ha18) rfl)) ?_
        refine ASL.q (v := (.bool (!a18))) rfl rfl (Light.quiet (opNot rfl rfl)) ?_
        obtain ⟨c20, hc20, hF⟩ := bndE hF
        refine ASL.q (v := (.bool c20)) rfl rfl ((Quiet.cast (Light.quiet (opMove rfl rfl)) (congrArg AV.bool hc20.symm))) ?_
        refine ASL.g (v := (.list 2 (List.map TOmega.av p0))) (.bool c20) false rfl (wF _) rfl (fun hG => by have q0 := gN hG; subst q0; exact Light.quiet (opMove rfl rfl)) ?_
        refine ASL.g (v := (.int .i64 x3_l0)) (.bool c20) false rfl (wF _) rfl (fun hG => by have q0 := gN hG; subst q0; exact Light.quiet (opMove rfl rfl)) ?_
        obtain ⟨a23, ha23, hF⟩ := bindE hF
        refine ASL.g (v := (.rptr [(.list 3 (List.map TNode.av a23.stem)), (.list 3 (List.map TNode.av a23.loop))])) (.bool c20) false rfl (wF _) rfl (fun hG => by have q0 := gN hG; subst q0; exact Light.quiet (kIx (f := TOmega.av) (whenE ha23) rfl rfl rfl elemA_35 sizeA_69 rfl)) ?_
        refine ASL.g (v := (.rptr [(.list 3 (List.map TNode.av a23.loop))])) (.bool c20) false rfl (wF _) rfl (fun hG => by have q0 := gN hG; subst q0; exact Light.quiet (opFieldAddrR rfl fieldA_69_1 rfl rfl)) ?_
        refine ASL.g (v := (.list 3 (List.map TNode.av a23.loop))) (.bool c20) false rfl (wF _) rfl (fun hG => by have q0 := gN hG; subst q0; exact Light.quiet (opLoadR rfl aggA_24 rfl rfl)) ?_
        obtain ⟨a26, ha26, hF⟩ := bindE hF
        refine ASL.g (v := (.bool a26)) (.bool c20) false rfl (wF _) rfl (fun hG => by have q0 := gN hG; subst q0; exact (qCall rfl rfl call_9 (spec_ReOk_ok (whenE ha26)) rfl)) ?_
        refine ASL.g (v := (.bool (!a26))) (.bool c20) false rfl (wF _) rfl (fun hG => by have q0 := gN hG; subst q0; exact Light.quiet (opNot rfl rfl)) ?_
        refine ASL.q (v := (.bool (c20 || (!a26)))) rfl rfl (Light.quiet (opPick (b := c20) rfl rfl (by cases c20 <;> rfl))) ?_
        refine ASL.done ?_
        refine AWP.ifB hF rfl (fun hc10 hF => ?_) (fun hc10 hF => ?_)
        · skip
          refine AWP.seqR rfl ?_
          refine ASL.q (v := (.bool false)) rfl rfl (Light.quiet (opAssign rfl rfl)) ?_
          refine ASL.done ?_
          refine AWP.ret ?_
          refine QBlock.ret ?_
          refine QThen.rt ?_
          refine QThen.rt ?_
          refine QBlock.ret ?_
          refine QThen.rt ?_
          obtain rfl := (hx4 _ (someE hF).symm)
          have hF := hR7
          have hF := sumR hF
          obtain rfl := someE hF
          exact QRet.sole (v := (.bool false)) ⟨rfl, trivial⟩ rfl
        · skip
          refine AWP.skip ?_
          refine QBlock.nrm ?_
          refine QThen.nrm ?_
          refine AWP.lastR rfl ?_
          refine ASL.q (v := (.int .i64 x3_l0)) rfl rfl (Light.quiet (opMove rfl rfl)) ?_
          refine ASL.q (v := (.int .i64 (W (x3_l0 + 1)))) rfl rfl (Light.quiet (opInt rfl rfl rfl rfl)) ?_
          refine ASL.q (v := (.int .i64 (W (x3_l0 + 1)))) rfl rfl (Light.quiet (opAssign rfl rfl)) ?_
          refine ASL.done ?_
          refine QThen.nrm ?_
          exact ⟨(W (x3_l0 + 1)), (), (someE hF).symm, ⟨rfl, rfl, trivial⟩, (hS.pick [] rfl rfl)⟩
      · skip
        refine AWP.exit ?_
        refine QThen.ext ?_
        refine QThen.ext ?_
        refine QBlock.hit ?_
        obtain rfl := (hx4 _ (someE hF).symm)
        have hF := hR7
        have hF := sumL hF
        refine QThen.nrm ?_
        exact ⟨trivial, (hS.pick [] rfl rfl), hF⟩

set_option maxRecDepth 10000 in
theorem spec_l2Digit_ok (p0 : Int) : PC Try.prog 83 [(.int .i64 p0)] fun v => v = (.str (spec_l2Digit p0)) := by
  generalize hF : spec_l2Digit p0 = r
  refine PC.enter Try.func83 rfl Try.ntmps83 (by simp) ?_
  have hS := Sep.void; unfold spec_l2Digit at hF
  refine AWP.seqR rfl ?_
  refine ASL.q (v := (.str { data := #[] })) rfl rfl (Light.quiet (opAssign rfl rfl)) ?_
  refine ASL.done ?_
  refine AWP.seqR rfl ?_
  refine ASL.q (v := (.int .i64 p0)) rfl rfl (Light.quiet (opMove rfl rfl)) ?_
  refine ASL.q (v := (.int .i64 (W (48 + p0)))) rfl rfl (Light.quiet (opInt rfl rfl rfl rfl)) ?_
  refine ASL.q (v := (.int .u8 (IntKind.u8.wrap ((W (48 + p0)))))) rfl rfl (Light.quiet (opConv rfl rfl und_3 und_5 rfl)) ?_
  refine ASL.q (v := (.list 1 (List.map (AV.int .u8) [(IntKind.u8.wrap ((W (48 + p0))))]))) rfl rfl ((qLit (xs := [(.int .u8 (IntKind.u8.wrap ((W (48 + p0)))))]) rfl elemA_22 sizeA_5 zeroA_5 rfl rfl rfl rfl (by simp [cells]) (nlt rfl))) ?_
  refine ASL.q (v := (.str (bstr ([(IntKind.u8.wrap ((W (48 + p0))))])))) rfl rfl (Light.quiet (opBstr rfl elemA_22 und_5 und_9 rfl)) ?_
  refine ASL.q (v := (.str (bstr ([(IntKind.u8.wrap ((W (48 + p0))))])))) rfl rfl (Light.quiet (opAssign rfl rfl)) ?_
  refine ASL.done ?_
  refine AWP.ret ?_
  obtain rfl := hF
  exact QRet.sole (v := (.str (bstr ([(IntKind.u8.wrap ((W (48 + p0))))])))) ⟨rfl, trivial⟩ rfl

set_option maxRecDepth 10000 in
theorem spec_l11Print.body_ok {p0 : (List TNode)} {p1 : Int} {r : ByteArray} {rec_spec_l11Print : (List TNode) → Int → Option ByteArray} (ih_spec_l11Print : ∀ {p0 : (List TNode)} {p1 : Int} {r : ByteArray} , rec_spec_l11Print p0 p1 = some r → PC Try.prog 55 [(.list 3 (List.map TNode.av p0)), (.int .i64 p1)] fun v => v = (.str r)) (hF : spec_l11Print.body rec_spec_l11Print p0 p1 = some r) : PC Try.prog 55 [(.list 3 (List.map TNode.av p0)), (.int .i64 p1)] fun v => v = (.str r) := by
  refine PC.enter Try.func55 rfl Try.ntmps55 (by simp) ?_
  have hS := Sep.void; unfold spec_l11Print.body at hF
  refine AWP.seqR rfl ?_
  refine ASL.q (v := (.str { data := #[] })) rfl rfl (Light.quiet (opAssign rfl rfl)) ?_
  refine ASL.done ?_
  refine AWP.seqR rfl ?_
  refine ASL.q (v := (.list 3 (List.map TNode.av p0))) rfl rfl (Light.quiet (opMove rfl rfl)) ?_
  refine ASL.q (v := (.int .i64 p1)) rfl rfl (Light.quiet (opMove rfl rfl)) ?_
  obtain ⟨a8, ha8, hF⟩ := bindE hF
  refine ASL.q (v := (.rptr [(.int .i64 a8.kind), (.int .i64 a8.a), (.int .i64 a8.b)])) rfl rfl (Light.quiet (kIx (f := TNode.av) ha8 rfl rfl rfl elemA_24 sizeA_31 rfl)) ?_
  refine ASL.q (v := (TNode.av a8)) rfl rfl (Light.quiet (opLoadRA rfl aggA_31 sizeA_31 rfl (nlt rfl) rfl)) ?_
  refine ASL.x rfl rfl (hNewZ hS [(.int .i64 0), (.int .i64 0), (.int .i64 0)] rfl zeroA_31 ⟨.inl rfl, .inl rfl, .inl rfl, trivial⟩ ?_); rintro b5 G1 hK hS
  refine ASL.n rfl rfl (hPutA hS (j := 0) rfl rfl sizeA_31 rfl rfl rfl rfl rfl (nlt rfl) ?_); rintro G3 hS
  refine ASL.done ?_
  refine AWP.seq ?_
  refine AWP.seqR rfl ?_
  refine ASL.q (v := (.ptr b5 0)) rfl rfl (Light.quiet (opFieldAddr rfl fieldA_31_0 rfl rfl)) ?_
  refine ASL.q (v := (.int .i64 a8.kind)) rfl rfl (Light.quiet (kAt hS (j := 0) rfl rfl aggA_3 rfl rfl)) ?_
  refine ASL.done ?_
  refine AWP.block ?_
  refine AWP.seqR rfl ?_
  refine ASL.q (v := (.bool (decide (a8.kind = 1)))) rfl rfl (Light.quiet (opInt rfl rfl rfl rfl)) ?_
  refine ASL.q (v := (.bool (decide (a8.kind = 1)))) rfl rfl (Light.quiet (opAssign rfl rfl)) ?_
  refine ASL.done ?_
  refine AWP.ifP hF rfl (fun hc4 hF => ?_) (fun hc4 hF => ?_)
  · skip
    refine AWP.seqR rfl ?_
    refine ASL.q (v := (.str { data := #[64] })) rfl rfl (Light.quiet (opAssign rfl rfl)) ?_
    refine ASL.done ?_
    refine AWP.ret ?_
    refine QBlock.ret ?_
    refine QThen.rt ?_
    obtain rfl := someE hF
    exact QRet.sole (v := (.str { data := #[64] })) ⟨rfl, trivial⟩ rfl
  · skip
    refine AWP.seqR rfl ?_
    refine ASL.q (v := (.bool (decide (a8.kind = 2)))) rfl rfl (Light.quiet (opInt rfl rfl rfl rfl)) ?_
    refine ASL.q (v := (.bool (decide (a8.kind = 2)))) rfl rfl (Light.quiet (opAssign rfl rfl)) ?_
    refine ASL.done ?_
    refine AWP.ifP hF rfl (fun hc5 hF => ?_) (fun hc5 hF => ?_)
    · skip
      refine AWP.seqR rfl ?_
      refine ASL.q (v := (.str { data := #[95] })) rfl rfl (Light.quiet (opAssign rfl rfl)) ?_
      refine ASL.done ?_
      refine AWP.ret ?_
      refine QBlock.ret ?_
      refine QThen.rt ?_
      obtain rfl := someE hF
      exact QRet.sole (v := (.str { data := #[95] })) ⟨rfl, trivial⟩ rfl
    · skip
      refine AWP.seqR rfl ?_
      refine ASL.q (v := (.bool (decide (a8.kind = 3)))) rfl rfl (Light.quiet (opInt rfl rfl rfl rfl)) ?_
      refine ASL.q (v := (.bool (decide (a8.kind = 3)))) rfl rfl (Light.quiet (opAssign rfl rfl)) ?_
      refine ASL.done ?_
      refine AWP.ifP hF rfl (fun hc6 hF => ?_) (fun hc6 hF => ?_)
      · skip
        refine AWP.seqR rfl ?_
        refine ASL.q (v := (.ptr b5 1)) rfl rfl (Light.quiet (opFieldAddr rfl fieldA_31_1 rfl rfl)) ?_
        refine ASL.q (v := (.int .i64 a8.a)) rfl rfl (Light.quiet (kAt hS (j := 0) rfl rfl aggA_3 rfl rfl)) ?_
        refine ASL.q (v := (.str (spec_l2Digit a8.a))) rfl rfl ((qCall rfl rfl call_83 (spec_l2Digit_ok a8.a) rfl)) ?_
        refine ASL.q (v := (.str (spec_l2Digit a8.a))) rfl rfl (Light.quiet (opAssign rfl rfl)) ?_
        refine ASL.done ?_
        refine AWP.ret ?_
        refine QBlock.ret ?_
        refine QThen.rt ?_
        obtain rfl := someE hF
        exact QRet.sole (v := (.str (spec_l2Digit a8.a))) ⟨rfl, trivial⟩ rfl
      · skip
        refine AWP.seqR rfl ?_
        refine ASL.q (v := (.bool (decide (a8.kind = 4)))) rfl rfl (Light.quiet (opInt rfl rfl rfl rfl)) ?_
        refine ASL.q (v := (.bool (decide (a8.kind = 4)))) rfl rfl (Light.quiet (opAssign rfl rfl)) ?_
        refine ASL.done ?_
        refine AWP.ifP hF rfl (fun hc7 hF => ?_) (fun hc7 hF => ?_)
        · skip
          refine AWP.seqR rfl ?_
          refine ASL.q (v := (.list 3 (List.map TNode.av p0))) rfl rfl (Light.quiet (opMove rfl rfl)) ?_
          refine ASL.q (v := (.ptr b5 1)) rfl rfl (Light.quiet (opFieldAddr rfl fieldA_31_1 rfl rfl)) ?_
          refine ASL.q (v := (.int .i64 a8.a)) rfl rfl (Light.quiet (kAt hS (j := 0) rfl rfl aggA_3 rfl rfl)) ?_
          obtain ⟨a26, ha26, hF⟩ := bindE hF
          refine ASL.q (v := (.str a26)) rfl rfl ((qCall rfl rfl call_55 (ih_spec_l11Print ha26) rfl)) ?_
          obtain ⟨a27, ha27, hF⟩ := bindE hF
          refine ASL.q (v := (.str a27)) rfl rfl (Light.quiet (opCat ha27 rfl rfl rfl)) ?_
          refine ASL.q (v := (.str a27)) rfl rfl (Light.quiet (opAssign rfl rfl)) ?_
          refine ASL.done ?_
          refine AWP.ret ?_
          refine QBlock.ret ?_
          refine QThen.rt ?_
          obtain rfl := someE hF
          exact QRet.sole (v := (.str a27)) ⟨rfl, trivial⟩ rfl
        · skip
          refine AWP.seqR rfl ?_
          refine ASL.q (v := (.bool (decide (a8.kind = 5)))) rfl rfl (Light.quiet (opInt rfl rfl rfl rfl)) ?_
          refine ASL.q (v := (.bool (decide (a8.kind = 5)))) rfl rfl (Light.quiet (opAssign rfl rfl)) ?_
          refine ASL.done ?_
          refine AWP.ifP hF rfl (fun hc8 hF => ?_) (fun hc8 hF => ?_)
          · skip
            refine AWP.seqD [(0, false), (1, false), (2, false), (3, false), (4, false), (5, false), (6, false), (7, false), (8, false), (9, false), (10, false), (11, false), (12, false)] mixed (by kernel_rfl) rfl ?_
            refine ARL.q0 (v := (.list 3 (List.map TNode.av p0))) rfl rfl (Light.quiet (opMove rfl rfl)) ?_
            refine ARL.q0 (v := (.ptr b5 1)) rfl rfl (Light.quiet (opFieldAddr rfl fieldA_31_1 rfl rfl)) ?_
            refine ARL.q (v := (.int .i64 a8.a)) rfl rfl (hS.aliveC (k := 0) rfl) (Light.quiet (kAt hS (j := 0) rfl rfl aggA_3 rfl rfl)) ?_
            obtain ⟨a33, ha33, hF⟩ := bindE hF
            refine ARL.q0 (v := (.str a33)) rfl rfl ((qCall rfl rfl call_55 (ih_spec_l11Print ha33) rfl)) ?_
            obtain ⟨a34, ha34, hF⟩ := bindE hF
            refine ARL.q0 (v := (.str a34)) rfl rfl (Light.quiet (opCat ha34 rfl rfl rfl)) ?_
            obtain ⟨a35, ha35, hF⟩ := bindE hF
            refine ARL.q0 (v := (.str a35)) rfl rfl (Light.quiet (opCat ha35 rfl rfl rfl)) ?_
            refine ARL.q0 (v := (.list 3 (List.map TNode.av p0))) rfl rfl (Light.quiet (opMove rfl rfl)) ?_
            refine ARL.q0 (v := (.ptr b5 2)) rfl rfl (Light.quiet (opFieldAddr rfl fieldA_31_2 rfl rfl)) ?_
            refine ARL.q (v := (.int .i64 a8.b)) rfl rfl (hS.aliveC (k := 0) rfl) (Light.quiet (kAt hS (j := 0) rfl rfl aggA_3 rfl rfl)) ?_
            obtain ⟨a39, ha39, hF⟩ := bindE hF
            refine ARL.q0 (v := (.str a39)) rfl rfl ((qCall rfl rfl call_55 (ih_spec_l11Print ha39) rfl)) ?_
            obtain ⟨a40, ha40, hF⟩ := bindE hF
            refine ARL.q0 (v := (.str a40)) rfl rfl (Light.quiet (opCat ha40 rfl rfl rfl)) ?_
            obtain ⟨a41, ha41, hF⟩ := bindE hF
            refine ARL.q0 (v := (.str a41)) rfl rfl (Light.quiet (opCat ha41 rfl rfl rfl)) ?_
            refine ARL.q0 (v := (.str a41)) rfl rfl (Light.quiet (opAssign rfl rfl)) ?_
            refine ARL.done ?_
            refine AWP.ret ?_
            refine QBlock.ret ?_
            refine QThen.rt ?_
            obtain rfl := someE hF
            exact QRet.sole (v := (.str a41)) ⟨rfl, trivial⟩ rfl
          · skip
            refine AWP.skip ?_
            refine QBlock.nrm ?_
            refine QThen.nrm ?_
            refine AWP.seqD [(0, false), (1, false), (2, false), (3, false), (4, false), (5, false), (6, false), (7, false), (8, false), (9, false), (10, false), (11, false), (12, false)] mixed (by kernel_rfl) rfl ?_
            refine ARL.q0 (v := (.list 3 (List.map TNode.av p0))) rfl rfl (Light.quiet (opMove rfl rfl)) ?_
            refine ARL.q0 (v := (.ptr b5 1)) rfl rfl (Light.quiet (opFieldAddr rfl fieldA_31_1 rfl rfl)) ?_
            refine ARL.q (v := (.int .i64 a8.a)) rfl rfl (hS.aliveC (k := 0) rfl) (Light.quiet (kAt hS (j := 0) rfl rfl aggA_3 rfl rfl)) ?_
            obtain ⟨a45, ha45, hF⟩ := bindE hF
            refine ARL.q0 (v := (.str a45)) rfl rfl ((qCall rfl rfl call_55 (ih_spec_l11Print ha45) rfl)) ?_
            obtain ⟨a46, ha46, hF⟩ := bindE hF
            refine ARL.q0 (v := (.str a46)) rfl rfl (Light.quiet (opCat ha46 rfl rfl rfl)) ?_
            obtain ⟨a47, ha47, hF⟩ := bindE hF
            refine ARL.q0 (v := (.str a47)) rfl rfl (Light.quiet (opCat ha47 rfl rfl rfl)) ?_
            refine ARL.q0 (v := (.list 3 (List.map TNode.av p0))) rfl rfl (Light.quiet (opMove rfl rfl)) ?_
            refine ARL.q0 (v := (.ptr b5 2)) rfl rfl (Light.quiet (opFieldAddr rfl fieldA_31_2 rfl rfl)) ?_
            refine ARL.q (v := (.int .i64 a8.b)) rfl rfl (hS.aliveC (k := 0) rfl) (Light.quiet (kAt hS (j := 0) rfl rfl aggA_3 rfl rfl)) ?_
            obtain ⟨a51, ha51, hF⟩ := bindE hF
            refine ARL.q0 (v := (.str a51)) rfl rfl ((qCall rfl rfl call_55 (ih_spec_l11Print ha51) rfl)) ?_
            obtain ⟨a52, ha52, hF⟩ := bindE hF
            refine ARL.q0 (v := (.str a52)) rfl rfl (Light.quiet (opCat ha52 rfl rfl rfl)) ?_
            obtain ⟨a53, ha53, hF⟩ := bindE hF
            refine ARL.q0 (v := (.str a53)) rfl rfl (Light.quiet (opCat ha53 rfl rfl rfl)) ?_
            refine ARL.q0 (v := (.str a53)) rfl rfl (Light.quiet (opAssign rfl rfl)) ?_
            refine ARL.done ?_
            refine AWP.ret ?_
            obtain rfl := someE hF
            exact QRet.sole (v := (.str a53)) ⟨rfl, trivial⟩ rfl
theorem spec_l11Print_ok {K : Nat} : ∀ {p0 : (List TNode)} {p1 : Int} {r : ByteArray} , spec_l11Print K p0 p1 = some r → PC Try.prog 55 [(.list 3 (List.map TNode.av p0)), (.int .i64 p1)] fun v => v = (.str r) := by
  induction K with
  | zero => intros; rename_i h; cases h
  | succ K ih => intros; rename_i h; exact spec_l11Print.body_ok ih h

set_option maxRecDepth 10000 in
theorem spec_RePrint_ok {K : Nat} {p0 : (List TNode)} {r : ByteArray} (hF : spec_RePrint K p0 = some r) : PC Try.prog 46 [(.list 3 (List.map TNode.av p0))] fun v => v = (.str r) := by
  refine PC.enter Try.func46 rfl Try.ntmps46 (by simp) ?_
  have hS := Sep.void; unfold spec_RePrint at hF
  refine AWP.seqR rfl ?_
  refine ASL.q (v := (.str { data := #[] })) rfl rfl (Light.quiet (opAssign rfl rfl)) ?_
  refine ASL.done ?_
  refine AWP.seq ?_
  refine AWP.seqR rfl ?_
  refine ASL.q (v := (.list 3 (List.map TNode.av p0))) rfl rfl (Light.quiet (opMove rfl rfl)) ?_
  obtain ⟨a4, ha4, hF⟩ := bindE hF
  refine ASL.q (v := (.bool a4)) rfl rfl ((qCall rfl rfl call_9 (spec_ReOk_ok ha4) rfl)) ?_
  refine ASL.q (v := (.bool (!a4))) rfl rfl (Light.quiet (opNot rfl rfl)) ?_
  refine ASL.done ?_
  refine AWP.ifB hF rfl (fun hc1 hF => ?_) (fun hc1 hF => ?_)
  · skip
    refine AWP.seqR rfl ?_
    refine ASL.q (v := (.str { data := #[] })) rfl rfl (Light.quiet (opAssign rfl rfl)) ?_
    refine ASL.done ?_
    refine AWP.ret ?_
    refine QThen.rt ?_
    obtain rfl := someE hF
    exact QRet.sole (v := (.str { data := #[] })) ⟨rfl, trivial⟩ rfl
  · skip
    refine AWP.skip ?_
    refine QThen.nrm ?_
    refine AWP.seqR rfl ?_
    refine ASL.q (v := (.list 3 (List.map TNode.av p0))) rfl rfl (Light.quiet (opMove rfl rfl)) ?_
    refine ASL.q (v := (.list 3 (List.map TNode.av p0))) rfl rfl (Light.quiet (opMove rfl rfl)) ?_
    refine ASL.q (v := (.int .i64 (p0.length : Int))) rfl rfl (Light.quiet (opLenMap (f := TNode.av) rfl rfl rfl lenT_24 rfl)) ?_
    refine ASL.q (v := (.int .i64 (W (((p0.length : Int)) - 1)))) rfl rfl (Light.quiet (opInt rfl rfl rfl rfl)) ?_
    obtain ⟨a10, ha10, hF⟩ := bindE hF
    refine ASL.q (v := (.str a10)) rfl rfl ((qCall rfl rfl call_55 (spec_l11Print_ok ha10) rfl)) ?_
    refine ASL.q (v := (.str a10)) rfl rfl (Light.quiet (opAssign rfl rfl)) ?_
    refine ASL.done ?_
    refine AWP.ret ?_
    obtain rfl := someE hF
    exact QRet.sole (v := (.str a10)) ⟨rfl, trivial⟩ rfl

set_option maxRecDepth 10000 in
theorem spec_OmegaPrint_ok {K : Nat} {p0 : (List TOmega)} {r : ByteArray} (hF : spec_OmegaPrint K p0 = some r) : PC Try.prog 14 [(.list 2 (List.map TOmega.av p0))] fun v => v = (.str r) := by
  refine PC.enter Try.func14 rfl Try.ntmps14 (by simp) ?_
  have hS := Sep.void; unfold spec_OmegaPrint at hF
  refine AWP.seqR rfl ?_
  refine ASL.q (v := (.str { data := #[] })) rfl rfl (Light.quiet (opAssign rfl rfl)) ?_
  refine ASL.done ?_
  refine AWP.seqR rfl ?_
  refine ASL.q (v := (.str { data := #[] })) rfl rfl (Light.quiet (opAssign rfl rfl)) ?_
  refine ASL.done ?_
  refine AWP.seq ?_
  refine AWP.seqR rfl ?_
  refine ASL.q (v := (.list 2 (List.map TOmega.av p0))) rfl rfl (Light.quiet (opMove rfl rfl)) ?_
  obtain ⟨a6, ha6, hF⟩ := bindE hF
  refine ASL.q (v := (.bool a6)) rfl rfl ((qCall rfl rfl call_45 (spec_OmegaOk_ok ha6) rfl)) ?_
  refine ASL.q (v := (.bool (!a6))) rfl rfl (Light.quiet (opNot rfl rfl)) ?_
  refine ASL.done ?_
  refine AWP.ifB hF rfl (fun hc1 hF => ?_) (fun hc1 hF => ?_)
  · skip
    refine AWP.seqR rfl ?_
    refine ASL.q (v := (.str { data := #[] })) rfl rfl (Light.quiet (opAssign rfl rfl)) ?_
    refine ASL.done ?_
    refine AWP.ret ?_
    refine QThen.rt ?_
    obtain rfl := someE hF
    exact QRet.sole (v := (.str { data := #[] })) ⟨rfl, trivial⟩ rfl
  · skip
    refine AWP.skip ?_
    refine QThen.nrm ?_
    refine AWP.seqM (fun e H => ∃ x3_1 : ByteArray, E.Told e [(3, (.str x3_1))] ∧ E.Sep H [] ∧ spec_OmegaPrint.k0 x3_1 = some r) ?_ ?_
    · rintro e0 G2 ⟨x3_1, hT, hS, hF⟩; refine AWP.only _ hT ?_; unfold spec_OmegaPrint.k0 at hF
      refine AWP.seqR rfl ?_
      refine ASL.q (v := (.str x3_1)) rfl rfl (Light.quiet (opMove rfl rfl)) ?_
      refine ASL.q (v := (.str x3_1)) rfl rfl (Light.quiet (opAssign rfl rfl)) ?_
      refine ASL.done ?_
      refine AWP.ret ?_
      obtain rfl := someE hF
      exact QRet.sole (v := (.str x3_1)) ⟨rfl, trivial⟩ rfl
    · skip
      refine AWP.seqR rfl ?_
      refine ASL.q (v := (.int .i64 0)) rfl rfl (Light.quiet (opAssign rfl rfl)) ?_
      refine ASL.done ?_
      refine AWP.block ?_
      obtain ⟨o6, hL5, hR7⟩ := bindE hF
      refine AWP.loopF (ω := Unit) hL5 (fun s w => [(0, (.list 2 (List.map TOmega.av p0))), (3, (.str s.1)), (4, (.int .i64 s.2))]) (fun s w => []) () ⟨rfl, rfl, rfl, trivial⟩ (hS.pick [] rfl rfl) ?_
      rintro ⟨x3_l0, x4_l0⟩ _ G8 hS x3 hF hx4
      try dsimp only at hS ⊢
      have hF : spec_OmegaPrint.b0 p0 K x3_l0 x4_l0 = some x3 := hF; unfold spec_OmegaPrint.b0 at hF
      refine AWP.seq ?_
      refine AWP.seqR rfl ?_
      refine ASL.q (v := (.int .i64 x4_l0)) rfl rfl (Light.quiet (opMove rfl rfl)) ?_
      refine ASL.q (v := (.list 2 (List.map TOmega.av p0))) rfl rfl (Light.quiet (opMove rfl rfl)) ?_
      refine ASL.q (v := (.int .i64 (p0.length : Int))) rfl rfl (Light.quiet (opLenMap (f := TOmega.av) rfl rfl rfl lenT_35 rfl)) ?_
      refine ASL.q (v := (.bool (decide (x4_l0 < ((p0.length : Int)))))) rfl rfl (Light.quiet (opInt rfl rfl rfl rfl)) ?_
      refine ASL.done ?_
      refine AWP.ifP hF rfl (fun hc9 hF => ?_) (fun hc9 hF => ?_)
      · skip
        refine AWP.skip ?_
        refine QThen.nrm ?_
        refine AWP.seq ?_
        refine AWP.block ?_
        refine AWP.seqM (fun e H => ∃ x3_2 : ByteArray, E.Told e [(0, (.list 2 (List.map TOmega.av p0))), (3, (.str x3_2)), (4, (.int .i64 x4_l0))] ∧ E.Sep H [] ∧ spec_OmegaPrint.k1 p0 x4_l0 K x3_2 = some x3) ?_ ?_
        · rintro e0 G10 ⟨x3_2, hT, hS, hF⟩; refine AWP.only _ hT ?_; unfold spec_OmegaPrint.k1 at hF
          refine AWP.lastD [(0, false), (1, false), (2, false), (3, false), (4, false), (5, false), (6, false), (7, false), (8, false), (9, false), (10, false), (11, false), (12, false), (13, false), (14, false), (15, false), (16, false)] mixed (by kernel_rfl) rfl ?_
          refine ARL.q0 (v := (.str x3_2)) rfl rfl (Light.quiet (opMove rfl rfl)) ?_
          refine ARL.q0 (v := (.list 2 (List.map TOmega.av p0))) rfl rfl (Light.quiet (opMove rfl rfl)) ?_
          refine ARL.q0 (v := (.int .i64 x4_l0)) rfl rfl (Light.quiet (opMove rfl rfl)) ?_
          obtain ⟨a21, ha21, hF⟩ := bindE hF
          refine ARL.q0 (v := (.rptr [(.list 3 (List.map TNode.av a21.stem)), (.list 3 (List.map TNode.av a21.loop))])) rfl rfl (Light.quiet (kIx (f := TOmega.av) ha21 rfl rfl rfl elemA_35 sizeA_69 rfl)) ?_
          refine ARL.q0 (v := (.rptr [(.list 3 (List.map TNode.av a21.stem)), (.list 3 (List.map TNode.av a21.loop))])) rfl rfl (Light.quiet (opFieldAddrR rfl fieldA_69_0 rfl rfl)) ?_
          refine ARL.q0 (v := (.list 3 (List.map TNode.av a21.stem))) rfl rfl (Light.quiet (opLoadR rfl aggA_24 rfl rfl)) ?_
          obtain ⟨a24, ha24, hF⟩ := bindE hF
          refine ARL.q0 (v := (.str a24)) rfl rfl ((qCall rfl rfl call_46 (spec_RePrint_ok ha24) rfl)) ?_
          obtain ⟨a25, ha25, hF⟩ := bindE hF
          refine ARL.q0 (v := (.str a25)) rfl rfl (Light.quiet (opCat ha25 rfl rfl rfl)) ?_
          obtain ⟨a26, ha26, hF⟩ := bindE hF
          refine ARL.q0 (v := (.str a26)) rfl rfl (Light.quiet (opCat ha26 rfl rfl rfl)) ?_
          refine ARL.q0 (v := (.list 2 (List.map TOmega.av p0))) rfl rfl (Light.quiet (opMove rfl rfl)) ?_
          refine ARL.q0 (v := (.int .i64 x4_l0)) rfl rfl (Light.quiet (opMove rfl rfl)) ?_
          obtain ⟨a29, ha29, hF⟩ := bindE hF
          refine ARL.q0 (v := (.rptr [(.list 3 (List.map TNode.av a29.stem)), (.list 3 (List.map TNode.av a29.loop))])) rfl rfl (Light.quiet (kIx (f := TOmega.av) ha29 rfl rfl rfl elemA_35 sizeA_69 rfl)) ?_
          refine ARL.q0 (v := (.rptr [(.list 3 (List.map TNode.av a29.loop))])) rfl rfl (Light.quiet (opFieldAddrR rfl fieldA_69_1 rfl rfl)) ?_
          refine ARL.q0 (v := (.list 3 (List.map TNode.av a29.loop))) rfl rfl (Light.quiet (opLoadR rfl aggA_24 rfl rfl)) ?_
          obtain ⟨a32, ha32, hF⟩ := bindE hF
          refine ARL.q0 (v := (.str a32)) rfl rfl ((qCall rfl rfl call_46 (spec_RePrint_ok ha32) rfl)) ?_
          obtain ⟨a33, ha33, hF⟩ := bindE hF
          refine ARL.q0 (v := (.str a33)) rfl rfl (Light.quiet (opCat ha33 rfl rfl rfl)) ?_
          refine ARL.q0 (v := (.str a33)) rfl rfl (Light.quiet (opAssign rfl rfl)) ?_
          refine ARL.done ?_
          refine QBlock.nrm ?_
          refine QThen.nrm ?_
          refine AWP.lastR rfl ?_
          refine ASL.q (v := (.int .i64 x4_l0)) rfl rfl (Light.quiet (opMove rfl rfl)) ?_
          refine ASL.q (v := (.int .i64 (W (x4_l0 + 1)))) rfl rfl (Light.quiet (opInt rfl rfl rfl rfl)) ?_
          refine ASL.q (v := (.int .i64 (W (x4_l0 + 1)))) rfl rfl (Light.quiet (opAssign rfl rfl)) ?_
          refine ASL.done ?_
          refine QThen.nrm ?_
          exact ⟨(a33, (W (x4_l0 + 1))), (), (someE hF).symm, ⟨rfl, rfl, rfl, trivial⟩, (hS.pick [] rfl rfl)⟩
        · skip
          refine AWP.seqR rfl ?_
          refine ASL.q (v := (.int .i64 x4_l0)) rfl rfl (Light.quiet (opMove rfl rfl)) ?_
          refine ASL.q (v := (.bool (decide (x4_l0 > 0)))) rfl rfl (Light.quiet (opInt rfl rfl rfl rfl)) ?_
          refine ASL.done ?_
          refine AWP.ifP hF rfl (fun hc11 hF => ?_) (fun hc11 hF => ?_)
          · skip
            refine AWP.lastR rfl ?_
            refine ASL.q (v := (.str x3_l0)) rfl rfl (Light.quiet (opMove rfl rfl)) ?_
            obtain ⟨a17, ha17, hF⟩ := bindE hF
            refine ASL.q (v := (.str a17)) rfl rfl (Light.quiet (opCat ha17 rfl rfl rfl)) ?_
            refine ASL.q (v := (.str a17)) rfl rfl (Light.quiet (opAssign rfl rfl)) ?_
            refine ASL.done ?_
            refine QThen.nrm ?_
            exact ⟨a17, ⟨rfl, rfl, rfl, trivial⟩, (hS.pick [] rfl rfl), hF⟩
          · skip
            refine AWP.skip ?_
            refine QThen.nrm ?_
            exact ⟨x3_l0, ⟨rfl, rfl, rfl, trivial⟩, (hS.pick [] rfl rfl), hF⟩
      · skip
        refine AWP.exit ?_
        refine QThen.ext ?_
        refine QThen.ext ?_
        refine QBlock.hit ?_
        obtain rfl := (hx4 _ (someE hF).symm)
        have hF := hR7
        refine QThen.nrm ?_
        exact ⟨x3_l0, ⟨rfl, trivial⟩, (hS.pick [] rfl rfl), hF⟩

set_option maxRecDepth 10000 in
theorem impl_inRange_ok (p0 : Int) (p1 : Int) (p2 : Int) : PC Try.prog 90 [(.int .i64 p0), (.int .i64 p1), (.int .i64 p2)] fun v => v = (.bool (impl_inRange p0 p1 p2)) := by
  generalize hF : impl_inRange p0 p1 p2 = r
  refine PC.enter Try.func90 rfl Try.ntmps90 (by simp) ?_
  have hS := Sep.void; unfold impl_inRange at hF
  refine AWP.seqR rfl ?_
  refine ASL.q (v := (.bool false)) rfl rfl (Light.quiet (opAssign rfl rfl)) ?_
  refine ASL.done ?_
  refine AWP.seqR rfl ?_
  refine ASL.q (v := (.int .i64 p0)) rfl rfl (Light.quiet (opMove rfl rfl)) ?_
  refine ASL.q (v := (.int .i64 p1)) rfl rfl (Light.quiet (opMove rfl rfl)) ?_
  refine ASL.q (v := (.bool (decide (p0 ≥ p1)))) rfl rfl (Light.quiet (opInt rfl rfl rfl rfl)) ?_
  obtain ⟨c10, hc10, hF⟩ := bndE hF
  refine ASL.q (v := (.bool c10)) rfl rfl ((Quiet.cast (Light.quiet (opMove rfl rfl)) (congrArg AV.bool hc10.symm))) ?_
  refine ASL.g (v := (.int .i64 p0)) (.bool c10) true rfl (wT _) rfl (fun hG => by have q0 := hG; subst q0; exact Light.quiet (opMove rfl rfl)) ?_
  refine ASL.g (v := (.int .i64 p2)) (.bool c10) true rfl (wT _) rfl (fun hG => by have q0 := hG; subst q0; exact Light.quiet (opMove rfl rfl)) ?_
  refine ASL.g (v := (.bool (decide (p0 ≤ p2)))) (.bool c10) true rfl (wT _) rfl (fun hG => by have q0 := hG; subst q0; exact Light.quiet (opInt rfl rfl rfl rfl)) ?_
  refine ASL.q (v := (.bool (c10 && (decide (p0 ≤ p2))))) rfl rfl (Light.quiet (opPick (b := c10) rfl rfl (by cases c10 <;> rfl))) ?_
  refine ASL.q (v := (.bool (c10 && (decide (p0 ≤ p2))))) rfl rfl (Light.quiet (opAssign rfl rfl)) ?_
  refine ASL.done ?_
  refine AWP.ret ?_
  obtain rfl := hF
  exact QRet.sole (v := (.bool (c10 && (decide (p0 ≤ p2))))) ⟨rfl, trivial⟩ rfl

set_option maxRecDepth 10000 in
theorem impl_begins_ok {p0 : (List TNode)} {g1 : (TNode → Option Int)} {r : ((List Int) × Bool)} {k1 : Nat} (hcal1 : callable Try.prog k1 = true) (hg1 : ∀ q0 y, g1 q0 = some y → PC Try.prog k1 [(TNode.av q0)] fun v => v = (.int .i64 y)) (hF : impl_begins p0 g1 = some r) : PC Try.prog 71 [(.list 3 (List.map TNode.av p0)), (.fn (.func k1) [] [])] fun v => v = .tup [(.list 1 (List.map (AV.int .i64) r.1)), (.bool r.2)] := by
  refine PC.enter Try.func71 rfl Try.ntmps71 (by simp) ?_
  have hS := Sep.void; unfold impl_begins at hF
  refine AWP.seqR rfl ?_
  refine ASL.q (v := (.list 1 (List.map (AV.int .i64) []))) rfl rfl (Light.quiet (opNilL rfl rfl)) ?_
  refine ASL.q (v := (.bool false)) rfl rfl (Light.quiet (opAssign rfl rfl)) ?_
  refine ASL.done ?_
  refine AWP.seq ?_
  refine AWP.seqR rfl ?_
  refine ASL.q (v := (.list 3 (List.map TNode.av p0))) rfl rfl (Light.quiet (opMove rfl rfl)) ?_
  refine ASL.q (v := (.int .i64 (p0.length : Int))) rfl rfl (Light.quiet (opLenMap (f := TNode.av) rfl rfl rfl lenT_24 rfl)) ?_
  refine ASL.q (v := (.bool (impl_inRange ((p0.length : Int)) 1 31))) rfl rfl ((qCall rfl rfl call_90 (impl_inRange_ok ((p0.length : Int)) 1 31) rfl)) ?_
  refine ASL.q (v := (.bool (!(impl_inRange ((p0.length : Int)) 1 31)))) rfl rfl (Light.quiet (opNot rfl rfl)) ?_
  refine ASL.done ?_
  refine AWP.ifB hF rfl (fun hc1 hF => ?_) (fun hc1 hF => ?_)
  · skip
    refine AWP.seqR rfl ?_
    refine ASL.q (v := (.list 1 (List.map (AV.int .i64) []))) rfl rfl (Light.quiet (opNilL rfl rfl)) ?_
    refine ASL.q (v := (.bool false)) rfl rfl (Light.quiet (opAssign rfl rfl)) ?_
    refine ASL.done ?_
    refine AWP.ret ?_
    refine QThen.rt ?_
    obtain rfl := someE hF
    exact QRet.many (vs := [(.list 1 (List.map (AV.int .i64) [])), (.bool false)]) ⟨rfl, rfl, trivial⟩ (by simp) rfl
  · skip
    refine AWP.skip ?_
    refine QThen.nrm ?_
    refine AWP.seqR rfl ?_
    refine ASL.q (v := (.list 3 (List.map TNode.av p0))) rfl rfl (Light.quiet (opMove rfl rfl)) ?_
    refine ASL.q (v := (.int .i64 (p0.length : Int))) rfl rfl (Light.quiet (opLenMap (f := TNode.av) rfl rfl rfl lenT_24 rfl)) ?_
    obtain ⟨z15, hz15, hF⟩ := bindE hF
    refine ASL.x rfl rfl (hMk (f := (AV.int .i64)) hS hz15 (by decide) rfl elemA_25 sizeA_3 bytesA_3 zeroA_3 rfl rfl (by decide) rfl rfl ?_); rintro v15 G2 hK hS
    refine ASL.q (v := v15) rfl rfl (Light.quiet (opAssign rfl rfl)) ?_
    refine ASL.done ?_
    refine AWP.seqM (fun e H => ∃ y4 : (List Int), E.Told e [(0, (.list 3 (List.map TNode.av p0))), (6, v15)] ∧ E.Sep H [.row 1 v15 (List.map (AV.int .i64) y4)] ∧ impl_begins.k0 p0 y4 = some r) ?_ ?_
    · rintro e0 G6 ⟨y4, hT, hS, hF⟩; refine AWP.only _ hT ?_; unfold impl_begins.k0 at hF
      refine AWP.frz (L' := []) hS (k := 0) rfl [(0, (.list 3 (List.map TNode.av p0))), (6, (.list 1 (List.map (AV.int .i64) y4)))] ⟨.inl rfl, .inr (.inl ⟨rfl, rfl⟩), trivial⟩ trivial (fun G5 hS => ?_)
      refine AWP.seqD [(0, false), (1, false), (2, false), (3, false), (4, false), (5, false), (6, false), (7, false), (8, false), (9, false)] mixed (by kernel_rfl) rfl ?_
      refine ARL.q0 (v := (.list 1 (List.map (AV.int .i64) y4))) rfl rfl (Light.quiet (opMove rfl rfl)) ?_
      refine ARL.q0 (v := (.list 1 (List.map (AV.int .i64) y4))) rfl rfl (Light.quiet (opMove rfl rfl)) ?_
      refine ARL.q0 (v := (.list 3 (List.map TNode.av p0))) rfl rfl (Light.quiet (opMove rfl rfl)) ?_
      refine ARL.q0 (v := (.int .i64 (p0.length : Int))) rfl rfl (Light.quiet (opLenMap (f := TNode.av) rfl rfl rfl lenT_24 rfl)) ?_
      refine ARL.q0 (v := (.int .i64 (W (((p0.length : Int)) - 1)))) rfl rfl (Light.quiet (opInt rfl rfl rfl rfl)) ?_
      obtain ⟨a97, ha97, hF⟩ := bindE hF
      refine ARL.q0 (v := (.rptr [(.int .i64 a97)])) rfl rfl (Light.quiet (kIx (f := (AV.int .i64)) ha97 rfl rfl rfl elemA_25 sizeA_3 rfl)) ?_
      refine ARL.q0 (v := (.int .i64 a97)) rfl rfl (Light.quiet (opLoadR rfl aggA_3 rfl rfl)) ?_
      refine ARL.q0 (v := (.bool (decide (a97 = 0)))) rfl rfl (Light.quiet (opInt rfl rfl rfl rfl)) ?_
      refine ARL.q0 (v := (.list 1 (List.map (AV.int .i64) y4))) rfl rfl (Light.quiet (opAssign rfl rfl)) ?_
      refine ARL.q0 (v := (.bool (decide (a97 = 0)))) rfl rfl (Light.quiet (opAssign rfl rfl)) ?_
      refine ARL.done ?_
      refine AWP.ret ?_
      obtain rfl := someE hF
      exact QRet.many (vs := [(.list 1 (List.map (AV.int .i64) y4)), (.bool (decide (a97 = 0)))]) ⟨rfl, rfl, trivial⟩ (by simp) rfl
    · skip
      refine AWP.seqR rfl ?_
      refine ASL.q (v := (.list 3 (List.map TNode.av p0))) rfl rfl (Light.quiet (opMove rfl rfl)) ?_
      refine ASL.q (v := (.int .i64 (p0.length : Int))) rfl rfl (Light.quiet (opLenMap (f := TNode.av) rfl rfl rfl lenT_24 rfl)) ?_
      refine ASL.q (v := (.int .i64 0)) rfl rfl (Light.quiet (opMove rfl rfl)) ?_
      refine ASL.done ?_
      refine AWP.block ?_
      obtain ⟨o11, hL10, hR12⟩ := bindE hF
      refine AWP.loopF (ω := Unit) hL10 (fun s w => [(0, (.list 3 (List.map TNode.av p0))), (1, (.fn (.func k1) [] [])), (6, v15), (16, (.list 3 (List.map TNode.av p0))), (17, (.int .i64 (p0.length : Int))), (18, (.int .i64 s.2))]) (fun s w => [.row 1 v15 (List.map (AV.int .i64) s.1)]) () ⟨rfl, rfl, rfl, rfl, rfl, rfl, trivial⟩ (hS.pick [0] rfl rfl) ?_
      rintro ⟨y7, x18_l0⟩ _ G13 hS x8 hF hx9
      try dsimp only at hS ⊢
      have hF : impl_begins.b0 p0 g1 y7 x18_l0 = some x8 := hF; unfold impl_begins.b0 at hF
      refine AWP.seqR rfl ?_
      refine ASL.q (v := (.bool (decide (x18_l0 < ((p0.length : Int)))))) rfl rfl (Light.quiet (opInt rfl rfl rfl rfl)) ?_
      refine ASL.done ?_
      refine AWP.seq ?_
      refine AWP.ifP hF rfl (fun hc14 hF => ?_) (fun hc14 hF => ?_)
      · skip
        refine AWP.skip ?_
        refine QThen.nrm ?_
        refine AWP.seq ?_
        refine AWP.block ?_
        refine AWP.seqR rfl ?_
        refine ASL.q (v := (.int .i64 x18_l0)) rfl rfl (Light.quiet (opMove rfl rfl)) ?_
        obtain ⟨a21, ha21, hF⟩ := bindE hF
        refine ASL.q (v := (.rptr [(.int .i64 a21.kind), (.int .i64 a21.a), (.int .i64 a21.b)])) rfl rfl (Light.quiet (kIx (f := TNode.av) ha21 rfl rfl rfl elemA_24 sizeA_31 rfl)) ?_
        refine ASL.q (v := (TNode.av a21)) rfl rfl (Light.quiet (opLoadRA rfl aggA_31 sizeA_31 rfl (nlt rfl) rfl)) ?_
        refine ASL.x rfl rfl (hNewZ hS [(.int .i64 0), (.int .i64 0), (.int .i64 0)] rfl zeroA_31 ⟨.inl rfl, .inl rfl, .inl rfl, trivial⟩ ?_); rintro b8 G15 hK hS
        refine ASL.q (v := (.int .i64 x18_l0)) rfl rfl (Light.quiet (opAssign rfl rfl)) ?_
        refine ASL.n rfl rfl (hPutA hS (j := 0) rfl rfl sizeA_31 rfl rfl rfl rfl rfl (nlt rfl) ?_); rintro G17 hS
        refine ASL.done ?_
        refine AWP.seqR rfl ?_
        refine ASL.q (v := v15) rfl rfl (Light.quiet (opMove rfl rfl)) ?_
        refine ASL.q (v := (.int .i64 x18_l0)) rfl rfl (Light.quiet (opMove rfl rfl)) ?_
        refine ASL.q (v := (.int .i64 x18_l0)) rfl rfl (Light.quiet (opMove rfl rfl)) ?_
        obtain ⟨m26, hm26, hF⟩ := bindE hF
        refine ASL.q (v := (ptrTo v15 m26 1)) rfl rfl (Light.quiet (kIxO hS (j := 1) rfl hm26 rfl rfl rfl elemA_25 sizeA_3)) ?_
        refine ASL.n rfl rfl (hSt (f := (AV.int .i64)) (a := x18_l0) hS (j := 1) rfl hm26 rfl sizeA_3 rfl rfl ⟨rfl, rfl, rfl⟩ ?_); rintro G18 hS
        refine ASL.done ?_
        refine AWP.seqR rfl ?_
        refine ASL.q (v := (.fn (.func k1) [] [])) rfl rfl (Light.quiet (opMove rfl rfl)) ?_
        refine ASL.q (v := (TNode.av a21)) rfl rfl (Light.quiet (kAtA hS (j := 0) rfl rfl aggA_31 sizeA_31 rfl (nlt rfl) rfl)) ?_
        obtain ⟨a29, ha29, hF⟩ := bindE hF
        refine ASL.q (v := (.int .i64 a29)) rfl rfl ((qCall rfl rfl hcal1 ((hg1 _ _) ha29) rfl)) ?_
        refine ASL.done ?_
        refine AWP.block ?_
        refine AWP.seqR rfl ?_
        refine ASL.q (v := (.bool (decide (a29 = 0)))) rfl rfl (Light.quiet (opInt rfl rfl rfl rfl)) ?_
        refine ASL.q (v := (.bool (decide (a29 = 0)))) rfl rfl (Light.quiet (opAssign rfl rfl)) ?_
        refine ASL.done ?_
        refine AWP.ifP hF rfl (fun hc19 hF => ?_) (fun hc19 hF => ?_)
        · skip
          refine AWP.exit ?_
          refine QBlock.miss rfl ?_
          refine QBlock.hit ?_
          refine QThen.nrm ?_
          refine AWP.lastR rfl ?_
          refine ASL.q (v := (.int .i64 (W (x18_l0 + 1)))) rfl rfl (Light.quiet (opInt rfl rfl rfl rfl)) ?_
          refine ASL.q (v := (.int .i64 (W (x18_l0 + 1)))) rfl rfl (Light.quiet (opMove rfl rfl)) ?_
          refine ASL.done ?_
          refine QThen.nrm ?_
          exact ⟨((y7.set m26 x18_l0), (W (x18_l0 + 1))), (), (someE hF).symm, ⟨rfl, rfl, rfl, rfl, rfl, rfl, trivial⟩, (hS.pick [1] rfl rfl)⟩
        · skip
          refine AWP.seqR rfl ?_
          refine ASL.q (v := (.bool (decide (a29 = 1)))) rfl rfl (Light.quiet (opInt rfl rfl rfl rfl)) ?_
          refine ASL.q (v := (.bool (decide (a29 = 1)))) rfl rfl (Light.quiet (opAssign rfl rfl)) ?_
          refine ASL.done ?_
          refine AWP.ifP hF rfl (fun hc20 hF => ?_) (fun hc20 hF => ?_)
          · skip
            refine AWP.seq ?_
            refine AWP.seqR rfl ?_
            refine ASL.q (v := (.int .i64 x18_l0)) rfl rfl (Light.quiet (opMove rfl rfl)) ?_
            refine ASL.q (v := (.bool (decide (x18_l0 = 0)))) rfl rfl (Light.quiet (opInt rfl rfl rfl rfl)) ?_
            obtain ⟨c36, hc36, hF⟩ := bndE hF
            refine ASL.q (v := (.bool c36)) rfl rfl ((Quiet.cast (Light.quiet (opMove rfl rfl)) (congrArg AV.bool hc36.symm))) ?_
            refine ASL.g (v := (.ptr b8 1)) (.bool c36) false rfl (wF _) rfl (fun hG => by have q0 := gN hG; subst q0; exact Light.quiet (opFieldAddr rfl fieldA_31_1 rfl rfl)) ?_
            refine ASL.g (v := (.int .i64 a21.a)) (.bool c36) false rfl (wF _) rfl (fun hG => by have q0 := gN hG; subst q0; exact Light.quiet (kAt hS (j := 0) rfl rfl aggA_3 rfl rfl)) ?_
            refine ASL.g (v := (.int .i64 x18_l0)) (.bool c36) false rfl (wF _) rfl (fun hG => by have q0 := gN hG; subst q0; exact Light.quiet (opMove rfl rfl)) ?_
            refine ASL.g (v := (.int .i64 (W (x18_l0 - 1)))) (.bool c36) false rfl (wF _) rfl (fun hG => by have q0 := gN hG; subst q0; exact Light.quiet (opInt rfl rfl rfl rfl)) ?_
            refine ASL.g (v := (.bool (decide (a21.a ≠ ((W (x18_l0 - 1))))))) (.bool c36) false rfl (wF _) rfl (fun hG => by have q0 := gN hG; subst q0; exact Light.quiet (opInt rfl rfl rfl rfl)) ?_
            refine ASL.q (v := (.bool (c36 || (decide (a21.a ≠ ((W (x18_l0 - 1)))))))) rfl rfl (Light.quiet (opPick (b := c36) rfl rfl (by cases c36 <;> rfl))) ?_
            obtain ⟨c43, hc43, hF⟩ := bndE hF
            refine ASL.q (v := (.bool c43)) rfl rfl ((Quiet.cast (Light.quiet (opMove rfl rfl)) (congrArg AV.bool hc43.symm))) ?_
            refine ASL.g (v := (.ptr b8 2)) (.bool c43) false rfl (wF _) rfl (fun hG => by have q0 := gN hG; subst q0; exact Light.quiet (opFieldAddr rfl fieldA_31_2 rfl rfl)) ?_
            refine ASL.g (v := (.int .i64 a21.b)) (.bool c43) false rfl (wF _) rfl (fun hG => by have q0 := gN hG; subst q0; exact Light.quiet (kAt hS (j := 0) rfl rfl aggA_3 rfl rfl)) ?_
            refine ASL.g (v := (.bool (decide (a21.b ≠ 0)))) (.bool c43) false rfl (wF _) rfl (fun hG => by have q0 := gN hG; subst q0; exact Light.quiet (opInt rfl rfl rfl rfl)) ?_
            refine ASL.q (v := (.bool (c43 || (decide (a21.b ≠ 0))))) rfl rfl (Light.quiet (opPick (b := c43) rfl rfl (by cases c43 <;> rfl))) ?_
            refine ASL.done ?_
            refine AWP.ifB hF rfl (fun hc21 hF => ?_) (fun hc21 hF => ?_)
            · skip
              refine AWP.seqR rfl ?_
              refine ASL.q (v := (.list 1 (List.map (AV.int .i64) []))) rfl rfl (Light.quiet (opNilL rfl rfl)) ?_
              refine ASL.q (v := (.bool false)) rfl rfl (Light.quiet (opAssign rfl rfl)) ?_
              refine ASL.done ?_
              refine AWP.ret ?_
              refine QThen.rt ?_
              refine QBlock.ret ?_
              refine QBlock.ret ?_
              refine QThen.rt ?_
              refine QThen.rt ?_
              refine QBlock.ret ?_
              refine QThen.rt ?_
              obtain rfl := (hx9 _ (someE hF).symm)
              have hF := hR12
              have hF := sumR hF
              obtain rfl := someE hF
              exact QRet.many (vs := [(.list 1 (List.map (AV.int .i64) [])), (.bool false)]) ⟨rfl, rfl, trivial⟩ (by simp) rfl
            · skip
              refine AWP.skip ?_
              refine QThen.nrm ?_
              refine AWP.lastR rfl ?_
              refine ASL.q (v := v15) rfl rfl (Light.quiet (opMove rfl rfl)) ?_
              refine ASL.q (v := (.int .i64 x18_l0)) rfl rfl (Light.quiet (opMove rfl rfl)) ?_
              refine ASL.q (v := v15) rfl rfl (Light.quiet (opMove rfl rfl)) ?_
              refine ASL.q (v := (.ptr b8 1)) rfl rfl (Light.quiet (opFieldAddr rfl fieldA_31_1 rfl rfl)) ?_
              refine ASL.q (v := (.int .i64 a21.a)) rfl rfl (Light.quiet (kAt hS (j := 0) rfl rfl aggA_3 rfl rfl)) ?_
              obtain ⟨a53, ha53, hF⟩ := bindE hF
              refine ASL.q (v := (ptrTo v15 a21.a.toNat 1)) rfl rfl (Light.quiet (kIxOx hS (j := 1) rfl ha53 rfl rfl rfl elemA_25 sizeA_3)) ?_
              refine ASL.q (v := (.int .i64 a53)) rfl rfl (Light.quiet (kLd (f := (AV.int .i64)) hS (j := 1) rfl ha53 rfl aggA_3 rfl (fun _ => rfl))) ?_
              obtain ⟨m55, hm55, hF⟩ := bindE hF
              refine ASL.q (v := (ptrTo v15 m55 1)) rfl rfl (Light.quiet (kIxO hS (j := 1) rfl hm55 rfl rfl rfl elemA_25 sizeA_3)) ?_
              refine ASL.n rfl rfl (hSt (f := (AV.int .i64)) (a := a53) hS (j := 1) rfl hm55 rfl sizeA_3 rfl rfl ⟨rfl, rfl, rfl⟩ ?_); rintro G22 hS
              refine ASL.done ?_
              refine QBlock.nrm ?_
              refine QBlock.nrm ?_
              refine QThen.nrm ?_
              refine AWP.lastR rfl ?_
              refine ASL.q (v := (.int .i64 (W (x18_l0 + 1)))) rfl rfl (Light.quiet (opInt rfl rfl rfl rfl)) ?_
              refine ASL.q (v := (.int .i64 (W (x18_l0 + 1)))) rfl rfl (Light.quiet (opMove rfl rfl)) ?_
              refine ASL.done ?_
              refine QThen.nrm ?_
              exact ⟨((((y7.set m26 x18_l0)).set m55 a53), (W (x18_l0 + 1))), (), (someE hF).symm, ⟨rfl, rfl, rfl, rfl, rfl, rfl, trivial⟩, (hS.pick [1] rfl rfl)⟩
          · skip
            refine AWP.seqR rfl ?_
            refine ASL.q (v := (.bool (decide (a29 = 2)))) rfl rfl (Light.quiet (opInt rfl rfl rfl rfl)) ?_
            refine ASL.q (v := (.bool (decide (a29 = 2)))) rfl rfl (Light.quiet (opAssign rfl rfl)) ?_
            refine ASL.done ?_
            refine AWP.ifP hF rfl (fun hc23 hF => ?_) (fun hc23 hF => ?_)
            · skip
              refine AWP.seq ?_
              refine AWP.seqD [(0, false), (1, false), (2, false), (3, false), (4, false), (5, false), (6, false), (7, false), (8, false), (9, false), (10, false), (11, false), (12, false), (13, false), (14, false), (15, false), (16, false), (17, false), (18, false), (19, false), (20, false), (21, false), (22, false), (23, false), (24, false)] mixed (by kernel_rfl) rfl ?_
              refine ARL.q0 (v := (.int .i64 x18_l0)) rfl rfl (Light.quiet (opMove rfl rfl)) ?_
              refine ARL.q0 (v := (.bool (decide (x18_l0 = 0)))) rfl rfl (Light.quiet (opInt rfl rfl rfl rfl)) ?_
              obtain ⟨c60, hc60, hF⟩ := bndE hF
              refine ARL.q0 (v := (.bool c60)) rfl rfl ((Quiet.cast (Light.quiet (opMove rfl rfl)) (congrArg AV.bool hc60.symm))) ?_
              refine ARL.g (v := (.ptr b8 2)) (.bool c60) false rfl (wF _) rfl noneAlive (fun hG => by have q0 := gN hG; subst q0; exact Light.quiet (opFieldAddr rfl fieldA_31_2 rfl rfl)) ?_
              refine ARL.g (v := (.int .i64 a21.b)) (.bool c60) false rfl (wF _) rfl (hS.aliveC (k := 0) rfl) (fun hG => by have q0 := gN hG; subst q0; exact Light.quiet (kAt hS (j := 0) rfl rfl aggA_3 rfl rfl)) ?_
              refine ARL.g (v := (.int .i64 x18_l0)) (.bool c60) false rfl (wF _) rfl noneAlive (fun hG => by have q0 := gN hG; subst q0; exact Light.quiet (opMove rfl rfl)) ?_
              refine ARL.g (v := (.int .i64 (W (x18_l0 - 1)))) (.bool c60) false rfl (wF _) rfl noneAlive (fun hG => by have q0 := gN hG; subst q0; exact Light.quiet (opInt rfl rfl rfl rfl)) ?_
              refine ARL.g (v := (.bool (decide (a21.b ≠ ((W (x18_l0 - 1))))))) (.bool c60) false rfl (wF _) rfl noneAlive (fun hG => by have q0 := gN hG; subst q0; exact Light.quiet (opInt rfl rfl rfl rfl)) ?_
              refine ARL.q0 (v := (.bool (c60 || (decide (a21.b ≠ ((W (x18_l0 - 1)))))))) rfl rfl (Light.quiet (opPick (b := c60) rfl rfl (by cases c60 <;> rfl))) ?_
              obtain ⟨c67, hc67, hF⟩ := bndE hF
              refine ARL.q0 (v := (.bool c67)) rfl rfl ((Quiet.cast (Light.quiet (opMove rfl rfl)) (congrArg AV.bool hc67.symm))) ?_
              refine ARL.g (v := (.ptr b8 1)) (.bool c67) false rfl (wF _) rfl noneAlive (fun hG => by have q0 := gN hG; subst q0; exact Light.quiet (opFieldAddr rfl fieldA_31_1 rfl rfl)) ?_
              refine ARL.g (v := (.int .i64 a21.a)) (.bool c67) false rfl (wF _) rfl (hS.aliveC (k := 0) rfl) (fun hG => by have q0 := gN hG; subst q0; exact Light.quiet (kAt hS (j := 0) rfl rfl aggA_3 rfl rfl)) ?_
              refine ARL.g (v := v15) (.bool c67) false rfl (wF _) rfl noneAlive (fun hG => by have q0 := gN hG; subst q0; exact Light.quiet (opMove rfl rfl)) ?_
              refine ARL.g (v := (.int .i64 x18_l0)) (.bool c67) false rfl (wF _) rfl noneAlive (fun hG => by have q0 := gN hG; subst q0; exact Light.quiet (opMove rfl rfl)) ?_
              refine ARL.g (v := (.int .i64 (W (x18_l0 - 1)))) (.bool c67) false rfl (wF _) rfl noneAlive (fun hG => by have q0 := gN hG; subst q0; exact Light.quiet (opInt rfl rfl rfl rfl)) ?_
              obtain ⟨a73, ha73, hF⟩ := bindE hF
              refine ARL.g (v := (ptrTo v15 ((W (x18_l0 - 1))).toNat 1)) (.bool c67) false rfl (wF _) rfl noneAlive (fun hG => by have q0 := gN hG; subst q0; exact Light.quiet (kIxOx hS (j := 1) rfl (whenE ha73) rfl rfl rfl elemA_25 sizeA_3)) ?_
              refine ARL.g (v := (.int .i64 a73)) (.bool c67) false rfl (wF _) rfl (hS.aliveR (k := 1) rfl) (fun hG => by have q0 := gN hG; subst q0; exact Light.quiet (kLd (f := (AV.int .i64)) hS (j := 1) rfl (whenE ha73) rfl aggA_3 rfl (fun _ => rfl))) ?_
              refine ARL.g (v := (.int .i64 (W (a73 - 1)))) (.bool c67) false rfl (wF _) rfl noneAlive (fun hG => by have q0 := gN hG; subst q0; exact Light.quiet (opInt rfl rfl rfl rfl)) ?_
              refine ARL.g (v := (.bool (decide (a21.a ≠ ((W (a73 - 1))))))) (.bool c67) false rfl (wF _) rfl noneAlive (fun hG => by have q0 := gN hG; subst q0; exact Light.quiet (opInt rfl rfl rfl rfl)) ?_
              refine ARL.q0 (v := (.bool (c67 || (decide (a21.a ≠ ((W (a73 - 1)))))))) rfl rfl (Light.quiet (opPick (b := c67) rfl rfl (by cases c67 <;> rfl))) ?_
              obtain ⟨c78, hc78, hF⟩ := bndE hF
              refine ARL.q0 (v := (.bool c78)) rfl rfl ((Quiet.cast (Light.quiet (opMove rfl rfl)) (congrArg AV.bool hc78.symm))) ?_
              refine ARL.g (v := (.ptr b8 1)) (.bool c78) false rfl (wF _) rfl noneAlive (fun hG => by have q0 := gN hG; subst q0; exact Light.quiet (opFieldAddr rfl fieldA_31_1 rfl rfl)) ?_
              refine ARL.g (v := (.int .i64 a21.a)) (.bool c78) false rfl (wF _) rfl (hS.aliveC (k := 0) rfl) (fun hG => by have q0 := gN hG; subst q0; exact Light.quiet (kAt hS (j := 0) rfl rfl aggA_3 rfl rfl)) ?_
              refine ARL.g (v := (.bool (decide (a21.a < 0)))) (.bool c78) false rfl (wF _) rfl noneAlive (fun hG => by have q0 := gN hG; subst q0; exact Light.quiet (opInt rfl rfl rfl rfl)) ?_
              refine ARL.q0 (v := (.bool (c78 || (decide (a21.a < 0))))) rfl rfl (Light.quiet (opPick (b := c78) rfl rfl (by cases c78 <;> rfl))) ?_
              refine ARL.done ?_
              refine AWP.ifB hF rfl (fun hc24 hF => ?_) (fun hc24 hF => ?_)
              · skip
                refine AWP.seqR rfl ?_
                refine ASL.q (v := (.list 1 (List.map (AV.int .i64) []))) rfl rfl (Light.quiet (opNilL rfl rfl)) ?_
                refine ASL.q (v := (.bool false)) rfl rfl (Light.quiet (opAssign rfl rfl)) ?_
                refine ASL.done ?_
                refine AWP.ret ?_
                refine QThen.rt ?_
                refine QBlock.ret ?_
                refine QBlock.ret ?_
                refine QThen.rt ?_
                refine QThen.rt ?_
                refine QBlock.ret ?_
                refine QThen.rt ?_
                obtain rfl := (hx9 _ (someE hF).symm)
                have hF := hR12
                have hF := sumR hF
                obtain rfl := someE hF
                exact QRet.many (vs := [(.list 1 (List.map (AV.int .i64) [])), (.bool false)]) ⟨rfl, rfl, trivial⟩ (by simp) rfl
              · skip
                refine AWP.skip ?_
                refine QThen.nrm ?_
                refine AWP.lastR rfl ?_
                refine ASL.q (v := v15) rfl rfl (Light.quiet (opMove rfl rfl)) ?_
                refine ASL.q (v := (.int .i64 x18_l0)) rfl rfl (Light.quiet (opMove rfl rfl)) ?_
                refine ASL.q (v := v15) rfl rfl (Light.quiet (opMove rfl rfl)) ?_
                refine ASL.q (v := (.ptr b8 1)) rfl rfl (Light.quiet (opFieldAddr rfl fieldA_31_1 rfl rfl)) ?_
                refine ASL.q (v := (.int .i64 a21.a)) rfl rfl (Light.quiet (kAt hS (j := 0) rfl rfl aggA_3 rfl rfl)) ?_
                obtain ⟨a88, ha88, hF⟩ := bindE hF
                refine ASL.q (v := (ptrTo v15 a21.a.toNat 1)) rfl rfl (Light.quiet (kIxOx hS (j := 1) rfl ha88 rfl rfl rfl elemA_25 sizeA_3)) ?_
                refine ASL.q (v := (.int .i64 a88)) rfl rfl (Light.quiet (kLd (f := (AV.int .i64)) hS (j := 1) rfl ha88 rfl aggA_3 rfl (fun _ => rfl))) ?_
                obtain ⟨m90, hm90, hF⟩ := bindE hF
                refine ASL.q (v := (ptrTo v15 m90 1)) rfl rfl (Light.quiet (kIxO hS (j := 1) rfl hm90 rfl rfl rfl elemA_25 sizeA_3)) ?_
                refine ASL.n rfl rfl (hSt (f := (AV.int .i64)) (a := a88) hS (j := 1) rfl hm90 rfl sizeA_3 rfl rfl ⟨rfl, rfl, rfl⟩ ?_); rintro G25 hS
                refine ASL.done ?_
                refine QBlock.nrm ?_
                refine QBlock.nrm ?_
                refine QThen.nrm ?_
                refine AWP.lastR rfl ?_
                refine ASL.q (v := (.int .i64 (W (x18_l0 + 1)))) rfl rfl (Light.quiet (opInt rfl rfl rfl rfl)) ?_
                refine ASL.q (v := (.int .i64 (W (x18_l0 + 1)))) rfl rfl (Light.quiet (opMove rfl rfl)) ?_
                refine ASL.done ?_
                refine QThen.nrm ?_
                exact ⟨((((y7.set m26 x18_l0)).set m90 a88), (W (x18_l0 + 1))), (), (someE hF).symm, ⟨rfl, rfl, rfl, rfl, rfl, rfl, trivial⟩, (hS.pick [1] rfl rfl)⟩
            · skip
              refine AWP.seqR rfl ?_
              refine ASL.q (v := (.list 1 (List.map (AV.int .i64) []))) rfl rfl (Light.quiet (opNilL rfl rfl)) ?_
              refine ASL.q (v := (.bool false)) rfl rfl (Light.quiet (opAssign rfl rfl)) ?_
              refine ASL.done ?_
              refine AWP.ret ?_
              refine QBlock.ret ?_
              refine QBlock.ret ?_
              refine QThen.rt ?_
              refine QThen.rt ?_
              refine QBlock.ret ?_
              refine QThen.rt ?_
              obtain rfl := (hx9 _ (someE hF).symm)
              have hF := hR12
              have hF := sumR hF
              obtain rfl := someE hF
              exact QRet.many (vs := [(.list 1 (List.map (AV.int .i64) [])), (.bool false)]) ⟨rfl, rfl, trivial⟩ (by simp) rfl
      · skip
        refine AWP.exit ?_
        refine QThen.ext ?_
        refine QThen.ext ?_
        refine QBlock.hit ?_
        obtain rfl := (hx9 _ (someE hF).symm)
        have hF := hR12
        have hF := sumL hF
        refine QThen.nrm ?_
        exact ⟨y7, ⟨rfl, rfl, trivial⟩, (hS.pick [0] rfl rfl), hF⟩

set_option maxRecDepth 10000 in
theorem impl_isTree_ok {p0 : (List TNode)} {g1 : (TNode → Option Int)} {r : Bool} {k1 : Nat} (hcal1 : callable Try.prog k1 = true) (hg1 : ∀ q0 y, g1 q0 = some y → PC Try.prog k1 [(TNode.av q0)] fun v => v = (.int .i64 y)) (hF : impl_isTree p0 g1 = some r) : PC Try.prog 42 [(.list 3 (List.map TNode.av p0)), (.fn (.func k1) [] [])] fun v => v = (.bool r) := by
  refine PC.enter Try.func42 rfl Try.ntmps42 (by simp) ?_
  have hS := Sep.void; unfold impl_isTree at hF
  refine AWP.seqR rfl ?_
  refine ASL.q (v := (.bool false)) rfl rfl (Light.quiet (opAssign rfl rfl)) ?_
  refine ASL.done ?_
  refine AWP.seqR rfl ?_
  refine ASL.q (v := (.list 3 (List.map TNode.av p0))) rfl rfl (Light.quiet (opMove rfl rfl)) ?_
  refine ASL.q (v := (.fn (.func k1) [] [])) rfl rfl (Light.quiet (opMove rfl rfl)) ?_
  obtain ⟨a10, ha10, hF⟩ := bindE hF
  refine ASL.q (v := (.tup [(.list 1 (List.map (AV.int .i64) a10.1)), (.bool a10.2)])) rfl rfl ((qCall rfl rfl call_71 (impl_begins_ok hcal1 hg1 ha10) rfl)) ?_
  refine ASL.q (v := (.tup [(.list 1 (List.map (AV.int .i64) a10.1)), (.bool a10.2)])) rfl rfl (Light.quiet (opMove rfl rfl)) ?_
  refine ASL.q (v := (.list 1 (List.map (AV.int .i64) a10.1))) rfl rfl (Light.quiet (opExtract rfl rfl rfl)) ?_
  refine ASL.q (v := (.bool a10.2)) rfl rfl (Light.quiet (opExtract rfl rfl rfl)) ?_
  refine ASL.q (v := (.list 1 (List.map (AV.int .i64) a10.1))) rfl rfl (Light.quiet (opAssign rfl rfl)) ?_
  refine ASL.q (v := (.bool a10.2)) rfl rfl (Light.quiet (opAssign rfl rfl)) ?_
  refine ASL.done ?_
  refine AWP.seqR rfl ?_
  refine ASL.q (v := (.bool a10.2)) rfl rfl (Light.quiet (opMove rfl rfl)) ?_
  refine ASL.q (v := (.bool a10.2)) rfl rfl (Light.quiet (opAssign rfl rfl)) ?_
  refine ASL.done ?_
  refine AWP.ret ?_
  obtain rfl := someE hF
  exact QRet.sole (v := (.bool a10.2)) ⟨rfl, trivial⟩ rfl

set_option maxRecDepth 10000 in
theorem impl_leaf_ok (p0 : TNode) (p1 : Int) : PC Try.prog 72 [(TNode.av p0), (.int .i64 p1)] fun v => v = (.int .i64 (impl_leaf p0 p1)) := by
  generalize hF : impl_leaf p0 p1 = r
  refine PC.enter Try.func72 rfl Try.ntmps72 (by simp) ?_
  have hS := Sep.void; unfold impl_leaf at hF
  refine AWP.seqR rfl ?_
  refine ASL.q (v := (.rptr [(.int .i64 p0.kind), (.int .i64 p0.a), (.int .i64 p0.b)])) rfl rfl ((qBoxI (v := (TNode.av p0)) rfl rfl rfl rfl)) ?_
  refine ASL.q (v := (.int .i64 0)) rfl rfl (Light.quiet (opAssign rfl rfl)) ?_
  refine ASL.done ?_
  refine AWP.seq ?_
  refine AWP.seqR rfl ?_
  refine ASL.q (v := (.rptr [(.int .i64 p0.b)])) rfl rfl (Light.quiet (opFieldAddrR rfl fieldA_31_2 rfl rfl)) ?_
  refine ASL.q (v := (.int .i64 p0.b)) rfl rfl (Light.quiet (opLoadR rfl aggA_3 rfl rfl)) ?_
  refine ASL.q (v := (.bool (decide (p0.b = 0)))) rfl rfl (Light.quiet (opInt rfl rfl rfl rfl)) ?_
  obtain ⟨c8, hc8, hF⟩ := bndE hF
  refine ASL.q (v := (.bool c8)) rfl rfl ((Quiet.cast (Light.quiet (opMove rfl rfl)) (congrArg AV.bool hc8.symm))) ?_
  refine ASL.g (v := (.rptr [(.int .i64 p0.a), (.int .i64 p0.b)])) (.bool c8) true rfl (wT _) rfl (fun hG => by have q0 := hG; subst q0; exact Light.quiet (opFieldAddrR rfl fieldA_31_1 rfl rfl)) ?_
  refine ASL.g (v := (.int .i64 p0.a)) (.bool c8) true rfl (wT _) rfl (fun hG => by have q0 := hG; subst q0; exact Light.quiet (opLoadR rfl aggA_3 rfl rfl)) ?_
  refine ASL.g (v := (.int .i64 p1)) (.bool c8) true rfl (wT _) rfl (fun hG => by have q0 := hG; subst q0; exact Light.quiet (opMove rfl rfl)) ?_
  refine ASL.g (v := (.bool (impl_inRange p0.a 0 p1))) (.bool c8) true rfl (wT _) rfl (fun hG => by have q0 := hG; subst q0; exact (qCall rfl rfl call_90 (impl_inRange_ok p0.a 0 p1) rfl)) ?_
  refine ASL.q (v := (.bool (c8 && (impl_inRange p0.a 0 p1)))) rfl rfl (Light.quiet (opPick (b := c8) rfl rfl (by cases c8 <;> rfl))) ?_
  refine ASL.done ?_
  refine AWP.ifB hF rfl (fun hc1 hF => ?_) (fun hc1 hF => ?_)
  · skip
    refine AWP.seqR rfl ?_
    refine ASL.q (v := (.int .i64 0)) rfl rfl (Light.quiet (opAssign rfl rfl)) ?_
    refine ASL.done ?_
    refine AWP.ret ?_
    refine QThen.rt ?_
    obtain rfl := hF
    exact QRet.sole (v := (.int .i64 0)) ⟨rfl, trivial⟩ rfl
  · skip
    refine AWP.skip ?_
    refine QThen.nrm ?_
    refine AWP.seqR rfl ?_
    refine ASL.q (v := (.int .i64 (-1))) rfl rfl (Light.quiet (opAssign rfl rfl)) ?_
    refine ASL.done ?_
    refine AWP.ret ?_
    obtain rfl := hF
    exact QRet.sole (v := (.int .i64 (-1))) ⟨rfl, trivial⟩ rfl

set_option maxRecDepth 10000 in
theorem impl_reParts_ok (p0 : TNode) : PC Try.prog 43 [(TNode.av p0)] fun v => v = (.int .i64 (impl_reParts p0)) := by
  generalize hF : impl_reParts p0 = r
  refine PC.enter Try.func43 rfl Try.ntmps43 (by simp) ?_
  have hS := Sep.void; unfold impl_reParts at hF
  refine AWP.seqR rfl ?_
  refine ASL.q (v := (.rptr [(.int .i64 p0.kind), (.int .i64 p0.a), (.int .i64 p0.b)])) rfl rfl ((qBoxI (v := (TNode.av p0)) rfl rfl rfl rfl)) ?_
  refine ASL.q (v := (.int .i64 0)) rfl rfl (Light.quiet (opAssign rfl rfl)) ?_
  refine ASL.done ?_
  refine AWP.seq ?_
  refine AWP.seqR rfl ?_
  refine ASL.q (v := (.rptr [(.int .i64 p0.kind), (.int .i64 p0.a), (.int .i64 p0.b)])) rfl rfl (Light.quiet (opFieldAddrR rfl fieldA_31_0 rfl rfl)) ?_
  refine ASL.q (v := (.int .i64 p0.kind)) rfl rfl (Light.quiet (opLoadR rfl aggA_3 rfl rfl)) ?_
  refine ASL.done ?_
  refine AWP.block ?_
  refine AWP.seqM (fun e H => ∃ x5_1 : Bool, E.Told e [(1, (.rptr [(.int .i64 p0.kind), (.int .i64 p0.a), (.int .i64 p0.b)])), (4, (.int .i64 p0.kind)), (5, (.bool x5_1))] ∧ E.Sep H [] ∧ impl_reParts.k0 p0 x5_1 = r) ?_ ?_
  · rintro e0 G7 ⟨x5_1, hT, hS, hF⟩; refine AWP.only _ hT ?_; unfold impl_reParts.k0 at hF
    refine AWP.ifB hF rfl (fun hc1 hF => ?_) (fun hc1 hF => ?_)
    · skip
      refine AWP.seqR rfl ?_
      refine ASL.q (v := (TNode.av p0)) rfl rfl (Light.quiet (opLoadRA rfl aggA_31 sizeA_31 rfl (nlt rfl) rfl)) ?_
      refine ASL.q (v := (.int .i64 (impl_leaf p0 0))) rfl rfl ((qCall rfl rfl call_72 (impl_leaf_ok p0 0) rfl)) ?_
      refine ASL.q (v := (.int .i64 (impl_leaf p0 0))) rfl rfl (Light.quiet (opAssign rfl rfl)) ?_
      refine ASL.done ?_
      refine AWP.ret ?_
      refine QBlock.ret ?_
      refine QThen.rt ?_
      obtain rfl := hF
      exact QRet.sole (v := (.int .i64 (impl_leaf p0 0))) ⟨rfl, trivial⟩ rfl
    · skip
      refine AWP.seqR rfl ?_
      refine ASL.q (v := (.bool (decide (p0.kind = 3)))) rfl rfl (Light.quiet (opInt rfl rfl rfl rfl)) ?_
      refine ASL.q (v := (.bool (decide (p0.kind = 3)))) rfl rfl (Light.quiet (opAssign rfl rfl)) ?_
      refine ASL.done ?_
      refine AWP.ifP hF rfl (fun hc2 hF => ?_) (fun hc2 hF => ?_)
      · skip
        refine AWP.seqR rfl ?_
        refine ASL.q (v := (TNode.av p0)) rfl rfl (Light.quiet (opLoadRA rfl aggA_31 sizeA_31 rfl (nlt rfl) rfl)) ?_
        refine ASL.q (v := (.int .i64 (impl_leaf p0 7))) rfl rfl ((qCall rfl rfl call_72 (impl_leaf_ok p0 7) rfl)) ?_
        refine ASL.q (v := (.int .i64 (impl_leaf p0 7))) rfl rfl (Light.quiet (opAssign rfl rfl)) ?_
        refine ASL.done ?_
        refine AWP.ret ?_
        refine QBlock.ret ?_
        refine QThen.rt ?_
        obtain rfl := hF
        exact QRet.sole (v := (.int .i64 (impl_leaf p0 7))) ⟨rfl, trivial⟩ rfl
      · skip
        refine AWP.seqR rfl ?_
        refine ASL.q (v := (.bool (decide (p0.kind = 4)))) rfl rfl (Light.quiet (opInt rfl rfl rfl rfl)) ?_
        refine ASL.q (v := (.bool (decide (p0.kind = 4)))) rfl rfl (Light.quiet (opAssign rfl rfl)) ?_
        refine ASL.done ?_
        refine AWP.ifP hF rfl (fun hc3 hF => ?_) (fun hc3 hF => ?_)
        · skip
          refine AWP.seqR rfl ?_
          refine ASL.q (v := (.int .i64 1)) rfl rfl (Light.quiet (opAssign rfl rfl)) ?_
          refine ASL.done ?_
          refine AWP.ret ?_
          refine QBlock.ret ?_
          refine QThen.rt ?_
          obtain rfl := hF
          exact QRet.sole (v := (.int .i64 1)) ⟨rfl, trivial⟩ rfl
        · skip
          refine AWP.seq ?_
          refine AWP.seqR rfl ?_
          refine ASL.q (v := (.bool (decide (p0.kind = 5)))) rfl rfl (Light.quiet (opInt rfl rfl rfl rfl)) ?_
          refine ASL.q (v := (.bool (decide (p0.kind = 5)))) rfl rfl (Light.quiet (opAssign rfl rfl)) ?_
          refine ASL.done ?_
          refine AWP.ifP hF rfl (fun hc4 hF => ?_) (fun hc4 hF => ?_)
          · skip
            refine AWP.skip ?_
            refine QThen.nrm ?_
            refine AWP.ifP hF rfl (fun hc5 hF => ?_) (fun hc5 hF => ?_)
            · skip
              refine AWP.seqR rfl ?_
              refine ASL.q (v := (.int .i64 2)) rfl rfl (Light.quiet (opAssign rfl rfl)) ?_
              refine ASL.done ?_
              refine AWP.ret ?_
              refine QBlock.ret ?_
              refine QThen.rt ?_
              obtain rfl := hF
              exact QRet.sole (v := (.int .i64 2)) ⟨rfl, trivial⟩ rfl
            · skip
              refine AWP.skip ?_
              refine QBlock.nrm ?_
              refine QThen.nrm ?_
              refine AWP.seqR rfl ?_
              refine ASL.q (v := (.int .i64 (-1))) rfl rfl (Light.quiet (opAssign rfl rfl)) ?_
              refine ASL.done ?_
              refine AWP.ret ?_
              obtain rfl := hF
              exact QRet.sole (v := (.int .i64 (-1))) ⟨rfl, trivial⟩ rfl
          · skip
            refine AWP.lastR rfl ?_
            refine ASL.q (v := (.bool (decide (p0.kind = 6)))) rfl rfl (Light.quiet (opInt rfl rfl rfl rfl)) ?_
            refine ASL.q (v := (.bool (decide (p0.kind = 6)))) rfl rfl (Light.quiet (opAssign rfl rfl)) ?_
            refine ASL.done ?_
            refine QThen.nrm ?_
            refine AWP.ifP hF rfl (fun hc6 hF => ?_) (fun hc6 hF => ?_)
            · skip
              refine AWP.seqR rfl ?_
              refine ASL.q (v := (.int .i64 2)) rfl rfl (Light.quiet (opAssign rfl rfl)) ?_
              refine ASL.done ?_
              refine AWP.ret ?_
              refine QBlock.ret ?_
              refine QThen.rt ?_
              obtain rfl := hF
              exact QRet.sole (v := (.int .i64 2)) ⟨rfl, trivial⟩ rfl
            · skip
              refine AWP.skip ?_
              refine QBlock.nrm ?_
              refine QThen.nrm ?_
              refine AWP.seqR rfl ?_
              refine ASL.q (v := (.int .i64 (-1))) rfl rfl (Light.quiet (opAssign rfl rfl)) ?_
              refine ASL.done ?_
              refine AWP.ret ?_
              obtain rfl := hF
              exact QRet.sole (v := (.int .i64 (-1))) ⟨rfl, trivial⟩ rfl
  · skip
    refine AWP.seqR rfl ?_
    refine ASL.q (v := (.bool (decide (p0.kind = 1)))) rfl rfl (Light.quiet (opInt rfl rfl rfl rfl)) ?_
    refine ASL.q (v := (.bool (decide (p0.kind = 1)))) rfl rfl (Light.quiet (opAssign rfl rfl)) ?_
    refine ASL.done ?_
    refine AWP.ifP hF rfl (fun hc8 hF => ?_) (fun hc8 hF => ?_)
    · skip
      refine AWP.skip ?_
      refine QThen.nrm ?_
      exact ⟨(decide (p0.kind = 1)), ⟨rfl, rfl, rfl, trivial⟩, (hS.pick [] rfl rfl), hF⟩
    · skip
      refine AWP.lastR rfl ?_
      refine ASL.q (v := (.bool (decide (p0.kind = 2)))) rfl rfl (Light.quiet (opInt rfl rfl rfl rfl)) ?_
      refine ASL.q (v := (.bool (decide (p0.kind = 2)))) rfl rfl (Light.quiet (opAssign rfl rfl)) ?_
      refine ASL.done ?_
      refine QThen.nrm ?_
      exact ⟨(decide (p0.kind = 2)), ⟨rfl, rfl, rfl, trivial⟩, (hS.pick [] rfl rfl), hF⟩

set_option maxRecDepth 10000 in
theorem impl_ReOk_ok {p0 : (List TNode)} {r : Bool} (hF : impl_ReOk p0 = some r) : PC Try.prog 12 [(.list 3 (List.map TNode.av p0))] fun v => v = (.bool r) := by
  refine PC.enter Try.func12 rfl Try.ntmps12 (by simp) ?_
  have hS := Sep.void; unfold impl_ReOk at hF
  refine AWP.seqR rfl ?_
  refine ASL.q (v := (.bool false)) rfl rfl (Light.quiet (opAssign rfl rfl)) ?_
  refine ASL.done ?_
  refine AWP.seqR rfl ?_
  refine ASL.q (v := (.list 3 (List.map TNode.av p0))) rfl rfl (Light.quiet (opMove rfl rfl)) ?_
  obtain ⟨a4, ha4, hF⟩ := bindE hF
  refine ASL.q (v := (.bool a4)) rfl rfl ((qCall rfl rfl call_42 (impl_isTree_ok call_43 (fun q0 y h => by obtain rfl := someE h; exact impl_reParts_ok q0) ha4) rfl)) ?_
  refine ASL.q (v := (.bool a4)) rfl rfl (Light.quiet (opAssign rfl rfl)) ?_
  refine ASL.done ?_
  refine AWP.ret ?_
  obtain rfl := someE hF
  exact QRet.sole (v := (.bool a4)) ⟨rfl, trivial⟩ rfl

set_option maxRecDepth 10000 in
theorem impl_OmegaOk_ok {p0 : (List TOmega)} {r : Bool} (hF : impl_OmegaOk p0 = some r) : PC Try.prog 48 [(.list 2 (List.map TOmega.av p0))] fun v => v = (.bool r) := by
  refine PC.enter Try.func48 rfl Try.ntmps48 (by simp) ?_
  have hS := Sep.void; unfold impl_OmegaOk at hF
  refine AWP.seqR rfl ?_
  refine ASL.q (v := (.bool false)) rfl rfl (Light.quiet (opAssign rfl rfl)) ?_
  refine ASL.done ?_
  refine AWP.seqM (fun e H => E.Told e [(0, (.list 2 (List.map TOmega.av p0)))] ∧ E.Sep H [] ∧ impl_OmegaOk.k0 p0 = some r) ?_ ?_
  · rintro e0 G1 ⟨hT, hS, hF⟩; refine AWP.only _ hT ?_; unfold impl_OmegaOk.k0 at hF
    refine AWP.seqR rfl ?_
    refine ASL.q (v := (.list 2 (List.map TOmega.av p0))) rfl rfl (Light.quiet (opMove rfl rfl)) ?_
    refine ASL.q (v := (.int .i64 (p0.length : Int))) rfl rfl (Light.quiet (opLenMap (f := TOmega.av) rfl rfl rfl lenT_35 rfl)) ?_
    refine ASL.q (v := (.bool (decide (((p0.length : Int)) ≤ 4)))) rfl rfl (Light.quiet (opInt rfl rfl rfl rfl)) ?_
    refine ASL.q (v := (.bool (decide (((p0.length : Int)) ≤ 4)))) rfl rfl (Light.quiet (opAssign rfl rfl)) ?_
    refine ASL.done ?_
    refine AWP.ret ?_
    obtain rfl := someE hF
    exact QRet.sole (v := (.bool (decide (((p0.length : Int)) ≤ 4)))) ⟨rfl, trivial⟩ rfl
  · skip
    refine AWP.seqR rfl ?_
    refine ASL.q (v := (.list 2 (List.map TOmega.av p0))) rfl rfl (Light.quiet (opMove rfl rfl)) ?_
    refine ASL.q (v := (.int .i64 (p0.length : Int))) rfl rfl (Light.quiet (opLenMap (f := TOmega.av) rfl rfl rfl lenT_35 rfl)) ?_
    refine ASL.q (v := (.int .i64 0)) rfl rfl (Light.quiet (opMove rfl rfl)) ?_
    refine ASL.done ?_
    refine AWP.block ?_
    obtain ⟨o5, hL4, hR6⟩ := bindE hF
    refine AWP.loopF (ω := Unit) hL4 (fun s w => [(0, (.list 2 (List.map TOmega.av p0))), (5, (.list 2 (List.map TOmega.av p0))), (6, (.int .i64 (p0.length : Int))), (7, (.int .i64 s))]) (fun s w => []) () ⟨rfl, rfl, rfl, rfl, trivial⟩ (hS.pick [] rfl rfl) ?_
    rintro x7_l0 _ G7 hS x2 hF hx3
    try dsimp only at hS ⊢
    have hF : impl_OmegaOk.b0 p0 x7_l0 = some x2 := hF; unfold impl_OmegaOk.b0 at hF
    refine AWP.seqR rfl ?_
    refine ASL.q (v := (.bool (decide (x7_l0 < ((p0.length : Int)))))) rfl rfl (Light.quiet (opInt rfl rfl rfl rfl)) ?_
    refine ASL.done ?_
    refine AWP.seq ?_
    refine AWP.ifP hF rfl (fun hc8 hF => ?_) (fun hc8 hF => ?_)
    · skip
      refine AWP.skip ?_
      refine QThen.nrm ?_
      refine AWP.seq ?_
      refine AWP.block ?_
      refine AWP.seqR rfl ?_
      obtain ⟨a9, ha9, hF⟩ := bindE hF
      refine ASL.q (v := (.rptr [(.list 3 (List.map TNode.av a9.stem)), (.list 3 (List.map TNode.av a9.loop))])) rfl rfl (Light.quiet (kIx (f := TOmega.av) ha9 rfl rfl rfl elemA_35 sizeA_69 rfl)) ?_
      refine ASL.q (v := (TOmega.av a9)) rfl rfl (Light.quiet (opLoadRA rfl aggA_69 sizeA_69 rfl (nlt rfl) rfl)) ?_
      refine ASL.x rfl rfl (hNewZ hS [(.list 3 (List.map TNode.av [])), (.list 3 (List.map TNode.av []))] rfl zeroA_69 ⟨.inr ⟨_, rfl, rfl⟩, .inr ⟨_, rfl, rfl⟩, trivial⟩ ?_); rintro b4 G9 hK hS
      refine ASL.n rfl rfl (hPutA hS (j := 0) rfl rfl sizeA_69 rfl rfl rfl rfl rfl (nlt rfl) ?_); rintro G11 hS
      refine ASL.done ?_
      refine AWP.seqR rfl ?_
      refine ASL.q (v := (.ptr b4 0)) rfl rfl (Light.quiet (opFieldAddr rfl fieldA_69_0 rfl rfl)) ?_
      refine ASL.q (v := (.list 3 (List.map TNode.av a9.stem))) rfl rfl (Light.quiet (kAt hS (j := 0) rfl rfl aggA_24 rfl rfl)) ?_
      obtain ⟨a13, ha13, hF⟩ := bindE hF
      refine ASL.q (v := (.bool a13)) rfl rfl ((qCall rfl rfl call_12 (impl_ReOk_ok ha13) rfl)) ?_
      refine ASL.q (v := (.bool (!a13))) rfl rfl (Light.quiet (opNot rfl rfl)) ?_
      obtain ⟨c15, hc15, hF⟩ := bndE hF
      refine ASL.q (v := (.bool c15)) rfl rfl ((Quiet.cast (Light.quiet (opMove rfl rfl)) (congrArg AV.bool hc15.symm))) ?_
      refine ASL.g (v := (.ptr b4 1)) (.bool c15) false rfl (wF _) rfl (fun hG => by have q0 := gN hG; subst q0; exact Light.quiet (opFieldAddr rfl fieldA_69_1 rfl rfl)) ?_
      refine ASL.g (v := (.list 3 (List.map TNode.av a9.loop))) (.bool c15) false rfl (wF _) rfl (fun hG => by have q0 := gN hG; subst q0; exact Light.quiet (kAt hS (j := 0) rfl rfl aggA_24 rfl rfl)) ?_
      obtain ⟨a18, ha18, hF⟩ := bindE hF
      refine ASL.g (v := (.bool a18)) (.bool c15) false rfl (wF _) rfl (fun hG => by have q0 := gN hG; subst q0; exact (qCall rfl rfl call_12 (impl_ReOk_ok (whenE ha18)) rfl)) ?_
      refine ASL.g (v := (.bool (!a18))) (.bool c15) false rfl (wF _) rfl (fun hG => by have q0 := gN hG; subst q0; exact Light.quiet (opNot rfl rfl)) ?_
      refine ASL.q (v := (.bool (c15 || (!a18)))) rfl rfl (Light.quiet (opPick (b := c15) rfl rfl (by cases c15 <;> rfl))) ?_
      refine ASL.done ?_
      refine AWP.ifB hF rfl (fun hc12 hF => ?_) (fun hc12 hF => ?_)
      · skip
        refine AWP.seqR rfl ?_
        refine ASL.q (v := (.bool false)) rfl rfl (Light.quiet (opAssign rfl rfl)) ?_
        refine ASL.done ?_
        refine AWP.ret ?_
        refine QBlock.ret ?_
        refine QThen.rt ?_
        refine QThen.rt ?_
        refine QBlock.ret ?_
        refine QThen.rt ?_
        obtain rfl := (hx3 _ (someE hF).symm)
        have hF := hR6
        have hF := sumR hF
        obtain rfl := someE hF
        exact QRet.sole (v := (.bool false)) ⟨rfl, trivial⟩ rfl
      · skip
        refine AWP.skip ?_
        refine QBlock.nrm ?_
        refine QThen.nrm ?_
        refine AWP.lastR rfl ?_
        refine ASL.q (v := (.int .i64 (W (x7_l0 + 1)))) rfl rfl (Light.quiet (opInt rfl rfl rfl rfl)) ?_
        refine ASL.q (v := (.int .i64 (W (x7_l0 + 1)))) rfl rfl (Light.quiet (opMove rfl rfl)) ?_
        refine ASL.done ?_
        refine QThen.nrm ?_
        exact ⟨(W (x7_l0 + 1)), (), (someE hF).symm, ⟨rfl, rfl, rfl, rfl, trivial⟩, (hS.pick [] rfl rfl)⟩
    · skip
      refine AWP.exit ?_
      refine QThen.ext ?_
      refine QThen.ext ?_
      refine QBlock.hit ?_
      obtain rfl := (hx3 _ (someE hF).symm)
      have hF := hR6
      have hF := sumL hF
      refine QThen.nrm ?_
      exact ⟨⟨rfl, trivial⟩, (hS.pick [] rfl rfl), hF⟩

set_option maxRecDepth 10000 in
theorem impl_digit_ok (p0 : Int) : PC Try.prog 51 [(.int .i64 p0)] fun v => v = (.str (impl_digit p0)) := by
  generalize hF : impl_digit p0 = r
  refine PC.enter Try.func51 rfl Try.ntmps51 (by simp) ?_
  have hS := Sep.void; unfold impl_digit at hF
  refine AWP.seqR rfl ?_
  refine ASL.q (v := (.str { data := #[] })) rfl rfl (Light.quiet (opAssign rfl rfl)) ?_
  refine ASL.done ?_
  refine AWP.seqR rfl ?_
  refine ASL.q (v := (.int .i64 p0)) rfl rfl (Light.quiet (opMove rfl rfl)) ?_
  refine ASL.q (v := (.int .i64 (W (48 + p0)))) rfl rfl (Light.quiet (opInt rfl rfl rfl rfl)) ?_
  refine ASL.q (v := (.int .u8 (IntKind.u8.wrap ((W (48 + p0)))))) rfl rfl (Light.quiet (opConv rfl rfl und_3 und_5 rfl)) ?_
  refine ASL.q (v := (.list 1 (List.map (AV.int .u8) [(IntKind.u8.wrap ((W (48 + p0))))]))) rfl rfl ((qLit (xs := [(.int .u8 (IntKind.u8.wrap ((W (48 + p0)))))]) rfl elemA_22 sizeA_5 zeroA_5 rfl rfl rfl rfl (by simp [cells]) (nlt rfl))) ?_
  refine ASL.q (v := (.str (bstr ([(IntKind.u8.wrap ((W (48 + p0))))])))) rfl rfl (Light.quiet (opBstr rfl elemA_22 und_5 und_9 rfl)) ?_
  refine ASL.q (v := (.str (bstr ([(IntKind.u8.wrap ((W (48 + p0))))])))) rfl rfl (Light.quiet (opAssign rfl rfl)) ?_
  refine ASL.done ?_
  refine AWP.ret ?_
  obtain rfl := hF
  exact QRet.sole (v := (.str (bstr ([(IntKind.u8.wrap ((W (48 + p0))))])))) ⟨rfl, trivial⟩ rfl

set_option maxRecDepth 10000 in
theorem impl_RePrint_ok {p0 : (List TNode)} {r : ByteArray} (hF : impl_RePrint p0 = some r) : PC Try.prog 19 [(.list 3 (List.map TNode.av p0))] fun v => v = (.str r) := by
  refine PC.enter Try.func19 rfl Try.ntmps19 (by simp) ?_
  have hS := Sep.void; unfold impl_RePrint at hF
  refine AWP.seqR rfl ?_
  refine ASL.q (v := (.str { data := #[] })) rfl rfl (Light.quiet (opAssign rfl rfl)) ?_
  refine ASL.done ?_
  refine AWP.seq ?_
  refine AWP.seqR rfl ?_
  refine ASL.q (v := (.list 3 (List.map TNode.av p0))) rfl rfl (Light.quiet (opMove rfl rfl)) ?_
  obtain ⟨a7, ha7, hF⟩ := bindE hF
  refine ASL.q (v := (.bool a7)) rfl rfl ((qCall rfl rfl call_12 (impl_ReOk_ok ha7) rfl)) ?_
  refine ASL.q (v := (.bool (!a7))) rfl rfl (Light.quiet (opNot rfl rfl)) ?_
  refine ASL.done ?_
  refine AWP.ifB hF rfl (fun hc1 hF => ?_) (fun hc1 hF => ?_)
  · skip
    refine AWP.seqR rfl ?_
    refine ASL.q (v := (.str { data := #[] })) rfl rfl (Light.quiet (opAssign rfl rfl)) ?_
    refine ASL.done ?_
    refine AWP.ret ?_
    refine QThen.rt ?_
    obtain rfl := someE hF
    exact QRet.sole (v := (.str { data := #[] })) ⟨rfl, trivial⟩ rfl
  · skip
    refine AWP.skip ?_
    refine QThen.nrm ?_
    refine AWP.seqR rfl ?_
    refine ASL.q (v := (.list 3 (List.map TNode.av p0))) rfl rfl (Light.quiet (opMove rfl rfl)) ?_
    refine ASL.q (v := (.int .i64 (p0.length : Int))) rfl rfl (Light.quiet (opLenMap (f := TNode.av) rfl rfl rfl lenT_24 rfl)) ?_
    obtain ⟨z11, hz11, hF⟩ := bindE hF
    refine ASL.x rfl rfl (hMk (f := AV.str) hS hz11 (by decide) rfl elemA_71 sizeA_9 bytesA_9 zeroA_9 rfl rfl (by decide) rfl rfl ?_); rintro v11 G2 hK hS
    refine ASL.q (v := v11) rfl rfl (Light.quiet (opAssign rfl rfl)) ?_
    refine ASL.done ?_
    refine AWP.seqM (fun e H => ∃ y4 : (List ByteArray), E.Told e [(0, (.list 3 (List.map TNode.av p0))), (3, v11)] ∧ E.Sep H [.row 1 v11 (List.map AV.str y4)] ∧ impl_RePrint.k0 p0 y4 = some r) ?_ ?_
    · rintro e0 G5 ⟨y4, hT, hS, hF⟩; refine AWP.only _ hT ?_; unfold impl_RePrint.k0 at hF
      refine AWP.seqR rfl ?_
      refine ASL.q (v := v11) rfl rfl (Light.quiet (opMove rfl rfl)) ?_
      refine ASL.q (v := (.list 3 (List.map TNode.av p0))) rfl rfl (Light.quiet (opMove rfl rfl)) ?_
      refine ASL.q (v := (.int .i64 (p0.length : Int))) rfl rfl (Light.quiet (opLenMap (f := TNode.av) rfl rfl rfl lenT_24 rfl)) ?_
      refine ASL.q (v := (.int .i64 (W (((p0.length : Int)) - 1)))) rfl rfl (Light.quiet (opInt rfl rfl rfl rfl)) ?_
      obtain ⟨a93, ha93, hF⟩ := bindE hF
      refine ASL.q (v := (ptrTo v11 ((W (((p0.length : Int)) - 1))).toNat 1)) rfl rfl (Light.quiet (kIxOx hS (j := 0) rfl ha93 rfl rfl rfl elemA_71 sizeA_9)) ?_
      refine ASL.q (v := (.str a93)) rfl rfl (Light.quiet (kLd (f := AV.str) hS (j := 0) rfl ha93 rfl aggA_9 rfl (fun _ => rfl))) ?_
      refine ASL.q (v := (.str a93)) rfl rfl (Light.quiet (opAssign rfl rfl)) ?_
      refine ASL.done ?_
      refine AWP.ret ?_
      obtain rfl := someE hF
      exact QRet.sole (v := (.str a93)) ⟨rfl, trivial⟩ rfl
    · skip
      refine AWP.seqR rfl ?_
      refine ASL.q (v := (.list 3 (List.map TNode.av p0))) rfl rfl (Light.quiet (opMove rfl rfl)) ?_
      refine ASL.q (v := (.int .i64 (p0.length : Int))) rfl rfl (Light.quiet (opLenMap (f := TNode.av) rfl rfl rfl lenT_24 rfl)) ?_
      refine ASL.q (v := (.int .i64 0)) rfl rfl (Light.quiet (opMove rfl rfl)) ?_
      refine ASL.done ?_
      refine AWP.block ?_
      obtain ⟨o10, hL9, hR11⟩ := bindE hF
      refine AWP.loopF (ω := Unit) hL9 (fun s w => [(0, (.list 3 (List.map TNode.av p0))), (3, v11), (12, (.list 3 (List.map TNode.av p0))), (13, (.int .i64 (p0.length : Int))), (14, (.int .i64 s.2))]) (fun s w => [.row 1 v11 (List.map AV.str s.1)]) () ⟨rfl, rfl, rfl, rfl, rfl, trivial⟩ (hS.pick [0] rfl rfl) ?_
      rintro ⟨y6, x14_l0⟩ _ G12 hS x7 hF hx8
      try dsimp only at hS ⊢
      have hF : impl_RePrint.b0 p0 y6 x14_l0 = some x7 := hF; unfold impl_RePrint.b0 at hF
      refine AWP.seqR rfl ?_
      refine ASL.q (v := (.bool (decide (x14_l0 < ((p0.length : Int)))))) rfl rfl (Light.quiet (opInt rfl rfl rfl rfl)) ?_
      refine ASL.done ?_
      refine AWP.seq ?_
      refine AWP.ifP hF rfl (fun hc13 hF => ?_) (fun hc13 hF => ?_)
      · skip
        refine AWP.skip ?_
        refine QThen.nrm ?_
        refine AWP.seqM (fun e H => ∃ y14 : (List ByteArray), E.Told e [(0, (.list 3 (List.map TNode.av p0))), (3, v11), (12, (.list 3 (List.map TNode.av p0))), (13, (.int .i64 (p0.length : Int))), (14, (.int .i64 x14_l0))] ∧ E.Sep H [.row 1 v11 (List.map AV.str y14)] ∧ impl_RePrint.k1 x14_l0 y14 = some x7) ?_ ?_
        · rintro e0 G15 ⟨y14, hT, hS, hF⟩; refine AWP.only _ hT ?_; unfold impl_RePrint.k1 at hF
          refine AWP.lastR rfl ?_
          refine ASL.q (v := (.int .i64 (W (x14_l0 + 1)))) rfl rfl (Light.quiet (opInt rfl rfl rfl rfl)) ?_
          refine ASL.q (v := (.int .i64 (W (x14_l0 + 1)))) rfl rfl (Light.quiet (opMove rfl rfl)) ?_
          refine ASL.done ?_
          refine QThen.nrm ?_
          exact ⟨(y14, (W (x14_l0 + 1))), (), (someE hF).symm, ⟨rfl, rfl, rfl, rfl, rfl, trivial⟩, (hS.pick [0] rfl rfl)⟩
        · skip
          refine AWP.block ?_
          refine AWP.seqR rfl ?_
          refine ASL.q (v := (.int .i64 x14_l0)) rfl rfl (Light.quiet (opMove rfl rfl)) ?_
          obtain ⟨a17, ha17, hF⟩ := bindE hF
          refine ASL.q (v := (.rptr [(.int .i64 a17.kind), (.int .i64 a17.a), (.int .i64 a17.b)])) rfl rfl (Light.quiet (kIx (f := TNode.av) ha17 rfl rfl rfl elemA_24 sizeA_31 rfl)) ?_
          refine ASL.q (v := (TNode.av a17)) rfl rfl (Light.quiet (opLoadRA rfl aggA_31 sizeA_31 rfl (nlt rfl) rfl)) ?_
          refine ASL.x rfl rfl (hNewZ hS [(.int .i64 0), (.int .i64 0), (.int .i64 0)] rfl zeroA_31 ⟨.inl rfl, .inl rfl, .inl rfl, trivial⟩ ?_); rintro b5 G16 hK hS
          refine ASL.q (v := (.int .i64 x14_l0)) rfl rfl (Light.quiet (opAssign rfl rfl)) ?_
          refine ASL.n rfl rfl (hPutA hS (j := 0) rfl rfl sizeA_31 rfl rfl rfl rfl rfl (nlt rfl) ?_); rintro G18 hS
          refine ASL.done ?_
          refine AWP.seqR rfl ?_
          refine ASL.q (v := (.ptr b5 0)) rfl rfl (Light.quiet (opFieldAddr rfl fieldA_31_0 rfl rfl)) ?_
          refine ASL.q (v := (.int .i64 a17.kind)) rfl rfl (Light.quiet (kAt hS (j := 0) rfl rfl aggA_3 rfl rfl)) ?_
          refine ASL.done ?_
          refine AWP.block ?_
          refine AWP.seqR rfl ?_
          refine ASL.q (v := (.bool (decide (a17.kind = 1)))) rfl rfl (Light.quiet (opInt rfl rfl rfl rfl)) ?_
          refine ASL.q (v := (.bool (decide (a17.kind = 1)))) rfl rfl (Light.quiet (opAssign rfl rfl)) ?_
          refine ASL.done ?_
          refine AWP.ifP hF rfl (fun hc19 hF => ?_) (fun hc19 hF => ?_)
          · skip
            refine AWP.lastR rfl ?_
            refine ASL.q (v := v11) rfl rfl (Light.quiet (opMove rfl rfl)) ?_
            refine ASL.q (v := (.int .i64 x14_l0)) rfl rfl (Light.quiet (opMove rfl rfl)) ?_
            obtain ⟨m25, hm25, hF⟩ := bindE hF
            refine ASL.q (v := (ptrTo v11 m25 1)) rfl rfl (Light.quiet (kIxO hS (j := 1) rfl hm25 rfl rfl rfl elemA_71 sizeA_9)) ?_
            refine ASL.n rfl rfl (hSt (f := AV.str) (a := { data := #[64] }) hS (j := 1) rfl hm25 rfl sizeA_9 rfl rfl ⟨rfl, rfl, rfl⟩ ?_); rintro G20 hS
            refine ASL.done ?_
            refine QBlock.nrm ?_
            refine QBlock.nrm ?_
            refine QThen.nrm ?_
            exact ⟨(y6.set m25 ({ data := #[64] })), ⟨rfl, rfl, rfl, rfl, rfl, trivial⟩, (hS.pick [1] rfl rfl), hF⟩
          · skip
            refine AWP.seqR rfl ?_
            refine ASL.q (v := (.bool (decide (a17.kind = 2)))) rfl rfl (Light.quiet (opInt rfl rfl rfl rfl)) ?_
            refine ASL.q (v := (.bool (decide (a17.kind = 2)))) rfl rfl (Light.quiet (opAssign rfl rfl)) ?_
            refine ASL.done ?_
            refine AWP.ifP hF rfl (fun hc21 hF => ?_) (fun hc21 hF => ?_)
            · skip
              refine AWP.lastR rfl ?_
              refine ASL.q (v := v11) rfl rfl (Light.quiet (opMove rfl rfl)) ?_
              refine ASL.q (v := (.int .i64 x14_l0)) rfl rfl (Light.quiet (opMove rfl rfl)) ?_
              obtain ⟨m30, hm30, hF⟩ := bindE hF
              refine ASL.q (v := (ptrTo v11 m30 1)) rfl rfl (Light.quiet (kIxO hS (j := 1) rfl hm30 rfl rfl rfl elemA_71 sizeA_9)) ?_
              refine ASL.n rfl rfl (hSt (f := AV.str) (a := { data := #[95] }) hS (j := 1) rfl hm30 rfl sizeA_9 rfl rfl ⟨rfl, rfl, rfl⟩ ?_); rintro G22 hS
              refine ASL.done ?_
              refine QBlock.nrm ?_
              refine QBlock.nrm ?_
              refine QThen.nrm ?_
              exact ⟨(y6.set m30 ({ data := #[95] })), ⟨rfl, rfl, rfl, rfl, rfl, trivial⟩, (hS.pick [1] rfl rfl), hF⟩
            · skip
              refine AWP.seqR rfl ?_
              refine ASL.q (v := (.bool (decide (a17.kind = 3)))) rfl rfl (Light.quiet (opInt rfl rfl rfl rfl)) ?_
              refine ASL.q (v := (.bool (decide (a17.kind = 3)))) rfl rfl (Light.quiet (opAssign rfl rfl)) ?_
              refine ASL.done ?_
              refine AWP.ifP hF rfl (fun hc23 hF => ?_) (fun hc23 hF => ?_)
              · skip
                refine AWP.lastR rfl ?_
                refine ASL.q (v := v11) rfl rfl (Light.quiet (opMove rfl rfl)) ?_
                refine ASL.q (v := (.int .i64 x14_l0)) rfl rfl (Light.quiet (opMove rfl rfl)) ?_
                refine ASL.q (v := (.ptr b5 1)) rfl rfl (Light.quiet (opFieldAddr rfl fieldA_31_1 rfl rfl)) ?_
                refine ASL.q (v := (.int .i64 a17.a)) rfl rfl (Light.quiet (kAt hS (j := 0) rfl rfl aggA_3 rfl rfl)) ?_
                refine ASL.q (v := (.str (impl_digit a17.a))) rfl rfl ((qCall rfl rfl call_51 (impl_digit_ok a17.a) rfl)) ?_
                obtain ⟨m38, hm38, hF⟩ := bindE hF
                refine ASL.q (v := (ptrTo v11 m38 1)) rfl rfl (Light.quiet (kIxO hS (j := 1) rfl hm38 rfl rfl rfl elemA_71 sizeA_9)) ?_
                refine ASL.n rfl rfl (hSt (f := AV.str) (a := (impl_digit a17.a)) hS (j := 1) rfl hm38 rfl sizeA_9 rfl rfl ⟨rfl, rfl, rfl⟩ ?_); rintro G24 hS
                refine ASL.done ?_
                refine QBlock.nrm ?_
                refine QBlock.nrm ?_
                refine QThen.nrm ?_
                exact ⟨(y6.set m38 ((impl_digit a17.a))), ⟨rfl, rfl, rfl, rfl, rfl, trivial⟩, (hS.pick [1] rfl rfl), hF⟩
              · skip
                refine AWP.seqR rfl ?_
                refine ASL.q (v := (.bool (decide (a17.kind = 4)))) rfl rfl (Light.quiet (opInt rfl rfl rfl rfl)) ?_
                refine ASL.q (v := (.bool (decide (a17.kind = 4)))) rfl rfl (Light.quiet (opAssign rfl rfl)) ?_
                refine ASL.done ?_
                refine AWP.ifP hF rfl (fun hc25 hF => ?_) (fun hc25 hF => ?_)
                · skip
                  refine AWP.lastR rfl ?_
                  refine ASL.q (v := v11) rfl rfl (Light.quiet (opMove rfl rfl)) ?_
                  refine ASL.q (v := (.int .i64 x14_l0)) rfl rfl (Light.quiet (opMove rfl rfl)) ?_
                  refine ASL.q (v := v11) rfl rfl (Light.quiet (opMove rfl rfl)) ?_
                  refine ASL.q (v := (.ptr b5 1)) rfl rfl (Light.quiet (opFieldAddr rfl fieldA_31_1 rfl rfl)) ?_
                  refine ASL.q (v := (.int .i64 a17.a)) rfl rfl (Light.quiet (kAt hS (j := 0) rfl rfl aggA_3 rfl rfl)) ?_
                  obtain ⟨a46, ha46, hF⟩ := bindE hF
                  refine ASL.q (v := (ptrTo v11 a17.a.toNat 1)) rfl rfl (Light.quiet (kIxOx hS (j := 1) rfl ha46 rfl rfl rfl elemA_71 sizeA_9)) ?_
                  refine ASL.q (v := (.str a46)) rfl rfl (Light.quiet (kLd (f := AV.str) hS (j := 1) rfl ha46 rfl aggA_9 rfl (fun _ => rfl))) ?_
                  obtain ⟨a48, ha48, hF⟩ := bindE hF
                  refine ASL.q (v := (.str a48)) rfl rfl (Light.quiet (opCat ha48 rfl rfl rfl)) ?_
                  obtain ⟨m49, hm49, hF⟩ := bindE hF
                  refine ASL.q (v := (ptrTo v11 m49 1)) rfl rfl (Light.quiet (kIxO hS (j := 1) rfl hm49 rfl rfl rfl elemA_71 sizeA_9)) ?_
                  refine ASL.n rfl rfl (hSt (f := AV.str) (a := a48) hS (j := 1) rfl hm49 rfl sizeA_9 rfl rfl ⟨rfl, rfl, rfl⟩ ?_); rintro G26 hS
                  refine ASL.done ?_
                  refine QBlock.nrm ?_
                  refine QBlock.nrm ?_
                  refine QThen.nrm ?_
                  exact ⟨(y6.set m49 a48), ⟨rfl, rfl, rfl, rfl, rfl, trivial⟩, (hS.pick [1] rfl rfl), hF⟩
                · skip
                  refine AWP.seqR rfl ?_
                  refine ASL.q (v := (.bool (decide (a17.kind = 5)))) rfl rfl (Light.quiet (opInt rfl rfl rfl rfl)) ?_
                  refine ASL.q (v := (.bool (decide (a17.kind = 5)))) rfl rfl (Light.quiet (opAssign rfl rfl)) ?_
                  refine ASL.done ?_
                  refine AWP.ifP hF rfl (fun hc27 hF => ?_) (fun hc27 hF => ?_)
                  · skip
                    refine AWP.lastD [(0, false), (1, false), (2, false), (3, false), (4, false), (5, false), (6, false), (7, false), (8, false), (9, false), (10, false), (11, false), (12, false), (13, false), (14, false), (15, false), (16, false), (17, true)] mixed (by kernel_rfl) rfl ?_
                    refine ARL.q0 (v := v11) rfl rfl (Light.quiet (opMove rfl rfl)) ?_
                    refine ARL.q0 (v := (.int .i64 x14_l0)) rfl rfl (Light.quiet (opMove rfl rfl)) ?_
                    refine ARL.q0 (v := v11) rfl rfl (Light.quiet (opMove rfl rfl)) ?_
                    refine ARL.q0 (v := (.ptr b5 1)) rfl rfl (Light.quiet (opFieldAddr rfl fieldA_31_1 rfl rfl)) ?_
                    refine ARL.q (v := (.int .i64 a17.a)) rfl rfl (hS.aliveC (k := 0) rfl) (Light.quiet (kAt hS (j := 0) rfl rfl aggA_3 rfl rfl)) ?_
                    obtain ⟨a57, ha57, hF⟩ := bindE hF
                    refine ARL.q0 (v := (ptrTo v11 a17.a.toNat 1)) rfl rfl (Light.quiet (kIxOx hS (j := 1) rfl ha57 rfl rfl rfl elemA_71 sizeA_9)) ?_
                    refine ARL.q (v := (.str a57)) rfl rfl (hS.aliveR (k := 1) rfl) (Light.quiet (kLd (f := AV.str) hS (j := 1) rfl ha57 rfl aggA_9 rfl (fun _ => rfl))) ?_
                    obtain ⟨a59, ha59, hF⟩ := bindE hF
                    refine ARL.q0 (v := (.str a59)) rfl rfl (Light.quiet (opCat ha59 rfl rfl rfl)) ?_
                    obtain ⟨a60, ha60, hF⟩ := bindE hF
                    refine ARL.q0 (v := (.str a60)) rfl rfl (Light.quiet (opCat ha60 rfl rfl rfl)) ?_
                    refine ARL.q0 (v := v11) rfl rfl (Light.quiet (opMove rfl rfl)) ?_
                    refine ARL.q0 (v := (.ptr b5 2)) rfl rfl (Light.quiet (opFieldAddr rfl fieldA_31_2 rfl rfl)) ?_
                    refine ARL.q (v := (.int .i64 a17.b)) rfl rfl (hS.aliveC (k := 0) rfl) (Light.quiet (kAt hS (j := 0) rfl rfl aggA_3 rfl rfl)) ?_
                    obtain ⟨a64, ha64, hF⟩ := bindE hF
                    refine ARL.q0 (v := (ptrTo v11 a17.b.toNat 1)) rfl rfl (Light.quiet (kIxOx hS (j := 1) rfl ha64 rfl rfl rfl elemA_71 sizeA_9)) ?_
                    refine ARL.q (v := (.str a64)) rfl rfl (hS.aliveR (k := 1) rfl) (Light.quiet (kLd (f := AV.str) hS (j := 1) rfl ha64 rfl aggA_9 rfl (fun _ => rfl))) ?_
                    obtain ⟨a66, ha66, hF⟩ := bindE hF
                    refine ARL.q0 (v := (.str a66)) rfl rfl (Light.quiet (opCat ha66 rfl rfl rfl)) ?_
                    obtain ⟨a67, ha67, hF⟩ := bindE hF
                    refine ARL.q0 (v := (.str a67)) rfl rfl (Light.quiet (opCat ha67 rfl rfl rfl)) ?_
                    obtain ⟨m68, hm68, hF⟩ := bindE hF
                    refine ARL.q0 (v := (ptrTo v11 m68 1)) rfl rfl (Light.quiet (kIxO hS (j := 1) rfl hm68 rfl rfl rfl elemA_71 sizeA_9)) ?_
                    refine ARL.n rfl rfl rfl rfl (hSt (f := AV.str) (a := a67) hS (j := 1) rfl hm68 rfl sizeA_9 rfl rfl ⟨rfl, rfl, rfl⟩ ?_); rintro G28 hS
                    refine ARL.done ?_
                    refine QBlock.nrm ?_
                    refine QBlock.nrm ?_
                    refine QThen.nrm ?_
                    exact ⟨(y6.set m68 a67), ⟨rfl, rfl, rfl, rfl, rfl, trivial⟩, (hS.pick [1] rfl rfl), hF⟩
                  · skip
                    refine AWP.seqR rfl ?_
                    refine ASL.q (v := (.bool (decide (a17.kind = 6)))) rfl rfl (Light.quiet (opInt rfl rfl rfl rfl)) ?_
                    refine ASL.q (v := (.bool (decide (a17.kind = 6)))) rfl rfl (Light.quiet (opAssign rfl rfl)) ?_
                    refine ASL.done ?_
                    refine AWP.ifP hF rfl (fun hc29 hF => ?_) (fun hc29 hF => ?_)
                    · skip
                      refine AWP.lastD [(0, false), (1, false), (2, false), (3, false), (4, false), (5, false), (6, false), (7, false), (8, false), (9, false), (10, false), (11, false), (12, false), (13, false), (14, false), (15, false), (16, false), (17, true)] mixed (by kernel_rfl) rfl ?_
                      refine ARL.q0 (v := v11) rfl rfl (Light.quiet (opMove rfl rfl)) ?_
                      refine ARL.q0 (v := (.int .i64 x14_l0)) rfl rfl (Light.quiet (opMove rfl rfl)) ?_
                      refine ARL.q0 (v := v11) rfl rfl (Light.quiet (opMove rfl rfl)) ?_
                      refine ARL.q0 (v := (.ptr b5 1)) rfl rfl (Light.quiet (opFieldAddr rfl fieldA_31_1 rfl rfl)) ?_
                      refine ARL.q (v := (.int .i64 a17.a)) rfl rfl (hS.aliveC (k := 0) rfl) (Light.quiet (kAt hS (j := 0) rfl rfl aggA_3 rfl rfl)) ?_
                      obtain ⟨a76, ha76, hF⟩ := bindE hF
                      refine ARL.q0 (v := (ptrTo v11 a17.a.toNat 1)) rfl rfl (Light.quiet (kIxOx hS (j := 1) rfl ha76 rfl rfl rfl elemA_71 sizeA_9)) ?_
                      refine ARL.q (v := (.str a76)) rfl rfl (hS.aliveR (k := 1) rfl) (Light.quiet (kLd (f := AV.str) hS (j := 1) rfl ha76 rfl aggA_9 rfl (fun _ => rfl))) ?_
                      obtain ⟨a78, ha78, hF⟩ := bindE hF
                      refine ARL.q0 (v := (.str a78)) rfl rfl (Light.quiet (opCat ha78 rfl rfl rfl)) ?_
                      obtain ⟨a79, ha79, hF⟩ := bindE hF
                      refine ARL.q0 (v := (.str a79)) rfl rfl (Light.quiet (opCat ha79 rfl rfl rfl)) ?_
                      refine ARL.q0 (v := v11) rfl rfl (Light.quiet (opMove rfl rfl)) ?_
                      refine ARL.q0 (v := (.ptr b5 2)) rfl rfl (Light.quiet (opFieldAddr rfl fieldA_31_2 rfl rfl)) ?_
                      refine ARL.q (v := (.int .i64 a17.b)) rfl rfl (hS.aliveC (k := 0) rfl) (Light.quiet (kAt hS (j := 0) rfl rfl aggA_3 rfl rfl)) ?_
                      obtain ⟨a83, ha83, hF⟩ := bindE hF
                      refine ARL.q0 (v := (ptrTo v11 a17.b.toNat 1)) rfl rfl (Light.quiet (kIxOx hS (j := 1) rfl ha83 rfl rfl rfl elemA_71 sizeA_9)) ?_
                      refine ARL.q (v := (.str a83)) rfl rfl (hS.aliveR (k := 1) rfl) (Light.quiet (kLd (f := AV.str) hS (j := 1) rfl ha83 rfl aggA_9 rfl (fun _ => rfl))) ?_
                      obtain ⟨a85, ha85, hF⟩ := bindE hF
                      refine ARL.q0 (v := (.str a85)) rfl rfl (Light.quiet (opCat ha85 rfl rfl rfl)) ?_
                      obtain ⟨a86, ha86, hF⟩ := bindE hF
                      refine ARL.q0 (v := (.str a86)) rfl rfl (Light.quiet (opCat ha86 rfl rfl rfl)) ?_
                      obtain ⟨m87, hm87, hF⟩ := bindE hF
                      refine ARL.q0 (v := (ptrTo v11 m87 1)) rfl rfl (Light.quiet (kIxO hS (j := 1) rfl hm87 rfl rfl rfl elemA_71 sizeA_9)) ?_
                      refine ARL.n rfl rfl rfl rfl (hSt (f := AV.str) (a := a86) hS (j := 1) rfl hm87 rfl sizeA_9 rfl rfl ⟨rfl, rfl, rfl⟩ ?_); rintro G30 hS
                      refine ARL.done ?_
                      refine QBlock.nrm ?_
                      refine QBlock.nrm ?_
                      refine QThen.nrm ?_
                      exact ⟨(y6.set m87 a86), ⟨rfl, rfl, rfl, rfl, rfl, trivial⟩, (hS.pick [1] rfl rfl), hF⟩
                    · skip
                      refine AWP.skip ?_
                      refine QBlock.nrm ?_
                      refine QBlock.nrm ?_
                      refine QThen.nrm ?_
                      exact ⟨y6, ⟨rfl, rfl, rfl, rfl, rfl, trivial⟩, (hS.pick [1] rfl rfl), hF⟩
      · skip
        refine AWP.exit ?_
        refine QThen.ext ?_
        refine QThen.ext ?_
        refine QBlock.hit ?_
        obtain rfl := (hx8 _ (someE hF).symm)
        have hF := hR11
        refine QThen.nrm ?_
        exact ⟨y6, ⟨rfl, rfl, trivial⟩, (hS.pick [0] rfl rfl), hF⟩

theorem strings_Join_ok {p0 : List ByteArray} {p1 r : ByteArray} (hF : strings_Join p0 p1 = some r) : PC Try.prog 49 [.list 1 (List.map AV.str p0), .str p1] fun v => v = .str r := strings_Join_of rfl hF

set_option maxRecDepth 10000 in
theorem impl_OmegaPrint_ok {p0 : (List TOmega)} {r : ByteArray} (hF : impl_OmegaPrint p0 = some r) : PC Try.prog 16 [(.list 2 (List.map TOmega.av p0))] fun v => v = (.str r) := by
  refine PC.enter Try.func16 rfl Try.ntmps16 (by simp) ?_
  have hS := Sep.void; unfold impl_OmegaPrint at hF
  refine AWP.seqR rfl ?_
  refine ASL.q (v := (.str { data := #[] })) rfl rfl (Light.quiet (opAssign rfl rfl)) ?_
  refine ASL.done ?_
  refine AWP.seq ?_
  refine AWP.seqR rfl ?_
  refine ASL.q (v := (.list 2 (List.map TOmega.av p0))) rfl rfl (Light.quiet (opMove rfl rfl)) ?_
  obtain ⟨a7, ha7, hF⟩ := bindE hF
  refine ASL.q (v := (.bool a7)) rfl rfl ((qCall rfl rfl call_48 (impl_OmegaOk_ok ha7) rfl)) ?_
  refine ASL.q (v := (.bool (!a7))) rfl rfl (Light.quiet (opNot rfl rfl)) ?_
  refine ASL.done ?_
  refine AWP.ifB hF rfl (fun hc1 hF => ?_) (fun hc1 hF => ?_)
  · skip
    refine AWP.seqR rfl ?_
    refine ASL.q (v := (.str { data := #[] })) rfl rfl (Light.quiet (opAssign rfl rfl)) ?_
    refine ASL.done ?_
    refine AWP.ret ?_
    refine QThen.rt ?_
    obtain rfl := someE hF
    exact QRet.sole (v := (.str { data := #[] })) ⟨rfl, trivial⟩ rfl
  · skip
    refine AWP.skip ?_
    refine QThen.nrm ?_
    refine AWP.seqR rfl ?_
    have hS := hNil (s := 1) (f := AV.str) hS
    refine ASL.q (v := .nil) rfl rfl (Light.quiet (opAssign rfl rfl)) ?_
    refine ASL.done ?_
    refine AWP.seqM (fun e H => ∃ y3 : (List ByteArray), ∃ w4 : AV, E.Told e [(3, w4)] ∧ E.Sep H [.row 1 w4 (List.map AV.str y3)] ∧ impl_OmegaPrint.k0 y3 = some r) ?_ ?_
    · rintro e0 G6 ⟨y3, w4, hT, hS, hF⟩; refine AWP.only _ hT ?_; unfold impl_OmegaPrint.k0 at hF
      refine AWP.seqR rfl ?_
      refine ASL.q (v := w4) rfl rfl (Light.quiet (opMove rfl rfl)) ?_
      obtain ⟨a28, ha28, hF⟩ := bindE hF
      refine ASL.q (v := (.str a28)) rfl rfl ((qCallR hS rfl rfl call_49 (strings_Join_ok ha28) ⟨.row (k := 0) rfl, .same _, trivial⟩ (by constructor))) ?_
      refine ASL.q (v := (.str a28)) rfl rfl (Light.quiet (opAssign rfl rfl)) ?_
      refine ASL.done ?_
      refine AWP.ret ?_
      obtain rfl := someE hF
      exact QRet.sole (v := (.str a28)) ⟨rfl, trivial⟩ rfl
    · skip
      refine AWP.seqR rfl ?_
      refine ASL.q (v := (.list 2 (List.map TOmega.av p0))) rfl rfl (Light.quiet (opMove rfl rfl)) ?_
      refine ASL.q (v := (.int .i64 (p0.length : Int))) rfl rfl (Light.quiet (opLenMap (f := TOmega.av) rfl rfl rfl lenT_35 rfl)) ?_
      refine ASL.q (v := (.int .i64 0)) rfl rfl (Light.quiet (opMove rfl rfl)) ?_
      refine ASL.done ?_
      refine AWP.block ?_
      obtain ⟨o13, hL12, hR14⟩ := bindE hF
      refine AWP.loopF (ω := AV) hL12 (fun s w => [(3, w), (9, (.list 2 (List.map TOmega.av p0))), (10, (.int .i64 (p0.length : Int))), (11, (.int .i64 s.2))]) (fun s w => [.row 1 w (List.map AV.str s.1)]) .nil ⟨rfl, rfl, rfl, rfl, trivial⟩ (hS.pick [0] rfl rfl) ?_
      rintro ⟨y7, x11_l0⟩ w8 G15 hS x10 hF hx11
      try dsimp only at hS ⊢
      have hF : impl_OmegaPrint.b0 p0 y7 x11_l0 = some x10 := hF; unfold impl_OmegaPrint.b0 at hF
      refine AWP.seqR rfl ?_
      refine ASL.q (v := (.bool (decide (x11_l0 < ((p0.length : Int)))))) rfl rfl (Light.quiet (opInt rfl rfl rfl rfl)) ?_
      refine ASL.done ?_
      refine AWP.seq ?_
      refine AWP.ifP hF rfl (fun hc16 hF => ?_) (fun hc16 hF => ?_)
      · skip
        refine AWP.skip ?_
        refine QThen.nrm ?_
        refine AWP.seq ?_
        refine AWP.block ?_
        refine AWP.seqR rfl ?_
        obtain ⟨a13, ha13, hF⟩ := bindE hF
        refine ASL.q (v := (.rptr [(.list 3 (List.map TNode.av a13.stem)), (.list 3 (List.map TNode.av a13.loop))])) rfl rfl (Light.quiet (kIx (f := TOmega.av) ha13 rfl rfl rfl elemA_35 sizeA_69 rfl)) ?_
        refine ASL.q (v := (TOmega.av a13)) rfl rfl (Light.quiet (opLoadRA rfl aggA_69 sizeA_69 rfl (nlt rfl) rfl)) ?_
        refine ASL.x rfl rfl (hNewZ hS [(.list 3 (List.map TNode.av [])), (.list 3 (List.map TNode.av []))] rfl zeroA_69 ⟨.inr ⟨_, rfl, rfl⟩, .inr ⟨_, rfl, rfl⟩, trivial⟩ ?_); rintro b5 G17 hK hS
        refine ASL.n rfl rfl (hPutA hS (j := 0) rfl rfl sizeA_69 rfl rfl rfl rfl rfl (nlt rfl) ?_); rintro G19 hS
        refine ASL.done ?_
        refine AWP.lastD [(0, false), (1, false), (2, false), (3, false), (4, false), (5, false), (6, false), (7, false), (8, false), (9, false), (10, true), (11, false)] mixed (by kernel_rfl) rfl ?_
        refine ARL.q0 (v := w8) rfl rfl (Light.quiet (opMove rfl rfl)) ?_
        refine ARL.q0 (v := (.ptr b5 0)) rfl rfl (Light.quiet (opFieldAddr rfl fieldA_69_0 rfl rfl)) ?_
        refine ARL.q (v := (.list 3 (List.map TNode.av a13.stem))) rfl rfl (hS.aliveC (k := 0) rfl) (Light.quiet (kAt hS (j := 0) rfl rfl aggA_24 rfl rfl)) ?_
        obtain ⟨a18, ha18, hF⟩ := bindE hF
        refine ARL.q0 (v := (.str a18)) rfl rfl ((qCall rfl rfl call_19 (impl_RePrint_ok ha18) rfl)) ?_
        obtain ⟨a19, ha19, hF⟩ := bindE hF
        refine ARL.q0 (v := (.str a19)) rfl rfl (Light.quiet (opCat ha19 rfl rfl rfl)) ?_
        refine ARL.q0 (v := (.ptr b5 1)) rfl rfl (Light.quiet (opFieldAddr rfl fieldA_69_1 rfl rfl)) ?_
        refine ARL.q (v := (.list 3 (List.map TNode.av a13.loop))) rfl rfl (hS.aliveC (k := 0) rfl) (Light.quiet (kAt hS (j := 0) rfl rfl aggA_24 rfl rfl)) ?_
        obtain ⟨a22, ha22, hF⟩ := bindE hF
        refine ARL.q0 (v := (.str a22)) rfl rfl ((qCall rfl rfl call_19 (impl_RePrint_ok ha22) rfl)) ?_
        obtain ⟨a23, ha23, hF⟩ := bindE hF
        refine ARL.q0 (v := (.str a23)) rfl rfl (Light.quiet (opCat ha23 rfl rfl rfl)) ?_
        refine ARL.q0 (v := (.list 1 (List.map AV.str [a23]))) rfl rfl ((qLit (xs := [(.str a23)]) rfl elemA_71 sizeA_9 zeroA_9 rfl rfl rfl rfl (by simp [cells]) (nlt rfl))) ?_
        obtain ⟨z25, hz25, hF⟩ := bindE hF
        refine ARL.y rfl rfl rfl rfl (hApp (f := AV.str) (ws := [a23]) hS (j := 1) rfl hz25 rfl elemA_71 rfl sizeA_9 bytesA_9 zeroA_9 rfl rfl rfl (fun _ => rfl) ?_); rintro v25 G20 hS
        refine ARL.q0 (v := v25) rfl rfl (Light.quiet (opAssign rfl rfl)) ?_
        refine ARL.done ?_
        refine QBlock.nrm ?_
        refine QThen.nrm ?_
        refine AWP.lastR rfl ?_
        refine ASL.q (v := (.int .i64 (W (x11_l0 + 1)))) rfl rfl (Light.quiet (opInt rfl rfl rfl rfl)) ?_
        refine ASL.q (v := (.int .i64 (W (x11_l0 + 1)))) rfl rfl (Light.quiet (opMove rfl rfl)) ?_
        refine ASL.done ?_
        refine QThen.nrm ?_
        exact ⟨(z25, (W (x11_l0 + 1))), v25, (someE hF).symm, ⟨rfl, rfl, rfl, rfl, trivial⟩, (hS.pick [1] rfl rfl)⟩
      · skip
        refine AWP.exit ?_
        refine QThen.ext ?_
        refine QThen.ext ?_
        refine QBlock.hit ?_
        obtain rfl := (hx11 _ (someE hF).symm)
        have hF := hR14
        refine QThen.nrm ?_
        exact ⟨y7, w8, ⟨rfl, trivial⟩, (hS.pick [0] rfl rfl), hF⟩

set_option maxRecDepth 10000 in
theorem laws_eqNode_ok (p0 : TNode) (p1 : TNode) : PC Try.prog 94 [(TNode.av p0), (TNode.av p1)] fun v => v = (.bool (laws_eqNode p0 p1)) := by
  generalize hF : laws_eqNode p0 p1 = r
  refine PC.enter Try.func94 rfl Try.ntmps94 (by simp) ?_
  have hS := Sep.void; unfold laws_eqNode at hF
  refine AWP.seqR rfl ?_
  refine ASL.q (v := (.rptr [(.int .i64 p0.kind), (.int .i64 p0.a), (.int .i64 p0.b)])) rfl rfl ((qBoxI (v := (TNode.av p0)) rfl rfl rfl rfl)) ?_
  refine ASL.q (v := (.rptr [(.int .i64 p1.kind), (.int .i64 p1.a), (.int .i64 p1.b)])) rfl rfl ((qBoxI (v := (TNode.av p1)) rfl rfl rfl rfl)) ?_
  refine ASL.q (v := (.bool false)) rfl rfl (Light.quiet (opAssign rfl rfl)) ?_
  refine ASL.done ?_
  refine AWP.seq ?_
  refine AWP.seqR rfl ?_
  refine ASL.q (v := (.rptr [(.int .i64 p0.kind), (.int .i64 p0.a), (.int .i64 p0.b)])) rfl rfl (Light.quiet (opFieldAddrR rfl fieldA_31_0 rfl rfl)) ?_
  refine ASL.q (v := (.int .i64 p0.kind)) rfl rfl (Light.quiet (opLoadR rfl aggA_3 rfl rfl)) ?_
  refine ASL.q (v := (.rptr [(.int .i64 p1.kind), (.int .i64 p1.a), (.int .i64 p1.b)])) rfl rfl (Light.quiet (opFieldAddrR rfl fieldA_31_0 rfl rfl)) ?_
  refine ASL.q (v := (.int .i64 p1.kind)) rfl rfl (Light.quiet (opLoadR rfl aggA_3 rfl rfl)) ?_
  refine ASL.q (v := (.bool (decide (p0.kind ≠ p1.kind)))) rfl rfl (Light.quiet (opInt rfl rfl rfl rfl)) ?_
  refine ASL.done ?_
  refine AWP.ifP hF rfl (fun hc1 hF => ?_) (fun hc1 hF => ?_)
  · skip
    refine AWP.seqR rfl ?_
    refine ASL.q (v := (.bool false)) rfl rfl (Light.quiet (opAssign rfl rfl)) ?_
    refine ASL.done ?_
    refine AWP.ret ?_
    refine QThen.rt ?_
    obtain rfl := hF
    exact QRet.sole (v := (.bool false)) ⟨rfl, trivial⟩ rfl
  · skip
    refine AWP.skip ?_
    refine QThen.nrm ?_
    refine AWP.seq ?_
    refine AWP.seqR rfl ?_
    refine ASL.q (v := (.rptr [(.int .i64 p0.a), (.int .i64 p0.b)])) rfl rfl (Light.quiet (opFieldAddrR rfl fieldA_31_1 rfl rfl)) ?_
    refine ASL.q (v := (.int .i64 p0.a)) rfl rfl (Light.quiet (opLoadR rfl aggA_3 rfl rfl)) ?_
    refine ASL.q (v := (.rptr [(.int .i64 p1.a), (.int .i64 p1.b)])) rfl rfl (Light.quiet (opFieldAddrR rfl fieldA_31_1 rfl rfl)) ?_
    refine ASL.q (v := (.int .i64 p1.a)) rfl rfl (Light.quiet (opLoadR rfl aggA_3 rfl rfl)) ?_
    refine ASL.q (v := (.bool (decide (p0.a ≠ p1.a)))) rfl rfl (Light.quiet (opInt rfl rfl rfl rfl)) ?_
    refine ASL.done ?_
    refine AWP.ifP hF rfl (fun hc2 hF => ?_) (fun hc2 hF => ?_)
    · skip
      refine AWP.seqR rfl ?_
      refine ASL.q (v := (.bool false)) rfl rfl (Light.quiet (opAssign rfl rfl)) ?_
      refine ASL.done ?_
      refine AWP.ret ?_
      refine QThen.rt ?_
      obtain rfl := hF
      exact QRet.sole (v := (.bool false)) ⟨rfl, trivial⟩ rfl
    · skip
      refine AWP.skip ?_
      refine QThen.nrm ?_
      refine AWP.seq ?_
      refine AWP.seqR rfl ?_
      refine ASL.q (v := (.rptr [(.int .i64 p0.b)])) rfl rfl (Light.quiet (opFieldAddrR rfl fieldA_31_2 rfl rfl)) ?_
      refine ASL.q (v := (.int .i64 p0.b)) rfl rfl (Light.quiet (opLoadR rfl aggA_3 rfl rfl)) ?_
      refine ASL.q (v := (.rptr [(.int .i64 p1.b)])) rfl rfl (Light.quiet (opFieldAddrR rfl fieldA_31_2 rfl rfl)) ?_
      refine ASL.q (v := (.int .i64 p1.b)) rfl rfl (Light.quiet (opLoadR rfl aggA_3 rfl rfl)) ?_
      refine ASL.q (v := (.bool (decide (p0.b ≠ p1.b)))) rfl rfl (Light.quiet (opInt rfl rfl rfl rfl)) ?_
      refine ASL.done ?_
      refine AWP.ifP hF rfl (fun hc3 hF => ?_) (fun hc3 hF => ?_)
      · skip
        refine AWP.seqR rfl ?_
        refine ASL.q (v := (.bool false)) rfl rfl (Light.quiet (opAssign rfl rfl)) ?_
        refine ASL.done ?_
        refine AWP.ret ?_
        refine QThen.rt ?_
        obtain rfl := hF
        exact QRet.sole (v := (.bool false)) ⟨rfl, trivial⟩ rfl
      · skip
        refine AWP.skip ?_
        refine QThen.nrm ?_
        refine AWP.seqR rfl ?_
        refine ASL.q (v := (.bool true)) rfl rfl (Light.quiet (opAssign rfl rfl)) ?_
        refine ASL.done ?_
        refine AWP.ret ?_
        obtain rfl := hF
        exact QRet.sole (v := (.bool true)) ⟨rfl, trivial⟩ rfl

set_option maxRecDepth 10000 in
theorem laws_eqNodeS_ok {p0 : (List TNode)} {p1 : (List TNode)} {r : Bool} (hF : laws_eqNodeS p0 p1 = some r) : PC Try.prog 78 [(.list 3 (List.map TNode.av p0)), (.list 3 (List.map TNode.av p1))] fun v => v = (.bool r) := by
  refine PC.enter Try.func78 rfl Try.ntmps78 (by simp) ?_
  have hS := Sep.void; unfold laws_eqNodeS at hF
  refine AWP.seqR rfl ?_
  refine ASL.q (v := (.bool false)) rfl rfl (Light.quiet (opAssign rfl rfl)) ?_
  refine ASL.done ?_
  refine AWP.seq ?_
  refine AWP.seqR rfl ?_
  refine ASL.q (v := (.list 3 (List.map TNode.av p0))) rfl rfl (Light.quiet (opMove rfl rfl)) ?_
  refine ASL.q (v := (.int .i64 (p0.length : Int))) rfl rfl (Light.quiet (opLenMap (f := TNode.av) rfl rfl rfl lenT_24 rfl)) ?_
  refine ASL.q (v := (.list 3 (List.map TNode.av p1))) rfl rfl (Light.quiet (opMove rfl rfl)) ?_
  refine ASL.q (v := (.int .i64 (p1.length : Int))) rfl rfl (Light.quiet (opLenMap (f := TNode.av) rfl rfl rfl lenT_24 rfl)) ?_
  refine ASL.q (v := (.bool (decide (((p0.length : Int)) ≠ ((p1.length : Int)))))) rfl rfl (Light.quiet (opInt rfl rfl rfl rfl)) ?_
  refine ASL.done ?_
  refine AWP.ifP hF rfl (fun hc1 hF => ?_) (fun hc1 hF => ?_)
  · skip
    refine AWP.seqR rfl ?_
    refine ASL.q (v := (.bool false)) rfl rfl (Light.quiet (opAssign rfl rfl)) ?_
    refine ASL.done ?_
    refine AWP.ret ?_
    refine QThen.rt ?_
    obtain rfl := someE hF
    exact QRet.sole (v := (.bool false)) ⟨rfl, trivial⟩ rfl
  · skip
    refine AWP.skip ?_
    refine QThen.nrm ?_
    refine AWP.seqM (fun e H => E.Told e [] ∧ E.Sep H [] ∧ laws_eqNodeS.k0 = some r) ?_ ?_
    · rintro e0 G2 ⟨hT, hS, hF⟩; refine AWP.only _ hT ?_; unfold laws_eqNodeS.k0 at hF
      refine AWP.seqR rfl ?_
      refine ASL.q (v := (.bool true)) rfl rfl (Light.quiet (opAssign rfl rfl)) ?_
      refine ASL.done ?_
      refine AWP.ret ?_
      obtain rfl := someE hF
      exact QRet.sole (v := (.bool true)) ⟨rfl, trivial⟩ rfl
    · skip
      refine AWP.seqR rfl ?_
      refine ASL.q (v := (.int .i64 0)) rfl rfl (Light.quiet (opAssign rfl rfl)) ?_
      refine ASL.done ?_
      refine AWP.block ?_
      obtain ⟨o6, hL5, hR7⟩ := bindE hF
      refine AWP.loopF (ω := Unit) hL5 (fun s w => [(0, (.list 3 (List.map TNode.av p0))), (1, (.list 3 (List.map TNode.av p1))), (5, (.int .i64 s))]) (fun s w => []) () ⟨rfl, rfl, rfl, trivial⟩ (hS.pick [] rfl rfl) ?_
      rintro x5_l0 _ G8 hS x3 hF hx4
      try dsimp only at hS ⊢
      have hF : laws_eqNodeS.b0 p0 p1 x5_l0 = some x3 := hF; unfold laws_eqNodeS.b0 at hF
      refine AWP.seq ?_
      refine AWP.seqR rfl ?_
      refine ASL.q (v := (.int .i64 x5_l0)) rfl rfl (Light.quiet (opMove rfl rfl)) ?_
      refine ASL.q (v := (.list 3 (List.map TNode.av p0))) rfl rfl (Light.quiet (opMove rfl rfl)) ?_
      refine ASL.q (v := (.int .i64 (p0.length : Int))) rfl rfl (Light.quiet (opLenMap (f := TNode.av) rfl rfl rfl lenT_24 rfl)) ?_
      refine ASL.q (v := (.bool (decide (x5_l0 < ((p0.length : Int)))))) rfl rfl (Light.quiet (opInt rfl rfl rfl rfl)) ?_
      refine ASL.done ?_
      refine AWP.ifP hF rfl (fun hc9 hF => ?_) (fun hc9 hF => ?_)
      · skip
        refine AWP.skip ?_
        refine QThen.nrm ?_
        refine AWP.seq ?_
        refine AWP.block ?_
        refine AWP.seqD [(0, false), (1, false), (2, false), (3, false), (4, false), (5, false), (6, false), (7, false), (8, false), (9, false)] mixed (by kernel_rfl) rfl ?_
        refine ARL.q0 (v := (.list 3 (List.map TNode.av p0))) rfl rfl (Light.quiet (opMove rfl rfl)) ?_
        refine ARL.q0 (v := (.int .i64 x5_l0)) rfl rfl (Light.quiet (opMove rfl rfl)) ?_
        obtain ⟨a19, ha19, hF⟩ := bindE hF
        refine ARL.q0 (v := (.rptr [(.int .i64 a19.kind), (.int .i64 a19.a), (.int .i64 a19.b)])) rfl rfl (Light.quiet (kIx (f := TNode.av) ha19 rfl rfl rfl elemA_24 sizeA_31 rfl)) ?_
        refine ARL.q0 (v := (TNode.av a19)) rfl rfl (Light.quiet (opLoadRA rfl aggA_31 sizeA_31 rfl (nlt rfl) rfl)) ?_
        refine ARL.q0 (v := (.list 3 (List.map TNode.av p1))) rfl rfl (Light.quiet (opMove rfl rfl)) ?_
        refine ARL.q0 (v := (.int .i64 x5_l0)) rfl rfl (Light.quiet (opMove rfl rfl)) ?_
        obtain ⟨a23, ha23, hF⟩ := bindE hF
        refine ARL.q0 (v := (.rptr [(.int .i64 a23.kind), (.int .i64 a23.a), (.int .i64 a23.b)])) rfl rfl (Light.quiet (kIx (f := TNode.av) ha23 rfl rfl rfl elemA_24 sizeA_31 rfl)) ?_
        refine ARL.q0 (v := (TNode.av a23)) rfl rfl (Light.quiet (opLoadRA rfl aggA_31 sizeA_31 rfl (nlt rfl) rfl)) ?_
        refine ARL.q0 (v := (.bool (laws_eqNode a19 a23))) rfl rfl ((qCall rfl rfl call_94 (laws_eqNode_ok a19 a23) rfl)) ?_
        refine ARL.q0 (v := (.bool (!(laws_eqNode a19 a23)))) rfl rfl (Light.quiet (opNot rfl rfl)) ?_
        refine ARL.done ?_
        refine AWP.ifB hF rfl (fun hc10 hF => ?_) (fun hc10 hF => ?_)
        · skip
          refine AWP.seqR rfl ?_
          refine ASL.q (v := (.bool false)) rfl rfl (Light.quiet (opAssign rfl rfl)) ?_
          refine ASL.done ?_
          refine AWP.ret ?_
          refine QBlock.ret ?_
          refine QThen.rt ?_
          refine QThen.rt ?_
          refine QBlock.ret ?_
          refine QThen.rt ?_
          obtain rfl := (hx4 _ (someE hF).symm)
          have hF := hR7
          have hF := sumR hF
          obtain rfl := someE hF
          exact QRet.sole (v := (.bool false)) ⟨rfl, trivial⟩ rfl
        · skip
          refine AWP.skip ?_
          refine QBlock.nrm ?_
          refine QThen.nrm ?_
          refine AWP.lastR rfl ?_
          refine ASL.q (v := (.int .i64 x5_l0)) rfl rfl (Light.quiet (opMove rfl rfl)) ?_
          refine ASL.q (v := (.int .i64 (W (x5_l0 + 1)))) rfl rfl (Light.quiet (opInt rfl rfl rfl rfl)) ?_
          refine ASL.q (v := (.int .i64 (W (x5_l0 + 1)))) rfl rfl (Light.quiet (opAssign rfl rfl)) ?_
          refine ASL.done ?_
          refine QThen.nrm ?_
          exact ⟨(W (x5_l0 + 1)), (), (someE hF).symm, ⟨rfl, rfl, rfl, trivial⟩, (hS.pick [] rfl rfl)⟩
      · skip
        refine AWP.exit ?_
        refine QThen.ext ?_
        refine QThen.ext ?_
        refine QBlock.hit ?_
        obtain rfl := (hx4 _ (someE hF).symm)
        have hF := hR7
        have hF := sumL hF
        refine QThen.nrm ?_
        exact ⟨trivial, (hS.pick [] rfl rfl), hF⟩

set_option maxRecDepth 10000 in
theorem laws_eqOmega_ok {p0 : TOmega} {p1 : TOmega} {r : Bool} (hF : laws_eqOmega p0 p1 = some r) : PC Try.prog 50 [(TOmega.av p0), (TOmega.av p1)] fun v => v = (.bool r) := by
  refine PC.enter Try.func50 rfl Try.ntmps50 (by simp) ?_
  have hS := Sep.void; unfold laws_eqOmega at hF
  refine AWP.seqR rfl ?_
  refine ASL.q (v := (.rptr [(.list 3 (List.map TNode.av p0.stem)), (.list 3 (List.map TNode.av p0.loop))])) rfl rfl ((qBoxI (v := (TOmega.av p0)) rfl rfl rfl rfl)) ?_
  refine ASL.q (v := (.rptr [(.list 3 (List.map TNode.av p1.stem)), (.list 3 (List.map TNode.av p1.loop))])) rfl rfl ((qBoxI (v := (TOmega.av p1)) rfl rfl rfl rfl)) ?_
  refine ASL.q (v := (.bool false)) rfl rfl (Light.quiet (opAssign rfl rfl)) ?_
  refine ASL.done ?_
  refine AWP.seq ?_
  refine AWP.seqR rfl ?_
  refine ASL.q (v := (.rptr [(.list 3 (List.map TNode.av p0.stem)), (.list 3 (List.map TNode.av p0.loop))])) rfl rfl (Light.quiet (opFieldAddrR rfl fieldA_69_0 rfl rfl)) ?_
  refine ASL.q (v := (.list 3 (List.map TNode.av p0.stem))) rfl rfl (Light.quiet (opLoadR rfl aggA_24 rfl rfl)) ?_
  refine ASL.q (v := (.rptr [(.list 3 (List.map TNode.av p1.stem)), (.list 3 (List.map TNode.av p1.loop))])) rfl rfl (Light.quiet (opFieldAddrR rfl fieldA_69_0 rfl rfl)) ?_
  refine ASL.q (v := (.list 3 (List.map TNode.av p1.stem))) rfl rfl (Light.quiet (opLoadR rfl aggA_24 rfl rfl)) ?_
  obtain ⟨a9, ha9, hF⟩ := bindE hF
  refine ASL.q (v := (.bool a9)) rfl rfl ((qCall rfl rfl call_78 (laws_eqNodeS_ok ha9) rfl)) ?_
  refine ASL.q (v := (.bool (!a9))) rfl rfl (Light.quiet (opNot rfl rfl)) ?_
  refine ASL.done ?_
  refine AWP.ifB hF rfl (fun hc1 hF => ?_) (fun hc1 hF => ?_)
  · skip
    refine AWP.seqR rfl ?_
    refine ASL.q (v := (.bool false)) rfl rfl (Light.quiet (opAssign rfl rfl)) ?_
    refine ASL.done ?_
    refine AWP.ret ?_
    refine QThen.rt ?_
    obtain rfl := someE hF
    exact QRet.sole (v := (.bool false)) ⟨rfl, trivial⟩ rfl
  · skip
    refine AWP.skip ?_
    refine QThen.nrm ?_
    refine AWP.seq ?_
    refine AWP.seqR rfl ?_
    refine ASL.q (v := (.rptr [(.list 3 (List.map TNode.av p0.loop))])) rfl rfl (Light.quiet (opFieldAddrR rfl fieldA_69_1 rfl rfl)) ?_
    refine ASL.q (v := (.list 3 (List.map TNode.av p0.loop))) rfl rfl (Light.quiet (opLoadR rfl aggA_24 rfl rfl)) ?_
    refine ASL.q (v := (.rptr [(.list 3 (List.map TNode.av p1.loop))])) rfl rfl (Light.quiet (opFieldAddrR rfl fieldA_69_1 rfl rfl)) ?_
    refine ASL.q (v := (.list 3 (List.map TNode.av p1.loop))) rfl rfl (Light.quiet (opLoadR rfl aggA_24 rfl rfl)) ?_
    obtain ⟨a15, ha15, hF⟩ := bindE hF
    refine ASL.q (v := (.bool a15)) rfl rfl ((qCall rfl rfl call_78 (laws_eqNodeS_ok ha15) rfl)) ?_
    refine ASL.q (v := (.bool (!a15))) rfl rfl (Light.quiet (opNot rfl rfl)) ?_
    refine ASL.done ?_
    refine AWP.ifB hF rfl (fun hc2 hF => ?_) (fun hc2 hF => ?_)
    · skip
      refine AWP.seqR rfl ?_
      refine ASL.q (v := (.bool false)) rfl rfl (Light.quiet (opAssign rfl rfl)) ?_
      refine ASL.done ?_
      refine AWP.ret ?_
      refine QThen.rt ?_
      obtain rfl := someE hF
      exact QRet.sole (v := (.bool false)) ⟨rfl, trivial⟩ rfl
    · skip
      refine AWP.skip ?_
      refine QThen.nrm ?_
      refine AWP.seqR rfl ?_
      refine ASL.q (v := (.bool true)) rfl rfl (Light.quiet (opAssign rfl rfl)) ?_
      refine ASL.done ?_
      refine AWP.ret ?_
      obtain rfl := someE hF
      exact QRet.sole (v := (.bool true)) ⟨rfl, trivial⟩ rfl

set_option maxRecDepth 10000 in
theorem laws_eqOmegaS_ok {p0 : (List TOmega)} {p1 : (List TOmega)} {r : Bool} (hF : laws_eqOmegaS p0 p1 = some r) : PC Try.prog 17 [(.list 2 (List.map TOmega.av p0)), (.list 2 (List.map TOmega.av p1))] fun v => v = (.bool r) := by
  refine PC.enter Try.func17 rfl Try.ntmps17 (by simp) ?_
  have hS := Sep.void; unfold laws_eqOmegaS at hF
  refine AWP.seqR rfl ?_
  refine ASL.q (v := (.bool false)) rfl rfl (Light.quiet (opAssign rfl rfl)) ?_
  refine ASL.done ?_
  refine AWP.seq ?_
  refine AWP.seqR rfl ?_
  refine ASL.q (v := (.list 2 (List.map TOmega.av p0))) rfl rfl (Light.quiet (opMove rfl rfl)) ?_
  refine ASL.q (v := (.int .i64 (p0.length : Int))) rfl rfl (Light.quiet (opLenMap (f := TOmega.av) rfl rfl rfl lenT_35 rfl)) ?_
  refine ASL.q (v := (.list 2 (List.map TOmega.av p1))) rfl rfl (Light.quiet (opMove rfl rfl)) ?_
  refine ASL.q (v := (.int .i64 (p1.length : Int))) rfl rfl (Light.quiet (opLenMap (f := TOmega.av) rfl rfl rfl lenT_35 rfl)) ?_
  refine ASL.q (v := (.bool (decide (((p0.length : Int)) ≠ ((p1.length : Int)))))) rfl rfl (Light.quiet (opInt rfl rfl rfl rfl)) ?_
  refine ASL.done ?_
  refine AWP.ifP hF rfl (fun hc1 hF => ?_) (fun hc1 hF => ?_)
  · skip
    refine AWP.seqR rfl ?_
    refine ASL.q (v := (.bool false)) rfl rfl (Light.quiet (opAssign rfl rfl)) ?_
    refine ASL.done ?_
    refine AWP.ret ?_
    refine QThen.rt ?_
    obtain rfl := someE hF
    exact QRet.sole (v := (.bool false)) ⟨rfl, trivial⟩ rfl
  · skip
    refine AWP.skip ?_
    refine QThen.nrm ?_
    refine AWP.seqM (fun e H => E.Told e [] ∧ E.Sep H [] ∧ laws_eqOmegaS.k0 = some r) ?_ ?_
    · rintro e0 G2 ⟨hT, hS, hF⟩; refine AWP.only _ hT ?_; unfold laws_eqOmegaS.k0 at hF
      refine AWP.seqR rfl ?_
      refine ASL.q (v := (.bool true)) rfl rfl (Light.quiet (opAssign rfl rfl)) ?_
      refine ASL.done ?_
      refine AWP.ret ?_
      obtain rfl := someE hF
      exact QRet.sole (v := (.bool true)) ⟨rfl, trivial⟩ rfl
    · skip
      refine AWP.seqR rfl ?_
      refine ASL.q (v := (.int .i64 0)) rfl rfl (Light.quiet (opAssign rfl rfl)) ?_
      refine ASL.done ?_
      refine AWP.block ?_
      obtain ⟨o6, hL5, hR7⟩ := bindE hF
      refine AWP.loopF (ω := Unit) hL5 (fun s w => [(0, (.list 2 (List.map TOmega.av p0))), (1, (.list 2 (List.map TOmega.av p1))), (5, (.int .i64 s))]) (fun s w => []) () ⟨rfl, rfl, rfl, trivial⟩ (hS.pick [] rfl rfl) ?_
      rintro x5_l0 _ G8 hS x3 hF hx4
      try dsimp only at hS ⊢
      have hF : laws_eqOmegaS.b0 p0 p1 x5_l0 = some x3 := hF; unfold laws_eqOmegaS.b0 at hF
      refine AWP.seq ?_
      refine AWP.seqR rfl ?_
      refine ASL.q (v := (.int .i64 x5_l0)) rfl rfl (Light.quiet (opMove rfl rfl)) ?_
      refine ASL.q (v := (.list 2 (List.map TOmega.av p0))) rfl rfl (Light.quiet (opMove rfl rfl)) ?_
      refine ASL.q (v := (.int .i64 (p0.length : Int))) rfl rfl (Light.quiet (opLenMap (f := TOmega.av) rfl rfl rfl lenT_35 rfl)) ?_
      refine ASL.q (v := (.bool (decide (x5_l0 < ((p0.length : Int)))))) rfl rfl (Light.quiet (opInt rfl rfl rfl rfl)) ?_
      refine ASL.done ?_
      refine AWP.ifP hF rfl (fun hc9 hF => ?_) (fun hc9 hF => ?_)
      · skip
        refine AWP.skip ?_
        refine QThen.nrm ?_
        refine AWP.seq ?_
        refine AWP.block ?_
        refine AWP.seqD [(0, false), (1, false), (2, false), (3, false), (4, false), (5, false), (6, false), (7, false), (8, false), (9, false)] mixed (by kernel_rfl) rfl ?_
        refine ARL.q0 (v := (.list 2 (List.map TOmega.av p0))) rfl rfl (Light.quiet (opMove rfl rfl)) ?_
        refine ARL.q0 (v := (.int .i64 x5_l0)) rfl rfl (Light.quiet (opMove rfl rfl)) ?_
        obtain ⟨a19, ha19, hF⟩ := bindE hF
        refine ARL.q0 (v := (.rptr [(.list 3 (List.map TNode.av a19.stem)), (.list 3 (List.map TNode.av a19.loop))])) rfl rfl (Light.quiet (kIx (f := TOmega.av) ha19 rfl rfl rfl elemA_35 sizeA_69 rfl)) ?_
        refine ARL.q0 (v := (TOmega.av a19)) rfl rfl (Light.quiet (opLoadRA rfl aggA_69 sizeA_69 rfl (nlt rfl) rfl)) ?_
        refine ARL.q0 (v := (.list 2 (List.map TOmega.av p1))) rfl rfl (Light.quiet (opMove rfl rfl)) ?_
        refine ARL.q0 (v := (.int .i64 x5_l0)) rfl rfl (Light.quiet (opMove rfl rfl)) ?_
        obtain ⟨a23, ha23, hF⟩ := bindE hF
        refine ARL.q0 (v := (.rptr [(.list 3 (List.map TNode.av a23.stem)), (.list 3 (List.map TNode.av a23.loop))])) rfl rfl (Light.quiet (kIx (f := TOmega.av) ha23 rfl rfl rfl elemA_35 sizeA_69 rfl)) ?_
        refine ARL.q0 (v := (TOmega.av a23)) rfl rfl (Light.quiet (opLoadRA rfl aggA_69 sizeA_69 rfl (nlt rfl) rfl)) ?_
        obtain ⟨a25, ha25, hF⟩ := bindE hF
        refine ARL.q0 (v := (.bool a25)) rfl rfl ((qCall rfl rfl call_50 (laws_eqOmega_ok ha25) rfl)) ?_
        refine ARL.q0 (v := (.bool (!a25))) rfl rfl (Light.quiet (opNot rfl rfl)) ?_
        refine ARL.done ?_
        refine AWP.ifB hF rfl (fun hc10 hF => ?_) (fun hc10 hF => ?_)
        · skip
          refine AWP.seqR rfl ?_
          refine ASL.q (v := (.bool false)) rfl rfl (Light.quiet (opAssign rfl rfl)) ?_
          refine ASL.done ?_
          refine AWP.ret ?_
          refine QBlock.ret ?_
          refine QThen.rt ?_
          refine QThen.rt ?_
          refine QBlock.ret ?_
          refine QThen.rt ?_
          obtain rfl := (hx4 _ (someE hF).symm)
          have hF := hR7
          have hF := sumR hF
          obtain rfl := someE hF
          exact QRet.sole (v := (.bool false)) ⟨rfl, trivial⟩ rfl
        · skip
          refine AWP.skip ?_
          refine QBlock.nrm ?_
          refine QThen.nrm ?_
          refine AWP.lastR rfl ?_
          refine ASL.q (v := (.int .i64 x5_l0)) rfl rfl (Light.quiet (opMove rfl rfl)) ?_
          refine ASL.q (v := (.int .i64 (W (x5_l0 + 1)))) rfl rfl (Light.quiet (opInt rfl rfl rfl rfl)) ?_
          refine ASL.q (v := (.int .i64 (W (x5_l0 + 1)))) rfl rfl (Light.quiet (opAssign rfl rfl)) ?_
          refine ASL.done ?_
          refine QThen.nrm ?_
          exact ⟨(W (x5_l0 + 1)), (), (someE hF).symm, ⟨rfl, rfl, rfl, trivial⟩, (hS.pick [] rfl rfl)⟩
      · skip
        refine AWP.exit ?_
        refine QThen.ext ?_
        refine QThen.ext ?_
        refine QBlock.hit ?_
        obtain rfl := (hx4 _ (someE hF).symm)
        have hF := hR7
        have hF := sumL hF
        refine QThen.nrm ?_
        exact ⟨trivial, (hS.pick [] rfl rfl), hF⟩

set_option maxRecDepth 10000 in
theorem laws_FnExactOmegaPrint_ok {K : Nat} {p0 : (List TOmega)} {r : Bool} (hF : laws_FnExactOmegaPrint K p0 = some r) : PC Try.prog 4 [(.list 2 (List.map TOmega.av p0))] fun v => v = (.bool r) := by
  refine PC.enter Try.func4 rfl Try.ntmps4 (by simp) ?_
  have hS := Sep.void; unfold laws_FnExactOmegaPrint at hF
  refine AWP.seqR rfl ?_
  refine ASL.q (v := (.bool false)) rfl rfl (Light.quiet (opAssign rfl rfl)) ?_
  refine ASL.done ?_
  refine AWP.seqR rfl ?_
  refine ASL.q (v := (.int .i64 1048576)) rfl rfl (Light.quiet (opAssign rfl rfl)) ?_
  refine ASL.done ?_
  refine AWP.seqR rfl ?_
  refine ASL.q (v := (.list 2 (List.map TOmega.av p0))) rfl rfl (Light.quiet (opMove rfl rfl)) ?_
  refine ASL.q (v := (.int .i64 1048576)) rfl rfl (Light.quiet (opMove rfl rfl)) ?_
  obtain ⟨a9, ha9, hF⟩ := bindE hF
  refine ASL.q (v := (.int .i64 a9)) rfl rfl ((qCall rfl rfl call_13 (laws_szOmegaS_ok ha9) rfl)) ?_
  refine ASL.q (v := (.int .i64 a9)) rfl rfl (Light.quiet (opAssign rfl rfl)) ?_
  refine ASL.done ?_
  refine AWP.seq ?_
  refine AWP.seqR rfl ?_
  refine ASL.q (v := (.int .i64 a9)) rfl rfl (Light.quiet (opMove rfl rfl)) ?_
  refine ASL.q (v := (.bool (decide (a9 < 0)))) rfl rfl (Light.quiet (opInt rfl rfl rfl rfl)) ?_
  refine ASL.done ?_
  refine AWP.ifP hF rfl (fun hc1 hF => ?_) (fun hc1 hF => ?_)
  · skip
    refine AWP.seqR rfl ?_
    refine ASL.q (v := (.bool true)) rfl rfl (Light.quiet (opAssign rfl rfl)) ?_
    refine ASL.done ?_
    refine AWP.ret ?_
    refine QThen.rt ?_
    obtain rfl := someE hF
    exact QRet.sole (v := (.bool true)) ⟨rfl, trivial⟩ rfl
  · skip
    refine AWP.skip ?_
    refine QThen.nrm ?_
    refine AWP.seqR rfl ?_
    refine ASL.q (v := (.list 2 (List.map TOmega.av p0))) rfl rfl (Light.quiet (opMove rfl rfl)) ?_
    obtain ⟨a13, ha13, hF⟩ := bindE hF
    refine ASL.q (v := (.list 2 (List.map TOmega.av a13))) rfl rfl ((qCall rfl rfl call_15 (PO.list (laws_toOmegaS_ok ha13)) rfl)) ?_
    obtain ⟨a14, ha14, hF⟩ := bindE hF
    refine ASL.q (v := (.str a14)) rfl rfl ((qCall rfl rfl call_14 (spec_OmegaPrint_ok ha14) rfl)) ?_
    refine ASL.q (v := (.str a14)) rfl rfl (Light.quiet (opAssign rfl rfl)) ?_
    refine ASL.done ?_
    refine AWP.seqR rfl ?_
    refine ASL.q (v := (.list 2 (List.map TOmega.av p0))) rfl rfl (Light.quiet (opMove rfl rfl)) ?_
    obtain ⟨a16, ha16, hF⟩ := bindE hF
    refine ASL.q (v := (.list 2 (List.map TOmega.av a16))) rfl rfl ((qCall rfl rfl call_15 (PO.list (laws_toOmegaS_ok ha16)) rfl)) ?_
    refine ASL.q (v := (.list 2 (List.map TOmega.av a16))) rfl rfl (Light.quiet (opAssign rfl rfl)) ?_
    refine ASL.done ?_
    refine AWP.seqR rfl ?_
    refine ASL.q (v := (.list 2 (List.map TOmega.av a16))) rfl rfl (Light.quiet (opMove rfl rfl)) ?_
    obtain ⟨a18, ha18, hF⟩ := bindE hF
    refine ASL.q (v := (.str a18)) rfl rfl ((qCall rfl rfl call_16 (impl_OmegaPrint_ok ha18) rfl)) ?_
    refine ASL.q (v := (.str a18)) rfl rfl (Light.quiet (opAssign rfl rfl)) ?_
    refine ASL.done ?_
    refine AWP.seq ?_
    refine AWP.seqR rfl ?_
    refine ASL.q (v := (.str a18)) rfl rfl (Light.quiet (opMove rfl rfl)) ?_
    refine ASL.q (v := (.str a14)) rfl rfl (Light.quiet (opMove rfl rfl)) ?_
    refine ASL.q (v := (.bool (!(a18.toList == a14.toList)))) rfl rfl (Light.quiet (opStr rfl rfl rfl rfl)) ?_
    refine ASL.done ?_
    refine AWP.ifB hF rfl (fun hc2 hF => ?_) (fun hc2 hF => ?_)
    · skip
      refine AWP.seqR rfl ?_
      refine ASL.q (v := (.bool false)) rfl rfl (Light.quiet (opAssign rfl rfl)) ?_
      refine ASL.done ?_
      refine AWP.ret ?_
      refine QThen.rt ?_
      obtain rfl := someE hF
      exact QRet.sole (v := (.bool false)) ⟨rfl, trivial⟩ rfl
    · skip
      refine AWP.skip ?_
      refine QThen.nrm ?_
      refine AWP.seq ?_
      refine AWP.seqR rfl ?_
      refine ASL.q (v := (.list 2 (List.map TOmega.av a16))) rfl rfl (Light.quiet (opMove rfl rfl)) ?_
      refine ASL.q (v := (.list 2 (List.map TOmega.av p0))) rfl rfl (Light.quiet (opMove rfl rfl)) ?_
      obtain ⟨a24, ha24, hF⟩ := bindE hF
      refine ASL.q (v := (.list 2 (List.map TOmega.av a24))) rfl rfl ((qCall rfl rfl call_15 (PO.list (laws_toOmegaS_ok ha24)) rfl)) ?_
      obtain ⟨a25, ha25, hF⟩ := bindE hF
      refine ASL.q (v := (.bool a25)) rfl rfl ((qCall rfl rfl call_17 (laws_eqOmegaS_ok ha25) rfl)) ?_
      refine ASL.q (v := (.bool (!a25))) rfl rfl (Light.quiet (opNot rfl rfl)) ?_
      refine ASL.done ?_
      refine AWP.ifB hF rfl (fun hc3 hF => ?_) (fun hc3 hF => ?_)
      · skip
        refine AWP.seqR rfl ?_
        refine ASL.q (v := (.bool false)) rfl rfl (Light.quiet (opAssign rfl rfl)) ?_
        refine ASL.done ?_
        refine AWP.ret ?_
        refine QThen.rt ?_
        obtain rfl := someE hF
        exact QRet.sole (v := (.bool false)) ⟨rfl, trivial⟩ rfl
      · skip
        refine AWP.skip ?_
        refine QThen.nrm ?_
        refine AWP.seqR rfl ?_
        refine ASL.q (v := (.bool true)) rfl rfl (Light.quiet (opAssign rfl rfl)) ?_
        refine ASL.done ?_
        refine AWP.ret ?_
        obtain rfl := someE hF
        exact QRet.sole (v := (.bool true)) ⟨rfl, trivial⟩ rfl

end Go.Proofs.Ytmmgpcnngaekoaa
