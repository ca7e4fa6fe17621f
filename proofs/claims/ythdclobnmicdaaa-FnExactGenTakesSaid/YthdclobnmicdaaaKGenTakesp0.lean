/- Each of these functions of the program comes to just what its plain function says: FnExactGenTakes. -/
import Derived.Test.YthdclobnmicdaaaDGenTakes
import Derived.Test.YthdclobnmicdaaaFa
import Derived.Test.YthdclobnmicdaaaLV
namespace Go.Proofs.Ythdclobnmicdaaa
open Go Go.RowKit E
set_option linter.unusedVariables false
set_option maxRecDepth 10000 in
theorem laws_szGEdgeS_ok (p0 : (List TGEdge)) (p1 : Int) : PC Try.prog 73 [(.list 4 (List.map TGEdge.av p0)), (.int .i64 p1)] fun v => v = (.int .i64 (laws_szGEdgeS p0 p1)) := by
  generalize hF : laws_szGEdgeS p0 p1 = r
  refine PC.enter Try.func73 rfl Try.ntmps73 (by simp) ?_
  have hS := Sep.void; unfold laws_szGEdgeS at hF
  refine AWP.seqR rfl ?_
  refine ASL.q (v := (.int .i64 0)) rfl rfl (Light.quiet (opAssign rfl rfl)) ?_
  refine ASL.done ?_
  refine AWP.seqR rfl ?_
  refine ASL.q (v := (.int .i64 p1)) rfl rfl (Light.quiet (opMove rfl rfl)) ?_
  refine ASL.q (v := (.list 4 (List.map TGEdge.av p0))) rfl rfl (Light.quiet (opMove rfl rfl)) ?_
  refine ASL.q (v := (.int .i64 (p0.length : Int))) rfl rfl (Light.quiet (opLenMap (f := TGEdge.av) rfl rfl rfl lenT_50 rfl)) ?_
  refine ASL.q (v := (.int .i64 (W (p1 - ((p0.length : Int)))))) rfl rfl (Light.quiet (opInt rfl rfl rfl rfl)) ?_
  refine ASL.q (v := (.int .i64 (W (p1 - ((p0.length : Int)))))) rfl rfl (Light.quiet (opAssign rfl rfl)) ?_
  refine ASL.done ?_
  refine AWP.seq ?_
  refine AWP.seqR rfl ?_
  refine ASL.q (v := (.int .i64 (W (p1 - ((p0.length : Int)))))) rfl rfl (Light.quiet (opMove rfl rfl)) ?_
  refine ASL.q (v := (.bool (decide (((W (p1 - ((p0.length : Int))))) < 0)))) rfl rfl (Light.quiet (opInt rfl rfl rfl rfl)) ?_
  refine ASL.done ?_
  refine AWP.ifP hF rfl (fun hc1 hF => ?_) (fun hc1 hF => ?_)
  · skip
    refine AWP.seqR rfl ?_
    refine ASL.q (v := (.int .i64 (-1))) rfl rfl (Light.quiet (opAssign rfl rfl)) ?_
    refine ASL.done ?_
    refine AWP.ret ?_
    refine QThen.rt ?_
    obtain rfl := hF
    exact QRet.sole (v := (.int .i64 (-1))) ⟨rfl, trivial⟩ rfl
  · skip
    refine AWP.skip ?_
    refine QThen.nrm ?_
    refine AWP.seqR rfl ?_
    refine ASL.q (v := (.int .i64 (W (p1 - ((p0.length : Int)))))) rfl rfl (Light.quiet (opMove rfl rfl)) ?_
    refine ASL.q (v := (.int .i64 (W (p1 - ((p0.length : Int)))))) rfl rfl (Light.quiet (opAssign rfl rfl)) ?_
    refine ASL.done ?_
    refine AWP.ret ?_
    obtain rfl := hF
    exact QRet.sole (v := (.int .i64 (W (p1 - ((p0.length : Int)))))) ⟨rfl, trivial⟩ rfl

set_option maxRecDepth 10000 in
theorem laws_szGen_ok (p0 : TGen) (p1 : Int) : PC Try.prog 32 [(TGen.av p0), (.int .i64 p1)] fun v => v = (.int .i64 (laws_szGen p0 p1)) := by
  generalize hF : laws_szGen p0 p1 = r
  refine PC.enter Try.func32 rfl Try.ntmps32 (by simp) ?_
  have hS := Sep.void; unfold laws_szGen at hF
  refine AWP.seqR rfl ?_
  refine ASL.q (v := (.rptr [(.int .i64 p0.letters), (.int .i64 p0.states), (.int .i64 p0.start), (.int .i64 p0.sets), (.list 4 (List.map TGEdge.av p0.edges))])) rfl rfl ((qBoxI (v := (TGen.av p0)) rfl rfl rfl rfl)) ?_
  refine ASL.q (v := (.int .i64 0)) rfl rfl (Light.quiet (opAssign rfl rfl)) ?_
  refine ASL.done ?_
  refine AWP.seqR rfl ?_
  refine ASL.q (v := (.rptr [(.list 4 (List.map TGEdge.av p0.edges))])) rfl rfl (Light.quiet (opFieldAddrR rfl fieldA_52_4 rfl rfl)) ?_
  refine ASL.q (v := (.list 4 (List.map TGEdge.av p0.edges))) rfl rfl (Light.quiet (opLoadR rfl aggA_50 rfl rfl)) ?_
  refine ASL.q (v := (.int .i64 p1)) rfl rfl (Light.quiet (opMove rfl rfl)) ?_
  refine ASL.q (v := (.int .i64 (laws_szGEdgeS p0.edges p1))) rfl rfl ((qCall rfl rfl call_73 (laws_szGEdgeS_ok p0.edges p1) rfl)) ?_
  refine ASL.q (v := (.int .i64 (laws_szGEdgeS p0.edges p1))) rfl rfl (Light.quiet (opAssign rfl rfl)) ?_
  refine ASL.done ?_
  refine AWP.seq ?_
  refine AWP.seqR rfl ?_
  refine ASL.q (v := (.int .i64 (laws_szGEdgeS p0.edges p1))) rfl rfl (Light.quiet (opMove rfl rfl)) ?_
  refine ASL.q (v := (.bool (decide (((laws_szGEdgeS p0.edges p1)) < 0)))) rfl rfl (Light.quiet (opInt rfl rfl rfl rfl)) ?_
  refine ASL.done ?_
  refine AWP.ifP hF rfl (fun hc1 hF => ?_) (fun hc1 hF => ?_)
  · skip
    refine AWP.seqR rfl ?_
    refine ASL.q (v := (.int .i64 (-1))) rfl rfl (Light.quiet (opAssign rfl rfl)) ?_
    refine ASL.done ?_
    refine AWP.ret ?_
    refine QThen.rt ?_
    obtain rfl := hF
    exact QRet.sole (v := (.int .i64 (-1))) ⟨rfl, trivial⟩ rfl
  · skip
    refine AWP.skip ?_
    refine QThen.nrm ?_
    refine AWP.seqR rfl ?_
    refine ASL.q (v := (.int .i64 (laws_szGEdgeS p0.edges p1))) rfl rfl (Light.quiet (opMove rfl rfl)) ?_
    refine ASL.q (v := (.int .i64 (laws_szGEdgeS p0.edges p1))) rfl rfl (Light.quiet (opAssign rfl rfl)) ?_
    refine ASL.done ?_
    refine AWP.ret ?_
    obtain rfl := hF
    exact QRet.sole (v := (.int .i64 (laws_szGEdgeS p0.edges p1))) ⟨rfl, trivial⟩ rfl

set_option maxRecDepth 10000 in
theorem laws_szIntS_ok (p0 : (List Int)) (p1 : Int) : PC Try.prog 74 [(.list 1 (List.map (AV.int .i64) p0)), (.int .i64 p1)] fun v => v = (.int .i64 (laws_szIntS p0 p1)) := by
  generalize hF : laws_szIntS p0 p1 = r
  refine PC.enter Try.func74 rfl Try.ntmps74 (by simp) ?_
  have hS := Sep.void; unfold laws_szIntS at hF
  refine AWP.seqR rfl ?_
  refine ASL.q (v := (.int .i64 0)) rfl rfl (Light.quiet (opAssign rfl rfl)) ?_
  refine ASL.done ?_
  refine AWP.seqR rfl ?_
  refine ASL.q (v := (.int .i64 p1)) rfl rfl (Light.quiet (opMove rfl rfl)) ?_
  refine ASL.q (v := (.list 1 (List.map (AV.int .i64) p0))) rfl rfl (Light.quiet (opMove rfl rfl)) ?_
  refine ASL.q (v := (.int .i64 (p0.length : Int))) rfl rfl (Light.quiet (opLenMap (f := (AV.int .i64)) rfl rfl rfl lenT_34 rfl)) ?_
  refine ASL.q (v := (.int .i64 (W (p1 - ((p0.length : Int)))))) rfl rfl (Light.quiet (opInt rfl rfl rfl rfl)) ?_
  refine ASL.q (v := (.int .i64 (W (p1 - ((p0.length : Int)))))) rfl rfl (Light.quiet (opAssign rfl rfl)) ?_
  refine ASL.done ?_
  refine AWP.seq ?_
  refine AWP.seqR rfl ?_
  refine ASL.q (v := (.int .i64 (W (p1 - ((p0.length : Int)))))) rfl rfl (Light.quiet (opMove rfl rfl)) ?_
  refine ASL.q (v := (.bool (decide (((W (p1 - ((p0.length : Int))))) < 0)))) rfl rfl (Light.quiet (opInt rfl rfl rfl rfl)) ?_
  refine ASL.done ?_
  refine AWP.ifP hF rfl (fun hc1 hF => ?_) (fun hc1 hF => ?_)
  · skip
    refine AWP.seqR rfl ?_
    refine ASL.q (v := (.int .i64 (-1))) rfl rfl (Light.quiet (opAssign rfl rfl)) ?_
    refine ASL.done ?_
    refine AWP.ret ?_
    refine QThen.rt ?_
    obtain rfl := hF
    exact QRet.sole (v := (.int .i64 (-1))) ⟨rfl, trivial⟩ rfl
  · skip
    refine AWP.skip ?_
    refine QThen.nrm ?_
    refine AWP.seqR rfl ?_
    refine ASL.q (v := (.int .i64 (W (p1 - ((p0.length : Int)))))) rfl rfl (Light.quiet (opMove rfl rfl)) ?_
    refine ASL.q (v := (.int .i64 (W (p1 - ((p0.length : Int)))))) rfl rfl (Light.quiet (opAssign rfl rfl)) ?_
    refine ASL.done ?_
    refine AWP.ret ?_
    obtain rfl := hF
    exact QRet.sole (v := (.int .i64 (W (p1 - ((p0.length : Int)))))) ⟨rfl, trivial⟩ rfl

set_option maxRecDepth 10000 in
theorem laws_szWord_ok (p0 : TWord) (p1 : Int) : PC Try.prog 33 [(TWord.av p0), (.int .i64 p1)] fun v => v = (.int .i64 (laws_szWord p0 p1)) := by
  generalize hF : laws_szWord p0 p1 = r
  refine PC.enter Try.func33 rfl Try.ntmps33 (by simp) ?_
  have hS := Sep.void; unfold laws_szWord at hF
  refine AWP.seqR rfl ?_
  refine ASL.q (v := (.rptr [(.list 1 (List.map (AV.int .i64) p0.stem)), (.list 1 (List.map (AV.int .i64) p0.loop))])) rfl rfl ((qBoxI (v := (TWord.av p0)) rfl rfl rfl rfl)) ?_
  refine ASL.q (v := (.int .i64 0)) rfl rfl (Light.quiet (opAssign rfl rfl)) ?_
  refine ASL.done ?_
  refine AWP.seqR rfl ?_
  refine ASL.q (v := (.rptr [(.list 1 (List.map (AV.int .i64) p0.stem)), (.list 1 (List.map (AV.int .i64) p0.loop))])) rfl rfl (Light.quiet (opFieldAddrR rfl fieldA_54_0 rfl rfl)) ?_
  refine ASL.q (v := (.list 1 (List.map (AV.int .i64) p0.stem))) rfl rfl (Light.quiet (opLoadR rfl aggA_34 rfl rfl)) ?_
  refine ASL.q (v := (.int .i64 p1)) rfl rfl (Light.quiet (opMove rfl rfl)) ?_
  refine ASL.q (v := (.int .i64 (laws_szIntS p0.stem p1))) rfl rfl ((qCall rfl rfl call_74 (laws_szIntS_ok p0.stem p1) rfl)) ?_
  refine ASL.q (v := (.int .i64 (laws_szIntS p0.stem p1))) rfl rfl (Light.quiet (opAssign rfl rfl)) ?_
  refine ASL.done ?_
  refine AWP.seq ?_
  refine AWP.seqR rfl ?_
  refine ASL.q (v := (.int .i64 (laws_szIntS p0.stem p1))) rfl rfl (Light.quiet (opMove rfl rfl)) ?_
  refine ASL.q (v := (.bool (decide (((laws_szIntS p0.stem p1)) < 0)))) rfl rfl (Light.quiet (opInt rfl rfl rfl rfl)) ?_
  refine ASL.done ?_
  refine AWP.ifP hF rfl (fun hc1 hF => ?_) (fun hc1 hF => ?_)
  · skip
    refine AWP.seqR rfl ?_
    refine ASL.q (v := (.int .i64 (-1))) rfl rfl (Light.quiet (opAssign rfl rfl)) ?_
    refine ASL.done ?_
    refine AWP.ret ?_
    refine QThen.rt ?_
    obtain rfl := hF
    exact QRet.sole (v := (.int .i64 (-1))) ⟨rfl, trivial⟩ rfl
  · skip
    refine AWP.skip ?_
    refine QThen.nrm ?_
    refine AWP.seqR rfl ?_
    refine ASL.q (v := (.rptr [(.list 1 (List.map (AV.int .i64) p0.loop))])) rfl rfl (Light.quiet (opFieldAddrR rfl fieldA_54_1 rfl rfl)) ?_
    refine ASL.q (v := (.list 1 (List.map (AV.int .i64) p0.loop))) rfl rfl (Light.quiet (opLoadR rfl aggA_34 rfl rfl)) ?_
    refine ASL.q (v := (.int .i64 (laws_szIntS p0.stem p1))) rfl rfl (Light.quiet (opMove rfl rfl)) ?_
    refine ASL.q (v := (.int .i64 (laws_szIntS p0.loop ((laws_szIntS p0.stem p1))))) rfl rfl ((qCall rfl rfl call_74 (laws_szIntS_ok p0.loop ((laws_szIntS p0.stem p1))) rfl)) ?_
    refine ASL.q (v := (.int .i64 (laws_szIntS p0.loop ((laws_szIntS p0.stem p1))))) rfl rfl (Light.quiet (opAssign rfl rfl)) ?_
    refine ASL.done ?_
    refine AWP.seq ?_
    refine AWP.seqR rfl ?_
    refine ASL.q (v := (.int .i64 (laws_szIntS p0.loop ((laws_szIntS p0.stem p1))))) rfl rfl (Light.quiet (opMove rfl rfl)) ?_
    refine ASL.q (v := (.bool (decide (((laws_szIntS p0.loop ((laws_szIntS p0.stem p1)))) < 0)))) rfl rfl (Light.quiet (opInt rfl rfl rfl rfl)) ?_
    refine ASL.done ?_
    refine AWP.ifP hF rfl (fun hc2 hF => ?_) (fun hc2 hF => ?_)
    · skip
      refine AWP.seqR rfl ?_
      refine ASL.q (v := (.int .i64 (-1))) rfl rfl (Light.quiet (opAssign rfl rfl)) ?_
      refine ASL.done ?_
      refine AWP.ret ?_
      refine QThen.rt ?_
      obtain rfl := hF
      exact QRet.sole (v := (.int .i64 (-1))) ⟨rfl, trivial⟩ rfl
    · skip
      refine AWP.skip ?_
      refine QThen.nrm ?_
      refine AWP.seqR rfl ?_
      refine ASL.q (v := (.int .i64 (laws_szIntS p0.loop ((laws_szIntS p0.stem p1))))) rfl rfl (Light.quiet (opMove rfl rfl)) ?_
      refine ASL.q (v := (.int .i64 (laws_szIntS p0.loop ((laws_szIntS p0.stem p1))))) rfl rfl (Light.quiet (opAssign rfl rfl)) ?_
      refine ASL.done ?_
      refine AWP.ret ?_
      obtain rfl := hF
      exact QRet.sole (v := (.int .i64 (laws_szIntS p0.loop ((laws_szIntS p0.stem p1))))) ⟨rfl, trivial⟩ rfl

set_option maxRecDepth 10000 in
theorem laws_toGEdge_ok (p0 : TGEdge) : PC Try.prog 110 [(TGEdge.av p0)] fun v => v = (TGEdge.av (laws_toGEdge p0)) := by
  generalize hF : laws_toGEdge p0 = r
  refine PC.enter Try.func110 rfl Try.ntmps110 (by simp) ?_
  have hS := Sep.void; unfold laws_toGEdge at hF
  refine AWP.seqR rfl ?_
  refine ASL.q (v := (.rptr [(.int .i64 p0.from_), (.int .i64 p0.letter), (.int .i64 p0.to_), (.int .i64 p0.marks)])) rfl rfl ((qBoxI (v := (TGEdge.av p0)) rfl rfl rfl rfl)) ?_
  refine ASL.x rfl rfl (hNewZ hS [(.int .i64 0), (.int .i64 0), (.int .i64 0), (.int .i64 0)] rfl zeroA_99 ⟨.inl rfl, .inl rfl, .inl rfl, .inl rfl, trivial⟩ ?_); rintro b2 G1 hK hS
  refine ASL.done ?_
  refine AWP.seqR rfl ?_
  refine ASL.x rfl rfl (hNewZ hS [(.int .i64 0), (.int .i64 0), (.int .i64 0), (.int .i64 0)] rfl zeroA_99 ⟨.inl rfl, .inl rfl, .inl rfl, .inl rfl, trivial⟩ ?_); rintro b3 G3 hK hS
  refine ASL.done ?_
  refine AWP.seqR rfl ?_
  refine ASL.q (v := (.rptr [(.int .i64 p0.from_), (.int .i64 p0.letter), (.int .i64 p0.to_), (.int .i64 p0.marks)])) rfl rfl (Light.quiet (opFieldAddrR rfl fieldA_132_0 rfl rfl)) ?_
  refine ASL.q (v := (.int .i64 p0.from_)) rfl rfl (Light.quiet (opLoadR rfl aggA_3 rfl rfl)) ?_
  refine ASL.q (v := (.ptr b3 0)) rfl rfl (Light.quiet (opFieldAddr rfl fieldA_99_0 rfl rfl)) ?_
  refine ASL.n rfl rfl (hPut hS (j := 0) rfl rfl sizeA_3 rfl rfl rfl (nlt rfl) ?_); rintro G5 hS
  refine ASL.done ?_
  refine AWP.seqR rfl ?_
  refine ASL.q (v := (.rptr [(.int .i64 p0.letter), (.int .i64 p0.to_), (.int .i64 p0.marks)])) rfl rfl (Light.quiet (opFieldAddrR rfl fieldA_132_1 rfl rfl)) ?_
  refine ASL.q (v := (.int .i64 p0.letter)) rfl rfl (Light.quiet (opLoadR rfl aggA_3 rfl rfl)) ?_
  refine ASL.q (v := (.ptr b3 1)) rfl rfl (Light.quiet (opFieldAddr rfl fieldA_99_1 rfl rfl)) ?_
  refine ASL.n rfl rfl (hPut hS (j := 0) rfl rfl sizeA_3 rfl rfl rfl (nlt rfl) ?_); rintro G6 hS
  refine ASL.done ?_
  refine AWP.seqR rfl ?_
  refine ASL.q (v := (.rptr [(.int .i64 p0.to_), (.int .i64 p0.marks)])) rfl rfl (Light.quiet (opFieldAddrR rfl fieldA_132_2 rfl rfl)) ?_
  refine ASL.q (v := (.int .i64 p0.to_)) rfl rfl (Light.quiet (opLoadR rfl aggA_3 rfl rfl)) ?_
  refine ASL.q (v := (.ptr b3 2)) rfl rfl (Light.quiet (opFieldAddr rfl fieldA_99_2 rfl rfl)) ?_
  refine ASL.n rfl rfl (hPut hS (j := 0) rfl rfl sizeA_3 rfl rfl rfl (nlt rfl) ?_); rintro G7 hS
  refine ASL.done ?_
  refine AWP.seqR rfl ?_
  refine ASL.q (v := (.rptr [(.int .i64 p0.marks)])) rfl rfl (Light.quiet (opFieldAddrR rfl fieldA_132_3 rfl rfl)) ?_
  refine ASL.q (v := (.int .i64 p0.marks)) rfl rfl (Light.quiet (opLoadR rfl aggA_3 rfl rfl)) ?_
  refine ASL.q (v := (.ptr b3 3)) rfl rfl (Light.quiet (opFieldAddr rfl fieldA_99_3 rfl rfl)) ?_
  refine ASL.n rfl rfl (hPut hS (j := 0) rfl rfl sizeA_3 rfl rfl rfl (nlt rfl) ?_); rintro G8 hS
  refine ASL.done ?_
  refine AWP.seqR rfl ?_
  refine ASL.q (v := (TGEdge.av p0)) rfl rfl (Light.quiet (kAtA hS (j := 0) rfl rfl aggA_99 sizeA_99 rfl (nlt rfl) rfl)) ?_
  refine ASL.n rfl rfl (hPutA hS (j := 1) rfl rfl sizeA_99 rfl rfl rfl rfl rfl (nlt rfl) ?_); rintro G9 hS
  refine ASL.done ?_
  refine AWP.ret ?_
  obtain rfl := hF
  exact QRet.sole (v := (TGEdge.av p0)) ⟨resOne.at hS (k := 1) rfl rfl aggA_99 sizeA_99, trivial⟩ rfl

set_option maxRecDepth 10000 in
theorem laws_toGEdgeS_ok {p0 : (List TGEdge)} {r : (List TGEdge)} (hF : laws_toGEdgeS p0 = some r) : PO Try.prog 81 [(.list 4 (List.map TGEdge.av p0))] 4 (List.map TGEdge.av r) := by
  refine HC.enter Try.func81 rfl Try.ntmps81 (by simp) ?_
  have hS := Sep.void; unfold laws_toGEdgeS at hF
  refine AWP.seqR rfl ?_
  have hS := hNil (s := 4) (f := TGEdge.av) hS
  refine ASL.q (v := .nil) rfl rfl (Light.quiet (opAssign rfl rfl)) ?_
  refine ASL.done ?_
  refine AWP.seqR rfl ?_
  refine ASL.q (v := (.list 4 (List.map TGEdge.av p0))) rfl rfl (Light.quiet (opMove rfl rfl)) ?_
  refine ASL.q (v := (.int .i64 (p0.length : Int))) rfl rfl (Light.quiet (opLenMap (f := TGEdge.av) rfl rfl rfl lenT_50 rfl)) ?_
  obtain ⟨z7, hz7, hF⟩ := bindE hF
  refine ASL.x rfl rfl (hMk (f := TGEdge.av) hS hz7 (by decide) rfl elemA_58 sizeA_99 bytesA_99 zeroA_99 rfl rfl (by decide) rfl rfl ?_); rintro v7 G2 hK hS
  refine ASL.q (v := v7) rfl rfl (Light.quiet (opAssign rfl rfl)) ?_
  refine ASL.done ?_
  refine AWP.seqM (fun e H => ∃ y4 : (List TGEdge), E.Told e [(3, v7)] ∧ E.Sep H [.row 4 v7 (List.map TGEdge.av y4)] ∧ laws_toGEdgeS.k0 y4 = some r) ?_ ?_
  · rintro e0 G5 ⟨y4, hT, hS, hF⟩; refine AWP.only _ hT ?_; unfold laws_toGEdgeS.k0 at hF
    refine AWP.seqR rfl ?_
    refine ASL.q (v := v7) rfl rfl (Light.quiet (opMove rfl rfl)) ?_
    refine ASL.q (v := v7) rfl rfl (Light.quiet (opAssign rfl rfl)) ?_
    refine ASL.done ?_
    refine AWP.ret ?_
    obtain rfl := someE hF
    exact QRet.sole (v := v7) ⟨rfl, trivial⟩ (hS.get (k := 0) rfl)
  · skip
    refine AWP.seqR rfl ?_
    refine ASL.q (v := (.int .i64 0)) rfl rfl (Light.quiet (opAssign rfl rfl)) ?_
    refine ASL.done ?_
    refine AWP.block ?_
    obtain ⟨o10, hL9, hR11⟩ := bindE hF
    refine AWP.loopF (ω := Unit) hL9 (fun s w => [(0, (.list 4 (List.map TGEdge.av p0))), (3, v7), (4, (.int .i64 s.2))]) (fun s w => [.row 4 v7 (List.map TGEdge.av s.1)]) () ⟨rfl, rfl, rfl, trivial⟩ (hS.pick [0] rfl rfl) ?_
    rintro ⟨y6, x4_l0⟩ _ G12 hS x7 hF hx8
    try dsimp only at hS ⊢
    have hF : laws_toGEdgeS.b0 p0 y6 x4_l0 = some x7 := hF; unfold laws_toGEdgeS.b0 at hF
    refine AWP.seq ?_
    refine AWP.seqR rfl ?_
    refine ASL.q (v := (.int .i64 x4_l0)) rfl rfl (Light.quiet (opMove rfl rfl)) ?_
    refine ASL.q (v := (.list 4 (List.map TGEdge.av p0))) rfl rfl (Light.quiet (opMove rfl rfl)) ?_
    refine ASL.q (v := (.int .i64 (p0.length : Int))) rfl rfl (Light.quiet (opLenMap (f := TGEdge.av) rfl rfl rfl lenT_50 rfl)) ?_
    refine ASL.q (v := (.bool (decide (x4_l0 < ((p0.length : Int)))))) rfl rfl (Light.quiet (opInt rfl rfl rfl rfl)) ?_
    refine ASL.done ?_
    refine AWP.ifP hF rfl (fun hc13 hF => ?_) (fun hc13 hF => ?_)
    · skip
      refine AWP.skip ?_
      refine QThen.nrm ?_
      refine AWP.seq ?_
      refine AWP.block ?_
      refine AWP.lastR rfl ?_
      refine ASL.q (v := v7) rfl rfl (Light.quiet (opMove rfl rfl)) ?_
      refine ASL.q (v := (.int .i64 x4_l0)) rfl rfl (Light.quiet (opMove rfl rfl)) ?_
      refine ASL.q (v := (.list 4 (List.map TGEdge.av p0))) rfl rfl (Light.quiet (opMove rfl rfl)) ?_
      refine ASL.q (v := (.int .i64 x4_l0)) rfl rfl (Light.quiet (opMove rfl rfl)) ?_
      obtain ⟨a18, ha18, hF⟩ := bindE hF
      refine ASL.q (v := (.rptr [(.int .i64 a18.from_), (.int .i64 a18.letter), (.int .i64 a18.to_), (.int .i64 a18.marks)])) rfl rfl (Light.quiet (kIx (f := TGEdge.av) ha18 rfl rfl rfl elemA_50 sizeA_132 rfl)) ?_
      refine ASL.q (v := (TGEdge.av a18)) rfl rfl (Light.quiet (opLoadRA rfl aggA_132 sizeA_132 rfl (nlt rfl) rfl)) ?_
      refine ASL.q (v := (TGEdge.av (laws_toGEdge a18))) rfl rfl ((qCall rfl rfl call_110 (laws_toGEdge_ok a18) rfl)) ?_
      obtain ⟨m21, hm21, hF⟩ := bindE hF
      refine ASL.q (v := (ptrTo v7 m21 4)) rfl rfl (Light.quiet (kIxO hS (j := 0) rfl hm21 rfl rfl rfl elemA_58 sizeA_99)) ?_
      refine ASL.n rfl rfl (hSt (f := TGEdge.av) (a := (laws_toGEdge a18)) hS (j := 0) rfl hm21 rfl sizeA_99 rfl rfl ⟨rfl, rfl, rfl⟩ ?_); rintro G14 hS
      refine ASL.done ?_
      refine QBlock.nrm ?_
      refine QThen.nrm ?_
      refine AWP.lastR rfl ?_
      refine ASL.q (v := (.int .i64 x4_l0)) rfl rfl (Light.quiet (opMove rfl rfl)) ?_
      refine ASL.q (v := (.int .i64 (W (x4_l0 + 1)))) rfl rfl (Light.quiet (opInt rfl rfl rfl rfl)) ?_
      refine ASL.q (v := (.int .i64 (W (x4_l0 + 1)))) rfl rfl (Light.quiet (opAssign rfl rfl)) ?_
      refine ASL.done ?_
      refine QThen.nrm ?_
      exact ⟨((y6.set m21 ((laws_toGEdge a18))), (W (x4_l0 + 1))), (), (someE hF).symm, ⟨rfl, rfl, rfl, trivial⟩, (hS.pick [0] rfl rfl)⟩
    · skip
      refine AWP.exit ?_
      refine QThen.ext ?_
      refine QThen.ext ?_
      refine QBlock.hit ?_
      obtain rfl := (hx8 _ (someE hF).symm)
      have hF := hR11
      refine QThen.nrm ?_
      exact ⟨y6, ⟨rfl, trivial⟩, (hS.pick [0] rfl rfl), hF⟩

set_option maxRecDepth 10000 in
theorem laws_toGen_ok {p0 : TGen} {r : TGen} (hF : laws_toGen p0 = some r) : HS Try.prog 35 [(TGen.av p0)] [] fun v L' => ∃ o0_Edges : AV, v = (.agg [(.int .i64 r.letters), (.int .i64 r.states), (.int .i64 r.start), (.int .i64 r.sets), o0_Edges]) ∧ L' = [.row 4 o0_Edges (List.map TGEdge.av r.edges)] := by
  intro H S hS
  refine HC.enter Try.func35 rfl Try.ntmps35 (by simp) ?_
  simp only [List.cons_append, List.nil_append] at hS
  unfold laws_toGen at hF
  refine AWP.seqR rfl ?_
  refine ASL.q (v := (.rptr [(.int .i64 p0.letters), (.int .i64 p0.states), (.int .i64 p0.start), (.int .i64 p0.sets), (.list 4 (List.map TGEdge.av p0.edges))])) rfl rfl ((qBoxI (v := (TGen.av p0)) rfl rfl rfl rfl)) ?_
  have hS := hNil (s := 4) (f := TGEdge.av) hS
  refine ASL.x rfl rfl (hNewZ hS [(.int .i64 0), (.int .i64 0), (.int .i64 0), (.int .i64 0), .nil] rfl zeroA_60 ⟨.inl rfl, .inl rfl, .inl rfl, .inl rfl, .inl rfl, trivial⟩ ?_); rintro b2 G1 hK hS
  refine ASL.done ?_
  refine AWP.seqR rfl ?_
  have hS := hNil (s := 4) (f := TGEdge.av) hS
  refine ASL.x rfl rfl (hNewZ hS [(.int .i64 0), (.int .i64 0), (.int .i64 0), (.int .i64 0), .nil] rfl zeroA_60 ⟨.inl rfl, .inl rfl, .inl rfl, .inl rfl, .inl rfl, trivial⟩ ?_); rintro b3 G4 hK hS
  refine ASL.done ?_
  refine AWP.seqR rfl ?_
  refine ASL.q (v := (.rptr [(.int .i64 p0.letters), (.int .i64 p0.states), (.int .i64 p0.start), (.int .i64 p0.sets), (.list 4 (List.map TGEdge.av p0.edges))])) rfl rfl (Light.quiet (opFieldAddrR rfl fieldA_52_0 rfl rfl)) ?_
  refine ASL.q (v := (.int .i64 p0.letters)) rfl rfl (Light.quiet (opLoadR rfl aggA_3 rfl rfl)) ?_
  refine ASL.q (v := (.ptr b3 0)) rfl rfl (Light.quiet (opFieldAddr rfl fieldA_60_0 rfl rfl)) ?_
  refine ASL.n rfl rfl (hPut hS (j := 0) rfl rfl sizeA_3 rfl rfl rfl (nlt rfl) ?_); rintro G7 hS
  refine ASL.done ?_
  refine AWP.seqR rfl ?_
  refine ASL.q (v := (.rptr [(.int .i64 p0.states), (.int .i64 p0.start), (.int .i64 p0.sets), (.list 4 (List.map TGEdge.av p0.edges))])) rfl rfl (Light.quiet (opFieldAddrR rfl fieldA_52_1 rfl rfl)) ?_
  refine ASL.q (v := (.int .i64 p0.states)) rfl rfl (Light.quiet (opLoadR rfl aggA_3 rfl rfl)) ?_
  refine ASL.q (v := (.ptr b3 1)) rfl rfl (Light.quiet (opFieldAddr rfl fieldA_60_1 rfl rfl)) ?_
  refine ASL.n rfl rfl (hPut hS (j := 0) rfl rfl sizeA_3 rfl rfl rfl (nlt rfl) ?_); rintro G8 hS
  refine ASL.done ?_
  refine AWP.seqR rfl ?_
  refine ASL.q (v := (.rptr [(.int .i64 p0.start), (.int .i64 p0.sets), (.list 4 (List.map TGEdge.av p0.edges))])) rfl rfl (Light.quiet (opFieldAddrR rfl fieldA_52_2 rfl rfl)) ?_
  refine ASL.q (v := (.int .i64 p0.start)) rfl rfl (Light.quiet (opLoadR rfl aggA_3 rfl rfl)) ?_
  refine ASL.q (v := (.ptr b3 2)) rfl rfl (Light.quiet (opFieldAddr rfl fieldA_60_2 rfl rfl)) ?_
  refine ASL.n rfl rfl (hPut hS (j := 0) rfl rfl sizeA_3 rfl rfl rfl (nlt rfl) ?_); rintro G9 hS
  refine ASL.done ?_
  refine AWP.seqR rfl ?_
  refine ASL.q (v := (.rptr [(.int .i64 p0.sets), (.list 4 (List.map TGEdge.av p0.edges))])) rfl rfl (Light.quiet (opFieldAddrR rfl fieldA_52_3 rfl rfl)) ?_
  refine ASL.q (v := (.int .i64 p0.sets)) rfl rfl (Light.quiet (opLoadR rfl aggA_3 rfl rfl)) ?_
  refine ASL.q (v := (.ptr b3 3)) rfl rfl (Light.quiet (opFieldAddr rfl fieldA_60_3 rfl rfl)) ?_
  refine ASL.n rfl rfl (hPut hS (j := 0) rfl rfl sizeA_3 rfl rfl rfl (nlt rfl) ?_); rintro G10 hS
  refine ASL.done ?_
  refine AWP.seqR rfl ?_
  refine ASL.q (v := (.rptr [(.list 4 (List.map TGEdge.av p0.edges))])) rfl rfl (Light.quiet (opFieldAddrR rfl fieldA_52_4 rfl rfl)) ?_
  refine ASL.q (v := (.list 4 (List.map TGEdge.av p0.edges))) rfl rfl (Light.quiet (opLoadR rfl aggA_50 rfl rfl)) ?_
  obtain ⟨a18, ha18, hF⟩ := bindE hF
  refine ASL.x rfl rfl (hCallO hS rfl rfl call_81 (laws_toGEdgeS_ok ha18) rfl ?_); rintro v18 G11 hK hS
  refine ASL.q (v := (.ptr b3 4)) rfl rfl (Light.quiet (opFieldAddr rfl fieldA_60_4 rfl rfl)) ?_
  refine ASL.n rfl rfl (hPut hS (j := 1) rfl rfl sizeA_58 rfl rfl (hS.one (k := 0) rfl) (nlt rfl) ?_); rintro G13 hS
  refine ASL.done ?_
  refine AWP.seqR rfl ?_
  refine ASL.q (v := (.agg [(.int .i64 p0.letters), (.int .i64 p0.states), (.int .i64 p0.start), (.int .i64 p0.sets), v18])) rfl rfl (Light.quiet (kAtA hS (j := 1) rfl rfl aggA_60 sizeA_60 rfl (nlt rfl) rfl)) ?_
  refine ASL.n rfl rfl (hPutA hS (j := 3) rfl rfl sizeA_60 rfl rfl rfl rfl (allC rfl (allC rfl (allC rfl (allC rfl (allC (hS.one (k := 0) rfl) rfl))))) (nlt rfl) ?_); rintro G14 hS
  refine ASL.done ?_
  refine AWP.ret ?_
  obtain rfl := someE hF
  exact QRet.sole (v := (.agg [(.int .i64 p0.letters), (.int .i64 p0.states), (.int .i64 p0.start), (.int .i64 p0.sets), v18])) ⟨resOne.at hS (k := 3) rfl rfl aggA_60 sizeA_60, trivial⟩ ⟨_, ⟨v18, rfl, rfl⟩, hS.pick [0, 5] rfl rfl⟩

set_option maxRecDepth 10000 in
theorem laws_toIntS_ok {p0 : (List Int)} {r : (List Int)} (hF : laws_toIntS p0 = some r) : PO Try.prog 82 [(.list 1 (List.map (AV.int .i64) p0))] 1 (List.map (AV.int .i64) r) := by
  refine HC.enter Try.func82 rfl Try.ntmps82 (by simp) ?_
  have hS := Sep.void; unfold laws_toIntS at hF
  refine AWP.seqR rfl ?_
  have hS := hNil (s := 1) (f := (AV.int .i64)) hS
  refine ASL.q (v := .nil) rfl rfl (Light.quiet (opAssign rfl rfl)) ?_
  refine ASL.done ?_
  refine AWP.seqR rfl ?_
  refine ASL.q (v := (.list 1 (List.map (AV.int .i64) p0))) rfl rfl (Light.quiet (opMove rfl rfl)) ?_
  refine ASL.q (v := (.int .i64 (p0.length : Int))) rfl rfl (Light.quiet (opLenMap (f := (AV.int .i64)) rfl rfl rfl lenT_34 rfl)) ?_
  obtain ⟨z7, hz7, hF⟩ := bindE hF
  refine ASL.x rfl rfl (hMk (f := (AV.int .i64)) hS hz7 (by decide) rfl elemA_34 sizeA_3 bytesA_3 zeroA_3 rfl rfl (by decide) rfl rfl ?_); rintro v7 G2 hK hS
  refine ASL.q (v := v7) rfl rfl (Light.quiet (opAssign rfl rfl)) ?_
  refine ASL.done ?_
  refine AWP.seqM (fun e H => ∃ y4 : (List Int), E.Told e [(3, v7)] ∧ E.Sep H [.row 1 v7 (List.map (AV.int .i64) y4)] ∧ laws_toIntS.k0 y4 = some r) ?_ ?_
  · rintro e0 G5 ⟨y4, hT, hS, hF⟩; refine AWP.only _ hT ?_; unfold laws_toIntS.k0 at hF
    refine AWP.seqR rfl ?_
    refine ASL.q (v := v7) rfl rfl (Light.quiet (opMove rfl rfl)) ?_
    refine ASL.q (v := v7) rfl rfl (Light.quiet (opAssign rfl rfl)) ?_
    refine ASL.done ?_
    refine AWP.ret ?_
    obtain rfl := someE hF
    exact QRet.sole (v := v7) ⟨rfl, trivial⟩ (hS.get (k := 0) rfl)
  · skip
    refine AWP.seqR rfl ?_
    refine ASL.q (v := (.int .i64 0)) rfl rfl (Light.quiet (opAssign rfl rfl)) ?_
    refine ASL.done ?_
    refine AWP.block ?_
    obtain ⟨o10, hL9, hR11⟩ := bindE hF
    refine AWP.loopF (ω := Unit) hL9 (fun s w => [(0, (.list 1 (List.map (AV.int .i64) p0))), (3, v7), (4, (.int .i64 s.2))]) (fun s w => [.row 1 v7 (List.map (AV.int .i64) s.1)]) () ⟨rfl, rfl, rfl, trivial⟩ (hS.pick [0] rfl rfl) ?_
    rintro ⟨y6, x4_l0⟩ _ G12 hS x7 hF hx8
    try dsimp only at hS ⊢
    have hF : laws_toIntS.b0 p0 y6 x4_l0 = some x7 := hF; unfold laws_toIntS.b0 at hF
    refine AWP.seq ?_
    refine AWP.seqR rfl ?_
    refine ASL.q (v := (.int .i64 x4_l0)) rfl rfl (Light.quiet (opMove rfl rfl)) ?_
    refine ASL.q (v := (.list 1 (List.map (AV.int .i64) p0))) rfl rfl (Light.quiet (opMove rfl rfl)) ?_
    refine ASL.q (v := (.int .i64 (p0.length : Int))) rfl rfl (Light.quiet (opLenMap (f := (AV.int .i64)) rfl rfl rfl lenT_34 rfl)) ?_
    refine ASL.q (v := (.bool (decide (x4_l0 < ((p0.length : Int)))))) rfl rfl (Light.quiet (opInt rfl rfl rfl rfl)) ?_
    refine ASL.done ?_
    refine AWP.ifP hF rfl (fun hc13 hF => ?_) (fun hc13 hF => ?_)
    · skip
      refine AWP.skip ?_
      refine QThen.nrm ?_
      refine AWP.seq ?_
      refine AWP.block ?_
      refine AWP.lastR rfl ?_
      refine ASL.q (v := v7) rfl rfl (Light.quiet (opMove rfl rfl)) ?_
      refine ASL.q (v := (.int .i64 x4_l0)) rfl rfl (Light.quiet (opMove rfl rfl)) ?_
      refine ASL.q (v := (.list 1 (List.map (AV.int .i64) p0))) rfl rfl (Light.quiet (opMove rfl rfl)) ?_
      refine ASL.q (v := (.int .i64 x4_l0)) rfl rfl (Light.quiet (opMove rfl rfl)) ?_
      obtain ⟨a18, ha18, hF⟩ := bindE hF
      refine ASL.q (v := (.rptr [(.int .i64 a18)])) rfl rfl (Light.quiet (kIx (f := (AV.int .i64)) ha18 rfl rfl rfl elemA_34 sizeA_3 rfl)) ?_
      refine ASL.q (v := (.int .i64 a18)) rfl rfl (Light.quiet (opLoadR rfl aggA_3 rfl rfl)) ?_
      obtain ⟨m20, hm20, hF⟩ := bindE hF
      refine ASL.q (v := (ptrTo v7 m20 1)) rfl rfl (Light.quiet (kIxO hS (j := 0) rfl hm20 rfl rfl rfl elemA_34 sizeA_3)) ?_
      refine ASL.n rfl rfl (hSt (f := (AV.int .i64)) (a := a18) hS (j := 0) rfl hm20 rfl sizeA_3 rfl rfl ⟨rfl, rfl, rfl⟩ ?_); rintro G14 hS
      refine ASL.done ?_
      refine QBlock.nrm ?_
      refine QThen.nrm ?_
      refine AWP.lastR rfl ?_
      refine ASL.q (v := (.int .i64 x4_l0)) rfl rfl (Light.quiet (opMove rfl rfl)) ?_
      refine ASL.q (v := (.int .i64 (W (x4_l0 + 1)))) rfl rfl (Light.quiet (opInt rfl rfl rfl rfl)) ?_
      refine ASL.q (v := (.int .i64 (W (x4_l0 + 1)))) rfl rfl (Light.quiet (opAssign rfl rfl)) ?_
      refine ASL.done ?_
      refine QThen.nrm ?_
      exact ⟨((y6.set m20 a18), (W (x4_l0 + 1))), (), (someE hF).symm, ⟨rfl, rfl, rfl, trivial⟩, (hS.pick [0] rfl rfl)⟩
    · skip
      refine AWP.exit ?_
      refine QThen.ext ?_
      refine QThen.ext ?_
      refine QBlock.hit ?_
      obtain rfl := (hx8 _ (someE hF).symm)
      have hF := hR11
      refine QThen.nrm ?_
      exact ⟨y6, ⟨rfl, trivial⟩, (hS.pick [0] rfl rfl), hF⟩

set_option maxRecDepth 10000 in
theorem laws_toWord_ok {p0 : TWord} {r : TWord} (hF : laws_toWord p0 = some r) : HS Try.prog 36 [(TWord.av p0)] [] fun v L' => ∃ o0_Stem : AV, ∃ o0_Loop : AV, v = (.agg [o0_Stem, o0_Loop]) ∧ L' = [.row 1 o0_Stem (List.map (AV.int .i64) r.stem), .row 1 o0_Loop (List.map (AV.int .i64) r.loop)] := by
  intro H S hS
  refine HC.enter Try.func36 rfl Try.ntmps36 (by simp) ?_
  simp only [List.cons_append, List.nil_append] at hS
  unfold laws_toWord at hF
  refine AWP.seqR rfl ?_
  refine ASL.q (v := (.rptr [(.list 1 (List.map (AV.int .i64) p0.stem)), (.list 1 (List.map (AV.int .i64) p0.loop))])) rfl rfl ((qBoxI (v := (TWord.av p0)) rfl rfl rfl rfl)) ?_
  have hS := hNil (s := 1) (f := (AV.int .i64)) hS
  have hS := hNil (s := 1) (f := (AV.int .i64)) hS
  refine ASL.x rfl rfl (hNewZ hS [.nil, .nil] rfl zeroA_62 ⟨.inl rfl, .inl rfl, trivial⟩ ?_); rintro b2 G1 hK hS
  refine ASL.done ?_
  refine AWP.seqR rfl ?_
  have hS := hNil (s := 1) (f := (AV.int .i64)) hS
  have hS := hNil (s := 1) (f := (AV.int .i64)) hS
  refine ASL.x rfl rfl (hNewZ hS [.nil, .nil] rfl zeroA_62 ⟨.inl rfl, .inl rfl, trivial⟩ ?_); rintro b3 G5 hK hS
  refine ASL.done ?_
  refine AWP.seqR rfl ?_
  refine ASL.q (v := (.rptr [(.list 1 (List.map (AV.int .i64) p0.stem)), (.list 1 (List.map (AV.int .i64) p0.loop))])) rfl rfl (Light.quiet (opFieldAddrR rfl fieldA_54_0 rfl rfl)) ?_
  refine ASL.q (v := (.list 1 (List.map (AV.int .i64) p0.stem))) rfl rfl (Light.quiet (opLoadR rfl aggA_34 rfl rfl)) ?_
  obtain ⟨a6, ha6, hF⟩ := bindE hF
  refine ASL.x rfl rfl (hCallO hS rfl rfl call_82 (laws_toIntS_ok ha6) rfl ?_); rintro v6 G9 hK hS
  refine ASL.q (v := (.ptr b3 0)) rfl rfl (Light.quiet (opFieldAddr rfl fieldA_62_0 rfl rfl)) ?_
  refine ASL.n rfl rfl (hPut hS (j := 1) rfl rfl sizeA_34 rfl rfl (hS.one (k := 0) rfl) (nlt rfl) ?_); rintro G11 hS
  refine ASL.done ?_
  refine AWP.seqR rfl ?_
  refine ASL.q (v := (.rptr [(.list 1 (List.map (AV.int .i64) p0.loop))])) rfl rfl (Light.quiet (opFieldAddrR rfl fieldA_54_1 rfl rfl)) ?_
  refine ASL.q (v := (.list 1 (List.map (AV.int .i64) p0.loop))) rfl rfl (Light.quiet (opLoadR rfl aggA_34 rfl rfl)) ?_
  obtain ⟨a10, ha10, hF⟩ := bindE hF
  refine ASL.x rfl rfl (hCallO hS rfl rfl call_82 (laws_toIntS_ok ha10) rfl ?_); rintro v10 G12 hK hS
  refine ASL.q (v := (.ptr b3 1)) rfl rfl (Light.quiet (opFieldAddr rfl fieldA_62_1 rfl rfl)) ?_
  refine ASL.n rfl rfl (hPut hS (j := 2) rfl rfl sizeA_34 rfl rfl (hS.one (k := 0) rfl) (nlt rfl) ?_); rintro G14 hS
  refine ASL.done ?_
  refine AWP.seqR rfl ?_
  refine ASL.q (v := (.agg [v6, v10])) rfl rfl (Light.quiet (kAtA hS (j := 2) rfl rfl aggA_62 sizeA_62 rfl (nlt rfl) rfl)) ?_
  refine ASL.n rfl rfl (hPutA hS (j := 5) rfl rfl sizeA_62 rfl rfl rfl rfl (allC (hS.one (k := 1) rfl) (allC (hS.one (k := 0) rfl) rfl)) (nlt rfl) ?_); rintro G15 hS
  refine ASL.done ?_
  refine AWP.ret ?_
  obtain rfl := someE hF
  exact QRet.sole (v := (.agg [v6, v10])) ⟨resOne.at hS (k := 5) rfl rfl aggA_62 sizeA_62, trivial⟩ ⟨_, ⟨v6, v10, rfl, rfl⟩, hS.pick [1, 0, 8] rfl rfl⟩

set_option maxRecDepth 10000 in
theorem spec_l1In_ok (p0 : Int) (p1 : Int) (p2 : Int) : PC Try.prog 89 [(.int .i64 p0), (.int .i64 p1), (.int .i64 p2)] fun v => v = (.bool (spec_l1In p0 p1 p2)) := by
  generalize hF : spec_l1In p0 p1 p2 = r
  refine PC.enter Try.func89 rfl Try.ntmps89 (by simp) ?_
  have hS := Sep.void; unfold spec_l1In at hF
  refine AWP.seqR rfl ?_
  refine ASL.q (v := (.bool false)) rfl rfl (Light.quiet (opAssign rfl rfl)) ?_
  refine ASL.done ?_
  refine AWP.seqR rfl ?_
  refine ASL.q (v := (.int .i64 p0)) rfl rfl (Light.quiet (opMove rfl rfl)) ?_
  refine ASL.q (v := (.int .i64 p1)) rfl rfl (Light.quiet (opMove rfl rfl)) ?_
  refine ASL.q (v := (.bool (decide (p0 ≥ p1)))) rfl rfl (Light.quiet (opInt rfl rfl rfl rfl)) ?_
  obtain ⟨c10, hc10, hF⟩ := bndE hF
  refine ASL.q (v := (.bool c10)) rfl rfl ((Quiet.cast (Light.quiet (opMove rfl rfl)) (congrArg AV.bool hc10.symm))) ?_
  refine ASL.g (v := (.int .i64 p0)) (.bool c10) true rfl (wT _) rfl (fun hG => by have q0 := hG; subst q0; exact Light.quiet (opMove rfl rfl)) ?_
  refine ASL.g (v := (.int .i64 p2)) (.bool c10) true rfl (wT _) rfl (fun hG => by have q0 := hG; subst q0; exact Light.quiet (opMove rfl rfl)) ?_
  refine ASL.g (v := (.bool (decide (p0 ≤ p2)))) (.bool c10) true rfl (wT _) rfl (fun hG => by have q0 := hG; subst q0; exact Light.quiet (opInt rfl rfl rfl rfl)) ?_
  refine ASL.q (v := (.bool (c10 && (decide (p0 ≤ p2))))) rfl rfl (Light.quiet (opPick (b := c10) rfl rfl (by cases c10 <;> rfl))) ?_
  refine ASL.q (v := (.bool (c10 && (decide (p0 ≤ p2))))) rfl rfl (Light.quiet (opAssign rfl rfl)) ?_
  refine ASL.done ?_
  refine AWP.ret ?_
  obtain rfl := hF
  exact QRet.sole (v := (.bool (c10 && (decide (p0 ≤ p2))))) ⟨rfl, trivial⟩ rfl

set_option maxRecDepth 10000 in
theorem spec_SetOk_ok (p0 : Int) : PC Try.prog 105 [(.int .i64 p0)] fun v => v = (.bool (spec_SetOk p0)) := by
  generalize hF : spec_SetOk p0 = r
  refine PC.enter Try.func105 rfl Try.ntmps105 (by simp) ?_
  have hS := Sep.void; unfold spec_SetOk at hF
  refine AWP.seqR rfl ?_
  refine ASL.q (v := (.bool false)) rfl rfl (Light.quiet (opAssign rfl rfl)) ?_
  refine ASL.done ?_
  refine AWP.seqR rfl ?_
  refine ASL.q (v := (.int .i64 p0)) rfl rfl (Light.quiet (opMove rfl rfl)) ?_
  refine ASL.q (v := (.bool (spec_l1In p0 0 2147483647))) rfl rfl ((qCall rfl rfl call_89 (spec_l1In_ok p0 0 2147483647) rfl)) ?_
  refine ASL.q (v := (.bool (spec_l1In p0 0 2147483647))) rfl rfl (Light.quiet (opAssign rfl rfl)) ?_
  refine ASL.done ?_
  refine AWP.ret ?_
  obtain rfl := hF
  exact QRet.sole (v := (.bool (spec_l1In p0 0 2147483647))) ⟨rfl, trivial⟩ rfl

set_option maxRecDepth 10000 in
theorem spec_SetIn_ok (p0 : Int) (p1 : Int) : PC Try.prog 61 [(.int .i64 p0), (.int .i64 p1)] fun v => v = (.bool (spec_SetIn p0 p1)) := by
  generalize hF : spec_SetIn p0 p1 = r
  refine PC.enter Try.func61 rfl Try.ntmps61 (by simp) ?_
  have hS := Sep.void; unfold spec_SetIn at hF
  refine AWP.seqR rfl ?_
  refine ASL.q (v := (.bool false)) rfl rfl (Light.quiet (opAssign rfl rfl)) ?_
  refine ASL.done ?_
  refine AWP.seqR rfl ?_
  refine ASL.q (v := (.int .i64 p0)) rfl rfl (Light.quiet (opMove rfl rfl)) ?_
  refine ASL.q (v := (.bool (spec_SetOk p0))) rfl rfl ((qCall rfl rfl call_105 (spec_SetOk_ok p0) rfl)) ?_
  obtain ⟨c7, hc7, hF⟩ := bndE hF
  refine ASL.q (v := (.bool c7)) rfl rfl ((Quiet.cast (Light.quiet (opMove rfl rfl)) (congrArg AV.bool hc7.symm))) ?_
  refine ASL.g (v := (.int .i64 p1)) (.bool c7) true rfl (wT _) rfl (fun hG => by have q0 := hG; subst q0; exact Light.quiet (opMove rfl rfl)) ?_
  refine ASL.g (v := (.bool (spec_SetOk p1))) (.bool c7) true rfl (wT _) rfl (fun hG => by have q0 := hG; subst q0; exact (qCall rfl rfl call_105 (spec_SetOk_ok p1) rfl)) ?_
  refine ASL.q (v := (.bool (c7 && (spec_SetOk p1)))) rfl rfl (Light.quiet (opPick (b := c7) rfl rfl (by cases c7 <;> rfl))) ?_
  obtain ⟨c11, hc11, hF⟩ := bndE hF
  refine ASL.q (v := (.bool c11)) rfl rfl ((Quiet.cast (Light.quiet (opMove rfl rfl)) (congrArg AV.bool hc11.symm))) ?_
  refine ASL.g (v := (.int .i64 p0)) (.bool c11) true rfl (wT _) rfl (fun hG => by have q0 := hG; subst q0; exact Light.quiet (opMove rfl rfl)) ?_
  refine ASL.g (v := (.int .i64 p1)) (.bool c11) true rfl (wT _) rfl (fun hG => by have q0 := hG; subst q0; exact Light.quiet (opMove rfl rfl)) ?_
  refine ASL.g (v := (.int .i64 (bAnd .i64 p0 p1))) (.bool c11) true rfl (wT _) rfl (fun hG => by have q0 := hG; subst q0; exact Light.quiet (opInt rfl rfl rfl rfl)) ?_
  refine ASL.g (v := (.int .i64 p0)) (.bool c11) true rfl (wT _) rfl (fun hG => by have q0 := hG; subst q0; exact Light.quiet (opMove rfl rfl)) ?_
  refine ASL.g (v := (.bool (decide (((bAnd .i64 p0 p1)) = p0)))) (.bool c11) true rfl (wT _) rfl (fun hG => by have q0 := hG; subst q0; exact Light.quiet (opInt rfl rfl rfl rfl)) ?_
  refine ASL.q (v := (.bool (c11 && (decide (((bAnd .i64 p0 p1)) = p0))))) rfl rfl (Light.quiet (opPick (b := c11) rfl rfl (by cases c11 <;> rfl))) ?_
  refine ASL.q (v := (.bool (c11 && (decide (((bAnd .i64 p0 p1)) = p0))))) rfl rfl (Light.quiet (opAssign rfl rfl)) ?_
  refine ASL.done ?_
  refine AWP.ret ?_
  obtain rfl := hF
  exact QRet.sole (v := (.bool (c11 && (decide (((bAnd .i64 p0 p1)) = p0))))) ⟨rfl, trivial⟩ rfl

set_option maxRecDepth 10000 in
theorem spec_l4State_ok (p0 : Int) (p1 : Int) : PC Try.prog 62 [(.int .i64 p0), (.int .i64 p1)] fun v => v = (.bool (spec_l4State p0 p1)) := by
  generalize hF : spec_l4State p0 p1 = r
  refine PC.enter Try.func62 rfl Try.ntmps62 (by simp) ?_
  have hS := Sep.void; unfold spec_l4State at hF
  refine AWP.seqR rfl ?_
  refine ASL.q (v := (.bool false)) rfl rfl (Light.quiet (opAssign rfl rfl)) ?_
  refine ASL.done ?_
  refine AWP.seqR rfl ?_
  refine ASL.q (v := (.int .i64 p0)) rfl rfl (Light.quiet (opMove rfl rfl)) ?_
  refine ASL.q (v := (.int .i64 p1)) rfl rfl (Light.quiet (opMove rfl rfl)) ?_
  refine ASL.q (v := (.int .i64 (W (p1 - 1)))) rfl rfl (Light.quiet (opInt rfl rfl rfl rfl)) ?_
  refine ASL.q (v := (.bool (spec_l1In p0 0 ((W (p1 - 1)))))) rfl rfl ((qCall rfl rfl call_89 (spec_l1In_ok p0 0 ((W (p1 - 1)))) rfl)) ?_
  refine ASL.q (v := (.bool (spec_l1In p0 0 ((W (p1 - 1)))))) rfl rfl (Light.quiet (opAssign rfl rfl)) ?_
  refine ASL.done ?_
  refine AWP.ret ?_
  obtain rfl := hF
  exact QRet.sole (v := (.bool (spec_l1In p0 0 ((W (p1 - 1)))))) ⟨rfl, trivial⟩ rfl

set_option maxRecDepth 10000 in
theorem spec_l4Less_ok (p0 : TEdge) (p1 : TEdge) : PC Try.prog 90 [(TEdge.av p0), (TEdge.av p1)] fun v => v = (.bool (spec_l4Less p0 p1)) := by
  generalize hF : spec_l4Less p0 p1 = r
  refine PC.enter Try.func90 rfl Try.ntmps90 (by simp) ?_
  have hS := Sep.void; unfold spec_l4Less at hF
  refine AWP.seqR rfl ?_
  refine ASL.q (v := (.rptr [(.int .i64 p0.from_), (.int .i64 p0.letter), (.int .i64 p0.to_), (.bool p0.good)])) rfl rfl ((qBoxI (v := (TEdge.av p0)) rfl rfl rfl rfl)) ?_
  refine ASL.q (v := (.rptr [(.int .i64 p1.from_), (.int .i64 p1.letter), (.int .i64 p1.to_), (.bool p1.good)])) rfl rfl ((qBoxI (v := (TEdge.av p1)) rfl rfl rfl rfl)) ?_
  refine ASL.q (v := (.bool false)) rfl rfl (Light.quiet (opAssign rfl rfl)) ?_
  refine ASL.done ?_
  refine AWP.seq ?_
  refine AWP.seqR rfl ?_
  refine ASL.q (v := (.rptr [(.int .i64 p0.from_), (.int .i64 p0.letter), (.int .i64 p0.to_), (.bool p0.good)])) rfl rfl (Light.quiet (opFieldAddrR rfl fieldA_73_0 rfl rfl)) ?_
  refine ASL.q (v := (.int .i64 p0.from_)) rfl rfl (Light.quiet (opLoadR rfl aggA_3 rfl rfl)) ?_
  refine ASL.q (v := (.rptr [(.int .i64 p1.from_), (.int .i64 p1.letter), (.int .i64 p1.to_), (.bool p1.good)])) rfl rfl (Light.quiet (opFieldAddrR rfl fieldA_73_0 rfl rfl)) ?_
  refine ASL.q (v := (.int .i64 p1.from_)) rfl rfl (Light.quiet (opLoadR rfl aggA_3 rfl rfl)) ?_
  refine ASL.q (v := (.bool (decide (p0.from_ ≠ p1.from_)))) rfl rfl (Light.quiet (opInt rfl rfl rfl rfl)) ?_
  refine ASL.done ?_
  refine AWP.ifP hF rfl (fun hc1 hF => ?_) (fun hc1 hF => ?_)
  · skip
    refine AWP.seqR rfl ?_
    refine ASL.q (v := (.rptr [(.int .i64 p0.from_), (.int .i64 p0.letter), (.int .i64 p0.to_), (.bool p0.good)])) rfl rfl (Light.quiet (opFieldAddrR rfl fieldA_73_0 rfl rfl)) ?_
    refine ASL.q (v := (.int .i64 p0.from_)) rfl rfl (Light.quiet (opLoadR rfl aggA_3 rfl rfl)) ?_
    refine ASL.q (v := (.rptr [(.int .i64 p1.from_), (.int .i64 p1.letter), (.int .i64 p1.to_), (.bool p1.good)])) rfl rfl (Light.quiet (opFieldAddrR rfl fieldA_73_0 rfl rfl)) ?_
    refine ASL.q (v := (.int .i64 p1.from_)) rfl rfl (Light.quiet (opLoadR rfl aggA_3 rfl rfl)) ?_
    refine ASL.q (v := (.bool (decide (p0.from_ < p1.from_)))) rfl rfl (Light.quiet (opInt rfl rfl rfl rfl)) ?_
    refine ASL.q (v := (.bool (decide (p0.from_ < p1.from_)))) rfl rfl (Light.quiet (opAssign rfl rfl)) ?_
    refine ASL.done ?_
    refine AWP.ret ?_
    refine QThen.rt ?_
    obtain rfl := hF
    exact QRet.sole (v := (.bool (decide (p0.from_ < p1.from_)))) ⟨rfl, trivial⟩ rfl
  · skip
    refine AWP.skip ?_
    refine QThen.nrm ?_
    refine AWP.seq ?_
    refine AWP.seqR rfl ?_
    refine ASL.q (v := (.rptr [(.int .i64 p0.letter), (.int .i64 p0.to_), (.bool p0.good)])) rfl rfl (Light.quiet (opFieldAddrR rfl fieldA_73_1 rfl rfl)) ?_
    refine ASL.q (v := (.int .i64 p0.letter)) rfl rfl (Light.quiet (opLoadR rfl aggA_3 rfl rfl)) ?_
    refine ASL.q (v := (.rptr [(.int .i64 p1.letter), (.int .i64 p1.to_), (.bool p1.good)])) rfl rfl (Light.quiet (opFieldAddrR rfl fieldA_73_1 rfl rfl)) ?_
    refine ASL.q (v := (.int .i64 p1.letter)) rfl rfl (Light.quiet (opLoadR rfl aggA_3 rfl rfl)) ?_
    refine ASL.q (v := (.bool (decide (p0.letter ≠ p1.letter)))) rfl rfl (Light.quiet (opInt rfl rfl rfl rfl)) ?_
    refine ASL.done ?_
    refine AWP.ifP hF rfl (fun hc2 hF => ?_) (fun hc2 hF => ?_)
    · skip
      refine AWP.seqR rfl ?_
      refine ASL.q (v := (.rptr [(.int .i64 p0.letter), (.int .i64 p0.to_), (.bool p0.good)])) rfl rfl (Light.quiet (opFieldAddrR rfl fieldA_73_1 rfl rfl)) ?_
      refine ASL.q (v := (.int .i64 p0.letter)) rfl rfl (Light.quiet (opLoadR rfl aggA_3 rfl rfl)) ?_
      refine ASL.q (v := (.rptr [(.int .i64 p1.letter), (.int .i64 p1.to_), (.bool p1.good)])) rfl rfl (Light.quiet (opFieldAddrR rfl fieldA_73_1 rfl rfl)) ?_
      refine ASL.q (v := (.int .i64 p1.letter)) rfl rfl (Light.quiet (opLoadR rfl aggA_3 rfl rfl)) ?_
      refine ASL.q (v := (.bool (decide (p0.letter < p1.letter)))) rfl rfl (Light.quiet (opInt rfl rfl rfl rfl)) ?_
      refine ASL.q (v := (.bool (decide (p0.letter < p1.letter)))) rfl rfl (Light.quiet (opAssign rfl rfl)) ?_
      refine ASL.done ?_
      refine AWP.ret ?_
      refine QThen.rt ?_
      obtain rfl := hF
      exact QRet.sole (v := (.bool (decide (p0.letter < p1.letter)))) ⟨rfl, trivial⟩ rfl
    · skip
      refine AWP.skip ?_
      refine QThen.nrm ?_
      refine AWP.seqR rfl ?_
      refine ASL.q (v := (.rptr [(.int .i64 p0.to_), (.bool p0.good)])) rfl rfl (Light.quiet (opFieldAddrR rfl fieldA_73_2 rfl rfl)) ?_
      refine ASL.q (v := (.int .i64 p0.to_)) rfl rfl (Light.quiet (opLoadR rfl aggA_3 rfl rfl)) ?_
      refine ASL.q (v := (.rptr [(.int .i64 p1.to_), (.bool p1.good)])) rfl rfl (Light.quiet (opFieldAddrR rfl fieldA_73_2 rfl rfl)) ?_
      refine ASL.q (v := (.int .i64 p1.to_)) rfl rfl (Light.quiet (opLoadR rfl aggA_3 rfl rfl)) ?_
      refine ASL.q (v := (.bool (decide (p0.to_ < p1.to_)))) rfl rfl (Light.quiet (opInt rfl rfl rfl rfl)) ?_
      refine ASL.q (v := (.bool (decide (p0.to_ < p1.to_)))) rfl rfl (Light.quiet (opAssign rfl rfl)) ?_
      refine ASL.done ?_
      refine AWP.ret ?_
      obtain rfl := hF
      exact QRet.sole (v := (.bool (decide (p0.to_ < p1.to_)))) ⟨rfl, trivial⟩ rfl

set_option maxRecDepth 10000 in
theorem spec_l5Less_ok (p0 : TGEdge) (p1 : TGEdge) : PC Try.prog 106 [(TGEdge.av p0), (TGEdge.av p1)] fun v => v = (.bool (spec_l5Less p0 p1)) := by
  generalize hF : spec_l5Less p0 p1 = r
  refine PC.enter Try.func106 rfl Try.ntmps106 (by simp) ?_
  have hS := Sep.void; unfold spec_l5Less at hF
  refine AWP.seqR rfl ?_
  refine ASL.q (v := (.rptr [(.int .i64 p0.from_), (.int .i64 p0.letter), (.int .i64 p0.to_), (.int .i64 p0.marks)])) rfl rfl ((qBoxI (v := (TGEdge.av p0)) rfl rfl rfl rfl)) ?_
  refine ASL.q (v := (.rptr [(.int .i64 p1.from_), (.int .i64 p1.letter), (.int .i64 p1.to_), (.int .i64 p1.marks)])) rfl rfl ((qBoxI (v := (TGEdge.av p1)) rfl rfl rfl rfl)) ?_
  refine ASL.q (v := (.bool false)) rfl rfl (Light.quiet (opAssign rfl rfl)) ?_
  refine ASL.done ?_
  refine AWP.seqR rfl ?_
  refine ASL.q (v := (.rptr [(.int .i64 p0.from_), (.int .i64 p0.letter), (.int .i64 p0.to_), (.int .i64 p0.marks)])) rfl rfl (Light.quiet (opFieldAddrR rfl fieldA_99_0 rfl rfl)) ?_
  refine ASL.q (v := (.int .i64 p0.from_)) rfl rfl (Light.quiet (opLoadR rfl aggA_3 rfl rfl)) ?_
  refine ASL.q (v := (.rptr [(.int .i64 p0.letter), (.int .i64 p0.to_), (.int .i64 p0.marks)])) rfl rfl (Light.quiet (opFieldAddrR rfl fieldA_99_1 rfl rfl)) ?_
  refine ASL.q (v := (.int .i64 p0.letter)) rfl rfl (Light.quiet (opLoadR rfl aggA_3 rfl rfl)) ?_
  refine ASL.q (v := (.rptr [(.int .i64 p0.to_), (.int .i64 p0.marks)])) rfl rfl (Light.quiet (opFieldAddrR rfl fieldA_99_2 rfl rfl)) ?_
  refine ASL.q (v := (.int .i64 p0.to_)) rfl rfl (Light.quiet (opLoadR rfl aggA_3 rfl rfl)) ?_
  refine ASL.q (v := (.agg [(.int .i64 p0.from_), (.int .i64 p0.letter), (.int .i64 p0.to_), (.bool false)])) rfl rfl (Light.quiet (opBuildZ (zs := [(.int .i64 0), (.int .i64 0), (.int .i64 0), (.bool false)]) rfl plan_73 zeroA_73 ⟨.inl rfl, .inl rfl, .inl rfl, .inl rfl, trivial⟩ rfl)) ?_
  refine ASL.q (v := (.rptr [(.int .i64 p1.from_), (.int .i64 p1.letter), (.int .i64 p1.to_), (.int .i64 p1.marks)])) rfl rfl (Light.quiet (opFieldAddrR rfl fieldA_99_0 rfl rfl)) ?_
  refine ASL.q (v := (.int .i64 p1.from_)) rfl rfl (Light.quiet (opLoadR rfl aggA_3 rfl rfl)) ?_
  refine ASL.q (v := (.rptr [(.int .i64 p1.letter), (.int .i64 p1.to_), (.int .i64 p1.marks)])) rfl rfl (Light.quiet (opFieldAddrR rfl fieldA_99_1 rfl rfl)) ?_
  refine ASL.q (v := (.int .i64 p1.letter)) rfl rfl (Light.quiet (opLoadR rfl aggA_3 rfl rfl)) ?_
  refine ASL.q (v := (.rptr [(.int .i64 p1.to_), (.int .i64 p1.marks)])) rfl rfl (Light.quiet (opFieldAddrR rfl fieldA_99_2 rfl rfl)) ?_
  refine ASL.q (v := (.int .i64 p1.to_)) rfl rfl (Light.quiet (opLoadR rfl aggA_3 rfl rfl)) ?_
  refine ASL.q (v := (.agg [(.int .i64 p1.from_), (.int .i64 p1.letter), (.int .i64 p1.to_), (.bool false)])) rfl rfl (Light.quiet (opBuildZ (zs := [(.int .i64 0), (.int .i64 0), (.int .i64 0), (.bool false)]) rfl plan_73 zeroA_73 ⟨.inl rfl, .inl rfl, .inl rfl, .inl rfl, trivial⟩ rfl)) ?_
  refine ASL.q (v := (.bool (spec_l4Less ((TEdge.mk p0.from_ p0.letter p0.to_ false)) ((TEdge.mk p1.from_ p1.letter p1.to_ false))))) rfl rfl ((qCall rfl rfl call_90 (spec_l4Less_ok ((TEdge.mk p0.from_ p0.letter p0.to_ false)) ((TEdge.mk p1.from_ p1.letter p1.to_ false))) rfl)) ?_
  refine ASL.q (v := (.bool (spec_l4Less ((TEdge.mk p0.from_ p0.letter p0.to_ false)) ((TEdge.mk p1.from_ p1.letter p1.to_ false))))) rfl rfl (Light.quiet (opAssign rfl rfl)) ?_
  refine ASL.done ?_
  refine AWP.ret ?_
  obtain rfl := hF
  exact QRet.sole (v := (.bool (spec_l4Less ((TEdge.mk p0.from_ p0.letter p0.to_ false)) ((TEdge.mk p1.from_ p1.letter p1.to_ false))))) ⟨rfl, trivial⟩ rfl

set_option maxRecDepth 10000 in
theorem spec_GenOk_ok {p0 : TGen} {r : Bool} (hF : spec_GenOk p0 = some r) : PC Try.prog 75 [(TGen.av p0)] fun v => v = (.bool r) := by
  refine PC.enter Try.func75 rfl Try.ntmps75 (by simp) ?_
  have hS := Sep.void; unfold spec_GenOk at hF
  refine AWP.seqR rfl ?_
  refine ASL.q (v := (.rptr [(.int .i64 p0.letters), (.int .i64 p0.states), (.int .i64 p0.start), (.int .i64 p0.sets), (.list 4 (List.map TGEdge.av p0.edges))])) rfl rfl ((qBoxI (v := (TGen.av p0)) rfl rfl rfl rfl)) ?_
  refine ASL.q (v := (.bool false)) rfl rfl (Light.quiet (opAssign rfl rfl)) ?_
  refine ASL.done ?_
  refine AWP.seq ?_
  refine AWP.seqD [(0, false), (1, false), (2, false), (3, false), (4, false), (5, false), (6, false), (7, false), (8, false), (9, false), (10, false), (11, false), (12, false), (13, false), (14, false), (15, false), (16, false), (17, false), (18, false), (19, false), (20, false), (21, false), (22, false), (23, false), (24, false), (25, false), (26, false), (27, false), (28, false), (29, false), (30, false), (31, false)] mixed (by kernel_rfl) rfl ?_
  refine ARL.q0 (v := (.rptr [(.int .i64 p0.letters), (.int .i64 p0.states), (.int .i64 p0.start), (.int .i64 p0.sets), (.list 4 (List.map TGEdge.av p0.edges))])) rfl rfl (Light.quiet (opFieldAddrR rfl fieldA_60_0 rfl rfl)) ?_
  refine ARL.q0 (v := (.int .i64 p0.letters)) rfl rfl (Light.quiet (opLoadR rfl aggA_3 rfl rfl)) ?_
  refine ARL.q0 (v := (.bool (spec_l1In p0.letters 1 8))) rfl rfl ((qCall rfl rfl call_89 (spec_l1In_ok p0.letters 1 8) rfl)) ?_
  refine ARL.q0 (v := (.bool (!(spec_l1In p0.letters 1 8)))) rfl rfl (Light.quiet (opNot rfl rfl)) ?_
  obtain ⟨c9, hc9, hF⟩ := bndE hF
  refine ARL.q0 (v := (.bool c9)) rfl rfl ((Quiet.cast (Light.quiet (opMove rfl rfl)) (congrArg AV.bool hc9.symm))) ?_
  refine ARL.g (v := (.rptr [(.int .i64 p0.states), (.int .i64 p0.start), (.int .i64 p0.sets), (.list 4 (List.map TGEdge.av p0.edges))])) (.bool c9) false rfl (wF _) rfl noneAlive (fun hG => by have q0 := gN hG; subst q0; exact Light.quiet (opFieldAddrR rfl fieldA_60_1 rfl rfl)) ?_
  refine ARL.g (v := (.int .i64 p0.states)) (.bool c9) false rfl (wF _) rfl noneAlive (fun hG => by have q0 := gN hG; subst q0; exact Light.quiet (opLoadR rfl aggA_3 rfl rfl)) ?_
  refine ARL.g (v := (.bool (spec_l1In p0.states 0 31))) (.bool c9) false rfl (wF _) rfl noneAlive (fun hG => by have q0 := gN hG; subst q0; exact (qCall rfl rfl call_89 (spec_l1In_ok p0.states 0 31) rfl)) ?_
  refine ARL.g (v := (.bool (!(spec_l1In p0.states 0 31)))) (.bool c9) false rfl (wF _) rfl noneAlive (fun hG => by have q0 := gN hG; subst q0; exact Light.quiet (opNot rfl rfl)) ?_
  refine ARL.q0 (v := (.bool (c9 || (!(spec_l1In p0.states 0 31))))) rfl rfl (Light.quiet (opPick (b := c9) rfl rfl (by cases c9 <;> rfl))) ?_
  obtain ⟨c15, hc15, hF⟩ := bndE hF
  refine ARL.q0 (v := (.bool c15)) rfl rfl ((Quiet.cast (Light.quiet (opMove rfl rfl)) (congrArg AV.bool hc15.symm))) ?_
  refine ARL.g (v := (.rptr [(.int .i64 p0.start), (.int .i64 p0.sets), (.list 4 (List.map TGEdge.av p0.edges))])) (.bool c15) false rfl (wF _) rfl noneAlive (fun hG => by have q0 := gN hG; subst q0; exact Light.quiet (opFieldAddrR rfl fieldA_60_2 rfl rfl)) ?_
  refine ARL.g (v := (.int .i64 p0.start)) (.bool c15) false rfl (wF _) rfl noneAlive (fun hG => by have q0 := gN hG; subst q0; exact Light.quiet (opLoadR rfl aggA_3 rfl rfl)) ?_
  refine ARL.g (v := (.rptr [(.int .i64 p0.states), (.int .i64 p0.start), (.int .i64 p0.sets), (.list 4 (List.map TGEdge.av p0.edges))])) (.bool c15) false rfl (wF _) rfl noneAlive (fun hG => by have q0 := gN hG; subst q0; exact Light.quiet (opFieldAddrR rfl fieldA_60_1 rfl rfl)) ?_
  refine ARL.g (v := (.int .i64 p0.states)) (.bool c15) false rfl (wF _) rfl noneAlive (fun hG => by have q0 := gN hG; subst q0; exact Light.quiet (opLoadR rfl aggA_3 rfl rfl)) ?_
  obtain ⟨u1, hu1, hF⟩ := bindE hF
  refine ARL.g (v := (.int .i64 (shl .i64 1 p0.states))) (.bool c15) false rfl (wF _) rfl noneAlive (fun hG => by have q0 := gN hG; subst q0; exact Light.quiet (opShl rfl rfl rfl (of_decide_eq_true (chkE (whenE hu1))) rfl)) ?_
  refine ARL.g (v := (.int .i64 (W (((shl .i64 1 p0.states)) - 1)))) (.bool c15) false rfl (wF _) rfl noneAlive (fun hG => by have q0 := gN hG; subst q0; exact Light.quiet (opInt rfl rfl rfl rfl)) ?_
  refine ARL.g (v := (.bool (spec_SetIn p0.start ((W (((shl .i64 1 p0.states)) - 1)))))) (.bool c15) false rfl (wF _) rfl noneAlive (fun hG => by have q0 := gN hG; subst q0; exact (qCall rfl rfl call_61 (spec_SetIn_ok p0.start ((W (((shl .i64 1 p0.states)) - 1)))) rfl)) ?_
  refine ARL.g (v := (.bool (!(spec_SetIn p0.start ((W (((shl .i64 1 p0.states)) - 1))))))) (.bool c15) false rfl (wF _) rfl noneAlive (fun hG => by have q0 := gN hG; subst q0; exact Light.quiet (opNot rfl rfl)) ?_
  refine ARL.q0 (v := (.bool (c15 || (!(spec_SetIn p0.start ((W (((shl .i64 1 p0.states)) - 1)))))))) rfl rfl (Light.quiet (opPick (b := c15) rfl rfl (by cases c15 <;> rfl))) ?_
  obtain ⟨c25, hc25, hF⟩ := bndE hF
  refine ARL.q0 (v := (.bool c25)) rfl rfl ((Quiet.cast (Light.quiet (opMove rfl rfl)) (congrArg AV.bool hc25.symm))) ?_
  refine ARL.g (v := (.rptr [(.int .i64 p0.sets), (.list 4 (List.map TGEdge.av p0.edges))])) (.bool c25) false rfl (wF _) rfl noneAlive (fun hG => by have q0 := gN hG; subst q0; exact Light.quiet (opFieldAddrR rfl fieldA_60_3 rfl rfl)) ?_
  refine ARL.g (v := (.int .i64 p0.sets)) (.bool c25) false rfl (wF _) rfl noneAlive (fun hG => by have q0 := gN hG; subst q0; exact Light.quiet (opLoadR rfl aggA_3 rfl rfl)) ?_
  refine ARL.g (v := (.bool (spec_l1In p0.sets 0 4))) (.bool c25) false rfl (wF _) rfl noneAlive (fun hG => by have q0 := gN hG; subst q0; exact (qCall rfl rfl call_89 (spec_l1In_ok p0.sets 0 4) rfl)) ?_
  refine ARL.g (v := (.bool (!(spec_l1In p0.sets 0 4)))) (.bool c25) false rfl (wF _) rfl noneAlive (fun hG => by have q0 := gN hG; subst q0; exact Light.quiet (opNot rfl rfl)) ?_
  refine ARL.q0 (v := (.bool (c25 || (!(spec_l1In p0.sets 0 4))))) rfl rfl (Light.quiet (opPick (b := c25) rfl rfl (by cases c25 <;> rfl))) ?_
  obtain ⟨c31, hc31, hF⟩ := bndE hF
  refine ARL.q0 (v := (.bool c31)) rfl rfl ((Quiet.cast (Light.quiet (opMove rfl rfl)) (congrArg AV.bool hc31.symm))) ?_
  refine ARL.g (v := (.rptr [(.list 4 (List.map TGEdge.av p0.edges))])) (.bool c31) false rfl (wF _) rfl noneAlive (fun hG => by have q0 := gN hG; subst q0; exact Light.quiet (opFieldAddrR rfl fieldA_60_4 rfl rfl)) ?_
  refine ARL.g (v := (.list 4 (List.map TGEdge.av p0.edges))) (.bool c31) false rfl (wF _) rfl noneAlive (fun hG => by have q0 := gN hG; subst q0; exact Light.quiet (opLoadR rfl aggA_58 rfl rfl)) ?_
  refine ARL.g (v := (.int .i64 (p0.edges.length : Int))) (.bool c31) false rfl (wF _) rfl noneAlive (fun hG => by have q0 := gN hG; subst q0; exact Light.quiet (opLenMap (f := TGEdge.av) rfl rfl rfl lenT_58 rfl)) ?_
  refine ARL.g (v := (.bool (decide (((p0.edges.length : Int)) > 2000)))) (.bool c31) false rfl (wF _) rfl noneAlive (fun hG => by have q0 := gN hG; subst q0; exact Light.quiet (opInt rfl rfl rfl rfl)) ?_
  refine ARL.q0 (v := (.bool (c31 || (decide (((p0.edges.length : Int)) > 2000))))) rfl rfl (Light.quiet (opPick (b := c31) rfl rfl (by cases c31 <;> rfl))) ?_
  refine ARL.done ?_
  refine AWP.ifB hF rfl (fun hc2 hF => ?_) (fun hc2 hF => ?_)
  · skip
    refine AWP.seqR rfl ?_
    refine ASL.q (v := (.bool false)) rfl rfl (Light.quiet (opAssign rfl rfl)) ?_
    refine ASL.done ?_
    refine AWP.ret ?_
    refine QThen.rt ?_
    obtain rfl := someE hF
    exact QRet.sole (v := (.bool false)) ⟨rfl, trivial⟩ rfl
  · skip
    refine AWP.skip ?_
    refine QThen.nrm ?_
    refine AWP.seqM (fun e H => E.Told e [] ∧ E.Sep H [] ∧ spec_GenOk.k0 = some r) ?_ ?_
    · rintro e0 G3 ⟨hT, hS, hF⟩; refine AWP.only _ hT ?_; unfold spec_GenOk.k0 at hF
      refine AWP.seqR rfl ?_
      refine ASL.q (v := (.bool true)) rfl rfl (Light.quiet (opAssign rfl rfl)) ?_
      refine ASL.done ?_
      refine AWP.ret ?_
      obtain rfl := someE hF
      exact QRet.sole (v := (.bool true)) ⟨rfl, trivial⟩ rfl
    · skip
      refine AWP.seqR rfl ?_
      refine ASL.q (v := (.int .i64 0)) rfl rfl (Light.quiet (opAssign rfl rfl)) ?_
      refine ASL.done ?_
      refine AWP.block ?_
      obtain ⟨o7, hL6, hR8⟩ := bindE hF
      refine AWP.loopF (ω := Unit) hL6 (fun s w => [(1, (.rptr [(.int .i64 p0.letters), (.int .i64 p0.states), (.int .i64 p0.start), (.int .i64 p0.sets), (.list 4 (List.map TGEdge.av p0.edges))])), (3, (.int .i64 s))]) (fun s w => []) () ⟨rfl, rfl, trivial⟩ (hS.pick [] rfl rfl) ?_
      rintro x3_l0 _ G9 hS x4 hF hx5
      try dsimp only at hS ⊢
      have hF : spec_GenOk.b0 p0 x3_l0 = some x4 := hF; unfold spec_GenOk.b0 at hF
      refine AWP.seq ?_
      refine AWP.seqR rfl ?_
      refine ASL.q (v := (.int .i64 x3_l0)) rfl rfl (Light.quiet (opMove rfl rfl)) ?_
      refine ASL.q (v := (.rptr [(.list 4 (List.map TGEdge.av p0.edges))])) rfl rfl (Light.quiet (opFieldAddrR rfl fieldA_60_4 rfl rfl)) ?_
      refine ASL.q (v := (.list 4 (List.map TGEdge.av p0.edges))) rfl rfl (Light.quiet (opLoadR rfl aggA_58 rfl rfl)) ?_
      refine ASL.q (v := (.int .i64 (p0.edges.length : Int))) rfl rfl (Light.quiet (opLenMap (f := TGEdge.av) rfl rfl rfl lenT_58 rfl)) ?_
      refine ASL.q (v := (.bool (decide (x3_l0 < ((p0.edges.length : Int)))))) rfl rfl (Light.quiet (opInt rfl rfl rfl rfl)) ?_
      refine ASL.done ?_
      refine AWP.ifP hF rfl (fun hc10 hF => ?_) (fun hc10 hF => ?_)
      · skip
        refine AWP.skip ?_
        refine QThen.nrm ?_
        refine AWP.seq ?_
        refine AWP.block ?_
        refine AWP.seqR rfl ?_
        refine ASL.q (v := (.rptr [(.list 4 (List.map TGEdge.av p0.edges))])) rfl rfl (Light.quiet (opFieldAddrR rfl fieldA_60_4 rfl rfl)) ?_
        refine ASL.q (v := (.list 4 (List.map TGEdge.av p0.edges))) rfl rfl (Light.quiet (opLoadR rfl aggA_58 rfl rfl)) ?_
        refine ASL.q (v := (.int .i64 x3_l0)) rfl rfl (Light.quiet (opMove rfl rfl)) ?_
        obtain ⟨a47, ha47, hF⟩ := bindE hF
        refine ASL.q (v := (.rptr [(.int .i64 a47.from_), (.int .i64 a47.letter), (.int .i64 a47.to_), (.int .i64 a47.marks)])) rfl rfl (Light.quiet (kIx (f := TGEdge.av) ha47 rfl rfl rfl elemA_58 sizeA_99 rfl)) ?_
        refine ASL.q (v := (TGEdge.av a47)) rfl rfl (Light.quiet (opLoadRA rfl aggA_99 sizeA_99 rfl (nlt rfl) rfl)) ?_
        refine ASL.x rfl rfl (hNewZ hS [(.int .i64 0), (.int .i64 0), (.int .i64 0), (.int .i64 0)] rfl zeroA_99 ⟨.inl rfl, .inl rfl, .inl rfl, .inl rfl, trivial⟩ ?_); rintro b4 G11 hK hS
        refine ASL.n rfl rfl (hPutA hS (j := 0) rfl rfl sizeA_99 rfl rfl rfl rfl rfl (nlt rfl) ?_); rintro G13 hS
        refine ASL.done ?_
        refine AWP.seqD [(0, false), (1, false), (2, false), (3, false), (4, false), (5, false), (6, false), (7, false), (8, false), (9, false), (10, false), (11, false), (12, false), (13, false), (14, false), (15, false), (16, false), (17, false), (18, false), (19, false), (20, false), (21, false), (22, false), (23, false), (24, false), (25, false), (26, false), (27, false), (28, false), (29, false), (30, false), (31, false), (32, false), (33, false), (34, false), (35, false), (36, false), (37, false), (38, false), (39, false), (40, false), (41, false), (42, false), (43, false), (44, false), (45, false), (46, false), (47, false)] mixed (by kernel_rfl) rfl ?_
        refine ARL.q0 (v := (.ptr b4 0)) rfl rfl (Light.quiet (opFieldAddr rfl fieldA_99_0 rfl rfl)) ?_
        refine ARL.q (v := (.int .i64 a47.from_)) rfl rfl (hS.aliveC (k := 0) rfl) (Light.quiet (kAt hS (j := 0) rfl rfl aggA_3 rfl rfl)) ?_
        refine ARL.q0 (v := (.rptr [(.int .i64 p0.states), (.int .i64 p0.start), (.int .i64 p0.sets), (.list 4 (List.map TGEdge.av p0.edges))])) rfl rfl (Light.quiet (opFieldAddrR rfl fieldA_60_1 rfl rfl)) ?_
        refine ARL.q0 (v := (.int .i64 p0.states)) rfl rfl (Light.quiet (opLoadR rfl aggA_3 rfl rfl)) ?_
        refine ARL.q0 (v := (.bool (spec_l4State a47.from_ p0.states))) rfl rfl ((qCall rfl rfl call_62 (spec_l4State_ok a47.from_ p0.states) rfl)) ?_
        refine ARL.q0 (v := (.bool (!(spec_l4State a47.from_ p0.states)))) rfl rfl (Light.quiet (opNot rfl rfl)) ?_
        obtain ⟨c55, hc55, hF⟩ := bndE hF
        refine ARL.q0 (v := (.bool c55)) rfl rfl ((Quiet.cast (Light.quiet (opMove rfl rfl)) (congrArg AV.bool hc55.symm))) ?_
        refine ARL.g (v := (.ptr b4 2)) (.bool c55) false rfl (wF _) rfl noneAlive (fun hG => by have q0 := gN hG; subst q0; exact Light.quiet (opFieldAddr rfl fieldA_99_2 rfl rfl)) ?_
        refine ARL.g (v := (.int .i64 a47.to_)) (.bool c55) false rfl (wF _) rfl (hS.aliveC (k := 0) rfl) (fun hG => by have q0 := gN hG; subst q0; exact Light.quiet (kAt hS (j := 0) rfl rfl aggA_3 rfl rfl)) ?_
        refine ARL.g (v := (.rptr [(.int .i64 p0.states), (.int .i64 p0.start), (.int .i64 p0.sets), (.list 4 (List.map TGEdge.av p0.edges))])) (.bool c55) false rfl (wF _) rfl noneAlive (fun hG => by have q0 := gN hG; subst q0; exact Light.quiet (opFieldAddrR rfl fieldA_60_1 rfl rfl)) ?_
        refine ARL.g (v := (.int .i64 p0.states)) (.bool c55) false rfl (wF _) rfl noneAlive (fun hG => by have q0 := gN hG; subst q0; exact Light.quiet (opLoadR rfl aggA_3 rfl rfl)) ?_
        refine ARL.g (v := (.bool (spec_l4State a47.to_ p0.states))) (.bool c55) false rfl (wF _) rfl noneAlive (fun hG => by have q0 := gN hG; subst q0; exact (qCall rfl rfl call_62 (spec_l4State_ok a47.to_ p0.states) rfl)) ?_
        refine ARL.g (v := (.bool (!(spec_l4State a47.to_ p0.states)))) (.bool c55) false rfl (wF _) rfl noneAlive (fun hG => by have q0 := gN hG; subst q0; exact Light.quiet (opNot rfl rfl)) ?_
        refine ARL.q0 (v := (.bool (c55 || (!(spec_l4State a47.to_ p0.states))))) rfl rfl (Light.quiet (opPick (b := c55) rfl rfl (by cases c55 <;> rfl))) ?_
        obtain ⟨c63, hc63, hF⟩ := bndE hF
        refine ARL.q0 (v := (.bool c63)) rfl rfl ((Quiet.cast (Light.quiet (opMove rfl rfl)) (congrArg AV.bool hc63.symm))) ?_
        refine ARL.g (v := (.ptr b4 1)) (.bool c63) false rfl (wF _) rfl noneAlive (fun hG => by have q0 := gN hG; subst q0; exact Light.quiet (opFieldAddr rfl fieldA_99_1 rfl rfl)) ?_
        refine ARL.g (v := (.int .i64 a47.letter)) (.bool c63) false rfl (wF _) rfl (hS.aliveC (k := 0) rfl) (fun hG => by have q0 := gN hG; subst q0; exact Light.quiet (kAt hS (j := 0) rfl rfl aggA_3 rfl rfl)) ?_
        refine ARL.g (v := (.rptr [(.int .i64 p0.letters), (.int .i64 p0.states), (.int .i64 p0.start), (.int .i64 p0.sets), (.list 4 (List.map TGEdge.av p0.edges))])) (.bool c63) false rfl (wF _) rfl noneAlive (fun hG => by have q0 := gN hG; subst q0; exact Light.quiet (opFieldAddrR rfl fieldA_60_0 rfl rfl)) ?_
        refine ARL.g (v := (.int .i64 p0.letters)) (.bool c63) false rfl (wF _) rfl noneAlive (fun hG => by have q0 := gN hG; subst q0; exact Light.quiet (opLoadR rfl aggA_3 rfl rfl)) ?_
        refine ARL.g (v := (.int .i64 (W (p0.letters - 1)))) (.bool c63) false rfl (wF _) rfl noneAlive (fun hG => by have q0 := gN hG; subst q0; exact Light.quiet (opInt rfl rfl rfl rfl)) ?_
        refine ARL.g (v := (.bool (spec_l1In a47.letter 0 ((W (p0.letters - 1)))))) (.bool c63) false rfl (wF _) rfl noneAlive (fun hG => by have q0 := gN hG; subst q0; exact (qCall rfl rfl call_89 (spec_l1In_ok a47.letter 0 ((W (p0.letters - 1)))) rfl)) ?_
        refine ARL.g (v := (.bool (!(spec_l1In a47.letter 0 ((W (p0.letters - 1))))))) (.bool c63) false rfl (wF _) rfl noneAlive (fun hG => by have q0 := gN hG; subst q0; exact Light.quiet (opNot rfl rfl)) ?_
        refine ARL.q0 (v := (.bool (c63 || (!(spec_l1In a47.letter 0 ((W (p0.letters - 1)))))))) rfl rfl (Light.quiet (opPick (b := c63) rfl rfl (by cases c63 <;> rfl))) ?_
        obtain ⟨c72, hc72, hF⟩ := bndE hF
        refine ARL.q0 (v := (.bool c72)) rfl rfl ((Quiet.cast (Light.quiet (opMove rfl rfl)) (congrArg AV.bool hc72.symm))) ?_
        refine ARL.g (v := (.ptr b4 3)) (.bool c72) false rfl (wF _) rfl noneAlive (fun hG => by have q0 := gN hG; subst q0; exact Light.quiet (opFieldAddr rfl fieldA_99_3 rfl rfl)) ?_
        refine ARL.g (v := (.int .i64 a47.marks)) (.bool c72) false rfl (wF _) rfl (hS.aliveC (k := 0) rfl) (fun hG => by have q0 := gN hG; subst q0; exact Light.quiet (kAt hS (j := 0) rfl rfl aggA_3 rfl rfl)) ?_
        refine ARL.g (v := (.rptr [(.int .i64 p0.sets), (.list 4 (List.map TGEdge.av p0.edges))])) (.bool c72) false rfl (wF _) rfl noneAlive (fun hG => by have q0 := gN hG; subst q0; exact Light.quiet (opFieldAddrR rfl fieldA_60_3 rfl rfl)) ?_
        refine ARL.g (v := (.int .i64 p0.sets)) (.bool c72) false rfl (wF _) rfl noneAlive (fun hG => by have q0 := gN hG; subst q0; exact Light.quiet (opLoadR rfl aggA_3 rfl rfl)) ?_
        obtain ⟨u14, hu14, hF⟩ := bindE hF
        refine ARL.g (v := (.int .i64 (shl .i64 1 p0.sets))) (.bool c72) false rfl (wF _) rfl noneAlive (fun hG => by have q0 := gN hG; subst q0; exact Light.quiet (opShl rfl rfl rfl (of_decide_eq_true (chkE (whenE hu14))) rfl)) ?_
        refine ARL.g (v := (.int .i64 (W (((shl .i64 1 p0.sets)) - 1)))) (.bool c72) false rfl (wF _) rfl noneAlive (fun hG => by have q0 := gN hG; subst q0; exact Light.quiet (opInt rfl rfl rfl rfl)) ?_
        refine ARL.g (v := (.bool (spec_SetIn a47.marks ((W (((shl .i64 1 p0.sets)) - 1)))))) (.bool c72) false rfl (wF _) rfl noneAlive (fun hG => by have q0 := gN hG; subst q0; exact (qCall rfl rfl call_61 (spec_SetIn_ok a47.marks ((W (((shl .i64 1 p0.sets)) - 1)))) rfl)) ?_
        refine ARL.g (v := (.bool (!(spec_SetIn a47.marks ((W (((shl .i64 1 p0.sets)) - 1))))))) (.bool c72) false rfl (wF _) rfl noneAlive (fun hG => by have q0 := gN hG; subst q0; exact Light.quiet (opNot rfl rfl)) ?_
        refine ARL.q0 (v := (.bool (c72 || (!(spec_SetIn a47.marks ((W (((shl .i64 1 p0.sets)) - 1)))))))) rfl rfl (Light.quiet (opPick (b := c72) rfl rfl (by cases c72 <;> rfl))) ?_
        obtain ⟨c82, hc82, hF⟩ := bndE hF
        refine ARL.q0 (v := (.bool c82)) rfl rfl ((Quiet.cast (Light.quiet (opMove rfl rfl)) (congrArg AV.bool hc82.symm))) ?_
        refine ARL.g (v := (.int .i64 x3_l0)) (.bool c82) false rfl (wF _) rfl noneAlive (fun hG => by have q0 := gN hG; subst q0; exact Light.quiet (opMove rfl rfl)) ?_
        refine ARL.g (v := (.bool (decide (x3_l0 > 0)))) (.bool c82) false rfl (wF _) rfl noneAlive (fun hG => by have q0 := gN hG; subst q0; exact Light.quiet (opInt rfl rfl rfl rfl)) ?_
        obtain ⟨c85, hc85, hF⟩ := bndE hF
        refine ARL.g (v := (.bool c85)) (.bool c82) false rfl (wF _) rfl noneAlive (fun hG => by have q0 := gN hG; subst q0; exact (Quiet.cast (Light.quiet (opMove rfl rfl)) (congrArg AV.bool hc85.symm))) ?_
        refine ARL.g (v := (.rptr [(.list 4 (List.map TGEdge.av p0.edges))])) (bif (!c82) then (.bool c85) else .tup []) true rfl (wGT _ _) rfl noneAlive (fun hG => by have q0 := gN (gA1 hG); have q1 := gA2 hG; subst q0; subst q1; exact Light.quiet (opFieldAddrR rfl fieldA_60_4 rfl rfl)) ?_
        refine ARL.g (v := (.list 4 (List.map TGEdge.av p0.edges))) (bif (!c82) then (.bool c85) else .tup []) true rfl (wGT _ _) rfl noneAlive (fun hG => by have q0 := gN (gA1 hG); have q1 := gA2 hG; subst q0; subst q1; exact Light.quiet (opLoadR rfl aggA_58 rfl rfl)) ?_
        refine ARL.g (v := (.int .i64 x3_l0)) (bif (!c82) then (.bool c85) else .tup []) true rfl (wGT _ _) rfl noneAlive (fun hG => by have q0 := gN (gA1 hG); have q1 := gA2 hG; subst q0; subst q1; exact Light.quiet (opMove rfl rfl)) ?_
        refine ARL.g (v := (.int .i64 (W (x3_l0 - 1)))) (bif (!c82) then (.bool c85) else .tup []) true rfl (wGT _ _) rfl noneAlive (fun hG => by have q0 := gN (gA1 hG); have q1 := gA2 hG; subst q0; subst q1; exact Light.quiet (opInt rfl rfl rfl rfl)) ?_
        obtain ⟨a90, ha90, hF⟩ := bindE hF
        refine ARL.g (v := (.rptr [(.int .i64 a90.from_), (.int .i64 a90.letter), (.int .i64 a90.to_), (.int .i64 a90.marks)])) (bif (!c82) then (.bool c85) else .tup []) true rfl (wGT _ _) rfl noneAlive (fun hG => by have q0 := gN (gA1 hG); have q1 := gA2 hG; subst q0; subst q1; exact Light.quiet (kIx (f := TGEdge.av) (whenE ha90) rfl rfl rfl elemA_58 sizeA_99 rfl)) ?_
        refine ARL.g (v := (TGEdge.av a90)) (bif (!c82) then (.bool c85) else .tup []) true rfl (wGT _ _) rfl noneAlive (fun hG => by have q0 := gN (gA1 hG); have q1 := gA2 hG; subst q0; subst q1; exact Light.quiet (opLoadRA rfl aggA_99 sizeA_99 rfl (nlt rfl) rfl)) ?_
        refine ARL.g (v := (TGEdge.av a47)) (bif (!c82) then (.bool c85) else .tup []) true rfl (wGT _ _) rfl (hS.aliveC (k := 0) rfl) (fun hG => by have q0 := gN (gA1 hG); have q1 := gA2 hG; subst q0; subst q1; exact Light.quiet (kAtA hS (j := 0) rfl rfl aggA_99 sizeA_99 rfl (nlt rfl) rfl)) ?_
        refine ARL.g (v := (.bool (spec_l5Less a90 a47))) (bif (!c82) then (.bool c85) else .tup []) true rfl (wGT _ _) rfl noneAlive (fun hG => by have q0 := gN (gA1 hG); have q1 := gA2 hG; subst q0; subst q1; exact (qCall rfl rfl call_106 (spec_l5Less_ok a90 a47) rfl)) ?_
        refine ARL.g (v := (.bool (!(spec_l5Less a90 a47)))) (bif (!c82) then (.bool c85) else .tup []) true rfl (wGT _ _) rfl noneAlive (fun hG => by have q0 := gN (gA1 hG); have q1 := gA2 hG; subst q0; subst q1; exact Light.quiet (opNot rfl rfl)) ?_
        refine ARL.g (v := (.bool (c85 && (!(spec_l5Less a90 a47))))) (.bool c82) false rfl (wF _) rfl noneAlive (fun hG => by have q0 := gN hG; subst q0; exact Light.quiet (opPick (b := c85) rfl rfl (by cases c85 <;> rfl))) ?_
        refine ARL.q0 (v := (.bool (c82 || (c85 && (!(spec_l5Less a90 a47)))))) rfl rfl (Light.quiet (opPick (b := c82) rfl rfl (by cases c82 <;> rfl))) ?_
        refine ARL.done ?_
        refine AWP.ifB hF rfl (fun hc15 hF => ?_) (fun hc15 hF => ?_)
        · skip
          refine AWP.seqR rfl ?_
          refine ASL.q (v := (.bool false)) rfl rfl (Light.quiet (opAssign rfl rfl)) ?_
          refine ASL.done ?_
          refine AWP.ret ?_
          refine QBlock.ret ?_
          refine QThen.rt ?_
          refine QThen.rt ?_
          refine QBlock.ret ?_
          refine QThen.rt ?_
          obtain rfl := (hx5 _ (someE hF).symm)
          have hF := hR8
          have hF := sumR hF
          obtain rfl := someE hF
          exact QRet.sole (v := (.bool false)) ⟨rfl, trivial⟩ rfl
        · skip
          refine AWP.skip ?_
          refine QBlock.nrm ?_
          refine QThen.nrm ?_
          refine AWP.lastR rfl ?_
          refine ASL.q (v := (.int .i64 x3_l0)) rfl rfl (Light.quiet (opMove rfl rfl)) ?_
          refine ASL.q (v := (.int .i64 (W (x3_l0 + 1)))) rfl rfl (Light.quiet (opInt rfl rfl rfl rfl)) ?_
          refine ASL.q (v := (.int .i64 (W (x3_l0 + 1)))) rfl rfl (Light.quiet (opAssign rfl rfl)) ?_
          refine ASL.done ?_
          refine QThen.nrm ?_
          exact ⟨(W (x3_l0 + 1)), (), (someE hF).symm, ⟨rfl, rfl, trivial⟩, (hS.pick [] rfl rfl)⟩
      · skip
        refine AWP.exit ?_
        refine QThen.ext ?_
        refine QThen.ext ?_
        refine QBlock.hit ?_
        obtain rfl := (hx5 _ (someE hF).symm)
        have hF := hR8
        have hF := sumL hF
        refine QThen.nrm ?_
        exact ⟨trivial, (hS.pick [] rfl rfl), hF⟩

set_option maxRecDepth 10000 in
theorem spec_l3Letters_ok {p0 : (List Int)} {p1 : Int} {r : Bool} (hF : spec_l3Letters p0 p1 = some r) : PC Try.prog 107 [(.list 1 (List.map (AV.int .i64) p0)), (.int .i64 p1)] fun v => v = (.bool r) := by
  refine PC.enter Try.func107 rfl Try.ntmps107 (by simp) ?_
  have hS := Sep.void; unfold spec_l3Letters at hF
  refine AWP.seqR rfl ?_
  refine ASL.q (v := (.bool false)) rfl rfl (Light.quiet (opAssign rfl rfl)) ?_
  refine ASL.done ?_
  refine AWP.seqM (fun e H => E.Told e [] ∧ E.Sep H [] ∧ spec_l3Letters.k0 = some r) ?_ ?_
  · rintro e0 G1 ⟨hT, hS, hF⟩; refine AWP.only _ hT ?_; unfold spec_l3Letters.k0 at hF
    refine AWP.seqR rfl ?_
    refine ASL.q (v := (.bool true)) rfl rfl (Light.quiet (opAssign rfl rfl)) ?_
    refine ASL.done ?_
    refine AWP.ret ?_
    obtain rfl := someE hF
    exact QRet.sole (v := (.bool true)) ⟨rfl, trivial⟩ rfl
  · skip
    refine AWP.seqR rfl ?_
    refine ASL.q (v := (.int .i64 0)) rfl rfl (Light.quiet (opAssign rfl rfl)) ?_
    refine ASL.done ?_
    refine AWP.block ?_
    obtain ⟨o5, hL4, hR6⟩ := bindE hF
    refine AWP.loopF (ω := Unit) hL4 (fun s w => [(0, (.list 1 (List.map (AV.int .i64) p0))), (1, (.int .i64 p1)), (5, (.int .i64 s))]) (fun s w => []) () ⟨rfl, rfl, rfl, trivial⟩ (hS.pick [] rfl rfl) ?_
    rintro x5_l0 _ G7 hS x2 hF hx3
    try dsimp only at hS ⊢
    have hF : spec_l3Letters.b0 p0 p1 x5_l0 = some x2 := hF; unfold spec_l3Letters.b0 at hF
    refine AWP.seq ?_
    refine AWP.seqR rfl ?_
    refine ASL.q (v := (.int .i64 x5_l0)) rfl rfl (Light.quiet (opMove rfl rfl)) ?_
    refine ASL.q (v := (.list 1 (List.map (AV.int .i64) p0))) rfl rfl (Light.quiet (opMove rfl rfl)) ?_
    refine ASL.q (v := (.int .i64 (p0.length : Int))) rfl rfl (Light.quiet (opLenMap (f := (AV.int .i64)) rfl rfl rfl lenT_34 rfl)) ?_
    refine ASL.q (v := (.bool (decide (x5_l0 < ((p0.length : Int)))))) rfl rfl (Light.quiet (opInt rfl rfl rfl rfl)) ?_
    refine ASL.done ?_
    refine AWP.ifP hF rfl (fun hc8 hF => ?_) (fun hc8 hF => ?_)
    · skip
      refine AWP.skip ?_
      refine QThen.nrm ?_
      refine AWP.seq ?_
      refine AWP.block ?_
      refine AWP.seqR rfl ?_
      refine ASL.q (v := (.list 1 (List.map (AV.int .i64) p0))) rfl rfl (Light.quiet (opMove rfl rfl)) ?_
      refine ASL.q (v := (.int .i64 x5_l0)) rfl rfl (Light.quiet (opMove rfl rfl)) ?_
      obtain ⟨a14, ha14, hF⟩ := bindE hF
      refine ASL.q (v := (.rptr [(.int .i64 a14)])) rfl rfl (Light.quiet (kIx (f := (AV.int .i64)) ha14 rfl rfl rfl elemA_34 sizeA_3 rfl)) ?_
      refine ASL.q (v := (.int .i64 a14)) rfl rfl (Light.quiet (opLoadR rfl aggA_3 rfl rfl)) ?_
      refine ASL.q (v := (.int .i64 p1)) rfl rfl (Light.quiet (opMove rfl rfl)) ?_
      refine ASL.q (v := (.int .i64 (W (p1 - 1)))) rfl rfl (Light.quiet (opInt rfl rfl rfl rfl)) ?_
      refine ASL.q (v := (.bool (spec_l1In a14 0 ((W (p1 - 1)))))) rfl rfl ((qCall rfl rfl call_89 (spec_l1In_ok a14 0 ((W (p1 - 1)))) rfl)) ?_
      refine ASL.q (v := (.bool (!(spec_l1In a14 0 ((W (p1 - 1))))))) rfl rfl (Light.quiet (opNot rfl rfl)) ?_
      refine ASL.done ?_
      refine AWP.ifB hF rfl (fun hc9 hF => ?_) (fun hc9 hF => ?_)
      · skip
        refine AWP.seqR rfl ?_
        refine ASL.q (v := (.bool false)) rfl rfl (Light.quiet (opAssign rfl rfl)) ?_
        refine ASL.done ?_
        refine AWP.ret ?_
        refine QBlock.ret ?_
        refine QThen.rt ?_
        refine QThen.rt ?_
        refine QBlock.ret ?_
        refine QThen.rt ?_
        obtain rfl := (hx3 _ (someE hF).symm)
        have hF := hR6
        have hF := sumR hF
        obtain rfl := someE hF
        exact QRet.sole (v := (.bool false)) ⟨rfl, trivial⟩ rfl
      · skip
        refine AWP.skip ?_
        refine QBlock.nrm ?_
        refine QThen.nrm ?_
        refine AWP.lastR rfl ?_
        refine ASL.q (v := (.int .i64 x5_l0)) rfl rfl (Light.quiet (opMove rfl rfl)) ?_
        refine ASL.q (v := (.int .i64 (W (x5_l0 + 1)))) rfl rfl (Light.quiet (opInt rfl rfl rfl rfl)) ?_
        refine ASL.q (v := (.int .i64 (W (x5_l0 + 1)))) rfl rfl (Light.quiet (opAssign rfl rfl)) ?_
        refine ASL.done ?_
        refine QThen.nrm ?_
        exact ⟨(W (x5_l0 + 1)), (), (someE hF).symm, ⟨rfl, rfl, rfl, trivial⟩, (hS.pick [] rfl rfl)⟩
    · skip
      refine AWP.exit ?_
      refine QThen.ext ?_
      refine QThen.ext ?_
      refine QBlock.hit ?_
      obtain rfl := (hx3 _ (someE hF).symm)
      have hF := hR6
      have hF := sumL hF
      refine QThen.nrm ?_
      exact ⟨trivial, (hS.pick [] rfl rfl), hF⟩

set_option maxRecDepth 10000 in
theorem spec_WordOk_ok {p0 : TWord} {p1 : Int} {r : Bool} (hF : spec_WordOk p0 p1 = some r) : PC Try.prog 76 [(TWord.av p0), (.int .i64 p1)] fun v => v = (.bool r) := by
  refine PC.enter Try.func76 rfl Try.ntmps76 (by simp) ?_
  have hS := Sep.void; unfold spec_WordOk at hF
  refine AWP.seqR rfl ?_
  refine ASL.q (v := (.rptr [(.list 1 (List.map (AV.int .i64) p0.stem)), (.list 1 (List.map (AV.int .i64) p0.loop))])) rfl rfl ((qBoxI (v := (TWord.av p0)) rfl rfl rfl rfl)) ?_
  refine ASL.q (v := (.bool false)) rfl rfl (Light.quiet (opAssign rfl rfl)) ?_
  refine ASL.done ?_
  refine AWP.seq ?_
  refine AWP.seqR rfl ?_
  refine ASL.q (v := (.int .i64 p1)) rfl rfl (Light.quiet (opMove rfl rfl)) ?_
  refine ASL.q (v := (.bool (spec_l1In p1 1 8))) rfl rfl ((qCall rfl rfl call_89 (spec_l1In_ok p1 1 8) rfl)) ?_
  refine ASL.q (v := (.bool (!(spec_l1In p1 1 8)))) rfl rfl (Light.quiet (opNot rfl rfl)) ?_
  obtain ⟨c8, hc8, hF⟩ := bndE hF
  refine ASL.q (v := (.bool c8)) rfl rfl ((Quiet.cast (Light.quiet (opMove rfl rfl)) (congrArg AV.bool hc8.symm))) ?_
  refine ASL.g (v := (.rptr [(.list 1 (List.map (AV.int .i64) p0.stem)), (.list 1 (List.map (AV.int .i64) p0.loop))])) (.bool c8) false rfl (wF _) rfl (fun hG => by have q0 := gN hG; subst q0; exact Light.quiet (opFieldAddrR rfl fieldA_62_0 rfl rfl)) ?_
  refine ASL.g (v := (.list 1 (List.map (AV.int .i64) p0.stem))) (.bool c8) false rfl (wF _) rfl (fun hG => by have q0 := gN hG; subst q0; exact Light.quiet (opLoadR rfl aggA_34 rfl rfl)) ?_
  refine ASL.g (v := (.int .i64 (p0.stem.length : Int))) (.bool c8) false rfl (wF _) rfl (fun hG => by have q0 := gN hG; subst q0; exact Light.quiet (opLenMap (f := (AV.int .i64)) rfl rfl rfl lenT_34 rfl)) ?_
  refine ASL.g (v := (.bool (decide (((p0.stem.length : Int)) > 40)))) (.bool c8) false rfl (wF _) rfl (fun hG => by have q0 := gN hG; subst q0; exact Light.quiet (opInt rfl rfl rfl rfl)) ?_
  refine ASL.q (v := (.bool (c8 || (decide (((p0.stem.length : Int)) > 40))))) rfl rfl (Light.quiet (opPick (b := c8) rfl rfl (by cases c8 <;> rfl))) ?_
  obtain ⟨c14, hc14, hF⟩ := bndE hF
  refine ASL.q (v := (.bool c14)) rfl rfl ((Quiet.cast (Light.quiet (opMove rfl rfl)) (congrArg AV.bool hc14.symm))) ?_
  refine ASL.g (v := (.rptr [(.list 1 (List.map (AV.int .i64) p0.loop))])) (.bool c14) false rfl (wF _) rfl (fun hG => by have q0 := gN hG; subst q0; exact Light.quiet (opFieldAddrR rfl fieldA_62_1 rfl rfl)) ?_
  refine ASL.g (v := (.list 1 (List.map (AV.int .i64) p0.loop))) (.bool c14) false rfl (wF _) rfl (fun hG => by have q0 := gN hG; subst q0; exact Light.quiet (opLoadR rfl aggA_34 rfl rfl)) ?_
  refine ASL.g (v := (.int .i64 (p0.loop.length : Int))) (.bool c14) false rfl (wF _) rfl (fun hG => by have q0 := gN hG; subst q0; exact Light.quiet (opLenMap (f := (AV.int .i64)) rfl rfl rfl lenT_34 rfl)) ?_
  refine ASL.g (v := (.bool (spec_l1In ((p0.loop.length : Int)) 1 40))) (.bool c14) false rfl (wF _) rfl (fun hG => by have q0 := gN hG; subst q0; exact (qCall rfl rfl call_89 (spec_l1In_ok ((p0.loop.length : Int)) 1 40) rfl)) ?_
  refine ASL.g (v := (.bool (!(spec_l1In ((p0.loop.length : Int)) 1 40)))) (.bool c14) false rfl (wF _) rfl (fun hG => by have q0 := gN hG; subst q0; exact Light.quiet (opNot rfl rfl)) ?_
  refine ASL.q (v := (.bool (c14 || (!(spec_l1In ((p0.loop.length : Int)) 1 40))))) rfl rfl (Light.quiet (opPick (b := c14) rfl rfl (by cases c14 <;> rfl))) ?_
  refine ASL.done ?_
  refine AWP.ifB hF rfl (fun hc1 hF => ?_) (fun hc1 hF => ?_)
  · skip
    refine AWP.seqR rfl ?_
    refine ASL.q (v := (.bool false)) rfl rfl (Light.quiet (opAssign rfl rfl)) ?_
    refine ASL.done ?_
    refine AWP.ret ?_
    refine QThen.rt ?_
    obtain rfl := someE hF
    exact QRet.sole (v := (.bool false)) ⟨rfl, trivial⟩ rfl
  · skip
    refine AWP.skip ?_
    refine QThen.nrm ?_
    refine AWP.seqR rfl ?_
    refine ASL.q (v := (.rptr [(.list 1 (List.map (AV.int .i64) p0.stem)), (.list 1 (List.map (AV.int .i64) p0.loop))])) rfl rfl (Light.quiet (opFieldAddrR rfl fieldA_62_0 rfl rfl)) ?_
    refine ASL.q (v := (.list 1 (List.map (AV.int .i64) p0.stem))) rfl rfl (Light.quiet (opLoadR rfl aggA_34 rfl rfl)) ?_
    refine ASL.q (v := (.int .i64 p1)) rfl rfl (Light.quiet (opMove rfl rfl)) ?_
    obtain ⟨a24, ha24, hF⟩ := bindE hF
    refine ASL.q (v := (.bool a24)) rfl rfl ((qCall rfl rfl call_107 (spec_l3Letters_ok ha24) rfl)) ?_
    refine ASL.q (v := (.bool a24)) rfl rfl (Light.quiet (opMove rfl rfl)) ?_
    refine ASL.g (v := (.rptr [(.list 1 (List.map (AV.int .i64) p0.loop))])) (.bool a24) true rfl (wT _) rfl (fun hG => by have q0 := hG; subst q0; exact Light.quiet (opFieldAddrR rfl fieldA_62_1 rfl rfl)) ?_
    refine ASL.g (v := (.list 1 (List.map (AV.int .i64) p0.loop))) (.bool a24) true rfl (wT _) rfl (fun hG => by have q0 := hG; subst q0; exact Light.quiet (opLoadR rfl aggA_34 rfl rfl)) ?_
    refine ASL.g (v := (.int .i64 p1)) (.bool a24) true rfl (wT _) rfl (fun hG => by have q0 := hG; subst q0; exact Light.quiet (opMove rfl rfl)) ?_
    obtain ⟨a29, ha29, hF⟩ := bindE hF
    refine ASL.g (v := (.bool a29)) (.bool a24) true rfl (wT _) rfl (fun hG => by have q0 := hG; subst q0; exact (qCall rfl rfl call_107 (spec_l3Letters_ok (whenE ha29)) rfl)) ?_
    refine ASL.q (v := (.bool (a24 && a29))) rfl rfl (Light.quiet (opPick (b := a24) rfl rfl (by cases a24 <;> rfl))) ?_
    refine ASL.q (v := (.bool (a24 && a29))) rfl rfl (Light.quiet (opAssign rfl rfl)) ?_
    refine ASL.done ?_
    refine AWP.ret ?_
    obtain rfl := someE hF
    exact QRet.sole (v := (.bool (a24 && a29))) ⟨rfl, trivial⟩ rfl

set_option maxRecDepth 10000 in
theorem spec_l1Bit_ok {p0 : Int} {r : Int} (hF : spec_l1Bit p0 = some r) : PC Try.prog 47 [(.int .i64 p0)] fun v => v = (.int .i64 r) := by
  refine PC.enter Try.func47 rfl Try.ntmps47 (by simp) ?_
  have hS := Sep.void; unfold spec_l1Bit at hF
  refine AWP.seqR rfl ?_
  refine ASL.q (v := (.int .i64 0)) rfl rfl (Light.quiet (opAssign rfl rfl)) ?_
  refine ASL.done ?_
  refine AWP.seqR rfl ?_
  refine ASL.q (v := (.int .i64 p0)) rfl rfl (Light.quiet (opMove rfl rfl)) ?_
  refine ASL.q (v := (.int .i64 (bAnd .i64 p0 31))) rfl rfl (Light.quiet (opInt rfl rfl rfl rfl)) ?_
  obtain ⟨u1, hu1, hF⟩ := bindE hF
  refine ASL.q (v := (.int .i64 (shl .i64 1 ((bAnd .i64 p0 31))))) rfl rfl (Light.quiet (opShl rfl rfl rfl (of_decide_eq_true (chkE hu1)) rfl)) ?_
  refine ASL.q (v := (.int .i64 (shl .i64 1 ((bAnd .i64 p0 31))))) rfl rfl (Light.quiet (opAssign rfl rfl)) ?_
  refine ASL.done ?_
  refine AWP.ret ?_
  obtain rfl := someE hF
  exact QRet.sole (v := (.int .i64 (shl .i64 1 ((bAnd .i64 p0 31))))) ⟨rfl, trivial⟩ rfl

set_option maxRecDepth 10000 in
theorem spec_l6Succ_ok {p0 : TGen} {p1 : Bool} {r : (List Int)} (hF : spec_l6Succ p0 p1 = some r) : PO Try.prog 108 [(TGen.av p0), (.bool p1)] 1 (List.map (AV.int .i64) r) := by
  refine HC.enter Try.func108 rfl Try.ntmps108 (by simp) ?_
  have hS := Sep.void; unfold spec_l6Succ at hF
  refine AWP.seqR rfl ?_
  refine ASL.q (v := (.rptr [(.int .i64 p0.letters), (.int .i64 p0.states), (.int .i64 p0.start), (.int .i64 p0.sets), (.list 4 (List.map TGEdge.av p0.edges))])) rfl rfl ((qBoxI (v := (TGen.av p0)) rfl rfl rfl rfl)) ?_
  have hS := hNil (s := 1) (f := (AV.int .i64)) hS
  refine ASL.q (v := .nil) rfl rfl (Light.quiet (opAssign rfl rfl)) ?_
  refine ASL.done ?_
  refine AWP.seqR rfl ?_
  refine ASL.q (v := (.rptr [(.int .i64 p0.states), (.int .i64 p0.start), (.int .i64 p0.sets), (.list 4 (List.map TGEdge.av p0.edges))])) rfl rfl (Light.quiet (opFieldAddrR rfl fieldA_60_1 rfl rfl)) ?_
  refine ASL.q (v := (.int .i64 p0.states)) rfl rfl (Light.quiet (opLoadR rfl aggA_3 rfl rfl)) ?_
  refine ASL.q (v := (.int .i64 (W (8 * p0.states)))) rfl rfl (Light.quiet (opInt rfl rfl rfl rfl)) ?_
  obtain ⟨z11, hz11, hF⟩ := bindE hF
  refine ASL.x rfl rfl (hMk (f := (AV.int .i64)) hS hz11 (by decide) rfl elemA_34 sizeA_3 bytesA_3 zeroA_3 rfl rfl (by decide) rfl rfl ?_); rintro v11 G2 hK hS
  refine ASL.q (v := v11) rfl rfl (Light.quiet (opAssign rfl rfl)) ?_
  refine ASL.done ?_
  refine AWP.seqM (fun e H => ∃ y4 : (List Int), E.Told e [(5, v11)] ∧ E.Sep H [.row 1 v11 (List.map (AV.int .i64) y4)] ∧ spec_l6Succ.k0 y4 = some r) ?_ ?_
  · rintro e0 G5 ⟨y4, hT, hS, hF⟩; refine AWP.only _ hT ?_; unfold spec_l6Succ.k0 at hF
    refine AWP.seqR rfl ?_
    refine ASL.q (v := v11) rfl rfl (Light.quiet (opMove rfl rfl)) ?_
    refine ASL.q (v := v11) rfl rfl (Light.quiet (opAssign rfl rfl)) ?_
    refine ASL.done ?_
    refine AWP.ret ?_
    obtain rfl := someE hF
    exact QRet.sole (v := v11) ⟨rfl, trivial⟩ (hS.get (k := 0) rfl)
  · skip
    refine AWP.seqR rfl ?_
    refine ASL.q (v := (.int .i64 0)) rfl rfl (Light.quiet (opAssign rfl rfl)) ?_
    refine ASL.done ?_
    refine AWP.block ?_
    obtain ⟨o10, hL9, hR11⟩ := bindE hF
    refine AWP.loopF (ω := Unit) hL9 (fun s w => [(1, (.bool p1)), (2, (.rptr [(.int .i64 p0.letters), (.int .i64 p0.states), (.int .i64 p0.start), (.int .i64 p0.sets), (.list 4 (List.map TGEdge.av p0.edges))])), (5, v11), (6, (.int .i64 s.2))]) (fun s w => [.row 1 v11 (List.map (AV.int .i64) s.1)]) () ⟨rfl, rfl, rfl, rfl, trivial⟩ (hS.pick [0] rfl rfl) ?_
    rintro ⟨y6, x6_l0⟩ _ G12 hS x7 hF hx8
    try dsimp only at hS ⊢
    have hF : spec_l6Succ.b0 p0 p1 y6 x6_l0 = some x7 := hF; unfold spec_l6Succ.b0 at hF
    refine AWP.seq ?_
    refine AWP.seqR rfl ?_
    refine ASL.q (v := (.int .i64 x6_l0)) rfl rfl (Light.quiet (opMove rfl rfl)) ?_
    refine ASL.q (v := (.rptr [(.list 4 (List.map TGEdge.av p0.edges))])) rfl rfl (Light.quiet (opFieldAddrR rfl fieldA_60_4 rfl rfl)) ?_
    refine ASL.q (v := (.list 4 (List.map TGEdge.av p0.edges))) rfl rfl (Light.quiet (opLoadR rfl aggA_58 rfl rfl)) ?_
    refine ASL.q (v := (.int .i64 (p0.edges.length : Int))) rfl rfl (Light.quiet (opLenMap (f := TGEdge.av) rfl rfl rfl lenT_58 rfl)) ?_
    refine ASL.q (v := (.bool (decide (x6_l0 < ((p0.edges.length : Int)))))) rfl rfl (Light.quiet (opInt rfl rfl rfl rfl)) ?_
    refine ASL.done ?_
    refine AWP.ifP hF rfl (fun hc13 hF => ?_) (fun hc13 hF => ?_)
    · skip
      refine AWP.skip ?_
      refine QThen.nrm ?_
      refine AWP.seq ?_
      refine AWP.block ?_
      refine AWP.seqR rfl ?_
      refine ASL.q (v := (.rptr [(.list 4 (List.map TGEdge.av p0.edges))])) rfl rfl (Light.quiet (opFieldAddrR rfl fieldA_60_4 rfl rfl)) ?_
      refine ASL.q (v := (.list 4 (List.map TGEdge.av p0.edges))) rfl rfl (Light.quiet (opLoadR rfl aggA_58 rfl rfl)) ?_
      refine ASL.q (v := (.int .i64 x6_l0)) rfl rfl (Light.quiet (opMove rfl rfl)) ?_
      obtain ⟨a22, ha22, hF⟩ := bindE hF
      refine ASL.q (v := (.rptr [(.int .i64 a22.from_), (.int .i64 a22.letter), (.int .i64 a22.to_), (.int .i64 a22.marks)])) rfl rfl (Light.quiet (kIx (f := TGEdge.av) ha22 rfl rfl rfl elemA_58 sizeA_99 rfl)) ?_
      refine ASL.q (v := (TGEdge.av a22)) rfl rfl (Light.quiet (opLoadRA rfl aggA_99 sizeA_99 rfl (nlt rfl) rfl)) ?_
      refine ASL.x rfl rfl (hNewZ hS [(.int .i64 0), (.int .i64 0), (.int .i64 0), (.int .i64 0)] rfl zeroA_99 ⟨.inl rfl, .inl rfl, .inl rfl, .inl rfl, trivial⟩ ?_); rintro b7 G14 hK hS
      refine ASL.n rfl rfl (hPutA hS (j := 0) rfl rfl sizeA_99 rfl rfl rfl rfl rfl (nlt rfl) ?_); rintro G16 hS
      refine ASL.done ?_
      refine AWP.seqR rfl ?_
      refine ASL.q (v := (.bool p1)) rfl rfl (Light.quiet (opMove rfl rfl)) ?_
      refine ASL.done ?_
      refine AWP.ifB hF rfl (fun hc17 hF => ?_) (fun hc17 hF => ?_)
      · skip
        refine AWP.lastD [(0, false), (1, false), (2, false), (3, false), (4, false), (5, false), (6, false), (7, false), (8, false), (9, false), (10, false), (11, false), (12, false), (13, false), (14, false), (15, false), (16, false), (17, false), (18, false), (19, false), (20, false), (21, true)] mixed (by kernel_rfl) rfl ?_
        refine ARL.q0 (v := v11) rfl rfl (Light.quiet (opMove rfl rfl)) ?_
        refine ARL.q0 (v := (.ptr b7 2)) rfl rfl (Light.quiet (opFieldAddr rfl fieldA_99_2 rfl rfl)) ?_
        refine ARL.q (v := (.int .i64 a22.to_)) rfl rfl (hS.aliveC (k := 0) rfl) (Light.quiet (kAt hS (j := 0) rfl rfl aggA_3 rfl rfl)) ?_
        refine ARL.q0 (v := (.int .i64 (W (8 * a22.to_)))) rfl rfl (Light.quiet (opInt rfl rfl rfl rfl)) ?_
        refine ARL.q0 (v := (.ptr b7 1)) rfl rfl (Light.quiet (opFieldAddr rfl fieldA_99_1 rfl rfl)) ?_
        refine ARL.q (v := (.int .i64 a22.letter)) rfl rfl (hS.aliveC (k := 0) rfl) (Light.quiet (kAt hS (j := 0) rfl rfl aggA_3 rfl rfl)) ?_
        refine ARL.q0 (v := (.int .i64 (W (((W (8 * a22.to_))) + a22.letter)))) rfl rfl (Light.quiet (opInt rfl rfl rfl rfl)) ?_
        refine ARL.q0 (v := v11) rfl rfl (Light.quiet (opMove rfl rfl)) ?_
        refine ARL.q0 (v := (.ptr b7 2)) rfl rfl (Light.quiet (opFieldAddr rfl fieldA_99_2 rfl rfl)) ?_
        refine ARL.q (v := (.int .i64 a22.to_)) rfl rfl (hS.aliveC (k := 0) rfl) (Light.quiet (kAt hS (j := 0) rfl rfl aggA_3 rfl rfl)) ?_
        refine ARL.q0 (v := (.int .i64 (W (8 * a22.to_)))) rfl rfl (Light.quiet (opInt rfl rfl rfl rfl)) ?_
        refine ARL.q0 (v := (.ptr b7 1)) rfl rfl (Light.quiet (opFieldAddr rfl fieldA_99_1 rfl rfl)) ?_
        refine ARL.q (v := (.int .i64 a22.letter)) rfl rfl (hS.aliveC (k := 0) rfl) (Light.quiet (kAt hS (j := 0) rfl rfl aggA_3 rfl rfl)) ?_
        refine ARL.q0 (v := (.int .i64 (W (((W (8 * a22.to_))) + a22.letter)))) rfl rfl (Light.quiet (opInt rfl rfl rfl rfl)) ?_
        obtain ⟨a39, ha39, hF⟩ := bindE hF
        refine ARL.q0 (v := (ptrTo v11 ((W (((W (8 * a22.to_))) + a22.letter))).toNat 1)) rfl rfl (Light.quiet (kIxOx hS (j := 1) rfl ha39 rfl rfl rfl elemA_34 sizeA_3)) ?_
        refine ARL.q (v := (.int .i64 a39)) rfl rfl (hS.aliveR (k := 1) rfl) (Light.quiet (kLd (f := (AV.int .i64)) hS (j := 1) rfl ha39 rfl aggA_3 rfl (fun _ => rfl))) ?_
        refine ARL.q0 (v := (.ptr b7 0)) rfl rfl (Light.quiet (opFieldAddr rfl fieldA_99_0 rfl rfl)) ?_
        refine ARL.q (v := (.int .i64 a22.from_)) rfl rfl (hS.aliveC (k := 0) rfl) (Light.quiet (kAt hS (j := 0) rfl rfl aggA_3 rfl rfl)) ?_
        obtain ⟨a43, ha43, hF⟩ := bindE hF
        refine ARL.q0 (v := (.int .i64 a43)) rfl rfl ((qCall rfl rfl call_47 (spec_l1Bit_ok ha43) rfl)) ?_
        refine ARL.q0 (v := (.int .i64 (bOr .i64 a39 a43))) rfl rfl (Light.quiet (opInt rfl rfl rfl rfl)) ?_
        obtain ⟨m45, hm45, hF⟩ := bindE hF
        refine ARL.q0 (v := (ptrTo v11 m45 1)) rfl rfl (Light.quiet (kIxO hS (j := 1) rfl hm45 rfl rfl rfl elemA_34 sizeA_3)) ?_
        refine ARL.n rfl rfl rfl rfl (hSt (f := (AV.int .i64)) (a := (bOr .i64 a39 a43)) hS (j := 1) rfl hm45 rfl sizeA_3 rfl rfl ⟨rfl, rfl, rfl⟩ ?_); rintro G18 hS
        refine ARL.done ?_
        refine QBlock.nrm ?_
        refine QThen.nrm ?_
        refine AWP.lastR rfl ?_
        refine ASL.q (v := (.int .i64 x6_l0)) rfl rfl (Light.quiet (opMove rfl rfl)) ?_
        refine ASL.q (v := (.int .i64 (W (x6_l0 + 1)))) rfl rfl (Light.quiet (opInt rfl rfl rfl rfl)) ?_
        refine ASL.q (v := (.int .i64 (W (x6_l0 + 1)))) rfl rfl (Light.quiet (opAssign rfl rfl)) ?_
        refine ASL.done ?_
        refine QThen.nrm ?_
        exact ⟨((y6.set m45 ((bOr .i64 a39 a43))), (W (x6_l0 + 1))), (), (someE hF).symm, ⟨rfl, rfl, rfl, rfl, trivial⟩, (hS.pick [1] rfl rfl)⟩
      · skip
        refine AWP.lastD [(0, false), (1, false), (2, false), (3, false), (4, false), (5, false), (6, false), (7, false), (8, false), (9, false), (10, false), (11, false), (12, false), (13, false), (14, false), (15, false), (16, false), (17, false), (18, false), (19, false), (20, false), (21, true)] mixed (by kernel_rfl) rfl ?_
        refine ARL.q0 (v := v11) rfl rfl (Light.quiet (opMove rfl rfl)) ?_
        refine ARL.q0 (v := (.ptr b7 0)) rfl rfl (Light.quiet (opFieldAddr rfl fieldA_99_0 rfl rfl)) ?_
        refine ARL.q (v := (.int .i64 a22.from_)) rfl rfl (hS.aliveC (k := 0) rfl) (Light.quiet (kAt hS (j := 0) rfl rfl aggA_3 rfl rfl)) ?_
        refine ARL.q0 (v := (.int .i64 (W (8 * a22.from_)))) rfl rfl (Light.quiet (opInt rfl rfl rfl rfl)) ?_
        refine ARL.q0 (v := (.ptr b7 1)) rfl rfl (Light.quiet (opFieldAddr rfl fieldA_99_1 rfl rfl)) ?_
        refine ARL.q (v := (.int .i64 a22.letter)) rfl rfl (hS.aliveC (k := 0) rfl) (Light.quiet (kAt hS (j := 0) rfl rfl aggA_3 rfl rfl)) ?_
        refine ARL.q0 (v := (.int .i64 (W (((W (8 * a22.from_))) + a22.letter)))) rfl rfl (Light.quiet (opInt rfl rfl rfl rfl)) ?_
        refine ARL.q0 (v := v11) rfl rfl (Light.quiet (opMove rfl rfl)) ?_
        refine ARL.q0 (v := (.ptr b7 0)) rfl rfl (Light.quiet (opFieldAddr rfl fieldA_99_0 rfl rfl)) ?_
        refine ARL.q (v := (.int .i64 a22.from_)) rfl rfl (hS.aliveC (k := 0) rfl) (Light.quiet (kAt hS (j := 0) rfl rfl aggA_3 rfl rfl)) ?_
        refine ARL.q0 (v := (.int .i64 (W (8 * a22.from_)))) rfl rfl (Light.quiet (opInt rfl rfl rfl rfl)) ?_
        refine ARL.q0 (v := (.ptr b7 1)) rfl rfl (Light.quiet (opFieldAddr rfl fieldA_99_1 rfl rfl)) ?_
        refine ARL.q (v := (.int .i64 a22.letter)) rfl rfl (hS.aliveC (k := 0) rfl) (Light.quiet (kAt hS (j := 0) rfl rfl aggA_3 rfl rfl)) ?_
        refine ARL.q0 (v := (.int .i64 (W (((W (8 * a22.from_))) + a22.letter)))) rfl rfl (Light.quiet (opInt rfl rfl rfl rfl)) ?_
        obtain ⟨a60, ha60, hF⟩ := bindE hF
        refine ARL.q0 (v := (ptrTo v11 ((W (((W (8 * a22.from_))) + a22.letter))).toNat 1)) rfl rfl (Light.quiet (kIxOx hS (j := 1) rfl ha60 rfl rfl rfl elemA_34 sizeA_3)) ?_
        refine ARL.q (v := (.int .i64 a60)) rfl rfl (hS.aliveR (k := 1) rfl) (Light.quiet (kLd (f := (AV.int .i64)) hS (j := 1) rfl ha60 rfl aggA_3 rfl (fun _ => rfl))) ?_
        refine ARL.q0 (v := (.ptr b7 2)) rfl rfl (Light.quiet (opFieldAddr rfl fieldA_99_2 rfl rfl)) ?_
        refine ARL.q (v := (.int .i64 a22.to_)) rfl rfl (hS.aliveC (k := 0) rfl) (Light.quiet (kAt hS (j := 0) rfl rfl aggA_3 rfl rfl)) ?_
        obtain ⟨a64, ha64, hF⟩ := bindE hF
        refine ARL.q0 (v := (.int .i64 a64)) rfl rfl ((qCall rfl rfl call_47 (spec_l1Bit_ok ha64) rfl)) ?_
        refine ARL.q0 (v := (.int .i64 (bOr .i64 a60 a64))) rfl rfl (Light.quiet (opInt rfl rfl rfl rfl)) ?_
        obtain ⟨m66, hm66, hF⟩ := bindE hF
        refine ARL.q0 (v := (ptrTo v11 m66 1)) rfl rfl (Light.quiet (kIxO hS (j := 1) rfl hm66 rfl rfl rfl elemA_34 sizeA_3)) ?_
        refine ARL.n rfl rfl rfl rfl (hSt (f := (AV.int .i64)) (a := (bOr .i64 a60 a64)) hS (j := 1) rfl hm66 rfl sizeA_3 rfl rfl ⟨rfl, rfl, rfl⟩ ?_); rintro G19 hS
        refine ARL.done ?_
        refine QBlock.nrm ?_
        refine QThen.nrm ?_
        refine AWP.lastR rfl ?_
        refine ASL.q (v := (.int .i64 x6_l0)) rfl rfl (Light.quiet (opMove rfl rfl)) ?_
        refine ASL.q (v := (.int .i64 (W (x6_l0 + 1)))) rfl rfl (Light.quiet (opInt rfl rfl rfl rfl)) ?_
        refine ASL.q (v := (.int .i64 (W (x6_l0 + 1)))) rfl rfl (Light.quiet (opAssign rfl rfl)) ?_
        refine ASL.done ?_
        refine QThen.nrm ?_
        exact ⟨((y6.set m66 ((bOr .i64 a60 a64))), (W (x6_l0 + 1))), (), (someE hF).symm, ⟨rfl, rfl, rfl, rfl, trivial⟩, (hS.pick [1] rfl rfl)⟩
    · skip
      refine AWP.exit ?_
      refine QThen.ext ?_
      refine QThen.ext ?_
      refine QBlock.hit ?_
      obtain rfl := (hx8 _ (someE hF).symm)
      have hF := hR11
      refine QThen.nrm ?_
      exact ⟨y6, ⟨rfl, trivial⟩, (hS.pick [0] rfl rfl), hF⟩

set_option maxRecDepth 10000 in
theorem spec_l6Places_ok (p0 : TWord) : PC Try.prog 78 [(TWord.av p0)] fun v => v = (.int .i64 (spec_l6Places p0)) := by
  generalize hF : spec_l6Places p0 = r
  refine PC.enter Try.func78 rfl Try.ntmps78 (by simp) ?_
  have hS := Sep.void; unfold spec_l6Places at hF
  refine AWP.seqR rfl ?_
  refine ASL.q (v := (.rptr [(.list 1 (List.map (AV.int .i64) p0.stem)), (.list 1 (List.map (AV.int .i64) p0.loop))])) rfl rfl ((qBoxI (v := (TWord.av p0)) rfl rfl rfl rfl)) ?_
  refine ASL.q (v := (.int .i64 0)) rfl rfl (Light.quiet (opAssign rfl rfl)) ?_
  refine ASL.done ?_
  refine AWP.seqR rfl ?_
  refine ASL.q (v := (.rptr [(.list 1 (List.map (AV.int .i64) p0.stem)), (.list 1 (List.map (AV.int .i64) p0.loop))])) rfl rfl (Light.quiet (opFieldAddrR rfl fieldA_62_0 rfl rfl)) ?_
  refine ASL.q (v := (.list 1 (List.map (AV.int .i64) p0.stem))) rfl rfl (Light.quiet (opLoadR rfl aggA_34 rfl rfl)) ?_
  refine ASL.q (v := (.int .i64 (p0.stem.length : Int))) rfl rfl (Light.quiet (opLenMap (f := (AV.int .i64)) rfl rfl rfl lenT_34 rfl)) ?_
  refine ASL.q (v := (.rptr [(.list 1 (List.map (AV.int .i64) p0.loop))])) rfl rfl (Light.quiet (opFieldAddrR rfl fieldA_62_1 rfl rfl)) ?_
  refine ASL.q (v := (.list 1 (List.map (AV.int .i64) p0.loop))) rfl rfl (Light.quiet (opLoadR rfl aggA_34 rfl rfl)) ?_
  refine ASL.q (v := (.int .i64 (p0.loop.length : Int))) rfl rfl (Light.quiet (opLenMap (f := (AV.int .i64)) rfl rfl rfl lenT_34 rfl)) ?_
  refine ASL.q (v := (.int .i64 (W (((p0.stem.length : Int)) + ((p0.loop.length : Int)))))) rfl rfl (Light.quiet (opInt rfl rfl rfl rfl)) ?_
  refine ASL.q (v := (.int .i64 (W (((p0.stem.length : Int)) + ((p0.loop.length : Int)))))) rfl rfl (Light.quiet (opAssign rfl rfl)) ?_
  refine ASL.done ?_
  refine AWP.ret ?_
  obtain rfl := hF
  exact QRet.sole (v := (.int .i64 (W (((p0.stem.length : Int)) + ((p0.loop.length : Int)))))) ⟨rfl, trivial⟩ rfl

set_option maxRecDepth 10000 in
theorem spec_l6After_ok (p0 : TWord) (p1 : Int) : PC Try.prog 80 [(TWord.av p0), (.int .i64 p1)] fun v => v = (.int .i64 (spec_l6After p0 p1)) := by
  generalize hF : spec_l6After p0 p1 = r
  refine PC.enter Try.func80 rfl Try.ntmps80 (by simp) ?_
  have hS := Sep.void; unfold spec_l6After at hF
  refine AWP.seqR rfl ?_
  refine ASL.q (v := (.rptr [(.list 1 (List.map (AV.int .i64) p0.stem)), (.list 1 (List.map (AV.int .i64) p0.loop))])) rfl rfl ((qBoxI (v := (TWord.av p0)) rfl rfl rfl rfl)) ?_
  refine ASL.q (v := (.int .i64 0)) rfl rfl (Light.quiet (opAssign rfl rfl)) ?_
  refine ASL.done ?_
  refine AWP.seq ?_
  refine AWP.seqR rfl ?_
  refine ASL.q (v := (.int .i64 p1)) rfl rfl (Light.quiet (opMove rfl rfl)) ?_
  refine ASL.q (v := (.int .i64 (W (p1 + 1)))) rfl rfl (Light.quiet (opInt rfl rfl rfl rfl)) ?_
  refine ASL.q (v := (TWord.av p0)) rfl rfl (Light.quiet (opLoadRA rfl aggA_62 sizeA_62 rfl (nlt rfl) rfl)) ?_
  refine ASL.q (v := (.int .i64 (spec_l6Places p0))) rfl rfl ((qCall rfl rfl call_78 (spec_l6Places_ok p0) rfl)) ?_
  refine ASL.q (v := (.bool (decide (((W (p1 + 1))) = ((spec_l6Places p0)))))) rfl rfl (Light.quiet (opInt rfl rfl rfl rfl)) ?_
  refine ASL.done ?_
  refine AWP.ifP hF rfl (fun hc1 hF => ?_) (fun hc1 hF => ?_)
  · skip
    refine AWP.seqR rfl ?_
    refine ASL.q (v := (.rptr [(.list 1 (List.map (AV.int .i64) p0.stem)), (.list 1 (List.map (AV.int .i64) p0.loop))])) rfl rfl (Light.quiet (opFieldAddrR rfl fieldA_62_0 rfl rfl)) ?_
    refine ASL.q (v := (.list 1 (List.map (AV.int .i64) p0.stem))) rfl rfl (Light.quiet (opLoadR rfl aggA_34 rfl rfl)) ?_
    refine ASL.q (v := (.int .i64 (p0.stem.length : Int))) rfl rfl (Light.quiet (opLenMap (f := (AV.int .i64)) rfl rfl rfl lenT_34 rfl)) ?_
    refine ASL.q (v := (.int .i64 (p0.stem.length : Int))) rfl rfl (Light.quiet (opAssign rfl rfl)) ?_
    refine ASL.done ?_
    refine AWP.ret ?_
    refine QThen.rt ?_
    obtain rfl := hF
    exact QRet.sole (v := (.int .i64 (p0.stem.length : Int))) ⟨rfl, trivial⟩ rfl
  · skip
    refine AWP.skip ?_
    refine QThen.nrm ?_
    refine AWP.seqR rfl ?_
    refine ASL.q (v := (.int .i64 p1)) rfl rfl (Light.quiet (opMove rfl rfl)) ?_
    refine ASL.q (v := (.int .i64 (W (p1 + 1)))) rfl rfl (Light.quiet (opInt rfl rfl rfl rfl)) ?_
    refine ASL.q (v := (.int .i64 (W (p1 + 1)))) rfl rfl (Light.quiet (opAssign rfl rfl)) ?_
    refine ASL.done ?_
    refine AWP.ret ?_
    obtain rfl := hF
    exact QRet.sole (v := (.int .i64 (W (p1 + 1)))) ⟨rfl, trivial⟩ rfl

set_option maxRecDepth 10000 in
theorem spec_l3At_ok {p0 : TWord} {p1 : Int} {r : Int} (hF : spec_l3At p0 p1 = some r) : PC Try.prog 79 [(TWord.av p0), (.int .i64 p1)] fun v => v = (.int .i64 r) := by
  refine PC.enter Try.func79 rfl Try.ntmps79 (by simp) ?_
  have hS := Sep.void; unfold spec_l3At at hF
  refine AWP.seqR rfl ?_
  refine ASL.q (v := (.rptr [(.list 1 (List.map (AV.int .i64) p0.stem)), (.list 1 (List.map (AV.int .i64) p0.loop))])) rfl rfl ((qBoxI (v := (TWord.av p0)) rfl rfl rfl rfl)) ?_
  refine ASL.q (v := (.int .i64 0)) rfl rfl (Light.quiet (opAssign rfl rfl)) ?_
  refine ASL.done ?_
  refine AWP.seq ?_
  refine AWP.seqR rfl ?_
  refine ASL.q (v := (.int .i64 p1)) rfl rfl (Light.quiet (opMove rfl rfl)) ?_
  refine ASL.q (v := (.rptr [(.list 1 (List.map (AV.int .i64) p0.stem)), (.list 1 (List.map (AV.int .i64) p0.loop))])) rfl rfl (Light.quiet (opFieldAddrR rfl fieldA_62_0 rfl rfl)) ?_
  refine ASL.q (v := (.list 1 (List.map (AV.int .i64) p0.stem))) rfl rfl (Light.quiet (opLoadR rfl aggA_34 rfl rfl)) ?_
  refine ASL.q (v := (.int .i64 (p0.stem.length : Int))) rfl rfl (Light.quiet (opLenMap (f := (AV.int .i64)) rfl rfl rfl lenT_34 rfl)) ?_
  refine ASL.q (v := (.bool (decide (p1 < ((p0.stem.length : Int)))))) rfl rfl (Light.quiet (opInt rfl rfl rfl rfl)) ?_
  refine ASL.done ?_
  refine AWP.ifP hF rfl (fun hc1 hF => ?_) (fun hc1 hF => ?_)
  · skip
    refine AWP.seqR rfl ?_
    refine ASL.q (v := (.rptr [(.list 1 (List.map (AV.int .i64) p0.stem)), (.list 1 (List.map (AV.int .i64) p0.loop))])) rfl rfl (Light.quiet (opFieldAddrR rfl fieldA_62_0 rfl rfl)) ?_
    refine ASL.q (v := (.list 1 (List.map (AV.int .i64) p0.stem))) rfl rfl (Light.quiet (opLoadR rfl aggA_34 rfl rfl)) ?_
    refine ASL.q (v := (.int .i64 p1)) rfl rfl (Light.quiet (opMove rfl rfl)) ?_
    obtain ⟨a13, ha13, hF⟩ := bindE hF
    refine ASL.q (v := (.rptr [(.int .i64 a13)])) rfl rfl (Light.quiet (kIx (f := (AV.int .i64)) ha13 rfl rfl rfl elemA_34 sizeA_3 rfl)) ?_
    refine ASL.q (v := (.int .i64 a13)) rfl rfl (Light.quiet (opLoadR rfl aggA_3 rfl rfl)) ?_
    refine ASL.q (v := (.int .i64 a13)) rfl rfl (Light.quiet (opAssign rfl rfl)) ?_
    refine ASL.done ?_
    refine AWP.ret ?_
    refine QThen.rt ?_
    obtain rfl := someE hF
    exact QRet.sole (v := (.int .i64 a13)) ⟨rfl, trivial⟩ rfl
  · skip
    refine AWP.skip ?_
    refine QThen.nrm ?_
    refine AWP.seqD [(0, false), (1, false), (2, false), (3, false), (4, false), (5, false), (6, false), (7, false), (8, false), (9, false), (10, false), (11, false), (12, false), (13, false)] mixed (by kernel_rfl) rfl ?_
    refine ARL.q0 (v := (.rptr [(.list 1 (List.map (AV.int .i64) p0.loop))])) rfl rfl (Light.quiet (opFieldAddrR rfl fieldA_62_1 rfl rfl)) ?_
    refine ARL.q0 (v := (.list 1 (List.map (AV.int .i64) p0.loop))) rfl rfl (Light.quiet (opLoadR rfl aggA_34 rfl rfl)) ?_
    refine ARL.q0 (v := (.int .i64 p1)) rfl rfl (Light.quiet (opMove rfl rfl)) ?_
    refine ARL.q0 (v := (.rptr [(.list 1 (List.map (AV.int .i64) p0.stem)), (.list 1 (List.map (AV.int .i64) p0.loop))])) rfl rfl (Light.quiet (opFieldAddrR rfl fieldA_62_0 rfl rfl)) ?_
    refine ARL.q0 (v := (.list 1 (List.map (AV.int .i64) p0.stem))) rfl rfl (Light.quiet (opLoadR rfl aggA_34 rfl rfl)) ?_
    refine ARL.q0 (v := (.int .i64 (p0.stem.length : Int))) rfl rfl (Light.quiet (opLenMap (f := (AV.int .i64)) rfl rfl rfl lenT_34 rfl)) ?_
    refine ARL.q0 (v := (.int .i64 (W (p1 - ((p0.stem.length : Int)))))) rfl rfl (Light.quiet (opInt rfl rfl rfl rfl)) ?_
    refine ARL.q0 (v := (.rptr [(.list 1 (List.map (AV.int .i64) p0.loop))])) rfl rfl (Light.quiet (opFieldAddrR rfl fieldA_62_1 rfl rfl)) ?_
    refine ARL.q0 (v := (.list 1 (List.map (AV.int .i64) p0.loop))) rfl rfl (Light.quiet (opLoadR rfl aggA_34 rfl rfl)) ?_
    refine ARL.q0 (v := (.int .i64 (p0.loop.length : Int))) rfl rfl (Light.quiet (opLenMap (f := (AV.int .i64)) rfl rfl rfl lenT_34 rfl)) ?_
    obtain ⟨u2, hu2, hF⟩ := bindE hF
    refine ARL.q0 (v := (.int .i64 (Int.tmod ((W (p1 - ((p0.stem.length : Int))))) ((p0.loop.length : Int))))) rfl rfl (Light.quiet (opRem rfl rfl rfl (of_decide_eq_true (chkE hu2)) rfl)) ?_
    obtain ⟨a26, ha26, hF⟩ := bindE hF
    refine ARL.q0 (v := (.rptr [(.int .i64 a26)])) rfl rfl (Light.quiet (kIx (f := (AV.int .i64)) ha26 rfl rfl rfl elemA_34 sizeA_3 rfl)) ?_
    refine ARL.q0 (v := (.int .i64 a26)) rfl rfl (Light.quiet (opLoadR rfl aggA_3 rfl rfl)) ?_
    refine ARL.q0 (v := (.int .i64 a26)) rfl rfl (Light.quiet (opAssign rfl rfl)) ?_
    refine ARL.done ?_
    refine AWP.ret ?_
    obtain rfl := someE hF
    exact QRet.sole (v := (.int .i64 a26)) ⟨rfl, trivial⟩ rfl

set_option maxRecDepth 10000 in
theorem spec_l1Has_ok {p0 : Int} {p1 : Int} {r : Bool} (hF : spec_l1Has p0 p1 = some r) : PC Try.prog 48 [(.int .i64 p0), (.int .i64 p1)] fun v => v = (.bool r) := by
  refine PC.enter Try.func48 rfl Try.ntmps48 (by simp) ?_
  have hS := Sep.void; unfold spec_l1Has at hF
  refine AWP.seqR rfl ?_
  refine ASL.q (v := (.bool false)) rfl rfl (Light.quiet (opAssign rfl rfl)) ?_
  refine ASL.done ?_
  refine AWP.seqR rfl ?_
  refine ASL.q (v := (.int .i64 p1)) rfl rfl (Light.quiet (opMove rfl rfl)) ?_
  refine ASL.q (v := (.bool (spec_l1In p1 0 30))) rfl rfl ((qCall rfl rfl call_89 (spec_l1In_ok p1 0 30) rfl)) ?_
  obtain ⟨c7, hc7, hF⟩ := bndE hF
  refine ASL.q (v := (.bool c7)) rfl rfl ((Quiet.cast (Light.quiet (opMove rfl rfl)) (congrArg AV.bool hc7.symm))) ?_
  refine ASL.g (v := (.int .i64 p0)) (.bool c7) true rfl (wT _) rfl (fun hG => by have q0 := hG; subst q0; exact Light.quiet (opMove rfl rfl)) ?_
  refine ASL.g (v := (.int .i64 p1)) (.bool c7) true rfl (wT _) rfl (fun hG => by have q0 := hG; subst q0; exact Light.quiet (opMove rfl rfl)) ?_
  obtain ⟨a10, ha10, hF⟩ := bindE hF
  refine ASL.g (v := (.int .i64 a10)) (.bool c7) true rfl (wT _) rfl (fun hG => by have q0 := hG; subst q0; exact (qCall rfl rfl call_47 (spec_l1Bit_ok (whenE ha10)) rfl)) ?_
  refine ASL.g (v := (.int .i64 (bAnd .i64 p0 a10))) (.bool c7) true rfl (wT _) rfl (fun hG => by have q0 := hG; subst q0; exact Light.quiet (opInt rfl rfl rfl rfl)) ?_
  refine ASL.g (v := (.bool (decide (((bAnd .i64 p0 a10)) ≠ 0)))) (.bool c7) true rfl (wT _) rfl (fun hG => by have q0 := hG; subst q0; exact Light.quiet (opInt rfl rfl rfl rfl)) ?_
  refine ASL.q (v := (.bool (c7 && (decide (((bAnd .i64 p0 a10)) ≠ 0))))) rfl rfl (Light.quiet (opPick (b := c7) rfl rfl (by cases c7 <;> rfl))) ?_
  refine ASL.q (v := (.bool (c7 && (decide (((bAnd .i64 p0 a10)) ≠ 0))))) rfl rfl (Light.quiet (opAssign rfl rfl)) ?_
  refine ASL.done ?_
  refine AWP.ret ?_
  obtain rfl := someE hF
  exact QRet.sole (v := (.bool (c7 && (decide (((bAnd .i64 p0 a10)) ≠ 0))))) ⟨rfl, trivial⟩ rfl

set_option maxRecDepth 10000 in
theorem spec_l6Step_ok {p0 : (List Int)} {p1 : Int} {p2 : Int} {r : Int} (hF : spec_l6Step p0 p1 p2 = some r) : PC Try.prog 123 [(.list 1 (List.map (AV.int .i64) p0)), (.int .i64 p1), (.int .i64 p2)] fun v => v = (.int .i64 r) := by
  refine PC.enter Try.func123 rfl Try.ntmps123 (by simp) ?_
  have hS := Sep.void; unfold spec_l6Step at hF
  refine AWP.seqR rfl ?_
  refine ASL.q (v := (.int .i64 0)) rfl rfl (Light.quiet (opAssign rfl rfl)) ?_
  refine ASL.done ?_
  refine AWP.seqR rfl ?_
  refine ASL.q (v := (.int .i64 0)) rfl rfl (Light.quiet (opAssign rfl rfl)) ?_
  refine ASL.done ?_
  refine AWP.seqM (fun e H => ∃ x7_1 : Int, E.Told e [(7, (.int .i64 x7_1))] ∧ E.Sep H [] ∧ spec_l6Step.k0 x7_1 = some r) ?_ ?_
  · rintro e0 G1 ⟨x7_1, hT, hS, hF⟩; refine AWP.only _ hT ?_; unfold spec_l6Step.k0 at hF
    refine AWP.seqR rfl ?_
    refine ASL.q (v := (.int .i64 x7_1)) rfl rfl (Light.quiet (opMove rfl rfl)) ?_
    refine ASL.q (v := (.int .i64 x7_1)) rfl rfl (Light.quiet (opAssign rfl rfl)) ?_
    refine ASL.done ?_
    refine AWP.ret ?_
    obtain rfl := someE hF
    exact QRet.sole (v := (.int .i64 x7_1)) ⟨rfl, trivial⟩ rfl
  · skip
    refine AWP.seqR rfl ?_
    refine ASL.q (v := (.int .i64 0)) rfl rfl (Light.quiet (opAssign rfl rfl)) ?_
    refine ASL.done ?_
    refine AWP.block ?_
    obtain ⟨o5, hL4, hR6⟩ := bindE hF
    refine AWP.loopF (ω := Unit) hL4 (fun s w => [(0, (.list 1 (List.map (AV.int .i64) p0))), (1, (.int .i64 p1)), (2, (.int .i64 p2)), (7, (.int .i64 s.1)), (8, (.int .i64 s.2))]) (fun s w => []) () ⟨rfl, rfl, rfl, rfl, rfl, trivial⟩ (hS.pick [] rfl rfl) ?_
    rintro ⟨x7_l0, x8_l0⟩ _ G7 hS x2 hF hx3
    try dsimp only at hS ⊢
    have hF : spec_l6Step.b0 p0 p1 p2 x7_l0 x8_l0 = some x2 := hF; unfold spec_l6Step.b0 at hF
    refine AWP.seq ?_
    refine AWP.seqR rfl ?_
    refine ASL.q (v := (.int .i64 x8_l0)) rfl rfl (Light.quiet (opMove rfl rfl)) ?_
    refine ASL.q (v := (.int .i64 (W (8 * x8_l0)))) rfl rfl (Light.quiet (opInt rfl rfl rfl rfl)) ?_
    refine ASL.q (v := (.list 1 (List.map (AV.int .i64) p0))) rfl rfl (Light.quiet (opMove rfl rfl)) ?_
    refine ASL.q (v := (.int .i64 (p0.length : Int))) rfl rfl (Light.quiet (opLenMap (f := (AV.int .i64)) rfl rfl rfl lenT_34 rfl)) ?_
    refine ASL.q (v := (.bool (decide (((W (8 * x8_l0))) < ((p0.length : Int)))))) rfl rfl (Light.quiet (opInt rfl rfl rfl rfl)) ?_
    refine ASL.done ?_
    refine AWP.ifP hF rfl (fun hc8 hF => ?_) (fun hc8 hF => ?_)
    · skip
      refine AWP.skip ?_
      refine QThen.nrm ?_
      refine AWP.seq ?_
      refine AWP.block ?_
      refine AWP.seqR rfl ?_
      refine ASL.q (v := (.int .i64 p1)) rfl rfl (Light.quiet (opMove rfl rfl)) ?_
      refine ASL.q (v := (.int .i64 x8_l0)) rfl rfl (Light.quiet (opMove rfl rfl)) ?_
      obtain ⟨a18, ha18, hF⟩ := bindE hF
      refine ASL.q (v := (.bool a18)) rfl rfl ((qCall rfl rfl call_48 (spec_l1Has_ok ha18) rfl)) ?_
      refine ASL.done ?_
      refine AWP.ifB hF rfl (fun hc9 hF => ?_) (fun hc9 hF => ?_)
      · skip
        refine AWP.lastR rfl ?_
        refine ASL.q (v := (.int .i64 x7_l0)) rfl rfl (Light.quiet (opMove rfl rfl)) ?_
        refine ASL.q (v := (.list 1 (List.map (AV.int .i64) p0))) rfl rfl (Light.quiet (opMove rfl rfl)) ?_
        refine ASL.q (v := (.int .i64 x8_l0)) rfl rfl (Light.quiet (opMove rfl rfl)) ?_
        refine ASL.q (v := (.int .i64 (W (8 * x8_l0)))) rfl rfl (Light.quiet (opInt rfl rfl rfl rfl)) ?_
        refine ASL.q (v := (.int .i64 p2)) rfl rfl (Light.quiet (opMove rfl rfl)) ?_
        refine ASL.q (v := (.int .i64 (W (((W (8 * x8_l0))) + p2)))) rfl rfl (Light.quiet (opInt rfl rfl rfl rfl)) ?_
        obtain ⟨a25, ha25, hF⟩ := bindE hF
        refine ASL.q (v := (.rptr [(.int .i64 a25)])) rfl rfl (Light.quiet (kIx (f := (AV.int .i64)) ha25 rfl rfl rfl elemA_34 sizeA_3 rfl)) ?_
        refine ASL.q (v := (.int .i64 a25)) rfl rfl (Light.quiet (opLoadR rfl aggA_3 rfl rfl)) ?_
        refine ASL.q (v := (.int .i64 (bOr .i64 x7_l0 a25))) rfl rfl (Light.quiet (opInt rfl rfl rfl rfl)) ?_
        refine ASL.q (v := (.int .i64 (bOr .i64 x7_l0 a25))) rfl rfl (Light.quiet (opAssign rfl rfl)) ?_
        refine ASL.done ?_
        refine QBlock.nrm ?_
        refine QThen.nrm ?_
        refine AWP.lastR rfl ?_
        refine ASL.q (v := (.int .i64 x8_l0)) rfl rfl (Light.quiet (opMove rfl rfl)) ?_
        refine ASL.q (v := (.int .i64 (W (x8_l0 + 1)))) rfl rfl (Light.quiet (opInt rfl rfl rfl rfl)) ?_
        refine ASL.q (v := (.int .i64 (W (x8_l0 + 1)))) rfl rfl (Light.quiet (opAssign rfl rfl)) ?_
        refine ASL.done ?_
        refine QThen.nrm ?_
        exact ⟨((bOr .i64 x7_l0 a25), (W (x8_l0 + 1))), (), (someE hF).symm, ⟨rfl, rfl, rfl, rfl, rfl, trivial⟩, (hS.pick [] rfl rfl)⟩
      · skip
        refine AWP.skip ?_
        refine QBlock.nrm ?_
        refine QThen.nrm ?_
        refine AWP.lastR rfl ?_
        refine ASL.q (v := (.int .i64 x8_l0)) rfl rfl (Light.quiet (opMove rfl rfl)) ?_
        refine ASL.q (v := (.int .i64 (W (x8_l0 + 1)))) rfl rfl (Light.quiet (opInt rfl rfl rfl rfl)) ?_
        refine ASL.q (v := (.int .i64 (W (x8_l0 + 1)))) rfl rfl (Light.quiet (opAssign rfl rfl)) ?_
        refine ASL.done ?_
        refine QThen.nrm ?_
        exact ⟨(x7_l0, (W (x8_l0 + 1))), (), (someE hF).symm, ⟨rfl, rfl, rfl, rfl, rfl, trivial⟩, (hS.pick [] rfl rfl)⟩
    · skip
      refine AWP.exit ?_
      refine QThen.ext ?_
      refine QThen.ext ?_
      refine QBlock.hit ?_
      obtain rfl := (hx3 _ (someE hF).symm)
      have hF := hR6
      refine QThen.nrm ?_
      exact ⟨x7_l0, ⟨rfl, trivial⟩, (hS.pick [] rfl rfl), hF⟩

set_option maxRecDepth 10000 in
theorem spec_l6From_ok {p0 : (List Int)} {p1 : TWord} {p2 : (List Int)} {r : (List Int)} (hF : spec_l6From p0 p1 p2 = some r) : PO Try.prog 109 [(.list 1 (List.map (AV.int .i64) p0)), (TWord.av p1), (.list 1 (List.map (AV.int .i64) p2))] 1 (List.map (AV.int .i64) r) := by
  refine HC.enter Try.func109 rfl Try.ntmps109 (by simp) ?_
  have hS := Sep.void; unfold spec_l6From at hF
  refine AWP.seqR rfl ?_
  refine ASL.q (v := (.rptr [(.list 1 (List.map (AV.int .i64) p1.stem)), (.list 1 (List.map (AV.int .i64) p1.loop))])) rfl rfl ((qBoxI (v := (TWord.av p1)) rfl rfl rfl rfl)) ?_
  have hS := hNil (s := 1) (f := (AV.int .i64)) hS
  refine ASL.q (v := .nil) rfl rfl (Light.quiet (opAssign rfl rfl)) ?_
  refine ASL.done ?_
  refine AWP.seqR rfl ?_
  refine ASL.x rfl rfl (hLit (f := (AV.int .i64)) (zs := []) hS rfl rfl elemA_34 sizeA_3 zeroA_3 rfl rfl rfl rfl (by simp [cells]) (nlt rfl) ?_); rintro v12 G2 hK hS
  refine ASL.q (v := (.list 1 (List.map (AV.int .i64) p2))) rfl rfl (Light.quiet (opMove rfl rfl)) ?_
  obtain ⟨z14, hz14, hF⟩ := bindE hF
  refine ASL.x rfl rfl (hApp (f := (AV.int .i64)) (ws := p2) hS (j := 0) rfl hz14 rfl elemA_34 rfl sizeA_3 bytesA_3 zeroA_3 rfl rfl rfl (fun _ => rfl) ?_); rintro v14 G4 hS
  refine ASL.q (v := v14) rfl rfl (Light.quiet (opAssign rfl rfl)) ?_
  refine ASL.done ?_
  refine AWP.seqR rfl ?_
  refine ASL.q (v := (.bool true)) rfl rfl (Light.quiet (opAssign rfl rfl)) ?_
  refine ASL.done ?_
  refine AWP.seqM (fun e H => ∃ y6 : (List Int), E.Told e [(7, v14)] ∧ E.Sep H [.row 1 v14 (List.map (AV.int .i64) y6)] ∧ spec_l6From.k0 y6 = some r) ?_ ?_
  · rintro e0 G7 ⟨y6, hT, hS, hF⟩; refine AWP.only _ hT ?_; unfold spec_l6From.k0 at hF
    refine AWP.seqR rfl ?_
    refine ASL.q (v := v14) rfl rfl (Light.quiet (opMove rfl rfl)) ?_
    refine ASL.q (v := v14) rfl rfl (Light.quiet (opAssign rfl rfl)) ?_
    refine ASL.done ?_
    refine AWP.ret ?_
    obtain rfl := someE hF
    exact QRet.sole (v := v14) ⟨rfl, trivial⟩ (hS.get (k := 0) rfl)
  · skip
    refine AWP.block ?_
    obtain ⟨o12, hL11, hR13⟩ := bindE hF
    refine AWP.loopF (ω := Unit) hL11 (fun s w => [(0, (.list 1 (List.map (AV.int .i64) p0))), (4, (.rptr [(.list 1 (List.map (AV.int .i64) p1.stem)), (.list 1 (List.map (AV.int .i64) p1.loop))])), (7, v14), (8, (.bool s.2))]) (fun s w => [.row 1 v14 (List.map (AV.int .i64) s.1)]) () ⟨rfl, rfl, rfl, rfl, trivial⟩ (hS.pick [0] rfl rfl) ?_
    rintro ⟨y8, x8_l0⟩ _ G14 hS x9 hF hx10
    try dsimp only at hS ⊢
    have hF : spec_l6From.b0 p1 p0 y8 x8_l0 = some x9 := hF; unfold spec_l6From.b0 at hF
    refine AWP.seq ?_
    refine AWP.seqR rfl ?_
    refine ASL.q (v := (.bool x8_l0)) rfl rfl (Light.quiet (opMove rfl rfl)) ?_
    refine ASL.done ?_
    refine AWP.ifB hF rfl (fun hc15 hF => ?_) (fun hc15 hF => ?_)
    · skip
      refine AWP.skip ?_
      refine QThen.nrm ?_
      refine AWP.block ?_
      refine AWP.seqR rfl ?_
      refine ASL.q (v := (.bool false)) rfl rfl (Light.quiet (opAssign rfl rfl)) ?_
      refine ASL.done ?_
      refine AWP.seqR rfl ?_
      refine ASL.q (v := (.int .i64 0)) rfl rfl (Light.quiet (opAssign rfl rfl)) ?_
      refine ASL.done ?_
      refine AWP.block ?_
      obtain ⟨o20, hL19, hR21⟩ := bindE hF
      refine AWP.loopF (ω := Unit) hL19 (fun s w => [(0, (.list 1 (List.map (AV.int .i64) p0))), (4, (.rptr [(.list 1 (List.map (AV.int .i64) p1.stem)), (.list 1 (List.map (AV.int .i64) p1.loop))])), (7, v14), (8, (.bool s.2.1)), (9, (.int .i64 s.2.2))]) (fun s w => [.row 1 v14 (List.map (AV.int .i64) s.1)]) () ⟨rfl, rfl, rfl, rfl, rfl, trivial⟩ (hS.pick [0] rfl rfl) ?_
      rintro ⟨y16, x8_l1, x9_l1⟩ _ G22 hS x17 hF hx18
      try dsimp only at hS ⊢
      have hF : spec_l6From.b1 p1 p0 y16 x8_l1 x9_l1 = some x17 := hF; unfold spec_l6From.b1 at hF
      refine AWP.seq ?_
      refine AWP.seqR rfl ?_
      refine ASL.q (v := (.int .i64 x9_l1)) rfl rfl (Light.quiet (opMove rfl rfl)) ?_
      refine ASL.q (v := v14) rfl rfl (Light.quiet (opMove rfl rfl)) ?_
      refine ASL.q (v := (.int .i64 (y16.length : Int))) rfl rfl (Light.quiet (kLen hS (j := 0) rfl rfl rfl rfl lenT_34 rfl)) ?_
      refine ASL.q (v := (.bool (decide (x9_l1 < ((y16.length : Int)))))) rfl rfl (Light.quiet (opInt rfl rfl rfl rfl)) ?_
      refine ASL.done ?_
      refine AWP.ifP hF rfl (fun hc23 hF => ?_) (fun hc23 hF => ?_)
      · skip
        refine AWP.skip ?_
        refine QThen.nrm ?_
        refine AWP.seq ?_
        refine AWP.block ?_
        refine AWP.seqR rfl ?_
        refine ASL.q (v := (TWord.av p1)) rfl rfl (Light.quiet (opLoadRA rfl aggA_62 sizeA_62 rfl (nlt rfl) rfl)) ?_
        refine ASL.q (v := (.int .i64 x9_l1)) rfl rfl (Light.quiet (opMove rfl rfl)) ?_
        refine ASL.q (v := (.int .i64 (spec_l6After p1 x9_l1))) rfl rfl ((qCall rfl rfl call_80 (spec_l6After_ok p1 x9_l1) rfl)) ?_
        refine ASL.q (v := (.int .i64 (spec_l6After p1 x9_l1))) rfl rfl (Light.quiet (opAssign rfl rfl)) ?_
        refine ASL.done ?_
        refine AWP.seqD [(0, false), (1, false), (2, false), (3, false), (4, false), (5, false), (6, false), (7, false), (8, false), (9, false), (10, false), (11, false), (12, false), (13, false), (14, false)] mixed (by kernel_rfl) rfl ?_
        refine ARL.q0 (v := v14) rfl rfl (Light.quiet (opMove rfl rfl)) ?_
        refine ARL.q0 (v := (.int .i64 (spec_l6After p1 x9_l1))) rfl rfl (Light.quiet (opMove rfl rfl)) ?_
        obtain ⟨a27, ha27, hF⟩ := bindE hF
        refine ARL.q0 (v := (ptrTo v14 ((spec_l6After p1 x9_l1)).toNat 1)) rfl rfl (Light.quiet (kIxOx hS (j := 0) rfl ha27 rfl rfl rfl elemA_34 sizeA_3)) ?_
        refine ARL.q (v := (.int .i64 a27)) rfl rfl (hS.aliveR (k := 0) rfl) (Light.quiet (kLd (f := (AV.int .i64)) hS (j := 0) rfl ha27 rfl aggA_3 rfl (fun _ => rfl))) ?_
        refine ARL.q0 (v := (.list 1 (List.map (AV.int .i64) p0))) rfl rfl (Light.quiet (opMove rfl rfl)) ?_
        refine ARL.q0 (v := v14) rfl rfl (Light.quiet (opMove rfl rfl)) ?_
        refine ARL.q0 (v := (.int .i64 x9_l1)) rfl rfl (Light.quiet (opMove rfl rfl)) ?_
        obtain ⟨a32, ha32, hF⟩ := bindE hF
        refine ARL.q0 (v := (ptrTo v14 x9_l1.toNat 1)) rfl rfl (Light.quiet (kIxOx hS (j := 0) rfl ha32 rfl rfl rfl elemA_34 sizeA_3)) ?_
        refine ARL.q (v := (.int .i64 a32)) rfl rfl (hS.aliveR (k := 0) rfl) (Light.quiet (kLd (f := (AV.int .i64)) hS (j := 0) rfl ha32 rfl aggA_3 rfl (fun _ => rfl))) ?_
        refine ARL.q0 (v := (TWord.av p1)) rfl rfl (Light.quiet (opLoadRA rfl aggA_62 sizeA_62 rfl (nlt rfl) rfl)) ?_
        refine ARL.q0 (v := (.int .i64 x9_l1)) rfl rfl (Light.quiet (opMove rfl rfl)) ?_
        obtain ⟨a36, ha36, hF⟩ := bindE hF
        refine ARL.q0 (v := (.int .i64 a36)) rfl rfl ((qCall rfl rfl call_79 (spec_l3At_ok ha36) rfl)) ?_
        obtain ⟨a37, ha37, hF⟩ := bindE hF
        refine ARL.q0 (v := (.int .i64 a37)) rfl rfl ((qCall rfl rfl call_123 (spec_l6Step_ok ha37) rfl)) ?_
        refine ARL.q0 (v := (.int .i64 (bOr .i64 a27 a37))) rfl rfl (Light.quiet (opInt rfl rfl rfl rfl)) ?_
        refine ARL.q0 (v := (.int .i64 (bOr .i64 a27 a37))) rfl rfl (Light.quiet (opAssign rfl rfl)) ?_
        refine ARL.done ?_
        refine AWP.seqR rfl ?_
        refine ASL.q (v := (.int .i64 (bOr .i64 a27 a37))) rfl rfl (Light.quiet (opMove rfl rfl)) ?_
        refine ASL.q (v := v14) rfl rfl (Light.quiet (opMove rfl rfl)) ?_
        refine ASL.q (v := (.int .i64 (spec_l6After p1 x9_l1))) rfl rfl (Light.quiet (opMove rfl rfl)) ?_
        obtain ⟨a42, ha42, hF⟩ := bindE hF
        refine ASL.q (v := (ptrTo v14 ((spec_l6After p1 x9_l1)).toNat 1)) rfl rfl (Light.quiet (kIxOx hS (j := 0) rfl ha42 rfl rfl rfl elemA_34 sizeA_3)) ?_
        refine ASL.q (v := (.int .i64 a42)) rfl rfl (Light.quiet (kLd (f := (AV.int .i64)) hS (j := 0) rfl ha42 rfl aggA_3 rfl (fun _ => rfl))) ?_
        refine ASL.q (v := (.bool (decide (((bOr .i64 a27 a37)) ≠ a42)))) rfl rfl (Light.quiet (opInt rfl rfl rfl rfl)) ?_
        refine ASL.done ?_
        refine AWP.ifP hF rfl (fun hc24 hF => ?_) (fun hc24 hF => ?_)
        · skip
          refine AWP.seqR rfl ?_
          refine ASL.q (v := v14) rfl rfl (Light.quiet (opMove rfl rfl)) ?_
          refine ASL.q (v := (.int .i64 (spec_l6After p1 x9_l1))) rfl rfl (Light.quiet (opMove rfl rfl)) ?_
          refine ASL.q (v := (.int .i64 (bOr .i64 a27 a37))) rfl rfl (Light.quiet (opMove rfl rfl)) ?_
          obtain ⟨m48, hm48, hF⟩ := bindE hF
          refine ASL.q (v := (ptrTo v14 m48 1)) rfl rfl (Light.quiet (kIxO hS (j := 0) rfl hm48 rfl rfl rfl elemA_34 sizeA_3)) ?_
          refine ASL.n rfl rfl (hSt (f := (AV.int .i64)) (a := (bOr .i64 a27 a37)) hS (j := 0) rfl hm48 rfl sizeA_3 rfl rfl ⟨rfl, rfl, rfl⟩ ?_); rintro G25 hS
          refine ASL.done ?_
          refine AWP.lastR rfl ?_
          refine ASL.q (v := (.bool true)) rfl rfl (Light.quiet (opAssign rfl rfl)) ?_
          refine ASL.done ?_
          refine QBlock.nrm ?_
          refine QThen.nrm ?_
          refine AWP.lastR rfl ?_
          refine ASL.q (v := (.int .i64 x9_l1)) rfl rfl (Light.quiet (opMove rfl rfl)) ?_
          refine ASL.q (v := (.int .i64 (W (x9_l1 + 1)))) rfl rfl (Light.quiet (opInt rfl rfl rfl rfl)) ?_
          refine ASL.q (v := (.int .i64 (W (x9_l1 + 1)))) rfl rfl (Light.quiet (opAssign rfl rfl)) ?_
          refine ASL.done ?_
          refine QThen.nrm ?_
          exact ⟨((y16.set m48 ((bOr .i64 a27 a37))), true, (W (x9_l1 + 1))), (), (someE hF).symm, ⟨rfl, rfl, rfl, rfl, rfl, trivial⟩, (hS.pick [0] rfl rfl)⟩
        · skip
          refine AWP.skip ?_
          refine QBlock.nrm ?_
          refine QThen.nrm ?_
          refine AWP.lastR rfl ?_
          refine ASL.q (v := (.int .i64 x9_l1)) rfl rfl (Light.quiet (opMove rfl rfl)) ?_
          refine ASL.q (v := (.int .i64 (W (x9_l1 + 1)))) rfl rfl (Light.quiet (opInt rfl rfl rfl rfl)) ?_
          refine ASL.q (v := (.int .i64 (W (x9_l1 + 1)))) rfl rfl (Light.quiet (opAssign rfl rfl)) ?_
          refine ASL.done ?_
          refine QThen.nrm ?_
          exact ⟨(y16, x8_l1, (W (x9_l1 + 1))), (), (someE hF).symm, ⟨rfl, rfl, rfl, rfl, rfl, trivial⟩, (hS.pick [0] rfl rfl)⟩
      · skip
        refine AWP.exit ?_
        refine QThen.ext ?_
        refine QThen.ext ?_
        refine QBlock.hit ?_
        obtain rfl := (hx18 _ (someE hF).symm)
        have hF := hR21
        refine QBlock.nrm ?_
        refine QThen.nrm ?_
        exact ⟨(y16, x8_l1), (), (someE hF).symm, ⟨rfl, rfl, rfl, rfl, trivial⟩, (hS.pick [0] rfl rfl)⟩
    · skip
      refine AWP.exit ?_
      refine QThen.ext ?_
      refine QThen.ext ?_
      refine QBlock.hit ?_
      obtain rfl := (hx10 _ (someE hF).symm)
      have hF := hR13
      refine QThen.nrm ?_
      exact ⟨y8, ⟨rfl, trivial⟩, (hS.pick [0] rfl rfl), hF⟩

set_option maxRecDepth 10000 in
theorem spec_l6Comps_ok {p0 : TGen} {p1 : TWord} {r : (List Int)} (hF : spec_l6Comps p0 p1 = some r) : PO Try.prog 77 [(TGen.av p0), (TWord.av p1)] 1 (List.map (AV.int .i64) r) := by
  refine HC.enter Try.func77 rfl Try.ntmps77 (by simp) ?_
  have hS := Sep.void; unfold spec_l6Comps at hF
  refine AWP.seqR rfl ?_
  refine ASL.q (v := (.rptr [(.int .i64 p0.letters), (.int .i64 p0.states), (.int .i64 p0.start), (.int .i64 p0.sets), (.list 4 (List.map TGEdge.av p0.edges))])) rfl rfl ((qBoxI (v := (TGen.av p0)) rfl rfl rfl rfl)) ?_
  refine ASL.q (v := (.rptr [(.list 1 (List.map (AV.int .i64) p1.stem)), (.list 1 (List.map (AV.int .i64) p1.loop))])) rfl rfl ((qBoxI (v := (TWord.av p1)) rfl rfl rfl rfl)) ?_
  have hS := hNil (s := 1) (f := (AV.int .i64)) hS
  refine ASL.q (v := .nil) rfl rfl (Light.quiet (opAssign rfl rfl)) ?_
  refine ASL.done ?_
  refine AWP.seqR rfl ?_
  refine ASL.q (v := (TGen.av p0)) rfl rfl (Light.quiet (opLoadRA rfl aggA_60 sizeA_60 rfl (nlt rfl) rfl)) ?_
  obtain ⟨a16, ha16, hF⟩ := bindE hF
  refine ASL.q (v := (.list 1 (List.map (AV.int .i64) a16))) rfl rfl ((qCall rfl rfl call_108 (PO.list (spec_l6Succ_ok ha16)) rfl)) ?_
  refine ASL.q (v := (.list 1 (List.map (AV.int .i64) a16))) rfl rfl (Light.quiet (opAssign rfl rfl)) ?_
  refine ASL.done ?_
  refine AWP.seqR rfl ?_
  refine ASL.q (v := (TWord.av p1)) rfl rfl (Light.quiet (opLoadRA rfl aggA_62 sizeA_62 rfl (nlt rfl) rfl)) ?_
  refine ASL.q (v := (.int .i64 (spec_l6Places p1))) rfl rfl ((qCall rfl rfl call_78 (spec_l6Places_ok p1) rfl)) ?_
  refine ASL.q (v := (.int .i64 (spec_l6Places p1))) rfl rfl (Light.quiet (opAssign rfl rfl)) ?_
  refine ASL.done ?_
  refine AWP.seqR rfl ?_
  refine ASL.q (v := (.int .i64 (spec_l6Places p1))) rfl rfl (Light.quiet (opMove rfl rfl)) ?_
  obtain ⟨z20, hz20, hF⟩ := bindE hF
  refine ASL.x rfl rfl (hMk (f := (AV.int .i64)) hS hz20 (by decide) rfl elemA_34 sizeA_3 bytesA_3 zeroA_3 rfl rfl (by decide) rfl rfl ?_); rintro v20 G2 hK hS
  refine ASL.q (v := v20) rfl rfl (Light.quiet (opAssign rfl rfl)) ?_
  refine ASL.done ?_
  refine AWP.seqR rfl ?_
  refine ASL.q (v := v20) rfl rfl (Light.quiet (opMove rfl rfl)) ?_
  refine ASL.q (v := (.rptr [(.int .i64 p0.start), (.int .i64 p0.sets), (.list 4 (List.map TGEdge.av p0.edges))])) rfl rfl (Light.quiet (opFieldAddrR rfl fieldA_60_2 rfl rfl)) ?_
  refine ASL.q (v := (.int .i64 p0.start)) rfl rfl (Light.quiet (opLoadR rfl aggA_3 rfl rfl)) ?_
  obtain ⟨m24, hm24, hF⟩ := bindE hF
  refine ASL.q (v := (ptrTo v20 m24 1)) rfl rfl (Light.quiet (kIxO hS (j := 0) rfl hm24 rfl rfl rfl elemA_34 sizeA_3)) ?_
  refine ASL.n rfl rfl (hSt (f := (AV.int .i64)) (a := p0.start) hS (j := 0) rfl hm24 rfl sizeA_3 rfl rfl ⟨rfl, rfl, rfl⟩ ?_); rintro G4 hS
  refine ASL.done ?_
  refine AWP.seqR rfl ?_
  refine ASL.q (v := (.list 1 (List.map (AV.int .i64) a16))) rfl rfl (Light.quiet (opMove rfl rfl)) ?_
  refine ASL.q (v := (TWord.av p1)) rfl rfl (Light.quiet (opLoadRA rfl aggA_62 sizeA_62 rfl (nlt rfl) rfl)) ?_
  refine ASL.q (v := v20) rfl rfl (Light.quiet (opMove rfl rfl)) ?_
  obtain ⟨a28, ha28, hF⟩ := bindE hF
  refine ASL.q (v := (.list 1 (List.map (AV.int .i64) a28))) rfl rfl ((qCallRL hS rfl rfl call_109 (spec_l6From_ok ha28) ⟨.same _, .same _, .row (k := 0) rfl, trivial⟩ (Scal.ints _ _))) ?_
  refine ASL.q (v := (.list 1 (List.map (AV.int .i64) a28))) rfl rfl (Light.quiet (opAssign rfl rfl)) ?_
  refine ASL.done ?_
  refine AWP.seqR rfl ?_
  refine ASL.x rfl rfl (hLit (f := (AV.int .i64)) (zs := []) hS rfl rfl elemA_34 sizeA_3 zeroA_3 rfl rfl rfl rfl (by simp [cells]) (nlt rfl) ?_); rintro v29 G5 hK hS
  refine ASL.q (v := v29) rfl rfl (Light.quiet (opAssign rfl rfl)) ?_
  refine ASL.done ?_
  refine AWP.seqR rfl ?_
  refine ASL.x rfl rfl (hLit (f := (fun xs : (List Int) => AV.list 1 (List.map (AV.int .i64) xs))) (zs := []) hS rfl rfl elemA_130 sizeA_34 zeroA_34 rfl rfl rfl rfl (by simp [cells]) (nlt rfl) ?_); rintro v30 G7 hK hS
  refine ASL.q (v := v30) rfl rfl (Light.quiet (opAssign rfl rfl)) ?_
  refine ASL.done ?_
  refine AWP.seqM (fun e H => ∃ y9 : (List Int), ∃ y12 : (List (List Int)), ∃ w10 : AV, ∃ w13 : AV, E.Told e [(2, (.rptr [(.int .i64 p0.letters), (.int .i64 p0.states), (.int .i64 p0.start), (.int .i64 p0.sets), (.list 4 (List.map TGEdge.av p0.edges))])), (8, (.list 1 (List.map (AV.int .i64) a28))), (9, w10), (10, w13)] ∧ E.Sep H [.row 1 w10 (List.map (AV.int .i64) y9), .row 1 w13 (List.map (fun xs : (List Int) => AV.list 1 (List.map (AV.int .i64) xs)) y12)] ∧ spec_l6Comps.k0 p0 a28 y9 y12 = some r) ?_ ?_
  · rintro e0 G44 ⟨y9, y12, w10, w13, hT, hS, hF⟩; refine AWP.only _ hT ?_; unfold spec_l6Comps.k0 at hF
    refine AWP.seqM (fun e H => ∃ y15 : (List Int), E.Told e [(9, w10)] ∧ E.Sep H [.row 1 w10 (List.map (AV.int .i64) y15)] ∧ spec_l6Comps.k1 y15 = some r) ?_ ?_
    · rintro e0 G16 ⟨y15, hT, hS, hF⟩; refine AWP.only _ hT ?_; unfold spec_l6Comps.k1 at hF
      refine AWP.seqR rfl ?_
      refine ASL.q (v := w10) rfl rfl (Light.quiet (opMove rfl rfl)) ?_
      refine ASL.q (v := w10) rfl rfl (Light.quiet (opAssign rfl rfl)) ?_
      refine ASL.done ?_
      refine AWP.ret ?_
      obtain rfl := someE hF
      exact QRet.sole (v := w10) ⟨rfl, trivial⟩ (hS.get (k := 0) rfl)
    · skip
      refine AWP.seqR rfl ?_
      refine ASL.q (v := (.int .i64 0)) rfl rfl (Light.quiet (opAssign rfl rfl)) ?_
      refine ASL.done ?_
      refine AWP.block ?_
      obtain ⟨o21, hL20, hR22⟩ := bindE hF
      refine AWP.loopF (ω := Unit) hL20 (fun s w => [(2, (.rptr [(.int .i64 p0.letters), (.int .i64 p0.states), (.int .i64 p0.start), (.int .i64 p0.sets), (.list 4 (List.map TGEdge.av p0.edges))])), (8, (.list 1 (List.map (AV.int .i64) a28))), (9, w10), (10, w13), (13, (.int .i64 s.2))]) (fun s w => [.row 1 w10 (List.map (AV.int .i64) s.1), .row 1 w13 (List.map (fun xs : (List Int) => AV.list 1 (List.map (AV.int .i64) xs)) y12)]) () ⟨rfl, rfl, rfl, rfl, rfl, trivial⟩ (hS.pick [0, 1] rfl rfl) ?_
      rintro ⟨y17, x13_l0⟩ _ G23 hS x18 hF hx19
      try dsimp only at hS ⊢
      have hF : spec_l6Comps.b0 p0 a28 y12 y17 x13_l0 = some x18 := hF; unfold spec_l6Comps.b0 at hF
      refine AWP.seq ?_
      refine AWP.seqR rfl ?_
      refine ASL.q (v := (.int .i64 x13_l0)) rfl rfl (Light.quiet (opMove rfl rfl)) ?_
      refine ASL.q (v := w10) rfl rfl (Light.quiet (opMove rfl rfl)) ?_
      refine ASL.q (v := (.int .i64 (y17.length : Int))) rfl rfl (Light.quiet (kLen hS (j := 0) rfl rfl rfl rfl lenT_34 rfl)) ?_
      refine ASL.q (v := (.bool (decide (x13_l0 < ((y17.length : Int)))))) rfl rfl (Light.quiet (opInt rfl rfl rfl rfl)) ?_
      refine ASL.done ?_
      refine AWP.ifP hF rfl (fun hc24 hF => ?_) (fun hc24 hF => ?_)
      · skip
        refine AWP.skip ?_
        refine QThen.nrm ?_
        refine AWP.seqM (fun e H => ∃ y25 : (List Int), E.Told e [(2, (.rptr [(.int .i64 p0.letters), (.int .i64 p0.states), (.int .i64 p0.start), (.int .i64 p0.sets), (.list 4 (List.map TGEdge.av p0.edges))])), (8, (.list 1 (List.map (AV.int .i64) a28))), (9, w10), (10, w13), (13, (.int .i64 x13_l0))] ∧ E.Sep H [.row 1 w10 (List.map (AV.int .i64) y25), .row 1 w13 (List.map (fun xs : (List Int) => AV.list 1 (List.map (AV.int .i64) xs)) y12)] ∧ spec_l6Comps.k2 x13_l0 y25 = some x18) ?_ ?_
        · rintro e0 G26 ⟨y25, hT, hS, hF⟩; refine AWP.only _ hT ?_; unfold spec_l6Comps.k2 at hF
          refine AWP.lastR rfl ?_
          refine ASL.q (v := (.int .i64 x13_l0)) rfl rfl (Light.quiet (opMove rfl rfl)) ?_
          refine ASL.q (v := (.int .i64 (W (x13_l0 + 1)))) rfl rfl (Light.quiet (opInt rfl rfl rfl rfl)) ?_
          refine ASL.q (v := (.int .i64 (W (x13_l0 + 1)))) rfl rfl (Light.quiet (opAssign rfl rfl)) ?_
          refine ASL.done ?_
          refine QThen.nrm ?_
          exact ⟨(y25, (W (x13_l0 + 1))), (), (someE hF).symm, ⟨rfl, rfl, rfl, rfl, rfl, trivial⟩, (hS.pick [0, 1] rfl rfl)⟩
        · skip
          refine AWP.block ?_
          refine AWP.seq ?_
          refine AWP.seqD [(0, false), (1, false), (2, false), (3, false), (4, false), (5, false), (6, false), (7, false), (8, false), (9, false), (10, false), (11, false), (12, false), (13, false), (14, false), (15, false), (16, false), (17, false), (18, false), (19, false)] mixed (by kernel_rfl) rfl ?_
          refine ARL.q0 (v := w10) rfl rfl (Light.quiet (opMove rfl rfl)) ?_
          refine ARL.q0 (v := (.int .i64 x13_l0)) rfl rfl (Light.quiet (opMove rfl rfl)) ?_
          obtain ⟨a83, ha83, hF⟩ := bindE hF
          refine ARL.q0 (v := (ptrTo w10 x13_l0.toNat 1)) rfl rfl (Light.quiet (kIxOx hS (j := 0) rfl ha83 rfl rfl rfl elemA_34 sizeA_3)) ?_
          refine ARL.q (v := (.int .i64 a83)) rfl rfl (hS.aliveR (k := 0) rfl) (Light.quiet (kLd (f := (AV.int .i64)) hS (j := 0) rfl ha83 rfl aggA_3 rfl (fun _ => rfl))) ?_
          refine ARL.q0 (v := (.bool (decide (a83 ≥ 0)))) rfl rfl (Light.quiet (opInt rfl rfl rfl rfl)) ?_
          obtain ⟨c86, hc86, hF⟩ := bndE hF
          refine ARL.q0 (v := (.bool c86)) rfl rfl ((Quiet.cast (Light.quiet (opMove rfl rfl)) (congrArg AV.bool hc86.symm))) ?_
          refine ARL.g (v := (.list 1 (List.map (AV.int .i64) a28))) (.bool c86) false rfl (wF _) rfl noneAlive (fun hG => by have q0 := gN hG; subst q0; exact Light.quiet (opMove rfl rfl)) ?_
          refine ARL.g (v := (.int .i64 x13_l0)) (.bool c86) false rfl (wF _) rfl noneAlive (fun hG => by have q0 := gN hG; subst q0; exact Light.quiet (opMove rfl rfl)) ?_
          refine ARL.g (v := (.rptr [(.int .i64 p0.states), (.int .i64 p0.start), (.int .i64 p0.sets), (.list 4 (List.map TGEdge.av p0.edges))])) (.bool c86) false rfl (wF _) rfl noneAlive (fun hG => by have q0 := gN hG; subst q0; exact Light.quiet (opFieldAddrR rfl fieldA_60_1 rfl rfl)) ?_
          refine ARL.g (v := (.int .i64 p0.states)) (.bool c86) false rfl (wF _) rfl noneAlive (fun hG => by have q0 := gN hG; subst q0; exact Light.quiet (opLoadR rfl aggA_3 rfl rfl)) ?_
          obtain ⟨u27, hu27, hF⟩ := bindE hF
          refine ARL.g (v := (.int .i64 (quo .i64 x13_l0 p0.states))) (.bool c86) false rfl (wF _) rfl noneAlive (fun hG => by have q0 := gN hG; subst q0; exact Light.quiet (opQuo rfl rfl rfl (of_decide_eq_true (chkE (whenE hu27))) rfl)) ?_
          obtain ⟨a92, ha92, hF⟩ := bindE hF
          refine ARL.g (v := (.rptr [(.int .i64 a92)])) (.bool c86) false rfl (wF _) rfl noneAlive (fun hG => by have q0 := gN hG; subst q0; exact Light.quiet (kIx (f := (AV.int .i64)) (whenE ha92) rfl rfl rfl elemA_34 sizeA_3 rfl)) ?_
          refine ARL.g (v := (.int .i64 a92)) (.bool c86) false rfl (wF _) rfl noneAlive (fun hG => by have q0 := gN hG; subst q0; exact Light.quiet (opLoadR rfl aggA_3 rfl rfl)) ?_
          refine ARL.g (v := (.int .i64 x13_l0)) (.bool c86) false rfl (wF _) rfl noneAlive (fun hG => by have q0 := gN hG; subst q0; exact Light.quiet (opMove rfl rfl)) ?_
          refine ARL.g (v := (.rptr [(.int .i64 p0.states), (.int .i64 p0.start), (.int .i64 p0.sets), (.list 4 (List.map TGEdge.av p0.edges))])) (.bool c86) false rfl (wF _) rfl noneAlive (fun hG => by have q0 := gN hG; subst q0; exact Light.quiet (opFieldAddrR rfl fieldA_60_1 rfl rfl)) ?_
          refine ARL.g (v := (.int .i64 p0.states)) (.bool c86) false rfl (wF _) rfl noneAlive (fun hG => by have q0 := gN hG; subst q0; exact Light.quiet (opLoadR rfl aggA_3 rfl rfl)) ?_
          obtain ⟨u28, hu28, hF⟩ := bindE hF
          refine ARL.g (v := (.int .i64 (Int.tmod x13_l0 p0.states))) (.bool c86) false rfl (wF _) rfl noneAlive (fun hG => by have q0 := gN hG; subst q0; exact Light.quiet (opRem rfl rfl rfl (of_decide_eq_true (chkE (whenE hu28))) rfl)) ?_
          obtain ⟨a98, ha98, hF⟩ := bindE hF
          refine ARL.g (v := (.bool a98)) (.bool c86) false rfl (wF _) rfl noneAlive (fun hG => by have q0 := gN hG; subst q0; exact (qCall rfl rfl call_48 (spec_l1Has_ok (whenE ha98)) rfl)) ?_
          refine ARL.g (v := (.bool (!a98))) (.bool c86) false rfl (wF _) rfl noneAlive (fun hG => by have q0 := gN hG; subst q0; exact Light.quiet (opNot rfl rfl)) ?_
          refine ARL.q0 (v := (.bool (c86 || (!a98)))) rfl rfl (Light.quiet (opPick (b := c86) rfl rfl (by cases c86 <;> rfl))) ?_
          refine ARL.done ?_
          refine AWP.ifB hF rfl (fun hc29 hF => ?_) (fun hc29 hF => ?_)
          · skip
            refine AWP.exit ?_
            refine QThen.ext ?_
            refine QBlock.hit ?_
            refine QThen.nrm ?_
            exact ⟨y17, ⟨rfl, rfl, rfl, rfl, rfl, trivial⟩, (hS.pick [0, 1] rfl rfl), hF⟩
          · skip
            refine AWP.skip ?_
            refine QThen.nrm ?_
            refine AWP.seqR rfl ?_
            refine ASL.q (v := (.int .i64 x13_l0)) rfl rfl (Light.quiet (opMove rfl rfl)) ?_
            refine ASL.q (v := (.int .i64 x13_l0)) rfl rfl (Light.quiet (opAssign rfl rfl)) ?_
            refine ASL.done ?_
            refine AWP.block ?_
            obtain ⟨o34, hL33, hR35⟩ := bindE hF
            refine AWP.loopF (ω := Unit) hL33 (fun s w => [(2, (.rptr [(.int .i64 p0.letters), (.int .i64 p0.states), (.int .i64 p0.start), (.int .i64 p0.sets), (.list 4 (List.map TGEdge.av p0.edges))])), (8, (.list 1 (List.map (AV.int .i64) a28))), (9, w10), (10, w13), (13, (.int .i64 x13_l0)), (14, (.int .i64 s.2))]) (fun s w => [.row 1 w10 (List.map (AV.int .i64) s.1), .row 1 w13 (List.map (fun xs : (List Int) => AV.list 1 (List.map (AV.int .i64) xs)) y12)]) () ⟨rfl, rfl, rfl, rfl, rfl, rfl, trivial⟩ (hS.pick [0, 1] rfl rfl) ?_
            rintro ⟨y30, x14_l1⟩ _ G36 hS x31 hF hx32
            try dsimp only at hS ⊢
            have hF : spec_l6Comps.b1 y12 x13_l0 p0 y30 x14_l1 = some x31 := hF; unfold spec_l6Comps.b1 at hF
            refine AWP.seq ?_
            refine AWP.seqR rfl ?_
            refine ASL.q (v := (.int .i64 x14_l1)) rfl rfl (Light.quiet (opMove rfl rfl)) ?_
            refine ASL.q (v := w10) rfl rfl (Light.quiet (opMove rfl rfl)) ?_
            refine ASL.q (v := (.int .i64 (y30.length : Int))) rfl rfl (Light.quiet (kLen hS (j := 0) rfl rfl rfl rfl lenT_34 rfl)) ?_
            refine ASL.q (v := (.bool (decide (x14_l1 < ((y30.length : Int)))))) rfl rfl (Light.quiet (opInt rfl rfl rfl rfl)) ?_
            refine ASL.done ?_
            refine AWP.ifP hF rfl (fun hc37 hF => ?_) (fun hc37 hF => ?_)
            · skip
              refine AWP.skip ?_
              refine QThen.nrm ?_
              refine AWP.seq ?_
              refine AWP.block ?_
              refine AWP.seqD [(0, false), (1, false), (2, false), (3, false), (4, false), (5, false), (6, false), (7, false), (8, false), (9, false), (10, false), (11, false), (12, false), (13, false), (14, false), (15, false), (16, false), (17, false), (18, false), (19, false), (20, false), (21, false), (22, false), (23, false), (24, false), (25, false), (26, false), (27, false), (28, false), (29, false), (30, false), (31, false)] mixed (by kernel_rfl) rfl ?_
              refine ARL.q0 (v := w13) rfl rfl (Light.quiet (opMove rfl rfl)) ?_
              refine ARL.q0 (v := (.int .i64 x13_l0)) rfl rfl (Light.quiet (opMove rfl rfl)) ?_
              obtain ⟨a110, ha110, hF⟩ := bindE hF
              refine ARL.q0 (v := (ptrTo w13 x13_l0.toNat 1)) rfl rfl (Light.quiet (kIxOx hS (j := 1) rfl ha110 rfl rfl rfl elemA_130 sizeA_34)) ?_
              refine ARL.q (v := (.list 1 (List.map (AV.int .i64) a110))) rfl rfl (hS.aliveR (k := 1) rfl) (Light.quiet (kLd (f := (fun xs : (List Int) => AV.list 1 (List.map (AV.int .i64) xs))) hS (j := 1) rfl ha110 rfl aggA_34 rfl (fun _ => rfl))) ?_
              refine ARL.q0 (v := (.int .i64 x14_l1)) rfl rfl (Light.quiet (opMove rfl rfl)) ?_
              refine ARL.q0 (v := (.rptr [(.int .i64 p0.states), (.int .i64 p0.start), (.int .i64 p0.sets), (.list 4 (List.map TGEdge.av p0.edges))])) rfl rfl (Light.quiet (opFieldAddrR rfl fieldA_60_1 rfl rfl)) ?_
              refine ARL.q0 (v := (.int .i64 p0.states)) rfl rfl (Light.quiet (opLoadR rfl aggA_3 rfl rfl)) ?_
              obtain ⟨u38, hu38, hF⟩ := bindE hF
              refine ARL.q0 (v := (.int .i64 (quo .i64 x14_l1 p0.states))) rfl rfl (Light.quiet (opQuo rfl rfl rfl (of_decide_eq_true (chkE hu38)) rfl)) ?_
              obtain ⟨a116, ha116, hF⟩ := bindE hF
              refine ARL.q0 (v := (.rptr [(.int .i64 a116)])) rfl rfl (Light.quiet (kIx (f := (AV.int .i64)) ha116 rfl rfl rfl elemA_34 sizeA_3 rfl)) ?_
              refine ARL.q0 (v := (.int .i64 a116)) rfl rfl (Light.quiet (opLoadR rfl aggA_3 rfl rfl)) ?_
              refine ARL.q0 (v := (.int .i64 x14_l1)) rfl rfl (Light.quiet (opMove rfl rfl)) ?_
              refine ARL.q0 (v := (.rptr [(.int .i64 p0.states), (.int .i64 p0.start), (.int .i64 p0.sets), (.list 4 (List.map TGEdge.av p0.edges))])) rfl rfl (Light.quiet (opFieldAddrR rfl fieldA_60_1 rfl rfl)) ?_
              refine ARL.q0 (v := (.int .i64 p0.states)) rfl rfl (Light.quiet (opLoadR rfl aggA_3 rfl rfl)) ?_
              obtain ⟨u39, hu39, hF⟩ := bindE hF
              refine ARL.q0 (v := (.int .i64 (Int.tmod x14_l1 p0.states))) rfl rfl (Light.quiet (opRem rfl rfl rfl (of_decide_eq_true (chkE hu39)) rfl)) ?_
              obtain ⟨a122, ha122, hF⟩ := bindE hF
              refine ARL.q0 (v := (.bool a122)) rfl rfl ((qCall rfl rfl call_48 (spec_l1Has_ok ha122) rfl)) ?_
              refine ARL.q0 (v := (.bool a122)) rfl rfl (Light.quiet (opMove rfl rfl)) ?_
              refine ARL.g (v := w13) (.bool a122) true rfl (wT _) rfl noneAlive (fun hG => by have q0 := hG; subst q0; exact Light.quiet (opMove rfl rfl)) ?_
              refine ARL.g (v := (.int .i64 x14_l1)) (.bool a122) true rfl (wT _) rfl noneAlive (fun hG => by have q0 := hG; subst q0; exact Light.quiet (opMove rfl rfl)) ?_
              obtain ⟨a126, ha126, hF⟩ := bindE hF
              refine ARL.g (v := (ptrTo w13 x14_l1.toNat 1)) (.bool a122) true rfl (wT _) rfl noneAlive (fun hG => by have q0 := hG; subst q0; exact Light.quiet (kIxOx hS (j := 1) rfl (whenE ha126) rfl rfl rfl elemA_130 sizeA_34)) ?_
              refine ARL.g (v := (.list 1 (List.map (AV.int .i64) a126))) (.bool a122) true rfl (wT _) rfl (hS.aliveR (k := 1) rfl) (fun hG => by have q0 := hG; subst q0; exact Light.quiet (kLd (f := (fun xs : (List Int) => AV.list 1 (List.map (AV.int .i64) xs))) hS (j := 1) rfl (whenE ha126) rfl aggA_34 rfl (fun _ => rfl))) ?_
              refine ARL.g (v := (.int .i64 x13_l0)) (.bool a122) true rfl (wT _) rfl noneAlive (fun hG => by have q0 := hG; subst q0; exact Light.quiet (opMove rfl rfl)) ?_
              refine ARL.g (v := (.rptr [(.int .i64 p0.states), (.int .i64 p0.start), (.int .i64 p0.sets), (.list 4 (List.map TGEdge.av p0.edges))])) (.bool a122) true rfl (wT _) rfl noneAlive (fun hG => by have q0 := hG; subst q0; exact Light.quiet (opFieldAddrR rfl fieldA_60_1 rfl rfl)) ?_
              refine ARL.g (v := (.int .i64 p0.states)) (.bool a122) true rfl (wT _) rfl noneAlive (fun hG => by have q0 := hG; subst q0; exact Light.quiet (opLoadR rfl aggA_3 rfl rfl)) ?_
              obtain ⟨u40, hu40, hF⟩ := bindE hF
              refine ARL.g (v := (.int .i64 (quo .i64 x13_l0 p0.states))) (.bool a122) true rfl (wT _) rfl noneAlive (fun hG => by have q0 := hG; subst q0; exact Light.quiet (opQuo rfl rfl rfl (of_decide_eq_true (chkE (whenE hu40))) rfl)) ?_
              obtain ⟨a132, ha132, hF⟩ := bindE hF
              refine ARL.g (v := (.rptr [(.int .i64 a132)])) (.bool a122) true rfl (wT _) rfl noneAlive (fun hG => by have q0 := hG; subst q0; exact Light.quiet (kIx (f := (AV.int .i64)) (whenE ha132) rfl rfl rfl elemA_34 sizeA_3 rfl)) ?_
              refine ARL.g (v := (.int .i64 a132)) (.bool a122) true rfl (wT _) rfl noneAlive (fun hG => by have q0 := hG; subst q0; exact Light.quiet (opLoadR rfl aggA_3 rfl rfl)) ?_
              refine ARL.g (v := (.int .i64 x13_l0)) (.bool a122) true rfl (wT _) rfl noneAlive (fun hG => by have q0 := hG; subst q0; exact Light.quiet (opMove rfl rfl)) ?_
              refine ARL.g (v := (.rptr [(.int .i64 p0.states), (.int .i64 p0.start), (.int .i64 p0.sets), (.list 4 (List.map TGEdge.av p0.edges))])) (.bool a122) true rfl (wT _) rfl noneAlive (fun hG => by have q0 := hG; subst q0; exact Light.quiet (opFieldAddrR rfl fieldA_60_1 rfl rfl)) ?_
              refine ARL.g (v := (.int .i64 p0.states)) (.bool a122) true rfl (wT _) rfl noneAlive (fun hG => by have q0 := hG; subst q0; exact Light.quiet (opLoadR rfl aggA_3 rfl rfl)) ?_
              obtain ⟨u41, hu41, hF⟩ := bindE hF
              refine ARL.g (v := (.int .i64 (Int.tmod x13_l0 p0.states))) (.bool a122) true rfl (wT _) rfl noneAlive (fun hG => by have q0 := hG; subst q0; exact Light.quiet (opRem rfl rfl rfl (of_decide_eq_true (chkE (whenE hu41))) rfl)) ?_
              obtain ⟨a138, ha138, hF⟩ := bindE hF
              refine ARL.g (v := (.bool a138)) (.bool a122) true rfl (wT _) rfl noneAlive (fun hG => by have q0 := hG; subst q0; exact (qCall rfl rfl call_48 (spec_l1Has_ok (whenE ha138)) rfl)) ?_
              refine ARL.q0 (v := (.bool (a122 && a138))) rfl rfl (Light.quiet (opPick (b := a122) rfl rfl (by cases a122 <;> rfl))) ?_
              refine ARL.done ?_
              refine AWP.ifB hF rfl (fun hc42 hF => ?_) (fun hc42 hF => ?_)
              · skip
                refine AWP.lastR rfl ?_
                refine ASL.q (v := w10) rfl rfl (Light.quiet (opMove rfl rfl)) ?_
                refine ASL.q (v := (.int .i64 x14_l1)) rfl rfl (Light.quiet (opMove rfl rfl)) ?_
                refine ASL.q (v := (.int .i64 x13_l0)) rfl rfl (Light.quiet (opMove rfl rfl)) ?_
                obtain ⟨m143, hm143, hF⟩ := bindE hF
                refine ASL.q (v := (ptrTo w10 m143 1)) rfl rfl (Light.quiet (kIxO hS (j := 0) rfl hm143 rfl rfl rfl elemA_34 sizeA_3)) ?_
                refine ASL.n rfl rfl (hSt (f := (AV.int .i64)) (a := x13_l0) hS (j := 0) rfl hm143 rfl sizeA_3 rfl rfl ⟨rfl, rfl, rfl⟩ ?_); rintro G43 hS
                refine ASL.done ?_
                refine QBlock.nrm ?_
                refine QThen.nrm ?_
                refine AWP.lastR rfl ?_
                refine ASL.q (v := (.int .i64 x14_l1)) rfl rfl (Light.quiet (opMove rfl rfl)) ?_
                refine ASL.q (v := (.int .i64 (W (x14_l1 + 1)))) rfl rfl (Light.quiet (opInt rfl rfl rfl rfl)) ?_
                refine ASL.q (v := (.int .i64 (W (x14_l1 + 1)))) rfl rfl (Light.quiet (opAssign rfl rfl)) ?_
                refine ASL.done ?_
                refine QThen.nrm ?_
                exact ⟨((y30.set m143 x13_l0), (W (x14_l1 + 1))), (), (someE hF).symm, ⟨rfl, rfl, rfl, rfl, rfl, rfl, trivial⟩, (hS.pick [0, 1] rfl rfl)⟩
              · skip
                refine AWP.skip ?_
                refine QBlock.nrm ?_
                refine QThen.nrm ?_
                refine AWP.lastR rfl ?_
                refine ASL.q (v := (.int .i64 x14_l1)) rfl rfl (Light.quiet (opMove rfl rfl)) ?_
                refine ASL.q (v := (.int .i64 (W (x14_l1 + 1)))) rfl rfl (Light.quiet (opInt rfl rfl rfl rfl)) ?_
                refine ASL.q (v := (.int .i64 (W (x14_l1 + 1)))) rfl rfl (Light.quiet (opAssign rfl rfl)) ?_
                refine ASL.done ?_
                refine QThen.nrm ?_
                exact ⟨(y30, (W (x14_l1 + 1))), (), (someE hF).symm, ⟨rfl, rfl, rfl, rfl, rfl, rfl, trivial⟩, (hS.pick [0, 1] rfl rfl)⟩
            · skip
              refine AWP.exit ?_
              refine QThen.ext ?_
              refine QThen.ext ?_
              refine QBlock.hit ?_
              obtain rfl := (hx32 _ (someE hF).symm)
              have hF := hR35
              refine QBlock.nrm ?_
              refine QThen.nrm ?_
              exact ⟨y30, ⟨rfl, rfl, rfl, rfl, rfl, trivial⟩, (hS.pick [0, 1] rfl rfl), hF⟩
      · skip
        refine AWP.exit ?_
        refine QThen.ext ?_
        refine QThen.ext ?_
        refine QBlock.hit ?_
        obtain rfl := (hx19 _ (someE hF).symm)
        have hF := hR22
        refine QThen.nrm ?_
        exact ⟨y17, ⟨rfl, trivial⟩, (hS.pick [0] rfl rfl), hF⟩
  · skip
    refine AWP.seqR rfl ?_
    refine ASL.q (v := (.int .i64 0)) rfl rfl (Light.quiet (opAssign rfl rfl)) ?_
    refine ASL.done ?_
    refine AWP.block ?_
    obtain ⟨o54, hL53, hR55⟩ := bindE hF
    refine AWP.loopF (ω := (AV × AV)) hL53 (fun s w => [(2, (.rptr [(.int .i64 p0.letters), (.int .i64 p0.states), (.int .i64 p0.start), (.int .i64 p0.sets), (.list 4 (List.map TGEdge.av p0.edges))])), (3, (.rptr [(.list 1 (List.map (AV.int .i64) p1.stem)), (.list 1 (List.map (AV.int .i64) p1.loop))])), (5, (.list 1 (List.map (AV.int .i64) a16))), (6, (.int .i64 (spec_l6Places p1))), (8, (.list 1 (List.map (AV.int .i64) a28))), (9, w.1), (10, w.2), (11, (.int .i64 s.2.2))]) (fun s w => [.row 1 w.1 (List.map (AV.int .i64) s.1), .row 1 w.2 (List.map (fun xs : (List Int) => AV.list 1 (List.map (AV.int .i64) xs)) s.2.1)]) (v29, v30) ⟨rfl, rfl, rfl, rfl, rfl, rfl, rfl, rfl, trivial⟩ (hS.pick [1, 0] rfl rfl) ?_
    rintro ⟨y45, y48, x11_l2⟩ ⟨w46, w49⟩ G56 hS x51 hF hx52
    try dsimp only at hS ⊢
    have hF : spec_l6Comps.b2 p1 p0 a28 a16 y45 y48 x11_l2 = some x51 := hF; unfold spec_l6Comps.b2 at hF
    refine AWP.seq ?_
    refine AWP.seqR rfl ?_
    refine ASL.q (v := (.int .i64 x11_l2)) rfl rfl (Light.quiet (opMove rfl rfl)) ?_
    refine ASL.q (v := (.int .i64 (spec_l6Places p1))) rfl rfl (Light.quiet (opMove rfl rfl)) ?_
    refine ASL.q (v := (.rptr [(.int .i64 p0.states), (.int .i64 p0.start), (.int .i64 p0.sets), (.list 4 (List.map TGEdge.av p0.edges))])) rfl rfl (Light.quiet (opFieldAddrR rfl fieldA_60_1 rfl rfl)) ?_
    refine ASL.q (v := (.int .i64 p0.states)) rfl rfl (Light.quiet (opLoadR rfl aggA_3 rfl rfl)) ?_
    refine ASL.q (v := (.int .i64 (W (((spec_l6Places p1)) * p0.states)))) rfl rfl (Light.quiet (opInt rfl rfl rfl rfl)) ?_
    refine ASL.q (v := (.bool (decide (x11_l2 < ((W (((spec_l6Places p1)) * p0.states))))))) rfl rfl (Light.quiet (opInt rfl rfl rfl rfl)) ?_
    refine ASL.done ?_
    refine AWP.ifP hF rfl (fun hc57 hF => ?_) (fun hc57 hF => ?_)
    · skip
      refine AWP.skip ?_
      refine QThen.nrm ?_
      refine AWP.seq ?_
      refine AWP.block ?_
      refine AWP.seqR rfl ?_
      refine ASL.q (v := w46) rfl rfl (Light.quiet (opMove rfl rfl)) ?_
      refine ASL.q (v := (.list 1 (List.map (AV.int .i64) [(-1)]))) rfl rfl ((qLit (xs := [(.int .i64 (-1))]) rfl elemA_34 sizeA_3 zeroA_3 rfl rfl rfl rfl (by simp [cells]) (nlt rfl))) ?_
      obtain ⟨z41, hz41, hF⟩ := bindE hF
      refine ASL.x rfl rfl (hApp (f := (AV.int .i64)) (ws := [(-1)]) hS (j := 0) rfl hz41 rfl elemA_34 rfl sizeA_3 bytesA_3 zeroA_3 rfl rfl rfl (fun _ => rfl) ?_); rintro v41 G58 hS
      refine ASL.q (v := v41) rfl rfl (Light.quiet (opAssign rfl rfl)) ?_
      refine ASL.done ?_
      refine AWP.seqR rfl ?_
      refine ASL.q (v := (.int .i64 (spec_l6Places p1))) rfl rfl (Light.quiet (opMove rfl rfl)) ?_
      obtain ⟨z43, hz43, hF⟩ := bindE hF
      refine ASL.x rfl rfl (hMk (f := (AV.int .i64)) hS hz43 (by decide) rfl elemA_34 sizeA_3 bytesA_3 zeroA_3 rfl rfl (by decide) rfl rfl ?_); rintro v43 G60 hK hS
      refine ASL.q (v := v43) rfl rfl (Light.quiet (opAssign rfl rfl)) ?_
      refine ASL.done ?_
      refine AWP.seq ?_
      refine AWP.seqD [(0, false), (1, false), (2, false), (3, false), (4, false), (5, false), (6, false), (7, false), (8, false), (9, false), (10, false), (11, false)] mixed (by kernel_rfl) rfl ?_
      refine ARL.q0 (v := (.list 1 (List.map (AV.int .i64) a28))) rfl rfl (Light.quiet (opMove rfl rfl)) ?_
      refine ARL.q0 (v := (.int .i64 x11_l2)) rfl rfl (Light.quiet (opMove rfl rfl)) ?_
      refine ARL.q0 (v := (.rptr [(.int .i64 p0.states), (.int .i64 p0.start), (.int .i64 p0.sets), (.list 4 (List.map TGEdge.av p0.edges))])) rfl rfl (Light.quiet (opFieldAddrR rfl fieldA_60_1 rfl rfl)) ?_
      refine ARL.q0 (v := (.int .i64 p0.states)) rfl rfl (Light.quiet (opLoadR rfl aggA_3 rfl rfl)) ?_
      obtain ⟨u62, hu62, hF⟩ := bindE hF
      refine ARL.q0 (v := (.int .i64 (quo .i64 x11_l2 p0.states))) rfl rfl (Light.quiet (opQuo rfl rfl rfl (of_decide_eq_true (chkE hu62)) rfl)) ?_
      obtain ⟨a49, ha49, hF⟩ := bindE hF
      refine ARL.q0 (v := (.rptr [(.int .i64 a49)])) rfl rfl (Light.quiet (kIx (f := (AV.int .i64)) ha49 rfl rfl rfl elemA_34 sizeA_3 rfl)) ?_
      refine ARL.q0 (v := (.int .i64 a49)) rfl rfl (Light.quiet (opLoadR rfl aggA_3 rfl rfl)) ?_
      refine ARL.q0 (v := (.int .i64 x11_l2)) rfl rfl (Light.quiet (opMove rfl rfl)) ?_
      refine ARL.q0 (v := (.rptr [(.int .i64 p0.states), (.int .i64 p0.start), (.int .i64 p0.sets), (.list 4 (List.map TGEdge.av p0.edges))])) rfl rfl (Light.quiet (opFieldAddrR rfl fieldA_60_1 rfl rfl)) ?_
      refine ARL.q0 (v := (.int .i64 p0.states)) rfl rfl (Light.quiet (opLoadR rfl aggA_3 rfl rfl)) ?_
      obtain ⟨u63, hu63, hF⟩ := bindE hF
      refine ARL.q0 (v := (.int .i64 (Int.tmod x11_l2 p0.states))) rfl rfl (Light.quiet (opRem rfl rfl rfl (of_decide_eq_true (chkE hu63)) rfl)) ?_
      obtain ⟨a55, ha55, hF⟩ := bindE hF
      refine ARL.q0 (v := (.bool a55)) rfl rfl ((qCall rfl rfl call_48 (spec_l1Has_ok ha55) rfl)) ?_
      refine ARL.done ?_
      refine AWP.ifB hF rfl (fun hc64 hF => ?_) (fun hc64 hF => ?_)
      · skip
        refine AWP.seqD [(0, false), (1, false), (2, false), (3, false), (4, false), (5, false), (6, false), (7, false), (8, false), (9, false), (10, false), (11, true)] mixed (by kernel_rfl) rfl ?_
        refine ARL.q0 (v := v43) rfl rfl (Light.quiet (opMove rfl rfl)) ?_
        refine ARL.q0 (v := (.int .i64 x11_l2)) rfl rfl (Light.quiet (opMove rfl rfl)) ?_
        refine ARL.q0 (v := (.rptr [(.int .i64 p0.states), (.int .i64 p0.start), (.int .i64 p0.sets), (.list 4 (List.map TGEdge.av p0.edges))])) rfl rfl (Light.quiet (opFieldAddrR rfl fieldA_60_1 rfl rfl)) ?_
        refine ARL.q0 (v := (.int .i64 p0.states)) rfl rfl (Light.quiet (opLoadR rfl aggA_3 rfl rfl)) ?_
        obtain ⟨u65, hu65, hF⟩ := bindE hF
        refine ARL.q0 (v := (.int .i64 (quo .i64 x11_l2 p0.states))) rfl rfl (Light.quiet (opQuo rfl rfl rfl (of_decide_eq_true (chkE hu65)) rfl)) ?_
        refine ARL.q0 (v := (.int .i64 x11_l2)) rfl rfl (Light.quiet (opMove rfl rfl)) ?_
        refine ARL.q0 (v := (.rptr [(.int .i64 p0.states), (.int .i64 p0.start), (.int .i64 p0.sets), (.list 4 (List.map TGEdge.av p0.edges))])) rfl rfl (Light.quiet (opFieldAddrR rfl fieldA_60_1 rfl rfl)) ?_
        refine ARL.q0 (v := (.int .i64 p0.states)) rfl rfl (Light.quiet (opLoadR rfl aggA_3 rfl rfl)) ?_
        obtain ⟨u66, hu66, hF⟩ := bindE hF
        refine ARL.q0 (v := (.int .i64 (Int.tmod x11_l2 p0.states))) rfl rfl (Light.quiet (opRem rfl rfl rfl (of_decide_eq_true (chkE hu66)) rfl)) ?_
        obtain ⟨a65, ha65, hF⟩ := bindE hF
        refine ARL.q0 (v := (.int .i64 a65)) rfl rfl ((qCall rfl rfl call_47 (spec_l1Bit_ok ha65) rfl)) ?_
        obtain ⟨m66, hm66, hF⟩ := bindE hF
        refine ARL.q0 (v := (ptrTo v43 m66 1)) rfl rfl (Light.quiet (kIxO hS (j := 0) rfl hm66 rfl rfl rfl elemA_34 sizeA_3)) ?_
        refine ARL.n rfl rfl rfl rfl (hSt (f := (AV.int .i64)) (a := a65) hS (j := 0) rfl hm66 rfl sizeA_3 rfl rfl ⟨rfl, rfl, rfl⟩ ?_); rintro G67 hS
        refine ARL.done ?_
        refine AWP.lastR rfl ?_
        refine ASL.q (v := (.list 1 (List.map (AV.int .i64) a16))) rfl rfl (Light.quiet (opMove rfl rfl)) ?_
        refine ASL.q (v := (TWord.av p1)) rfl rfl (Light.quiet (opLoadRA rfl aggA_62 sizeA_62 rfl (nlt rfl) rfl)) ?_
        refine ASL.q (v := v43) rfl rfl (Light.quiet (opMove rfl rfl)) ?_
        obtain ⟨a70, ha70, hF⟩ := bindE hF
        refine ASL.x rfl rfl (hCallOR hS rfl rfl call_109 (spec_l6From_ok ha70) ⟨.same _, .same _, .row (k := 0) rfl, trivial⟩ (Scal.ints _ _) ?_); rintro v70 G68 hK hS
        refine ASL.q (v := v70) rfl rfl (Light.quiet (opAssign rfl rfl)) ?_
        refine ASL.done ?_
        refine QThen.nrm ?_
        refine AWP.frz (L' := [.row 1 v43 (List.map (AV.int .i64) ((z43.set m66 a65))), .row 1 v41 (List.map (AV.int .i64) z41), .row 1 w49 (List.map (fun xs : (List Int) => AV.list 1 (List.map (AV.int .i64) xs)) y48)]) hS (k := 0) rfl [(2, (.rptr [(.int .i64 p0.letters), (.int .i64 p0.states), (.int .i64 p0.start), (.int .i64 p0.sets), (.list 4 (List.map TGEdge.av p0.edges))])), (3, (.rptr [(.list 1 (List.map (AV.int .i64) p1.stem)), (.list 1 (List.map (AV.int .i64) p1.loop))])), (5, (.list 1 (List.map (AV.int .i64) a16))), (6, (.int .i64 (spec_l6Places p1))), (8, (.list 1 (List.map (AV.int .i64) a28))), (9, v41), (10, w49), (11, (.int .i64 x11_l2)), (12, (.list 1 (List.map (AV.int .i64) a70)))] ⟨.inl rfl, .inl rfl, .inl rfl, .inl rfl, .inl rfl, .inl rfl, .inl rfl, .inl rfl, .inr (.inl ⟨rfl, rfl⟩), trivial⟩ ⟨rfl, rfl, rfl, trivial⟩ (fun G70 hS => ?_)
        refine AWP.lastR rfl ?_
        refine ASL.q (v := w49) rfl rfl (Light.quiet (opMove rfl rfl)) ?_
        refine ASL.q (v := (.list 1 (List.map (AV.int .i64) a70))) rfl rfl (Light.quiet (opMove rfl rfl)) ?_
        refine ASL.q (v := (.list 1 (List.map (fun xs : (List Int) => AV.list 1 (List.map (AV.int .i64) xs)) [a70]))) rfl rfl ((qLit (xs := [(.list 1 (List.map (AV.int .i64) a70))]) rfl elemA_130 sizeA_34 zeroA_34 rfl rfl rfl rfl (by simp [cells]) (nlt rfl))) ?_
        obtain ⟨z74, hz74, hF⟩ := bindE hF
        refine ASL.x rfl rfl (hApp (f := (fun xs : (List Int) => AV.list 1 (List.map (AV.int .i64) xs))) (ws := [a70]) hS (j := 2) rfl hz74 rfl elemA_130 rfl sizeA_34 bytesA_34 zeroA_34 rfl rfl rfl (fun _ => rfl) ?_); rintro v74 G71 hS
        refine ASL.q (v := v74) rfl rfl (Light.quiet (opAssign rfl rfl)) ?_
        refine ASL.done ?_
        refine QBlock.nrm ?_
        refine QThen.nrm ?_
        refine AWP.lastR rfl ?_
        refine ASL.q (v := (.int .i64 x11_l2)) rfl rfl (Light.quiet (opMove rfl rfl)) ?_
        refine ASL.q (v := (.int .i64 (W (x11_l2 + 1)))) rfl rfl (Light.quiet (opInt rfl rfl rfl rfl)) ?_
        refine ASL.q (v := (.int .i64 (W (x11_l2 + 1)))) rfl rfl (Light.quiet (opAssign rfl rfl)) ?_
        refine ASL.done ?_
        refine QThen.nrm ?_
        exact ⟨(z41, z74, (W (x11_l2 + 1))), (v41, v74), (someE hF).symm, ⟨rfl, rfl, rfl, rfl, rfl, rfl, rfl, rfl, trivial⟩, (hS.pick [1, 2] rfl rfl)⟩
      · skip
        refine AWP.skip ?_
        refine QThen.nrm ?_
        refine AWP.frz (L' := [.row 1 v41 (List.map (AV.int .i64) z41), .row 1 w49 (List.map (fun xs : (List Int) => AV.list 1 (List.map (AV.int .i64) xs)) y48)]) hS (k := 0) rfl [(2, (.rptr [(.int .i64 p0.letters), (.int .i64 p0.states), (.int .i64 p0.start), (.int .i64 p0.sets), (.list 4 (List.map TGEdge.av p0.edges))])), (3, (.rptr [(.list 1 (List.map (AV.int .i64) p1.stem)), (.list 1 (List.map (AV.int .i64) p1.loop))])), (5, (.list 1 (List.map (AV.int .i64) a16))), (6, (.int .i64 (spec_l6Places p1))), (8, (.list 1 (List.map (AV.int .i64) a28))), (9, v41), (10, w49), (11, (.int .i64 x11_l2)), (12, (.list 1 (List.map (AV.int .i64) z43)))] ⟨.inl rfl, .inl rfl, .inl rfl, .inl rfl, .inl rfl, .inl rfl, .inl rfl, .inl rfl, .inr (.inl ⟨rfl, rfl⟩), trivial⟩ ⟨rfl, rfl, trivial⟩ (fun G73 hS => ?_)
        refine AWP.lastR rfl ?_
        refine ASL.q (v := w49) rfl rfl (Light.quiet (opMove rfl rfl)) ?_
        refine ASL.q (v := (.list 1 (List.map (AV.int .i64) z43))) rfl rfl (Light.quiet (opMove rfl rfl)) ?_
        refine ASL.q (v := (.list 1 (List.map (fun xs : (List Int) => AV.list 1 (List.map (AV.int .i64) xs)) [z43]))) rfl rfl ((qLit (xs := [(.list 1 (List.map (AV.int .i64) z43))]) rfl elemA_130 sizeA_34 zeroA_34 rfl rfl rfl rfl (by simp [cells]) (nlt rfl))) ?_
        obtain ⟨z74, hz74, hF⟩ := bindE hF
        refine ASL.x rfl rfl (hApp (f := (fun xs : (List Int) => AV.list 1 (List.map (AV.int .i64) xs))) (ws := [z43]) hS (j := 1) rfl hz74 rfl elemA_130 rfl sizeA_34 bytesA_34 zeroA_34 rfl rfl rfl (fun _ => rfl) ?_); rintro v74 G74 hS
        refine ASL.q (v := v74) rfl rfl (Light.quiet (opAssign rfl rfl)) ?_
        refine ASL.done ?_
        refine QBlock.nrm ?_
        refine QThen.nrm ?_
        refine AWP.lastR rfl ?_
        refine ASL.q (v := (.int .i64 x11_l2)) rfl rfl (Light.quiet (opMove rfl rfl)) ?_
        refine ASL.q (v := (.int .i64 (W (x11_l2 + 1)))) rfl rfl (Light.quiet (opInt rfl rfl rfl rfl)) ?_
        refine ASL.q (v := (.int .i64 (W (x11_l2 + 1)))) rfl rfl (Light.quiet (opAssign rfl rfl)) ?_
        refine ASL.done ?_
        refine QThen.nrm ?_
        exact ⟨(z41, z74, (W (x11_l2 + 1))), (v41, v74), (someE hF).symm, ⟨rfl, rfl, rfl, rfl, rfl, rfl, rfl, rfl, trivial⟩, (hS.pick [0, 1] rfl rfl)⟩
    · skip
      refine AWP.exit ?_
      refine QThen.ext ?_
      refine QThen.ext ?_
      refine QBlock.hit ?_
      obtain rfl := (hx52 _ (someE hF).symm)
      have hF := hR55
      refine QThen.nrm ?_
      exact ⟨y45, y48, w46, w49, ⟨rfl, rfl, rfl, rfl, trivial⟩, (hS.pick [0, 1] rfl rfl), hF⟩

set_option maxRecDepth 10000 in
theorem spec_GenTakes_ok {p0 : TGen} {p1 : TWord} {r : Bool} (hF : spec_GenTakes p0 p1 = some r) : PC Try.prog 34 [(TGen.av p0), (TWord.av p1)] fun v => v = (.bool r) := by
  refine PC.enter Try.func34 rfl Try.ntmps34 (by simp) ?_
  have hS := Sep.void; unfold spec_GenTakes at hF
  refine AWP.seqR rfl ?_
  refine ASL.q (v := (.rptr [(.int .i64 p0.letters), (.int .i64 p0.states), (.int .i64 p0.start), (.int .i64 p0.sets), (.list 4 (List.map TGEdge.av p0.edges))])) rfl rfl ((qBoxI (v := (TGen.av p0)) rfl rfl rfl rfl)) ?_
  refine ASL.q (v := (.rptr [(.list 1 (List.map (AV.int .i64) p1.stem)), (.list 1 (List.map (AV.int .i64) p1.loop))])) rfl rfl ((qBoxI (v := (TWord.av p1)) rfl rfl rfl rfl)) ?_
  refine ASL.q (v := (.bool false)) rfl rfl (Light.quiet (opAssign rfl rfl)) ?_
  refine ASL.done ?_
  refine AWP.seq ?_
  refine AWP.seqR rfl ?_
  refine ASL.q (v := (TGen.av p0)) rfl rfl (Light.quiet (opLoadRA rfl aggA_60 sizeA_60 rfl (nlt rfl) rfl)) ?_
  obtain ⟨a14, ha14, hF⟩ := bindE hF
  refine ASL.q (v := (.bool a14)) rfl rfl ((qCall rfl rfl call_75 (spec_GenOk_ok ha14) rfl)) ?_
  refine ASL.q (v := (.bool (!a14))) rfl rfl (Light.quiet (opNot rfl rfl)) ?_
  obtain ⟨c16, hc16, hF⟩ := bndE hF
  refine ASL.q (v := (.bool c16)) rfl rfl ((Quiet.cast (Light.quiet (opMove rfl rfl)) (congrArg AV.bool hc16.symm))) ?_
  refine ASL.g (v := (TWord.av p1)) (.bool c16) false rfl (wF _) rfl (fun hG => by have q0 := gN hG; subst q0; exact Light.quiet (opLoadRA rfl aggA_62 sizeA_62 rfl (nlt rfl) rfl)) ?_
  refine ASL.g (v := (.rptr [(.int .i64 p0.letters), (.int .i64 p0.states), (.int .i64 p0.start), (.int .i64 p0.sets), (.list 4 (List.map TGEdge.av p0.edges))])) (.bool c16) false rfl (wF _) rfl (fun hG => by have q0 := gN hG; subst q0; exact Light.quiet (opFieldAddrR rfl fieldA_60_0 rfl rfl)) ?_
  refine ASL.g (v := (.int .i64 p0.letters)) (.bool c16) false rfl (wF _) rfl (fun hG => by have q0 := gN hG; subst q0; exact Light.quiet (opLoadR rfl aggA_3 rfl rfl)) ?_
  obtain ⟨a20, ha20, hF⟩ := bindE hF
  refine ASL.g (v := (.bool a20)) (.bool c16) false rfl (wF _) rfl (fun hG => by have q0 := gN hG; subst q0; exact (qCall rfl rfl call_76 (spec_WordOk_ok (whenE ha20)) rfl)) ?_
  refine ASL.g (v := (.bool (!a20))) (.bool c16) false rfl (wF _) rfl (fun hG => by have q0 := gN hG; subst q0; exact Light.quiet (opNot rfl rfl)) ?_
  refine ASL.q (v := (.bool (c16 || (!a20)))) rfl rfl (Light.quiet (opPick (b := c16) rfl rfl (by cases c16 <;> rfl))) ?_
  obtain ⟨c23, hc23, hF⟩ := bndE hF
  refine ASL.q (v := (.bool c23)) rfl rfl ((Quiet.cast (Light.quiet (opMove rfl rfl)) (congrArg AV.bool hc23.symm))) ?_
  refine ASL.g (v := (.rptr [(.int .i64 p0.states), (.int .i64 p0.start), (.int .i64 p0.sets), (.list 4 (List.map TGEdge.av p0.edges))])) (.bool c23) false rfl (wF _) rfl (fun hG => by have q0 := gN hG; subst q0; exact Light.quiet (opFieldAddrR rfl fieldA_60_1 rfl rfl)) ?_
  refine ASL.g (v := (.int .i64 p0.states)) (.bool c23) false rfl (wF _) rfl (fun hG => by have q0 := gN hG; subst q0; exact Light.quiet (opLoadR rfl aggA_3 rfl rfl)) ?_
  refine ASL.g (v := (.bool (decide (p0.states = 0)))) (.bool c23) false rfl (wF _) rfl (fun hG => by have q0 := gN hG; subst q0; exact Light.quiet (opInt rfl rfl rfl rfl)) ?_
  refine ASL.q (v := (.bool (c23 || (decide (p0.states = 0))))) rfl rfl (Light.quiet (opPick (b := c23) rfl rfl (by cases c23 <;> rfl))) ?_
  refine ASL.done ?_
  refine AWP.ifB hF rfl (fun hc1 hF => ?_) (fun hc1 hF => ?_)
  · skip
    refine AWP.seqR rfl ?_
    refine ASL.q (v := (.bool false)) rfl rfl (Light.quiet (opAssign rfl rfl)) ?_
    refine ASL.done ?_
    refine AWP.ret ?_
    refine QThen.rt ?_
    obtain rfl := someE hF
    exact QRet.sole (v := (.bool false)) ⟨rfl, trivial⟩ rfl
  · skip
    refine AWP.skip ?_
    refine QThen.nrm ?_
    refine AWP.seqR rfl ?_
    refine ASL.q (v := (TGen.av p0)) rfl rfl (Light.quiet (opLoadRA rfl aggA_60 sizeA_60 rfl (nlt rfl) rfl)) ?_
    refine ASL.q (v := (TWord.av p1)) rfl rfl (Light.quiet (opLoadRA rfl aggA_62 sizeA_62 rfl (nlt rfl) rfl)) ?_
    obtain ⟨a30, ha30, hF⟩ := bindE hF
    refine ASL.q (v := (.list 1 (List.map (AV.int .i64) a30))) rfl rfl ((qCall rfl rfl call_77 (PO.list (spec_l6Comps_ok ha30)) rfl)) ?_
    refine ASL.q (v := (.list 1 (List.map (AV.int .i64) a30))) rfl rfl (Light.quiet (opAssign rfl rfl)) ?_
    refine ASL.done ?_
    refine AWP.seqR rfl ?_
    refine ASL.q (v := (.list 1 (List.map (AV.int .i64) a30))) rfl rfl (Light.quiet (opMove rfl rfl)) ?_
    refine ASL.q (v := (.int .i64 (a30.length : Int))) rfl rfl (Light.quiet (opLenMap (f := (AV.int .i64)) rfl rfl rfl lenT_34 rfl)) ?_
    obtain ⟨z33, hz33, hF⟩ := bindE hF
    refine ASL.x rfl rfl (hMk (f := (AV.int .i64)) hS hz33 (by decide) rfl elemA_34 sizeA_3 bytesA_3 zeroA_3 rfl rfl (by decide) rfl rfl ?_); rintro v33 G2 hK hS
    refine ASL.q (v := v33) rfl rfl (Light.quiet (opAssign rfl rfl)) ?_
    refine ASL.done ?_
    refine AWP.seqR rfl ?_
    refine ASL.q (v := (.list 1 (List.map (AV.int .i64) a30))) rfl rfl (Light.quiet (opMove rfl rfl)) ?_
    refine ASL.q (v := (.int .i64 (a30.length : Int))) rfl rfl (Light.quiet (opLenMap (f := (AV.int .i64)) rfl rfl rfl lenT_34 rfl)) ?_
    obtain ⟨z36, hz36, hF⟩ := bindE hF
    refine ASL.x rfl rfl (hMk (f := AV.bool) hS hz36 (by decide) rfl elemA_96 sizeA_4 bytesA_4 zeroA_4 rfl rfl (by decide) rfl rfl ?_); rintro v36 G4 hK hS
    refine ASL.q (v := v36) rfl rfl (Light.quiet (opAssign rfl rfl)) ?_
    refine ASL.done ?_
    refine AWP.seqM (fun e H => ∃ y6 : (List Int), ∃ y7 : (List Bool), E.Told e [(2, (.rptr [(.int .i64 p0.letters), (.int .i64 p0.states), (.int .i64 p0.start), (.int .i64 p0.sets), (.list 4 (List.map TGEdge.av p0.edges))])), (6, v33), (7, v36)] ∧ E.Sep H [.row 1 v33 (List.map (AV.int .i64) y6), .row 1 v36 (List.map AV.bool y7)] ∧ spec_GenTakes.k0 p0 y6 y7 = some r) ?_ ?_
    · rintro e0 G18 ⟨y6, y7, hT, hS, hF⟩; refine AWP.only _ hT ?_; unfold spec_GenTakes.k0 at hF
      refine AWP.seqM (fun e H => E.Told e [] ∧ E.Sep H [] ∧ spec_GenTakes.k1 = some r) ?_ ?_
      · rintro e0 G8 ⟨hT, hS, hF⟩; refine AWP.only _ hT ?_; unfold spec_GenTakes.k1 at hF
        refine AWP.seqR rfl ?_
        refine ASL.q (v := (.bool false)) rfl rfl (Light.quiet (opAssign rfl rfl)) ?_
        refine ASL.done ?_
        refine AWP.ret ?_
        obtain rfl := someE hF
        exact QRet.sole (v := (.bool false)) ⟨rfl, trivial⟩ rfl
      · skip
        refine AWP.seqR rfl ?_
        refine ASL.q (v := (.int .i64 0)) rfl rfl (Light.quiet (opAssign rfl rfl)) ?_
        refine ASL.done ?_
        refine AWP.block ?_
        obtain ⟨o12, hL11, hR13⟩ := bindE hF
        refine AWP.loopF (ω := Unit) hL11 (fun s w => [(2, (.rptr [(.int .i64 p0.letters), (.int .i64 p0.states), (.int .i64 p0.start), (.int .i64 p0.sets), (.list 4 (List.map TGEdge.av p0.edges))])), (6, v33), (7, v36), (12, (.int .i64 s))]) (fun s w => [.row 1 v33 (List.map (AV.int .i64) y6), .row 1 v36 (List.map AV.bool y7)]) () ⟨rfl, rfl, rfl, rfl, trivial⟩ (hS.pick [0, 1] rfl rfl) ?_
        rintro x12_l0 _ G14 hS x9 hF hx10
        try dsimp only at hS ⊢
        have hF : spec_GenTakes.b0 y6 y7 p0 x12_l0 = some x9 := hF; unfold spec_GenTakes.b0 at hF
        refine AWP.seq ?_
        refine AWP.seqR rfl ?_
        refine ASL.q (v := (.int .i64 x12_l0)) rfl rfl (Light.quiet (opMove rfl rfl)) ?_
        refine ASL.q (v := v33) rfl rfl (Light.quiet (opMove rfl rfl)) ?_
        refine ASL.q (v := (.int .i64 (y6.length : Int))) rfl rfl (Light.quiet (kLen hS (j := 0) rfl rfl rfl rfl lenT_34 rfl)) ?_
        refine ASL.q (v := (.bool (decide (x12_l0 < ((y6.length : Int)))))) rfl rfl (Light.quiet (opInt rfl rfl rfl rfl)) ?_
        refine ASL.done ?_
        refine AWP.ifP hF rfl (fun hc15 hF => ?_) (fun hc15 hF => ?_)
        · skip
          refine AWP.skip ?_
          refine QThen.nrm ?_
          refine AWP.seq ?_
          refine AWP.block ?_
          refine AWP.seqD [(0, false), (1, false), (2, false), (3, false), (4, false), (5, false), (6, false), (7, false), (8, false), (9, false), (10, false), (11, false), (12, false), (13, false), (14, false)] mixed (by kernel_rfl) rfl ?_
          refine ARL.q0 (v := v36) rfl rfl (Light.quiet (opMove rfl rfl)) ?_
          refine ARL.q0 (v := (.int .i64 x12_l0)) rfl rfl (Light.quiet (opMove rfl rfl)) ?_
          obtain ⟨a124, ha124, hF⟩ := bindE hF
          refine ARL.q0 (v := (ptrTo v36 x12_l0.toNat 1)) rfl rfl (Light.quiet (kIxOx hS (j := 1) rfl ha124 rfl rfl rfl elemA_96 sizeA_4)) ?_
          refine ARL.q (v := (.bool a124)) rfl rfl (hS.aliveR (k := 1) rfl) (Light.quiet (kLd (f := AV.bool) hS (j := 1) rfl ha124 rfl aggA_4 rfl (fun _ => rfl))) ?_
          refine ARL.q0 (v := (.bool a124)) rfl rfl (Light.quiet (opMove rfl rfl)) ?_
          refine ARL.g (v := v33) (.bool a124) true rfl (wT _) rfl noneAlive (fun hG => by have q0 := hG; subst q0; exact Light.quiet (opMove rfl rfl)) ?_
          refine ARL.g (v := (.int .i64 x12_l0)) (.bool a124) true rfl (wT _) rfl noneAlive (fun hG => by have q0 := hG; subst q0; exact Light.quiet (opMove rfl rfl)) ?_
          obtain ⟨a129, ha129, hF⟩ := bindE hF
          refine ARL.g (v := (ptrTo v33 x12_l0.toNat 1)) (.bool a124) true rfl (wT _) rfl noneAlive (fun hG => by have q0 := hG; subst q0; exact Light.quiet (kIxOx hS (j := 0) rfl (whenE ha129) rfl rfl rfl elemA_34 sizeA_3)) ?_
          refine ARL.g (v := (.int .i64 a129)) (.bool a124) true rfl (wT _) rfl (hS.aliveR (k := 0) rfl) (fun hG => by have q0 := hG; subst q0; exact Light.quiet (kLd (f := (AV.int .i64)) hS (j := 0) rfl (whenE ha129) rfl aggA_3 rfl (fun _ => rfl))) ?_
          refine ARL.g (v := (.rptr [(.int .i64 p0.sets), (.list 4 (List.map TGEdge.av p0.edges))])) (.bool a124) true rfl (wT _) rfl noneAlive (fun hG => by have q0 := hG; subst q0; exact Light.quiet (opFieldAddrR rfl fieldA_60_3 rfl rfl)) ?_
          refine ARL.g (v := (.int .i64 p0.sets)) (.bool a124) true rfl (wT _) rfl noneAlive (fun hG => by have q0 := hG; subst q0; exact Light.quiet (opLoadR rfl aggA_3 rfl rfl)) ?_
          obtain ⟨u16, hu16, hF⟩ := bindE hF
          refine ARL.g (v := (.int .i64 (shl .i64 1 p0.sets))) (.bool a124) true rfl (wT _) rfl noneAlive (fun hG => by have q0 := hG; subst q0; exact Light.quiet (opShl rfl rfl rfl (of_decide_eq_true (chkE (whenE hu16))) rfl)) ?_
          refine ARL.g (v := (.int .i64 (W (((shl .i64 1 p0.sets)) - 1)))) (.bool a124) true rfl (wT _) rfl noneAlive (fun hG => by have q0 := hG; subst q0; exact Light.quiet (opInt rfl rfl rfl rfl)) ?_
          refine ARL.g (v := (.bool (decide (a129 = ((W (((shl .i64 1 p0.sets)) - 1))))))) (.bool a124) true rfl (wT _) rfl noneAlive (fun hG => by have q0 := hG; subst q0; exact Light.quiet (opInt rfl rfl rfl rfl)) ?_
          refine ARL.q0 (v := (.bool (a124 && (decide (a129 = ((W (((shl .i64 1 p0.sets)) - 1)))))))) rfl rfl (Light.quiet (opPick (b := a124) rfl rfl (by cases a124 <;> rfl))) ?_
          refine ARL.done ?_
          refine AWP.ifB hF rfl (fun hc17 hF => ?_) (fun hc17 hF => ?_)
          · skip
            refine AWP.seqR rfl ?_
            refine ASL.q (v := (.bool true)) rfl rfl (Light.quiet (opAssign rfl rfl)) ?_
            refine ASL.done ?_
            refine AWP.ret ?_
            refine QBlock.ret ?_
            refine QThen.rt ?_
            refine QThen.rt ?_
            refine QBlock.ret ?_
            refine QThen.rt ?_
            obtain rfl := (hx10 _ (someE hF).symm)
            have hF := hR13
            have hF := sumR hF
            obtain rfl := someE hF
            exact QRet.sole (v := (.bool true)) ⟨rfl, trivial⟩ rfl
          · skip
            refine AWP.skip ?_
            refine QBlock.nrm ?_
            refine QThen.nrm ?_
            refine AWP.lastR rfl ?_
            refine ASL.q (v := (.int .i64 x12_l0)) rfl rfl (Light.quiet (opMove rfl rfl)) ?_
            refine ASL.q (v := (.int .i64 (W (x12_l0 + 1)))) rfl rfl (Light.quiet (opInt rfl rfl rfl rfl)) ?_
            refine ASL.q (v := (.int .i64 (W (x12_l0 + 1)))) rfl rfl (Light.quiet (opAssign rfl rfl)) ?_
            refine ASL.done ?_
            refine QThen.nrm ?_
            exact ⟨(W (x12_l0 + 1)), (), (someE hF).symm, ⟨rfl, rfl, rfl, rfl, trivial⟩, (hS.pick [0, 1] rfl rfl)⟩
        · skip
          refine AWP.exit ?_
          refine QThen.ext ?_
          refine QThen.ext ?_
          refine QBlock.hit ?_
          obtain rfl := (hx10 _ (someE hF).symm)
          have hF := hR13
          have hF := sumL hF
          refine QThen.nrm ?_
          exact ⟨trivial, (hS.pick [] rfl rfl), hF⟩
    · skip
      refine AWP.seqR rfl ?_
      refine ASL.q (v := (.int .i64 0)) rfl rfl (Light.quiet (opAssign rfl rfl)) ?_
      refine ASL.done ?_
      refine AWP.block ?_
      obtain ⟨o24, hL23, hR25⟩ := bindE hF
      refine AWP.loopF (ω := Unit) hL23 (fun s w => [(2, (.rptr [(.int .i64 p0.letters), (.int .i64 p0.states), (.int .i64 p0.start), (.int .i64 p0.sets), (.list 4 (List.map TGEdge.av p0.edges))])), (3, (.rptr [(.list 1 (List.map (AV.int .i64) p1.stem)), (.list 1 (List.map (AV.int .i64) p1.loop))])), (5, (.list 1 (List.map (AV.int .i64) a30))), (6, v33), (7, v36), (8, (.int .i64 s.2.2))]) (fun s w => [.row 1 v33 (List.map (AV.int .i64) s.1), .row 1 v36 (List.map AV.bool s.2.1)]) () ⟨rfl, rfl, rfl, rfl, rfl, rfl, trivial⟩ (hS.pick [1, 0] rfl rfl) ?_
      rintro ⟨y19, y20, x8_l1⟩ _ G26 hS x21 hF hx22
      try dsimp only at hS ⊢
      have hF : spec_GenTakes.b1 p1 p0 a30 y19 y20 x8_l1 = some x21 := hF; unfold spec_GenTakes.b1 at hF
      refine AWP.seq ?_
      refine AWP.seqR rfl ?_
      refine ASL.q (v := (.int .i64 x8_l1)) rfl rfl (Light.quiet (opMove rfl rfl)) ?_
      refine ASL.q (v := (TWord.av p1)) rfl rfl (Light.quiet (opLoadRA rfl aggA_62 sizeA_62 rfl (nlt rfl) rfl)) ?_
      refine ASL.q (v := (.int .i64 (spec_l6Places p1))) rfl rfl ((qCall rfl rfl call_78 (spec_l6Places_ok p1) rfl)) ?_
      refine ASL.q (v := (.bool (decide (x8_l1 < ((spec_l6Places p1)))))) rfl rfl (Light.quiet (opInt rfl rfl rfl rfl)) ?_
      refine ASL.done ?_
      refine AWP.ifP hF rfl (fun hc27 hF => ?_) (fun hc27 hF => ?_)
      · skip
        refine AWP.skip ?_
        refine QThen.nrm ?_
        refine AWP.seqM (fun e H => ∃ y28 : (List Int), ∃ y29 : (List Bool), E.Told e [(2, (.rptr [(.int .i64 p0.letters), (.int .i64 p0.states), (.int .i64 p0.start), (.int .i64 p0.sets), (.list 4 (List.map TGEdge.av p0.edges))])), (3, (.rptr [(.list 1 (List.map (AV.int .i64) p1.stem)), (.list 1 (List.map (AV.int .i64) p1.loop))])), (5, (.list 1 (List.map (AV.int .i64) a30))), (6, v33), (7, v36), (8, (.int .i64 x8_l1))] ∧ E.Sep H [.row 1 v33 (List.map (AV.int .i64) y28), .row 1 v36 (List.map AV.bool y29)] ∧ spec_GenTakes.k2 x8_l1 y28 y29 = some x21) ?_ ?_
        · rintro e0 G30 ⟨y28, y29, hT, hS, hF⟩; refine AWP.only _ hT ?_; unfold spec_GenTakes.k2 at hF
          refine AWP.lastR rfl ?_
          refine ASL.q (v := (.int .i64 x8_l1)) rfl rfl (Light.quiet (opMove rfl rfl)) ?_
          refine ASL.q (v := (.int .i64 (W (x8_l1 + 1)))) rfl rfl (Light.quiet (opInt rfl rfl rfl rfl)) ?_
          refine ASL.q (v := (.int .i64 (W (x8_l1 + 1)))) rfl rfl (Light.quiet (opAssign rfl rfl)) ?_
          refine ASL.done ?_
          refine QThen.nrm ?_
          exact ⟨(y28, y29, (W (x8_l1 + 1))), (), (someE hF).symm, ⟨rfl, rfl, rfl, rfl, rfl, rfl, trivial⟩, (hS.pick [0, 1] rfl rfl)⟩
        · skip
          refine AWP.block ?_
          refine AWP.seqR rfl ?_
          refine ASL.q (v := (.int .i64 0)) rfl rfl (Light.quiet (opAssign rfl rfl)) ?_
          refine ASL.done ?_
          refine AWP.block ?_
          obtain ⟨o36, hL35, hR37⟩ := bindE hF
          refine AWP.loopF (ω := Unit) hL35 (fun s w => [(2, (.rptr [(.int .i64 p0.letters), (.int .i64 p0.states), (.int .i64 p0.start), (.int .i64 p0.sets), (.list 4 (List.map TGEdge.av p0.edges))])), (3, (.rptr [(.list 1 (List.map (AV.int .i64) p1.stem)), (.list 1 (List.map (AV.int .i64) p1.loop))])), (5, (.list 1 (List.map (AV.int .i64) a30))), (6, v33), (7, v36), (8, (.int .i64 x8_l1)), (9, (.int .i64 s.2.2))]) (fun s w => [.row 1 v33 (List.map (AV.int .i64) s.1), .row 1 v36 (List.map AV.bool s.2.1)]) () ⟨rfl, rfl, rfl, rfl, rfl, rfl, rfl, trivial⟩ (hS.pick [0, 1] rfl rfl) ?_
          rintro ⟨y31, y32, x9_l2⟩ _ G38 hS x33 hF hx34
          try dsimp only at hS ⊢
          have hF : spec_GenTakes.b2 p0 p1 x8_l1 a30 y31 y32 x9_l2 = some x33 := hF; unfold spec_GenTakes.b2 at hF
          refine AWP.seq ?_
          refine AWP.seqR rfl ?_
          refine ASL.q (v := (.int .i64 x9_l2)) rfl rfl (Light.quiet (opMove rfl rfl)) ?_
          refine ASL.q (v := (.rptr [(.list 4 (List.map TGEdge.av p0.edges))])) rfl rfl (Light.quiet (opFieldAddrR rfl fieldA_60_4 rfl rfl)) ?_
          refine ASL.q (v := (.list 4 (List.map TGEdge.av p0.edges))) rfl rfl (Light.quiet (opLoadR rfl aggA_58 rfl rfl)) ?_
          refine ASL.q (v := (.int .i64 (p0.edges.length : Int))) rfl rfl (Light.quiet (opLenMap (f := TGEdge.av) rfl rfl rfl lenT_58 rfl)) ?_
          refine ASL.q (v := (.bool (decide (x9_l2 < ((p0.edges.length : Int)))))) rfl rfl (Light.quiet (opInt rfl rfl rfl rfl)) ?_
          refine ASL.done ?_
          refine AWP.ifP hF rfl (fun hc39 hF => ?_) (fun hc39 hF => ?_)
          · skip
            refine AWP.skip ?_
            refine QThen.nrm ?_
            refine AWP.seq ?_
            refine AWP.block ?_
            refine AWP.seqR rfl ?_
            refine ASL.q (v := (.rptr [(.list 4 (List.map TGEdge.av p0.edges))])) rfl rfl (Light.quiet (opFieldAddrR rfl fieldA_60_4 rfl rfl)) ?_
            refine ASL.q (v := (.list 4 (List.map TGEdge.av p0.edges))) rfl rfl (Light.quiet (opLoadR rfl aggA_58 rfl rfl)) ?_
            refine ASL.q (v := (.int .i64 x9_l2)) rfl rfl (Light.quiet (opMove rfl rfl)) ?_
            obtain ⟨a53, ha53, hF⟩ := bindE hF
            refine ASL.q (v := (.rptr [(.int .i64 a53.from_), (.int .i64 a53.letter), (.int .i64 a53.to_), (.int .i64 a53.marks)])) rfl rfl (Light.quiet (kIx (f := TGEdge.av) ha53 rfl rfl rfl elemA_58 sizeA_99 rfl)) ?_
            refine ASL.q (v := (TGEdge.av a53)) rfl rfl (Light.quiet (opLoadRA rfl aggA_99 sizeA_99 rfl (nlt rfl) rfl)) ?_
            refine ASL.x rfl rfl (hNewZ hS [(.int .i64 0), (.int .i64 0), (.int .i64 0), (.int .i64 0)] rfl zeroA_99 ⟨.inl rfl, .inl rfl, .inl rfl, .inl rfl, trivial⟩ ?_); rintro b10 G40 hK hS
            refine ASL.n rfl rfl (hPutA hS (j := 0) rfl rfl sizeA_99 rfl rfl rfl rfl rfl (nlt rfl) ?_); rintro G42 hS
            refine ASL.done ?_
            refine AWP.seqR rfl ?_
            refine ASL.q (v := (.int .i64 x8_l1)) rfl rfl (Light.quiet (opMove rfl rfl)) ?_
            refine ASL.q (v := (.rptr [(.int .i64 p0.states), (.int .i64 p0.start), (.int .i64 p0.sets), (.list 4 (List.map TGEdge.av p0.edges))])) rfl rfl (Light.quiet (opFieldAddrR rfl fieldA_60_1 rfl rfl)) ?_
            refine ASL.q (v := (.int .i64 p0.states)) rfl rfl (Light.quiet (opLoadR rfl aggA_3 rfl rfl)) ?_
            refine ASL.q (v := (.int .i64 (W (x8_l1 * p0.states)))) rfl rfl (Light.quiet (opInt rfl rfl rfl rfl)) ?_
            refine ASL.q (v := (.ptr b10 0)) rfl rfl (Light.quiet (opFieldAddr rfl fieldA_99_0 rfl rfl)) ?_
            refine ASL.q (v := (.int .i64 a53.from_)) rfl rfl (Light.quiet (kAt hS (j := 0) rfl rfl aggA_3 rfl rfl)) ?_
            refine ASL.q (v := (.int .i64 (W (((W (x8_l1 * p0.states))) + a53.from_)))) rfl rfl (Light.quiet (opInt rfl rfl rfl rfl)) ?_
            refine ASL.q (v := (.int .i64 (W (((W (x8_l1 * p0.states))) + a53.from_)))) rfl rfl (Light.quiet (opAssign rfl rfl)) ?_
            refine ASL.done ?_
            refine AWP.seqD [(0, false), (1, false), (2, false), (3, false), (4, false), (5, false), (6, false), (7, false), (8, false), (9, false), (10, false), (11, false), (12, false), (13, false), (14, false), (15, false), (16, false), (17, false), (18, false), (19, false), (20, false), (21, false), (22, false), (23, false), (24, false), (25, false), (26, false), (27, false), (28, false), (29, false), (30, false), (31, false)] mixed (by kernel_rfl) rfl ?_
            refine ARL.q0 (v := (.ptr b10 1)) rfl rfl (Light.quiet (opFieldAddr rfl fieldA_99_1 rfl rfl)) ?_
            refine ARL.q (v := (.int .i64 a53.letter)) rfl rfl (hS.aliveC (k := 0) rfl) (Light.quiet (kAt hS (j := 0) rfl rfl aggA_3 rfl rfl)) ?_
            refine ARL.q0 (v := (TWord.av p1)) rfl rfl (Light.quiet (opLoadRA rfl aggA_62 sizeA_62 rfl (nlt rfl) rfl)) ?_
            refine ARL.q0 (v := (.int .i64 x8_l1)) rfl rfl (Light.quiet (opMove rfl rfl)) ?_
            obtain ⟨a66, ha66, hF⟩ := bindE hF
            refine ARL.q0 (v := (.int .i64 a66)) rfl rfl ((qCall rfl rfl call_79 (spec_l3At_ok ha66) rfl)) ?_
            refine ARL.q0 (v := (.bool (decide (a53.letter = a66)))) rfl rfl (Light.quiet (opInt rfl rfl rfl rfl)) ?_
            obtain ⟨c68, hc68, hF⟩ := bndE hF
            refine ARL.q0 (v := (.bool c68)) rfl rfl ((Quiet.cast (Light.quiet (opMove rfl rfl)) (congrArg AV.bool hc68.symm))) ?_
            refine ARL.g (v := (.list 1 (List.map (AV.int .i64) a30))) (.bool c68) true rfl (wT _) rfl noneAlive (fun hG => by have q0 := hG; subst q0; exact Light.quiet (opMove rfl rfl)) ?_
            refine ARL.g (v := (.int .i64 (W (((W (x8_l1 * p0.states))) + a53.from_)))) (.bool c68) true rfl (wT _) rfl noneAlive (fun hG => by have q0 := hG; subst q0; exact Light.quiet (opMove rfl rfl)) ?_
            obtain ⟨a71, ha71, hF⟩ := bindE hF
            refine ARL.g (v := (.rptr [(.int .i64 a71)])) (.bool c68) true rfl (wT _) rfl noneAlive (fun hG => by have q0 := hG; subst q0; exact Light.quiet (kIx (f := (AV.int .i64)) (whenE ha71) rfl rfl rfl elemA_34 sizeA_3 rfl)) ?_
            refine ARL.g (v := (.int .i64 a71)) (.bool c68) true rfl (wT _) rfl noneAlive (fun hG => by have q0 := hG; subst q0; exact Light.quiet (opLoadR rfl aggA_3 rfl rfl)) ?_
            refine ARL.g (v := (.bool (decide (a71 ≥ 0)))) (.bool c68) true rfl (wT _) rfl noneAlive (fun hG => by have q0 := hG; subst q0; exact Light.quiet (opInt rfl rfl rfl rfl)) ?_
            refine ARL.q0 (v := (.bool (c68 && (decide (a71 ≥ 0))))) rfl rfl (Light.quiet (opPick (b := c68) rfl rfl (by cases c68 <;> rfl))) ?_
            obtain ⟨c75, hc75, hF⟩ := bndE hF
            refine ARL.q0 (v := (.bool c75)) rfl rfl ((Quiet.cast (Light.quiet (opMove rfl rfl)) (congrArg AV.bool hc75.symm))) ?_
            refine ARL.g (v := (.list 1 (List.map (AV.int .i64) a30))) (.bool c75) true rfl (wT _) rfl noneAlive (fun hG => by have q0 := hG; subst q0; exact Light.quiet (opMove rfl rfl)) ?_
            refine ARL.g (v := (.int .i64 (W (((W (x8_l1 * p0.states))) + a53.from_)))) (.bool c75) true rfl (wT _) rfl noneAlive (fun hG => by have q0 := hG; subst q0; exact Light.quiet (opMove rfl rfl)) ?_
            obtain ⟨a78, ha78, hF⟩ := bindE hF
            refine ARL.g (v := (.rptr [(.int .i64 a78)])) (.bool c75) true rfl (wT _) rfl noneAlive (fun hG => by have q0 := hG; subst q0; exact Light.quiet (kIx (f := (AV.int .i64)) (whenE ha78) rfl rfl rfl elemA_34 sizeA_3 rfl)) ?_
            refine ARL.g (v := (.int .i64 a78)) (.bool c75) true rfl (wT _) rfl noneAlive (fun hG => by have q0 := hG; subst q0; exact Light.quiet (opLoadR rfl aggA_3 rfl rfl)) ?_
            refine ARL.g (v := (.list 1 (List.map (AV.int .i64) a30))) (.bool c75) true rfl (wT _) rfl noneAlive (fun hG => by have q0 := hG; subst q0; exact Light.quiet (opMove rfl rfl)) ?_
            refine ARL.g (v := (TWord.av p1)) (.bool c75) true rfl (wT _) rfl noneAlive (fun hG => by have q0 := hG; subst q0; exact Light.quiet (opLoadRA rfl aggA_62 sizeA_62 rfl (nlt rfl) rfl)) ?_
            refine ARL.g (v := (.int .i64 x8_l1)) (.bool c75) true rfl (wT _) rfl noneAlive (fun hG => by have q0 := hG; subst q0; exact Light.quiet (opMove rfl rfl)) ?_
            refine ARL.g (v := (.int .i64 (spec_l6After p1 x8_l1))) (.bool c75) true rfl (wT _) rfl noneAlive (fun hG => by have q0 := hG; subst q0; exact (qCall rfl rfl call_80 (spec_l6After_ok p1 x8_l1) rfl)) ?_
            refine ARL.g (v := (.rptr [(.int .i64 p0.states), (.int .i64 p0.start), (.int .i64 p0.sets), (.list 4 (List.map TGEdge.av p0.edges))])) (.bool c75) true rfl (wT _) rfl noneAlive (fun hG => by have q0 := hG; subst q0; exact Light.quiet (opFieldAddrR rfl fieldA_60_1 rfl rfl)) ?_
            refine ARL.g (v := (.int .i64 p0.states)) (.bool c75) true rfl (wT _) rfl noneAlive (fun hG => by have q0 := hG; subst q0; exact Light.quiet (opLoadR rfl aggA_3 rfl rfl)) ?_
            refine ARL.g (v := (.int .i64 (W (((spec_l6After p1 x8_l1)) * p0.states)))) (.bool c75) true rfl (wT _) rfl noneAlive (fun hG => by have q0 := hG; subst q0; exact Light.quiet (opInt rfl rfl rfl rfl)) ?_
            refine ARL.g (v := (.ptr b10 2)) (.bool c75) true rfl (wT _) rfl noneAlive (fun hG => by have q0 := hG; subst q0; exact Light.quiet (opFieldAddr rfl fieldA_99_2 rfl rfl)) ?_
            refine ARL.g (v := (.int .i64 a53.to_)) (.bool c75) true rfl (wT _) rfl (hS.aliveC (k := 0) rfl) (fun hG => by have q0 := hG; subst q0; exact Light.quiet (kAt hS (j := 0) rfl rfl aggA_3 rfl rfl)) ?_
            refine ARL.g (v := (.int .i64 (W (((W (((spec_l6After p1 x8_l1)) * p0.states))) + a53.to_)))) (.bool c75) true rfl (wT _) rfl noneAlive (fun hG => by have q0 := hG; subst q0; exact Light.quiet (opInt rfl rfl rfl rfl)) ?_
            obtain ⟨a90, ha90, hF⟩ := bindE hF
            refine ARL.g (v := (.rptr [(.int .i64 a90)])) (.bool c75) true rfl (wT _) rfl noneAlive (fun hG => by have q0 := hG; subst q0; exact Light.quiet (kIx (f := (AV.int .i64)) (whenE ha90) rfl rfl rfl elemA_34 sizeA_3 rfl)) ?_
            refine ARL.g (v := (.int .i64 a90)) (.bool c75) true rfl (wT _) rfl noneAlive (fun hG => by have q0 := hG; subst q0; exact Light.quiet (opLoadR rfl aggA_3 rfl rfl)) ?_
            refine ARL.g (v := (.bool (decide (a78 = a90)))) (.bool c75) true rfl (wT _) rfl noneAlive (fun hG => by have q0 := hG; subst q0; exact Light.quiet (opInt rfl rfl rfl rfl)) ?_
            refine ARL.q0 (v := (.bool (c75 && (decide (a78 = a90))))) rfl rfl (Light.quiet (opPick (b := c75) rfl rfl (by cases c75 <;> rfl))) ?_
            refine ARL.done ?_
            refine AWP.ifB hF rfl (fun hc43 hF => ?_) (fun hc43 hF => ?_)
            · skip
              refine AWP.seqR rfl ?_
              refine ASL.q (v := v36) rfl rfl (Light.quiet (opMove rfl rfl)) ?_
              refine ASL.q (v := (.list 1 (List.map (AV.int .i64) a30))) rfl rfl (Light.quiet (opMove rfl rfl)) ?_
              refine ASL.q (v := (.int .i64 (W (((W (x8_l1 * p0.states))) + a53.from_)))) rfl rfl (Light.quiet (opMove rfl rfl)) ?_
              obtain ⟨a97, ha97, hF⟩ := bindE hF
              refine ASL.q (v := (.rptr [(.int .i64 a97)])) rfl rfl (Light.quiet (kIx (f := (AV.int .i64)) ha97 rfl rfl rfl elemA_34 sizeA_3 rfl)) ?_
              refine ASL.q (v := (.int .i64 a97)) rfl rfl (Light.quiet (opLoadR rfl aggA_3 rfl rfl)) ?_
              obtain ⟨m99, hm99, hF⟩ := bindE hF
              refine ASL.q (v := (ptrTo v36 m99 1)) rfl rfl (Light.quiet (kIxO hS (j := 2) rfl hm99 rfl rfl rfl elemA_96 sizeA_4)) ?_
              refine ASL.n rfl rfl (hSt (f := AV.bool) (a := true) hS (j := 2) rfl hm99 rfl sizeA_4 rfl rfl ⟨rfl, rfl, rfl⟩ ?_); rintro G44 hS
              refine ASL.done ?_
              refine AWP.lastD [(0, false), (1, false), (2, false), (3, false), (4, false), (5, false), (6, false), (7, false), (8, false), (9, false), (10, false), (11, false), (12, false), (13, false), (14, false), (15, false), (16, true)] mixed (by kernel_rfl) rfl ?_
              refine ARL.q0 (v := v33) rfl rfl (Light.quiet (opMove rfl rfl)) ?_
              refine ARL.q0 (v := (.list 1 (List.map (AV.int .i64) a30))) rfl rfl (Light.quiet (opMove rfl rfl)) ?_
              refine ARL.q0 (v := (.int .i64 (W (((W (x8_l1 * p0.states))) + a53.from_)))) rfl rfl (Light.quiet (opMove rfl rfl)) ?_
              obtain ⟨a103, ha103, hF⟩ := bindE hF
              refine ARL.q0 (v := (.rptr [(.int .i64 a103)])) rfl rfl (Light.quiet (kIx (f := (AV.int .i64)) ha103 rfl rfl rfl elemA_34 sizeA_3 rfl)) ?_
              refine ARL.q0 (v := (.int .i64 a103)) rfl rfl (Light.quiet (opLoadR rfl aggA_3 rfl rfl)) ?_
              refine ARL.q0 (v := v33) rfl rfl (Light.quiet (opMove rfl rfl)) ?_
              refine ARL.q0 (v := (.list 1 (List.map (AV.int .i64) a30))) rfl rfl (Light.quiet (opMove rfl rfl)) ?_
              refine ARL.q0 (v := (.int .i64 (W (((W (x8_l1 * p0.states))) + a53.from_)))) rfl rfl (Light.quiet (opMove rfl rfl)) ?_
              obtain ⟨a108, ha108, hF⟩ := bindE hF
              refine ARL.q0 (v := (.rptr [(.int .i64 a108)])) rfl rfl (Light.quiet (kIx (f := (AV.int .i64)) ha108 rfl rfl rfl elemA_34 sizeA_3 rfl)) ?_
              refine ARL.q0 (v := (.int .i64 a108)) rfl rfl (Light.quiet (opLoadR rfl aggA_3 rfl rfl)) ?_
              obtain ⟨a110, ha110, hF⟩ := bindE hF
              refine ARL.q0 (v := (ptrTo v33 a108.toNat 1)) rfl rfl (Light.quiet (kIxOx hS (j := 1) rfl ha110 rfl rfl rfl elemA_34 sizeA_3)) ?_
              refine ARL.q (v := (.int .i64 a110)) rfl rfl (hS.aliveR (k := 1) rfl) (Light.quiet (kLd (f := (AV.int .i64)) hS (j := 1) rfl ha110 rfl aggA_3 rfl (fun _ => rfl))) ?_
              refine ARL.q0 (v := (.ptr b10 3)) rfl rfl (Light.quiet (opFieldAddr rfl fieldA_99_3 rfl rfl)) ?_
              refine ARL.q (v := (.int .i64 a53.marks)) rfl rfl (hS.aliveC (k := 0) rfl) (Light.quiet (kAt hS (j := 0) rfl rfl aggA_3 rfl rfl)) ?_
              refine ARL.q0 (v := (.int .i64 (bOr .i64 a110 a53.marks))) rfl rfl (Light.quiet (opInt rfl rfl rfl rfl)) ?_
              obtain ⟨m115, hm115, hF⟩ := bindE hF
              refine ARL.q0 (v := (ptrTo v33 m115 1)) rfl rfl (Light.quiet (kIxO hS (j := 1) rfl hm115 rfl rfl rfl elemA_34 sizeA_3)) ?_
              refine ARL.n rfl rfl rfl rfl (hSt (f := (AV.int .i64)) (a := (bOr .i64 a110 a53.marks)) hS (j := 1) rfl hm115 rfl sizeA_3 rfl rfl ⟨rfl, rfl, rfl⟩ ?_); rintro G45 hS
              refine ARL.done ?_
              refine QBlock.nrm ?_
              refine QThen.nrm ?_
              refine AWP.lastR rfl ?_
              refine ASL.q (v := (.int .i64 x9_l2)) rfl rfl (Light.quiet (opMove rfl rfl)) ?_
              refine ASL.q (v := (.int .i64 (W (x9_l2 + 1)))) rfl rfl (Light.quiet (opInt rfl rfl rfl rfl)) ?_
              refine ASL.q (v := (.int .i64 (W (x9_l2 + 1)))) rfl rfl (Light.quiet (opAssign rfl rfl)) ?_
              refine ASL.done ?_
              refine QThen.nrm ?_
              exact ⟨((y31.set m115 ((bOr .i64 a110 a53.marks))), (y32.set m99 true), (W (x9_l2 + 1))), (), (someE hF).symm, ⟨rfl, rfl, rfl, rfl, rfl, rfl, rfl, trivial⟩, (hS.pick [1, 2] rfl rfl)⟩
            · skip
              refine AWP.skip ?_
              refine QBlock.nrm ?_
              refine QThen.nrm ?_
              refine AWP.lastR rfl ?_
              refine ASL.q (v := (.int .i64 x9_l2)) rfl rfl (Light.quiet (opMove rfl rfl)) ?_
              refine ASL.q (v := (.int .i64 (W (x9_l2 + 1)))) rfl rfl (Light.quiet (opInt rfl rfl rfl rfl)) ?_
              refine ASL.q (v := (.int .i64 (W (x9_l2 + 1)))) rfl rfl (Light.quiet (opAssign rfl rfl)) ?_
              refine ASL.done ?_
              refine QThen.nrm ?_
              exact ⟨(y31, y32, (W (x9_l2 + 1))), (), (someE hF).symm, ⟨rfl, rfl, rfl, rfl, rfl, rfl, rfl, trivial⟩, (hS.pick [1, 2] rfl rfl)⟩
          · skip
            refine AWP.exit ?_
            refine QThen.ext ?_
            refine QThen.ext ?_
            refine QBlock.hit ?_
            obtain rfl := (hx34 _ (someE hF).symm)
            have hF := hR37
            refine QBlock.nrm ?_
            refine QThen.nrm ?_
            exact ⟨y31, y32, ⟨rfl, rfl, rfl, rfl, rfl, rfl, trivial⟩, (hS.pick [0, 1] rfl rfl), hF⟩
      · skip
        refine AWP.exit ?_
        refine QThen.ext ?_
        refine QThen.ext ?_
        refine QBlock.hit ?_
        obtain rfl := (hx22 _ (someE hF).symm)
        have hF := hR25
        refine QThen.nrm ?_
        exact ⟨y19, y20, ⟨rfl, rfl, rfl, trivial⟩, (hS.pick [0, 1] rfl rfl), hF⟩

set_option maxRecDepth 10000 in
theorem impl_inRange_ok (p0 : Int) (p1 : Int) (p2 : Int) : PC Try.prog 59 [(.int .i64 p0), (.int .i64 p1), (.int .i64 p2)] fun v => v = (.bool (impl_inRange p0 p1 p2)) := by
  generalize hF : impl_inRange p0 p1 p2 = r
  refine PC.enter Try.func59 rfl Try.ntmps59 (by simp) ?_
  have hS := Sep.void; unfold impl_inRange at hF
  refine AWP.seqR rfl ?_
  refine ASL.q (v := (.bool false)) rfl rfl (Light.quiet (opAssign rfl rfl)) ?_
  refine ASL.done ?_
  refine AWP.seqR rfl ?_
  refine ASL.q (v := (.int .i64 p0)) rfl rfl (Light.quiet (opMove rfl rfl)) ?_
  refine ASL.q (v := (.int .i64 p1)) rfl rfl (Light.quiet (opMove rfl rfl)) ?_
  refine ASL.q (v := (.bool (decide (p0 ≥ p1)))) rfl rfl (Light.quiet (opInt rfl rfl rfl rfl)) ?_
  obtain ⟨c10, hc10, hF⟩ := bndE hF
  refine ASL.q (v := (.bool c10)) rfl rfl ((Quiet.cast (Light.quiet (opMove rfl rfl)) (congrArg AV.bool hc10.symm))) ?_
  refine ASL.g (v := (.int .i64 p0)) (.bool c10) true rfl (wT _) rfl (fun hG => by have q0 := hG; subst q0; exact Light.quiet (opMove rfl rfl)) ?_
  refine ASL.g (v := (.int .i64 p2)) (.bool c10) true rfl (wT _) rfl (fun hG => by have q0 := hG; subst q0; exact Light.quiet (opMove rfl rfl)) ?_
  refine ASL.g (v := (.bool (decide (p0 ≤ p2)))) (.bool c10) true rfl (wT _) rfl (fun hG => by have q0 := hG; subst q0; exact Light.quiet (opInt rfl rfl rfl rfl)) ?_
  refine ASL.q (v := (.bool (c10 && (decide (p0 ≤ p2))))) rfl rfl (Light.quiet (opPick (b := c10) rfl rfl (by cases c10 <;> rfl))) ?_
  refine ASL.q (v := (.bool (c10 && (decide (p0 ≤ p2))))) rfl rfl (Light.quiet (opAssign rfl rfl)) ?_
  refine ASL.done ?_
  refine AWP.ret ?_
  obtain rfl := hF
  exact QRet.sole (v := (.bool (c10 && (decide (p0 ≤ p2))))) ⟨rfl, trivial⟩ rfl

set_option maxRecDepth 10000 in
theorem impl_isLetters_ok (p0 : Int) : PC Try.prog 112 [(.int .i64 p0)] fun v => v = (.bool (impl_isLetters p0)) := by
  generalize hF : impl_isLetters p0 = r
  refine PC.enter Try.func112 rfl Try.ntmps112 (by simp) ?_
  have hS := Sep.void; unfold impl_isLetters at hF
  refine AWP.seqR rfl ?_
  refine ASL.q (v := (.bool false)) rfl rfl (Light.quiet (opAssign rfl rfl)) ?_
  refine ASL.done ?_
  refine AWP.seqR rfl ?_
  refine ASL.q (v := (.int .i64 p0)) rfl rfl (Light.quiet (opMove rfl rfl)) ?_
  refine ASL.q (v := (.bool (impl_inRange p0 1 8))) rfl rfl ((qCall rfl rfl call_59 (impl_inRange_ok p0 1 8) rfl)) ?_
  refine ASL.q (v := (.bool (impl_inRange p0 1 8))) rfl rfl (Light.quiet (opAssign rfl rfl)) ?_
  refine ASL.done ?_
  refine AWP.ret ?_
  obtain rfl := hF
  exact QRet.sole (v := (.bool (impl_inRange p0 1 8))) ⟨rfl, trivial⟩ rfl

set_option maxRecDepth 10000 in
theorem impl_SetOk_ok (p0 : Int) : PC Try.prog 57 [(.int .i64 p0)] fun v => v = (.bool (impl_SetOk p0)) := by
  generalize hF : impl_SetOk p0 = r
  refine PC.enter Try.func57 rfl Try.ntmps57 (by simp) ?_
  have hS := Sep.void; unfold impl_SetOk at hF
  refine AWP.seqR rfl ?_
  refine ASL.q (v := (.bool false)) rfl rfl (Light.quiet (opAssign rfl rfl)) ?_
  refine ASL.done ?_
  refine AWP.seqR rfl ?_
  refine ASL.q (v := (.int .i64 p0)) rfl rfl (Light.quiet (opMove rfl rfl)) ?_
  refine ASL.q (v := (.bool (impl_inRange p0 0 2147483647))) rfl rfl ((qCall rfl rfl call_59 (impl_inRange_ok p0 0 2147483647) rfl)) ?_
  refine ASL.q (v := (.bool (impl_inRange p0 0 2147483647))) rfl rfl (Light.quiet (opAssign rfl rfl)) ?_
  refine ASL.done ?_
  refine AWP.ret ?_
  obtain rfl := hF
  exact QRet.sole (v := (.bool (impl_inRange p0 0 2147483647))) ⟨rfl, trivial⟩ rfl

set_option maxRecDepth 10000 in
theorem impl_only_ok (p0 : Int) : PC Try.prog 58 [(.int .i64 p0)] fun v => v = (.int .i64 (impl_only p0)) := by
  generalize hF : impl_only p0 = r
  refine PC.enter Try.func58 rfl Try.ntmps58 (by simp) ?_
  have hS := Sep.void; unfold impl_only at hF
  refine AWP.seqR rfl ?_
  refine ASL.q (v := (.int .i64 0)) rfl rfl (Light.quiet (opAssign rfl rfl)) ?_
  refine ASL.done ?_
  refine AWP.seqR rfl ?_
  refine ASL.q (v := (.int .i64 p0)) rfl rfl (Light.quiet (opMove rfl rfl)) ?_
  refine ASL.q (v := (.int .u64 (IntKind.u64.wrap p0))) rfl rfl (Light.quiet (opConv rfl rfl und_3 und_126 rfl)) ?_
  refine ASL.q (v := (.int .i64 (shl .i64 1 ((IntKind.u64.wrap p0))))) rfl rfl (Light.quiet (opShl rfl rfl rfl (wrapU_nn rfl _) rfl)) ?_
  refine ASL.q (v := (.int .i64 (shl .i64 1 ((IntKind.u64.wrap p0))))) rfl rfl (Light.quiet (opAssign rfl rfl)) ?_
  refine ASL.done ?_
  refine AWP.ret ?_
  obtain rfl := hF
  exact QRet.sole (v := (.int .i64 (shl .i64 1 ((IntKind.u64.wrap p0))))) ⟨rfl, trivial⟩ rfl

set_option maxRecDepth 10000 in
theorem impl_headOk_ok (p0 : Int) (p1 : Int) (p2 : Int) : PC Try.prog 92 [(.int .i64 p0), (.int .i64 p1), (.int .i64 p2)] fun v => v = (.bool (impl_headOk p0 p1 p2)) := by
  generalize hF : impl_headOk p0 p1 p2 = r
  refine PC.enter Try.func92 rfl Try.ntmps92 (by simp) ?_
  have hS := Sep.void; unfold impl_headOk at hF
  refine AWP.seqR rfl ?_
  refine ASL.q (v := (.bool false)) rfl rfl (Light.quiet (opAssign rfl rfl)) ?_
  refine ASL.done ?_
  refine AWP.seqR rfl ?_
  refine ASL.q (v := (.int .i64 p0)) rfl rfl (Light.quiet (opMove rfl rfl)) ?_
  refine ASL.q (v := (.bool (impl_isLetters p0))) rfl rfl ((qCall rfl rfl call_112 (impl_isLetters_ok p0) rfl)) ?_
  obtain ⟨c9, hc9, hF⟩ := bndE hF
  refine ASL.q (v := (.bool c9)) rfl rfl ((Quiet.cast (Light.quiet (opMove rfl rfl)) (congrArg AV.bool hc9.symm))) ?_
  refine ASL.g (v := (.int .i64 p1)) (.bool c9) true rfl (wT _) rfl (fun hG => by have q0 := hG; subst q0; exact Light.quiet (opMove rfl rfl)) ?_
  refine ASL.g (v := (.bool (impl_inRange p1 0 31))) (.bool c9) true rfl (wT _) rfl (fun hG => by have q0 := hG; subst q0; exact (qCall rfl rfl call_59 (impl_inRange_ok p1 0 31) rfl)) ?_
  refine ASL.q (v := (.bool (c9 && (impl_inRange p1 0 31)))) rfl rfl (Light.quiet (opPick (b := c9) rfl rfl (by cases c9 <;> rfl))) ?_
  obtain ⟨c13, hc13, hF⟩ := bndE hF
  refine ASL.q (v := (.bool c13)) rfl rfl ((Quiet.cast (Light.quiet (opMove rfl rfl)) (congrArg AV.bool hc13.symm))) ?_
  refine ASL.g (v := (.int .i64 p2)) (.bool c13) true rfl (wT _) rfl (fun hG => by have q0 := hG; subst q0; exact Light.quiet (opMove rfl rfl)) ?_
  refine ASL.g (v := (.bool (impl_SetOk p2))) (.bool c13) true rfl (wT _) rfl (fun hG => by have q0 := hG; subst q0; exact (qCall rfl rfl call_57 (impl_SetOk_ok p2) rfl)) ?_
  refine ASL.q (v := (.bool (c13 && (impl_SetOk p2)))) rfl rfl (Light.quiet (opPick (b := c13) rfl rfl (by cases c13 <;> rfl))) ?_
  obtain ⟨c17, hc17, hF⟩ := bndE hF
  refine ASL.q (v := (.bool c17)) rfl rfl ((Quiet.cast (Light.quiet (opMove rfl rfl)) (congrArg AV.bool hc17.symm))) ?_
  refine ASL.g (v := (.int .i64 p2)) (.bool c17) true rfl (wT _) rfl (fun hG => by have q0 := hG; subst q0; exact Light.quiet (opMove rfl rfl)) ?_
  refine ASL.g (v := (.int .i64 p1)) (.bool c17) true rfl (wT _) rfl (fun hG => by have q0 := hG; subst q0; exact Light.quiet (opMove rfl rfl)) ?_
  refine ASL.g (v := (.int .i64 (impl_only p1))) (.bool c17) true rfl (wT _) rfl (fun hG => by have q0 := hG; subst q0; exact (qCall rfl rfl call_58 (impl_only_ok p1) rfl)) ?_
  refine ASL.g (v := (.bool (decide (p2 < ((impl_only p1)))))) (.bool c17) true rfl (wT _) rfl (fun hG => by have q0 := hG; subst q0; exact Light.quiet (opInt rfl rfl rfl rfl)) ?_
  refine ASL.q (v := (.bool (c17 && (decide (p2 < ((impl_only p1))))))) rfl rfl (Light.quiet (opPick (b := c17) rfl rfl (by cases c17 <;> rfl))) ?_
  refine ASL.q (v := (.bool (c17 && (decide (p2 < ((impl_only p1))))))) rfl rfl (Light.quiet (opAssign rfl rfl)) ?_
  refine ASL.done ?_
  refine AWP.ret ?_
  obtain rfl := hF
  exact QRet.sole (v := (.bool (c17 && (decide (p2 < ((impl_only p1))))))) ⟨rfl, trivial⟩ rfl

set_option maxRecDepth 10000 in
theorem cmp_isNaN_int_ok (p0 : Int) : PC Try.prog 124 [(.int .i64 p0)] fun v => v = (.bool (cmp_isNaN_int p0)) := by
  generalize hF : cmp_isNaN_int p0 = r
  refine PC.enter Try.func124 rfl Try.ntmps124 (by simp) ?_
  have hS := Sep.void; unfold cmp_isNaN_int at hF
  refine AWP.seqR rfl ?_
  refine ASL.q (v := (.bool false)) rfl rfl (Light.quiet (opAssign rfl rfl)) ?_
  refine ASL.done ?_
  refine AWP.seqR rfl ?_
  refine ASL.q (v := (.int .i64 p0)) rfl rfl (Light.quiet (opMove rfl rfl)) ?_
  refine ASL.q (v := (.int .i64 p0)) rfl rfl (Light.quiet (opMove rfl rfl)) ?_
  refine ASL.q (v := (.bool (decide (p0 ≠ p0)))) rfl rfl (Light.quiet (opInt rfl rfl rfl rfl)) ?_
  refine ASL.q (v := (.bool (decide (p0 ≠ p0)))) rfl rfl (Light.quiet (opAssign rfl rfl)) ?_
  refine ASL.done ?_
  refine AWP.ret ?_
  obtain rfl := hF
  exact QRet.sole (v := (.bool (decide (p0 ≠ p0)))) ⟨rfl, trivial⟩ rfl

set_option maxRecDepth 10000 in
theorem cmp_Compare_int_ok (p0 : Int) (p1 : Int) : PC Try.prog 120 [(.int .i64 p0), (.int .i64 p1)] fun v => v = (.int .i64 (cmp_Compare_int p0 p1)) := by
  generalize hF : cmp_Compare_int p0 p1 = r
  refine PC.enter Try.func120 rfl Try.ntmps120 (by simp) ?_
  have hS := Sep.void; unfold cmp_Compare_int at hF
  refine AWP.seqR rfl ?_
  refine ASL.q (v := (.int .i64 0)) rfl rfl (Light.quiet (opAssign rfl rfl)) ?_
  refine ASL.done ?_
  refine AWP.seqR rfl ?_
  refine ASL.q (v := (.int .i64 p0)) rfl rfl (Light.quiet (opMove rfl rfl)) ?_
  refine ASL.q (v := (.bool (cmp_isNaN_int p0))) rfl rfl ((qCall rfl rfl call_124 (cmp_isNaN_int_ok p0) rfl)) ?_
  refine ASL.q (v := (.bool (cmp_isNaN_int p0))) rfl rfl (Light.quiet (opAssign rfl rfl)) ?_
  refine ASL.done ?_
  refine AWP.seqR rfl ?_
  refine ASL.q (v := (.int .i64 p1)) rfl rfl (Light.quiet (opMove rfl rfl)) ?_
  refine ASL.q (v := (.bool (cmp_isNaN_int p1))) rfl rfl ((qCall rfl rfl call_124 (cmp_isNaN_int_ok p1) rfl)) ?_
  refine ASL.q (v := (.bool (cmp_isNaN_int p1))) rfl rfl (Light.quiet (opAssign rfl rfl)) ?_
  refine ASL.done ?_
  refine AWP.seq ?_
  refine AWP.seqR rfl ?_
  refine ASL.q (v := (.bool (cmp_isNaN_int p0))) rfl rfl (Light.quiet (opMove rfl rfl)) ?_
  refine ASL.done ?_
  refine AWP.ifB hF rfl (fun hc1 hF => ?_) (fun hc1 hF => ?_)
  · skip
    refine AWP.seq ?_
    refine AWP.seqR rfl ?_
    refine ASL.q (v := (.bool (cmp_isNaN_int p1))) rfl rfl (Light.quiet (opMove rfl rfl)) ?_
    refine ASL.done ?_
    refine AWP.ifB hF rfl (fun hc2 hF => ?_) (fun hc2 hF => ?_)
    · skip
      refine AWP.seqR rfl ?_
      refine ASL.q (v := (.int .i64 0)) rfl rfl (Light.quiet (opAssign rfl rfl)) ?_
      refine ASL.done ?_
      refine AWP.ret ?_
      refine QThen.rt ?_
      refine QThen.rt ?_
      obtain rfl := hF
      exact QRet.sole (v := (.int .i64 0)) ⟨rfl, trivial⟩ rfl
    · skip
      refine AWP.skip ?_
      refine QThen.nrm ?_
      refine AWP.seqR rfl ?_
      refine ASL.q (v := (.int .i64 (-1))) rfl rfl (Light.quiet (opAssign rfl rfl)) ?_
      refine ASL.done ?_
      refine AWP.ret ?_
      refine QThen.rt ?_
      obtain rfl := hF
      exact QRet.sole (v := (.int .i64 (-1))) ⟨rfl, trivial⟩ rfl
  · skip
    refine AWP.skip ?_
    refine QThen.nrm ?_
    refine AWP.seq ?_
    refine AWP.seqR rfl ?_
    refine ASL.q (v := (.bool (cmp_isNaN_int p1))) rfl rfl (Light.quiet (opMove rfl rfl)) ?_
    refine ASL.done ?_
    refine AWP.ifB hF rfl (fun hc3 hF => ?_) (fun hc3 hF => ?_)
    · skip
      refine AWP.seqR rfl ?_
      refine ASL.q (v := (.int .i64 1)) rfl rfl (Light.quiet (opAssign rfl rfl)) ?_
      refine ASL.done ?_
      refine AWP.ret ?_
      refine QThen.rt ?_
      obtain rfl := hF
      exact QRet.sole (v := (.int .i64 1)) ⟨rfl, trivial⟩ rfl
    · skip
      refine AWP.skip ?_
      refine QThen.nrm ?_
      refine AWP.seq ?_
      refine AWP.seqR rfl ?_
      refine ASL.q (v := (.int .i64 p0)) rfl rfl (Light.quiet (opMove rfl rfl)) ?_
      refine ASL.q (v := (.int .i64 p1)) rfl rfl (Light.quiet (opMove rfl rfl)) ?_
      refine ASL.q (v := (.bool (decide (p0 < p1)))) rfl rfl (Light.quiet (opInt rfl rfl rfl rfl)) ?_
      refine ASL.done ?_
      refine AWP.ifP hF rfl (fun hc4 hF => ?_) (fun hc4 hF => ?_)
      · skip
        refine AWP.seqR rfl ?_
        refine ASL.q (v := (.int .i64 (-1))) rfl rfl (Light.quiet (opAssign rfl rfl)) ?_
        refine ASL.done ?_
        refine AWP.ret ?_
        refine QThen.rt ?_
        obtain rfl := hF
        exact QRet.sole (v := (.int .i64 (-1))) ⟨rfl, trivial⟩ rfl
      · skip
        refine AWP.skip ?_
        refine QThen.nrm ?_
        refine AWP.seq ?_
        refine AWP.seqR rfl ?_
        refine ASL.q (v := (.int .i64 p0)) rfl rfl (Light.quiet (opMove rfl rfl)) ?_
        refine ASL.q (v := (.int .i64 p1)) rfl rfl (Light.quiet (opMove rfl rfl)) ?_
        refine ASL.q (v := (.bool (decide (p0 > p1)))) rfl rfl (Light.quiet (opInt rfl rfl rfl rfl)) ?_
        refine ASL.done ?_
        refine AWP.ifP hF rfl (fun hc5 hF => ?_) (fun hc5 hF => ?_)
        · skip
          refine AWP.seqR rfl ?_
          refine ASL.q (v := (.int .i64 1)) rfl rfl (Light.quiet (opAssign rfl rfl)) ?_
          refine ASL.done ?_
          refine AWP.ret ?_
          refine QThen.rt ?_
          obtain rfl := hF
          exact QRet.sole (v := (.int .i64 1)) ⟨rfl, trivial⟩ rfl
        · skip
          refine AWP.skip ?_
          refine QThen.nrm ?_
          refine AWP.seqR rfl ?_
          refine ASL.q (v := (.int .i64 0)) rfl rfl (Light.quiet (opAssign rfl rfl)) ?_
          refine ASL.done ?_
          refine AWP.ret ?_
          obtain rfl := hF
          exact QRet.sole (v := (.int .i64 0)) ⟨rfl, trivial⟩ rfl

set_option maxRecDepth 10000 in
theorem cmp_Or_int_ok {p0 : (List Int)} {r : Int} (hF : cmp_Or_int p0 = some r) : PC Try.prog 119 [(.list 1 (List.map (AV.int .i64) p0))] fun v => v = (.int .i64 r) := by
  refine PC.enter Try.func119 rfl Try.ntmps119 (by simp) ?_
  have hS := Sep.void; unfold cmp_Or_int at hF
  refine AWP.seqR rfl ?_
  refine ASL.q (v := (.int .i64 0)) rfl rfl (Light.quiet (opAssign rfl rfl)) ?_
  refine ASL.done ?_
  refine AWP.seqR rfl ?_
  refine ASL.q (v := (.int .i64 0)) rfl rfl (Light.quiet (opAssign rfl rfl)) ?_
  refine ASL.done ?_
  refine AWP.seqM (fun e H => E.Told e [(3, (.int .i64 0))] ∧ E.Sep H [] ∧ cmp_Or_int.k0 = some r) ?_ ?_
  · rintro e0 G1 ⟨hT, hS, hF⟩; refine AWP.only _ hT ?_; unfold cmp_Or_int.k0 at hF
    refine AWP.seqR rfl ?_
    refine ASL.q (v := (.int .i64 0)) rfl rfl (Light.quiet (opMove rfl rfl)) ?_
    refine ASL.q (v := (.int .i64 0)) rfl rfl (Light.quiet (opAssign rfl rfl)) ?_
    refine ASL.done ?_
    refine AWP.ret ?_
    obtain rfl := someE hF
    exact QRet.sole (v := (.int .i64 0)) ⟨rfl, trivial⟩ rfl
  · skip
    refine AWP.seqR rfl ?_
    refine ASL.q (v := (.list 1 (List.map (AV.int .i64) p0))) rfl rfl (Light.quiet (opMove rfl rfl)) ?_
    refine ASL.q (v := (.int .i64 (p0.length : Int))) rfl rfl (Light.quiet (opLenMap (f := (AV.int .i64)) rfl rfl rfl lenT_34 rfl)) ?_
    refine ASL.q (v := (.int .i64 0)) rfl rfl (Light.quiet (opMove rfl rfl)) ?_
    refine ASL.done ?_
    refine AWP.block ?_
    obtain ⟨o5, hL4, hR6⟩ := bindE hF
    refine AWP.loopF (ω := Unit) hL4 (fun s w => [(3, (.int .i64 0)), (6, (.list 1 (List.map (AV.int .i64) p0))), (7, (.int .i64 (p0.length : Int))), (8, (.int .i64 s))]) (fun s w => []) () ⟨rfl, rfl, rfl, rfl, trivial⟩ (hS.pick [] rfl rfl) ?_
    rintro x8_l0 _ G7 hS x2 hF hx3
    try dsimp only at hS ⊢
    have hF : cmp_Or_int.b0 p0 x8_l0 = some x2 := hF; unfold cmp_Or_int.b0 at hF
    refine AWP.seqR rfl ?_
    refine ASL.q (v := (.bool (decide (x8_l0 < ((p0.length : Int)))))) rfl rfl (Light.quiet (opInt rfl rfl rfl rfl)) ?_
    refine ASL.done ?_
    refine AWP.seq ?_
    refine AWP.ifP hF rfl (fun hc8 hF => ?_) (fun hc8 hF => ?_)
    · skip
      refine AWP.skip ?_
      refine QThen.nrm ?_
      refine AWP.seq ?_
      refine AWP.block ?_
      refine AWP.seqR rfl ?_
      obtain ⟨a10, ha10, hF⟩ := bindE hF
      refine ASL.q (v := (.rptr [(.int .i64 a10)])) rfl rfl (Light.quiet (kIx (f := (AV.int .i64)) ha10 rfl rfl rfl elemA_34 sizeA_3 rfl)) ?_
      refine ASL.q (v := (.int .i64 a10)) rfl rfl (Light.quiet (opLoadR rfl aggA_3 rfl rfl)) ?_
      refine ASL.q (v := (.int .i64 a10)) rfl rfl (Light.quiet (opAssign rfl rfl)) ?_
      refine ASL.done ?_
      refine AWP.seqR rfl ?_
      refine ASL.q (v := (.int .i64 a10)) rfl rfl (Light.quiet (opMove rfl rfl)) ?_
      refine ASL.q (v := (.int .i64 0)) rfl rfl (Light.quiet (opMove rfl rfl)) ?_
      refine ASL.q (v := (.bool (decide (a10 ≠ 0)))) rfl rfl (Light.quiet (opInt rfl rfl rfl rfl)) ?_
      refine ASL.done ?_
      refine AWP.ifP hF rfl (fun hc9 hF => ?_) (fun hc9 hF => ?_)
      · skip
        refine AWP.seqR rfl ?_
        refine ASL.q (v := (.int .i64 a10)) rfl rfl (Light.quiet (opMove rfl rfl)) ?_
        refine ASL.q (v := (.int .i64 a10)) rfl rfl (Light.quiet (opAssign rfl rfl)) ?_
        refine ASL.done ?_
        refine AWP.ret ?_
        refine QBlock.ret ?_
        refine QThen.rt ?_
        refine QThen.rt ?_
        refine QBlock.ret ?_
        refine QThen.rt ?_
        obtain rfl := (hx3 _ (someE hF).symm)
        have hF := hR6
        have hF := sumR hF
        obtain rfl := someE hF
        exact QRet.sole (v := (.int .i64 a10)) ⟨rfl, trivial⟩ rfl
      · skip
        refine AWP.skip ?_
        refine QBlock.nrm ?_
        refine QThen.nrm ?_
        refine AWP.lastR rfl ?_
        refine ASL.q (v := (.int .i64 (W (x8_l0 + 1)))) rfl rfl (Light.quiet (opInt rfl rfl rfl rfl)) ?_
        refine ASL.q (v := (.int .i64 (W (x8_l0 + 1)))) rfl rfl (Light.quiet (opMove rfl rfl)) ?_
        refine ASL.done ?_
        refine QThen.nrm ?_
        exact ⟨(W (x8_l0 + 1)), (), (someE hF).symm, ⟨rfl, rfl, rfl, rfl, trivial⟩, (hS.pick [] rfl rfl)⟩
    · skip
      refine AWP.exit ?_
      refine QThen.ext ?_
      refine QThen.ext ?_
      refine QBlock.hit ?_
      obtain rfl := (hx3 _ (someE hF).symm)
      have hF := hR6
      have hF := sumL hF
      refine QThen.nrm ?_
      exact ⟨⟨rfl, trivial⟩, (hS.pick [] rfl rfl), hF⟩

set_option maxRecDepth 10000 in
theorem impl_compareGEdges_ok {p0 : TGEdge} {p1 : TGEdge} {r : Int} (hF : impl_compareGEdges p0 p1 = some r) : PC Try.prog 111 [(TGEdge.av p0), (TGEdge.av p1)] fun v => v = (.int .i64 r) := by
  refine PC.enter Try.func111 rfl Try.ntmps111 (by simp) ?_
  have hS := Sep.void; unfold impl_compareGEdges at hF
  refine AWP.seqR rfl ?_
  refine ASL.q (v := (.rptr [(.int .i64 p0.from_), (.int .i64 p0.letter), (.int .i64 p0.to_), (.int .i64 p0.marks)])) rfl rfl ((qBoxI (v := (TGEdge.av p0)) rfl rfl rfl rfl)) ?_
  refine ASL.q (v := (.rptr [(.int .i64 p1.from_), (.int .i64 p1.letter), (.int .i64 p1.to_), (.int .i64 p1.marks)])) rfl rfl ((qBoxI (v := (TGEdge.av p1)) rfl rfl rfl rfl)) ?_
  refine ASL.q (v := (.int .i64 0)) rfl rfl (Light.quiet (opAssign rfl rfl)) ?_
  refine ASL.done ?_
  refine AWP.seqD [(0, false), (1, false), (2, false), (3, false), (4, false), (5, false), (6, false), (7, false), (8, false), (9, false), (10, false), (11, false), (12, false), (13, false), (14, false), (15, false), (16, false), (17, false)] mixed (by kernel_rfl) rfl ?_
  refine ARL.q0 (v := (.rptr [(.int .i64 p0.from_), (.int .i64 p0.letter), (.int .i64 p0.to_), (.int .i64 p0.marks)])) rfl rfl (Light.quiet (opFieldAddrR rfl fieldA_99_0 rfl rfl)) ?_
  refine ARL.q0 (v := (.int .i64 p0.from_)) rfl rfl (Light.quiet (opLoadR rfl aggA_3 rfl rfl)) ?_
  refine ARL.q0 (v := (.rptr [(.int .i64 p1.from_), (.int .i64 p1.letter), (.int .i64 p1.to_), (.int .i64 p1.marks)])) rfl rfl (Light.quiet (opFieldAddrR rfl fieldA_99_0 rfl rfl)) ?_
  refine ARL.q0 (v := (.int .i64 p1.from_)) rfl rfl (Light.quiet (opLoadR rfl aggA_3 rfl rfl)) ?_
  refine ARL.q0 (v := (.int .i64 (cmp_Compare_int p0.from_ p1.from_))) rfl rfl ((qCall rfl rfl call_120 (cmp_Compare_int_ok p0.from_ p1.from_) rfl)) ?_
  refine ARL.q0 (v := (.rptr [(.int .i64 p0.letter), (.int .i64 p0.to_), (.int .i64 p0.marks)])) rfl rfl (Light.quiet (opFieldAddrR rfl fieldA_99_1 rfl rfl)) ?_
  refine ARL.q0 (v := (.int .i64 p0.letter)) rfl rfl (Light.quiet (opLoadR rfl aggA_3 rfl rfl)) ?_
  refine ARL.q0 (v := (.rptr [(.int .i64 p1.letter), (.int .i64 p1.to_), (.int .i64 p1.marks)])) rfl rfl (Light.quiet (opFieldAddrR rfl fieldA_99_1 rfl rfl)) ?_
  refine ARL.q0 (v := (.int .i64 p1.letter)) rfl rfl (Light.quiet (opLoadR rfl aggA_3 rfl rfl)) ?_
  refine ARL.q0 (v := (.int .i64 (cmp_Compare_int p0.letter p1.letter))) rfl rfl ((qCall rfl rfl call_120 (cmp_Compare_int_ok p0.letter p1.letter) rfl)) ?_
  refine ARL.q0 (v := (.rptr [(.int .i64 p0.to_), (.int .i64 p0.marks)])) rfl rfl (Light.quiet (opFieldAddrR rfl fieldA_99_2 rfl rfl)) ?_
  refine ARL.q0 (v := (.int .i64 p0.to_)) rfl rfl (Light.quiet (opLoadR rfl aggA_3 rfl rfl)) ?_
  refine ARL.q0 (v := (.rptr [(.int .i64 p1.to_), (.int .i64 p1.marks)])) rfl rfl (Light.quiet (opFieldAddrR rfl fieldA_99_2 rfl rfl)) ?_
  refine ARL.q0 (v := (.int .i64 p1.to_)) rfl rfl (Light.quiet (opLoadR rfl aggA_3 rfl rfl)) ?_
  refine ARL.q0 (v := (.int .i64 (cmp_Compare_int p0.to_ p1.to_))) rfl rfl ((qCall rfl rfl call_120 (cmp_Compare_int_ok p0.to_ p1.to_) rfl)) ?_
  refine ARL.q0 (v := (.list 1 (List.map (AV.int .i64) [(cmp_Compare_int p0.from_ p1.from_), (cmp_Compare_int p0.letter p1.letter), (cmp_Compare_int p0.to_ p1.to_)]))) rfl rfl ((qLit (xs := [(.int .i64 (cmp_Compare_int p0.from_ p1.from_)), (.int .i64 (cmp_Compare_int p0.letter p1.letter)), (.int .i64 (cmp_Compare_int p0.to_ p1.to_))]) rfl elemA_34 sizeA_3 zeroA_3 rfl rfl rfl rfl (by simp [cells]) (nlt rfl))) ?_
  obtain ⟨a21, ha21, hF⟩ := bindE hF
  refine ARL.q0 (v := (.int .i64 a21)) rfl rfl ((qCall rfl rfl call_119 (cmp_Or_int_ok ha21) rfl)) ?_
  refine ARL.q0 (v := (.int .i64 a21)) rfl rfl (Light.quiet (opAssign rfl rfl)) ?_
  refine ARL.done ?_
  refine AWP.ret ?_
  obtain rfl := someE hF
  exact QRet.sole (v := (.int .i64 a21)) ⟨rfl, trivial⟩ rfl

end Go.Proofs.Ythdclobnmicdaaa
