/- Each of these functions of the program comes to just what its plain function says: FnExactRankNext. -/
import Derived.Test.YtllpbgcajgbfbaaDRankNext
import Derived.Test.YtllpbgcajgbfbaaFa
namespace Go.Proofs.Ytllpbgcajgbfbaa
open Go Go.RowKit E
set_option linter.unusedVariables false
set_option maxRecDepth 10000 in
theorem laws_szEdgeS_ok (p0 : (List TEdge)) (p1 : Int) : PC Try.prog 28 [(.list 4 (List.map TEdge.av p0)), (.int .i64 p1)] fun v => v = (.int .i64 (laws_szEdgeS p0 p1)) := by
  generalize hF : laws_szEdgeS p0 p1 = r
  refine PC.enter Try.func28 rfl Try.ntmps28 (by simp) ?_
  have hS := Sep.void; unfold laws_szEdgeS at hF
  refine AWP.seqR rfl ?_
  refine ASL.q (v := (.int .i64 0)) rfl rfl (Light.quiet (opAssign rfl rfl)) ?_
  refine ASL.done ?_
  refine AWP.seqR rfl ?_
  refine ASL.q (v := (.int .i64 p1)) rfl rfl (Light.quiet (opMove rfl rfl)) ?_
  refine ASL.q (v := (.list 4 (List.map TEdge.av p0))) rfl rfl (Light.quiet (opMove rfl rfl)) ?_
  refine ASL.q (v := (.int .i64 (p0.length : Int))) rfl rfl (Light.quiet (opLenMap (f := TEdge.av) rfl rfl rfl lenT_22 rfl)) ?_
  refine ASL.q (v := (.int .i64 (W (p1 - ((p0.length : Int)))))) rfl rfl (Light.quiet (opInt rfl rfl rfl rfl)) ?_
  refine ASL.q (v := (.int .i64 (W (p1 - ((p0.length : Int)))))) rfl rfl (Light.quiet (opAssign rfl rfl)) ?_
  refine ASL.done ?_
  refine AWP.seq ?_
  refine AWP.seqR rfl ?_
  refine ASL.q (v := (.int .i64 (W (p1 - ((p0.length : Int)))))) rfl rfl (Light.quiet (opMove rfl rfl)) ?_
  refine ASL.q (v := (.bool (decide (((W (p1 - ((p0.length : Int))))) < 0)))) rfl rfl (Light.quiet (opInt rfl rfl rfl rfl)) ?_
  refine ASL.done ?_
  refine AWP.ifP hF rfl (fun hc1 hF => ?_) (fun hc1 hF => ?_)
  · skip
    refine AWP.seqR rfl ?_
    refine ASL.q (v := (.int .i64 (-1))) rfl rfl (Light.quiet (opAssign rfl rfl)) ?_
    refine ASL.done ?_
    refine AWP.ret ?_
    refine QThen.rt ?_
    obtain rfl := hF
    exact QRet.sole (v := (.int .i64 (-1))) ⟨rfl, trivial⟩ rfl
  · skip
    refine AWP.skip ?_
    refine QThen.nrm ?_
    refine AWP.seqR rfl ?_
    refine ASL.q (v := (.int .i64 (W (p1 - ((p0.length : Int)))))) rfl rfl (Light.quiet (opMove rfl rfl)) ?_
    refine ASL.q (v := (.int .i64 (W (p1 - ((p0.length : Int)))))) rfl rfl (Light.quiet (opAssign rfl rfl)) ?_
    refine ASL.done ?_
    refine AWP.ret ?_
    obtain rfl := hF
    exact QRet.sole (v := (.int .i64 (W (p1 - ((p0.length : Int)))))) ⟨rfl, trivial⟩ rfl

set_option maxRecDepth 10000 in
theorem laws_szAuto_ok (p0 : TAuto) (p1 : Int) : PC Try.prog 6 [(TAuto.av p0), (.int .i64 p1)] fun v => v = (.int .i64 (laws_szAuto p0 p1)) := by
  generalize hF : laws_szAuto p0 p1 = r
  refine PC.enter Try.func6 rfl Try.ntmps6 (by simp) ?_
  have hS := Sep.void; unfold laws_szAuto at hF
  refine AWP.seqR rfl ?_
  refine ASL.q (v := (.rptr [(.int .i64 p0.letters), (.int .i64 p0.states), (.int .i64 p0.start), (.list 4 (List.map TEdge.av p0.edges))])) rfl rfl ((qBoxI (v := (TAuto.av p0)) rfl rfl rfl rfl)) ?_
  refine ASL.q (v := (.int .i64 0)) rfl rfl (Light.quiet (opAssign rfl rfl)) ?_
  refine ASL.done ?_
  refine AWP.seqR rfl ?_
  refine ASL.q (v := (.rptr [(.list 4 (List.map TEdge.av p0.edges))])) rfl rfl (Light.quiet (opFieldAddrR rfl fieldA_24_3 rfl rfl)) ?_
  refine ASL.q (v := (.list 4 (List.map TEdge.av p0.edges))) rfl rfl (Light.quiet (opLoadR rfl aggA_22 rfl rfl)) ?_
  refine ASL.q (v := (.int .i64 p1)) rfl rfl (Light.quiet (opMove rfl rfl)) ?_
  refine ASL.q (v := (.int .i64 (laws_szEdgeS p0.edges p1))) rfl rfl ((qCall rfl rfl call_28 (laws_szEdgeS_ok p0.edges p1) rfl)) ?_
  refine ASL.q (v := (.int .i64 (laws_szEdgeS p0.edges p1))) rfl rfl (Light.quiet (opAssign rfl rfl)) ?_
  refine ASL.done ?_
  refine AWP.seq ?_
  refine AWP.seqR rfl ?_
  refine ASL.q (v := (.int .i64 (laws_szEdgeS p0.edges p1))) rfl rfl (Light.quiet (opMove rfl rfl)) ?_
  refine ASL.q (v := (.bool (decide (((laws_szEdgeS p0.edges p1)) < 0)))) rfl rfl (Light.quiet (opInt rfl rfl rfl rfl)) ?_
  refine ASL.done ?_
  refine AWP.ifP hF rfl (fun hc1 hF => ?_) (fun hc1 hF => ?_)
  · skip
    refine AWP.seqR rfl ?_
    refine ASL.q (v := (.int .i64 (-1))) rfl rfl (Light.quiet (opAssign rfl rfl)) ?_
    refine ASL.done ?_
    refine AWP.ret ?_
    refine QThen.rt ?_
    obtain rfl := hF
    exact QRet.sole (v := (.int .i64 (-1))) ⟨rfl, trivial⟩ rfl
  · skip
    refine AWP.skip ?_
    refine QThen.nrm ?_
    refine AWP.seqR rfl ?_
    refine ASL.q (v := (.int .i64 (laws_szEdgeS p0.edges p1))) rfl rfl (Light.quiet (opMove rfl rfl)) ?_
    refine ASL.q (v := (.int .i64 (laws_szEdgeS p0.edges p1))) rfl rfl (Light.quiet (opAssign rfl rfl)) ?_
    refine ASL.done ?_
    refine AWP.ret ?_
    obtain rfl := hF
    exact QRet.sole (v := (.int .i64 (laws_szEdgeS p0.edges p1))) ⟨rfl, trivial⟩ rfl

set_option maxRecDepth 10000 in
theorem laws_szIntS_ok (p0 : (List Int)) (p1 : Int) : PC Try.prog 52 [(.list 1 (List.map (AV.int .i64) p0)), (.int .i64 p1)] fun v => v = (.int .i64 (laws_szIntS p0 p1)) := by
  generalize hF : laws_szIntS p0 p1 = r
  refine PC.enter Try.func52 rfl Try.ntmps52 (by simp) ?_
  have hS := Sep.void; unfold laws_szIntS at hF
  refine AWP.seqR rfl ?_
  refine ASL.q (v := (.int .i64 0)) rfl rfl (Light.quiet (opAssign rfl rfl)) ?_
  refine ASL.done ?_
  refine AWP.seqR rfl ?_
  refine ASL.q (v := (.int .i64 p1)) rfl rfl (Light.quiet (opMove rfl rfl)) ?_
  refine ASL.q (v := (.list 1 (List.map (AV.int .i64) p0))) rfl rfl (Light.quiet (opMove rfl rfl)) ?_
  refine ASL.q (v := (.int .i64 (p0.length : Int))) rfl rfl (Light.quiet (opLenMap (f := (AV.int .i64)) rfl rfl rfl lenT_26 rfl)) ?_
  refine ASL.q (v := (.int .i64 (W (p1 - ((p0.length : Int)))))) rfl rfl (Light.quiet (opInt rfl rfl rfl rfl)) ?_
  refine ASL.q (v := (.int .i64 (W (p1 - ((p0.length : Int)))))) rfl rfl (Light.quiet (opAssign rfl rfl)) ?_
  refine ASL.done ?_
  refine AWP.seq ?_
  refine AWP.seqR rfl ?_
  refine ASL.q (v := (.int .i64 (W (p1 - ((p0.length : Int)))))) rfl rfl (Light.quiet (opMove rfl rfl)) ?_
  refine ASL.q (v := (.bool (decide (((W (p1 - ((p0.length : Int))))) < 0)))) rfl rfl (Light.quiet (opInt rfl rfl rfl rfl)) ?_
  refine ASL.done ?_
  refine AWP.ifP hF rfl (fun hc1 hF => ?_) (fun hc1 hF => ?_)
  · skip
    refine AWP.seqR rfl ?_
    refine ASL.q (v := (.int .i64 (-1))) rfl rfl (Light.quiet (opAssign rfl rfl)) ?_
    refine ASL.done ?_
    refine AWP.ret ?_
    refine QThen.rt ?_
    obtain rfl := hF
    exact QRet.sole (v := (.int .i64 (-1))) ⟨rfl, trivial⟩ rfl
  · skip
    refine AWP.skip ?_
    refine QThen.nrm ?_
    refine AWP.seqR rfl ?_
    refine ASL.q (v := (.int .i64 (W (p1 - ((p0.length : Int)))))) rfl rfl (Light.quiet (opMove rfl rfl)) ?_
    refine ASL.q (v := (.int .i64 (W (p1 - ((p0.length : Int)))))) rfl rfl (Light.quiet (opAssign rfl rfl)) ?_
    refine ASL.done ?_
    refine AWP.ret ?_
    obtain rfl := hF
    exact QRet.sole (v := (.int .i64 (W (p1 - ((p0.length : Int)))))) ⟨rfl, trivial⟩ rfl

set_option maxRecDepth 10000 in
theorem laws_szRankState_ok (p0 : TRankState) (p1 : Int) : PC Try.prog 23 [(TRankState.av p0), (.int .i64 p1)] fun v => v = (.int .i64 (laws_szRankState p0 p1)) := by
  generalize hF : laws_szRankState p0 p1 = r
  refine PC.enter Try.func23 rfl Try.ntmps23 (by simp) ?_
  have hS := Sep.void; unfold laws_szRankState at hF
  refine AWP.seqR rfl ?_
  refine ASL.q (v := (.rptr [(.list 1 (List.map (AV.int .i64) p0.ranks)), (.int .i64 p0.owing)])) rfl rfl ((qBoxI (v := (TRankState.av p0)) rfl rfl rfl rfl)) ?_
  refine ASL.q (v := (.int .i64 0)) rfl rfl (Light.quiet (opAssign rfl rfl)) ?_
  refine ASL.done ?_
  refine AWP.seqR rfl ?_
  refine ASL.q (v := (.rptr [(.list 1 (List.map (AV.int .i64) p0.ranks)), (.int .i64 p0.owing)])) rfl rfl (Light.quiet (opFieldAddrR rfl fieldA_50_0 rfl rfl)) ?_
  refine ASL.q (v := (.list 1 (List.map (AV.int .i64) p0.ranks))) rfl rfl (Light.quiet (opLoadR rfl aggA_26 rfl rfl)) ?_
  refine ASL.q (v := (.int .i64 p1)) rfl rfl (Light.quiet (opMove rfl rfl)) ?_
  refine ASL.q (v := (.int .i64 (laws_szIntS p0.ranks p1))) rfl rfl ((qCall rfl rfl call_52 (laws_szIntS_ok p0.ranks p1) rfl)) ?_
  refine ASL.q (v := (.int .i64 (laws_szIntS p0.ranks p1))) rfl rfl (Light.quiet (opAssign rfl rfl)) ?_
  refine ASL.done ?_
  refine AWP.seq ?_
  refine AWP.seqR rfl ?_
  refine ASL.q (v := (.int .i64 (laws_szIntS p0.ranks p1))) rfl rfl (Light.quiet (opMove rfl rfl)) ?_
  refine ASL.q (v := (.bool (decide (((laws_szIntS p0.ranks p1)) < 0)))) rfl rfl (Light.quiet (opInt rfl rfl rfl rfl)) ?_
  refine ASL.done ?_
  refine AWP.ifP hF rfl (fun hc1 hF => ?_) (fun hc1 hF => ?_)
  · skip
    refine AWP.seqR rfl ?_
    refine ASL.q (v := (.int .i64 (-1))) rfl rfl (Light.quiet (opAssign rfl rfl)) ?_
    refine ASL.done ?_
    refine AWP.ret ?_
    refine QThen.rt ?_
    obtain rfl := hF
    exact QRet.sole (v := (.int .i64 (-1))) ⟨rfl, trivial⟩ rfl
  · skip
    refine AWP.skip ?_
    refine QThen.nrm ?_
    refine AWP.seqR rfl ?_
    refine ASL.q (v := (.int .i64 (laws_szIntS p0.ranks p1))) rfl rfl (Light.quiet (opMove rfl rfl)) ?_
    refine ASL.q (v := (.int .i64 (laws_szIntS p0.ranks p1))) rfl rfl (Light.quiet (opAssign rfl rfl)) ?_
    refine ASL.done ?_
    refine AWP.ret ?_
    obtain rfl := hF
    exact QRet.sole (v := (.int .i64 (laws_szIntS p0.ranks p1))) ⟨rfl, trivial⟩ rfl

set_option maxRecDepth 10000 in
theorem laws_toEdge_ok (p0 : TEdge) : PC Try.prog 55 [(TEdge.av p0)] fun v => v = (TEdge.av (laws_toEdge p0)) := by
  generalize hF : laws_toEdge p0 = r
  refine PC.enter Try.func55 rfl Try.ntmps55 (by simp) ?_
  have hS := Sep.void; unfold laws_toEdge at hF
  refine AWP.seqR rfl ?_
  refine ASL.q (v := (.rptr [(.int .i64 p0.from_), (.int .i64 p0.letter), (.int .i64 p0.to_), (.bool p0.good)])) rfl rfl ((qBoxI (v := (TEdge.av p0)) rfl rfl rfl rfl)) ?_
  refine ASL.x rfl rfl (hNewZ hS [(.int .i64 0), (.int .i64 0), (.int .i64 0), (.bool false)] rfl zeroA_73 ⟨.inl rfl, .inl rfl, .inl rfl, .inl rfl, trivial⟩ ?_); rintro b2 G1 hK hS
  refine ASL.done ?_
  refine AWP.seqR rfl ?_
  refine ASL.x rfl rfl (hNewZ hS [(.int .i64 0), (.int .i64 0), (.int .i64 0), (.bool false)] rfl zeroA_73 ⟨.inl rfl, .inl rfl, .inl rfl, .inl rfl, trivial⟩ ?_); rintro b3 G3 hK hS
  refine ASL.done ?_
  refine AWP.seqR rfl ?_
  refine ASL.q (v := (.rptr [(.int .i64 p0.from_), (.int .i64 p0.letter), (.int .i64 p0.to_), (.bool p0.good)])) rfl rfl (Light.quiet (opFieldAddrR rfl fieldA_76_0 rfl rfl)) ?_
  refine ASL.q (v := (.int .i64 p0.from_)) rfl rfl (Light.quiet (opLoadR rfl aggA_3 rfl rfl)) ?_
  refine ASL.q (v := (.ptr b3 0)) rfl rfl (Light.quiet (opFieldAddr rfl fieldA_73_0 rfl rfl)) ?_
  refine ASL.n rfl rfl (hPut hS (j := 0) rfl rfl sizeA_3 rfl rfl rfl (nlt rfl) ?_); rintro G5 hS
  refine ASL.done ?_
  refine AWP.seqR rfl ?_
  refine ASL.q (v := (.rptr [(.int .i64 p0.letter), (.int .i64 p0.to_), (.bool p0.good)])) rfl rfl (Light.quiet (opFieldAddrR rfl fieldA_76_1 rfl rfl)) ?_
  refine ASL.q (v := (.int .i64 p0.letter)) rfl rfl (Light.quiet (opLoadR rfl aggA_3 rfl rfl)) ?_
  refine ASL.q (v := (.ptr b3 1)) rfl rfl (Light.quiet (opFieldAddr rfl fieldA_73_1 rfl rfl)) ?_
  refine ASL.n rfl rfl (hPut hS (j := 0) rfl rfl sizeA_3 rfl rfl rfl (nlt rfl) ?_); rintro G6 hS
  refine ASL.done ?_
  refine AWP.seqR rfl ?_
  refine ASL.q (v := (.rptr [(.int .i64 p0.to_), (.bool p0.good)])) rfl rfl (Light.quiet (opFieldAddrR rfl fieldA_76_2 rfl rfl)) ?_
  refine ASL.q (v := (.int .i64 p0.to_)) rfl rfl (Light.quiet (opLoadR rfl aggA_3 rfl rfl)) ?_
  refine ASL.q (v := (.ptr b3 2)) rfl rfl (Light.quiet (opFieldAddr rfl fieldA_73_2 rfl rfl)) ?_
  refine ASL.n rfl rfl (hPut hS (j := 0) rfl rfl sizeA_3 rfl rfl rfl (nlt rfl) ?_); rintro G7 hS
  refine ASL.done ?_
  refine AWP.seqR rfl ?_
  refine ASL.q (v := (.rptr [(.bool p0.good)])) rfl rfl (Light.quiet (opFieldAddrR rfl fieldA_76_3 rfl rfl)) ?_
  refine ASL.q (v := (.bool p0.good)) rfl rfl (Light.quiet (opLoadR rfl aggA_4 rfl rfl)) ?_
  refine ASL.q (v := (.ptr b3 3)) rfl rfl (Light.quiet (opFieldAddr rfl fieldA_73_3 rfl rfl)) ?_
  refine ASL.n rfl rfl (hPut hS (j := 0) rfl rfl sizeA_4 rfl rfl rfl (nlt rfl) ?_); rintro G8 hS
  refine ASL.done ?_
  refine AWP.seqR rfl ?_
  refine ASL.q (v := (TEdge.av p0)) rfl rfl (Light.quiet (kAtA hS (j := 0) rfl rfl aggA_73 sizeA_73 rfl (nlt rfl) rfl)) ?_
  refine ASL.n rfl rfl (hPutA hS (j := 1) rfl rfl sizeA_73 rfl rfl rfl rfl rfl (nlt rfl) ?_); rintro G9 hS
  refine ASL.done ?_
  refine AWP.ret ?_
  obtain rfl := hF
  exact QRet.sole (v := (TEdge.av p0)) ⟨resOne.at hS (k := 1) rfl rfl aggA_73 sizeA_73, trivial⟩ rfl

set_option maxRecDepth 10000 in
theorem laws_toEdgeS_ok {p0 : (List TEdge)} {r : (List TEdge)} (hF : laws_toEdgeS p0 = some r) : PO Try.prog 31 [(.list 4 (List.map TEdge.av p0))] 4 (List.map TEdge.av r) := by
  refine HC.enter Try.func31 rfl Try.ntmps31 (by simp) ?_
  have hS := Sep.void; unfold laws_toEdgeS at hF
  refine AWP.seqR rfl ?_
  have hS := hNil (s := 4) (f := TEdge.av) hS
  refine ASL.q (v := .nil) rfl rfl (Light.quiet (opAssign rfl rfl)) ?_
  refine ASL.done ?_
  refine AWP.seqR rfl ?_
  refine ASL.q (v := (.list 4 (List.map TEdge.av p0))) rfl rfl (Light.quiet (opMove rfl rfl)) ?_
  refine ASL.q (v := (.int .i64 (p0.length : Int))) rfl rfl (Light.quiet (opLenMap (f := TEdge.av) rfl rfl rfl lenT_22 rfl)) ?_
  obtain ⟨z7, hz7, hF⟩ := bindE hF
  refine ASL.x rfl rfl (hMk (f := TEdge.av) hS hz7 (by decide) rfl elemA_31 sizeA_73 bytesA_73 zeroA_73 rfl rfl (by decide) rfl rfl ?_); rintro v7 G2 hK hS
  refine ASL.q (v := v7) rfl rfl (Light.quiet (opAssign rfl rfl)) ?_
  refine ASL.done ?_
  refine AWP.seqM (fun e H => ∃ y4 : (List TEdge), E.Told e [(3, v7)] ∧ E.Sep H [.row 4 v7 (List.map TEdge.av y4)] ∧ laws_toEdgeS.k0 y4 = some r) ?_ ?_
  · rintro e0 G5 ⟨y4, hT, hS, hF⟩; refine AWP.only _ hT ?_; unfold laws_toEdgeS.k0 at hF
    refine AWP.seqR rfl ?_
    refine ASL.q (v := v7) rfl rfl (Light.quiet (opMove rfl rfl)) ?_
    refine ASL.q (v := v7) rfl rfl (Light.quiet (opAssign rfl rfl)) ?_
    refine ASL.done ?_
    refine AWP.ret ?_
    obtain rfl := someE hF
    exact QRet.sole (v := v7) ⟨rfl, trivial⟩ (hS.get (k := 0) rfl)
  · skip
    refine AWP.seqR rfl ?_
    refine ASL.q (v := (.int .i64 0)) rfl rfl (Light.quiet (opAssign rfl rfl)) ?_
    refine ASL.done ?_
    refine AWP.block ?_
    obtain ⟨o10, hL9, hR11⟩ := bindE hF
    refine AWP.loopF (ω := Unit) hL9 (fun s w => [(0, (.list 4 (List.map TEdge.av p0))), (3, v7), (4, (.int .i64 s.2))]) (fun s w => [.row 4 v7 (List.map TEdge.av s.1)]) () ⟨rfl, rfl, rfl, trivial⟩ (hS.pick [0] rfl rfl) ?_
    rintro ⟨y6, x4_l0⟩ _ G12 hS x7 hF hx8
    try dsimp only at hS ⊢
    have hF : laws_toEdgeS.b0 p0 y6 x4_l0 = some x7 := hF; unfold laws_toEdgeS.b0 at hF
    refine AWP.seq ?_
    refine AWP.seqR rfl ?_
    refine ASL.q (v := (.int .i64 x4_l0)) rfl rfl (Light.quiet (opMove rfl rfl)) ?_
    refine ASL.q (v := (.list 4 (List.map TEdge.av p0))) rfl rfl (Light.quiet (opMove rfl rfl)) ?_
    refine ASL.q (v := (.int .i64 (p0.length : Int))) rfl rfl (Light.quiet (opLenMap (f := TEdge.av) rfl rfl rfl lenT_22 rfl)) ?_
    refine ASL.q (v := (.bool (decide (x4_l0 < ((p0.length : Int)))))) rfl rfl (Light.quiet (opInt rfl rfl rfl rfl)) ?_
    refine ASL.done ?_
    refine AWP.ifP hF rfl (fun hc13 hF => ?_) (fun hc13 hF => ?_)
    · skip
      refine AWP.skip ?_
      refine QThen.nrm ?_
      refine AWP.seq ?_
      refine AWP.block ?_
      refine AWP.lastR rfl ?_
      refine ASL.q (v := v7) rfl rfl (Light.quiet (opMove rfl rfl)) ?_
      refine ASL.q (v := (.int .i64 x4_l0)) rfl rfl (Light.quiet (opMove rfl rfl)) ?_
      refine ASL.q (v := (.list 4 (List.map TEdge.av p0))) rfl rfl (Light.quiet (opMove rfl rfl)) ?_
      refine ASL.q (v := (.int .i64 x4_l0)) rfl rfl (Light.quiet (opMove rfl rfl)) ?_
      obtain ⟨a18, ha18, hF⟩ := bindE hF
      refine ASL.q (v := (.rptr [(.int .i64 a18.from_), (.int .i64 a18.letter), (.int .i64 a18.to_), (.bool a18.good)])) rfl rfl (Light.quiet (kIx (f := TEdge.av) ha18 rfl rfl rfl elemA_22 sizeA_76 rfl)) ?_
      refine ASL.q (v := (TEdge.av a18)) rfl rfl (Light.quiet (opLoadRA rfl aggA_76 sizeA_76 rfl (nlt rfl) rfl)) ?_
      refine ASL.q (v := (TEdge.av (laws_toEdge a18))) rfl rfl ((qCall rfl rfl call_55 (laws_toEdge_ok a18) rfl)) ?_
      obtain ⟨m21, hm21, hF⟩ := bindE hF
      refine ASL.q (v := (ptrTo v7 m21 4)) rfl rfl (Light.quiet (kIxO hS (j := 0) rfl hm21 rfl rfl rfl elemA_31 sizeA_73)) ?_
      refine ASL.n rfl rfl (hSt (f := TEdge.av) (a := (laws_toEdge a18)) hS (j := 0) rfl hm21 rfl sizeA_73 rfl rfl ⟨rfl, rfl, rfl⟩ ?_); rintro G14 hS
      refine ASL.done ?_
      refine QBlock.nrm ?_
      refine QThen.nrm ?_
      refine AWP.lastR rfl ?_
      refine ASL.q (v := (.int .i64 x4_l0)) rfl rfl (Light.quiet (opMove rfl rfl)) ?_
      refine ASL.q (v := (.int .i64 (W (x4_l0 + 1)))) rfl rfl (Light.quiet (opInt rfl rfl rfl rfl)) ?_
      refine ASL.q (v := (.int .i64 (W (x4_l0 + 1)))) rfl rfl (Light.quiet (opAssign rfl rfl)) ?_
      refine ASL.done ?_
      refine QThen.nrm ?_
      exact ⟨((y6.set m21 ((laws_toEdge a18))), (W (x4_l0 + 1))), (), (someE hF).symm, ⟨rfl, rfl, rfl, trivial⟩, (hS.pick [0] rfl rfl)⟩
    · skip
      refine AWP.exit ?_
      refine QThen.ext ?_
      refine QThen.ext ?_
      refine QBlock.hit ?_
      obtain rfl := (hx8 _ (someE hF).symm)
      have hF := hR11
      refine QThen.nrm ?_
      exact ⟨y6, ⟨rfl, trivial⟩, (hS.pick [0] rfl rfl), hF⟩

set_option maxRecDepth 10000 in
theorem laws_toAuto_ok {p0 : TAuto} {r : TAuto} (hF : laws_toAuto p0 = some r) : HS Try.prog 8 [(TAuto.av p0)] [] fun v L' => ∃ o0_Edges : AV, v = (.agg [(.int .i64 r.letters), (.int .i64 r.states), (.int .i64 r.start), o0_Edges]) ∧ L' = [.row 4 o0_Edges (List.map TEdge.av r.edges)] := by
  intro H S hS
  refine HC.enter Try.func8 rfl Try.ntmps8 (by simp) ?_
  simp only [List.cons_append, List.nil_append] at hS
  unfold laws_toAuto at hF
  refine AWP.seqR rfl ?_
  refine ASL.q (v := (.rptr [(.int .i64 p0.letters), (.int .i64 p0.states), (.int .i64 p0.start), (.list 4 (List.map TEdge.av p0.edges))])) rfl rfl ((qBoxI (v := (TAuto.av p0)) rfl rfl rfl rfl)) ?_
  have hS := hNil (s := 4) (f := TEdge.av) hS
  refine ASL.x rfl rfl (hNewZ hS [(.int .i64 0), (.int .i64 0), (.int .i64 0), .nil] rfl zeroA_33 ⟨.inl rfl, .inl rfl, .inl rfl, .inl rfl, trivial⟩ ?_); rintro b2 G1 hK hS
  refine ASL.done ?_
  refine AWP.seqR rfl ?_
  have hS := hNil (s := 4) (f := TEdge.av) hS
  refine ASL.x rfl rfl (hNewZ hS [(.int .i64 0), (.int .i64 0), (.int .i64 0), .nil] rfl zeroA_33 ⟨.inl rfl, .inl rfl, .inl rfl, .inl rfl, trivial⟩ ?_); rintro b3 G4 hK hS
  refine ASL.done ?_
  refine AWP.seqR rfl ?_
  refine ASL.q (v := (.rptr [(.int .i64 p0.letters), (.int .i64 p0.states), (.int .i64 p0.start), (.list 4 (List.map TEdge.av p0.edges))])) rfl rfl (Light.quiet (opFieldAddrR rfl fieldA_24_0 rfl rfl)) ?_
  refine ASL.q (v := (.int .i64 p0.letters)) rfl rfl (Light.quiet (opLoadR rfl aggA_3 rfl rfl)) ?_
  refine ASL.q (v := (.ptr b3 0)) rfl rfl (Light.quiet (opFieldAddr rfl fieldA_33_0 rfl rfl)) ?_
  refine ASL.n rfl rfl (hPut hS (j := 0) rfl rfl sizeA_3 rfl rfl rfl (nlt rfl) ?_); rintro G7 hS
  refine ASL.done ?_
  refine AWP.seqR rfl ?_
  refine ASL.q (v := (.rptr [(.int .i64 p0.states), (.int .i64 p0.start), (.list 4 (List.map TEdge.av p0.edges))])) rfl rfl (Light.quiet (opFieldAddrR rfl fieldA_24_1 rfl rfl)) ?_
  refine ASL.q (v := (.int .i64 p0.states)) rfl rfl (Light.quiet (opLoadR rfl aggA_3 rfl rfl)) ?_
  refine ASL.q (v := (.ptr b3 1)) rfl rfl (Light.quiet (opFieldAddr rfl fieldA_33_1 rfl rfl)) ?_
  refine ASL.n rfl rfl (hPut hS (j := 0) rfl rfl sizeA_3 rfl rfl rfl (nlt rfl) ?_); rintro G8 hS
  refine ASL.done ?_
  refine AWP.seqR rfl ?_
  refine ASL.q (v := (.rptr [(.int .i64 p0.start), (.list 4 (List.map TEdge.av p0.edges))])) rfl rfl (Light.quiet (opFieldAddrR rfl fieldA_24_2 rfl rfl)) ?_
  refine ASL.q (v := (.int .i64 p0.start)) rfl rfl (Light.quiet (opLoadR rfl aggA_3 rfl rfl)) ?_
  refine ASL.q (v := (.ptr b3 2)) rfl rfl (Light.quiet (opFieldAddr rfl fieldA_33_2 rfl rfl)) ?_
  refine ASL.n rfl rfl (hPut hS (j := 0) rfl rfl sizeA_3 rfl rfl rfl (nlt rfl) ?_); rintro G9 hS
  refine ASL.done ?_
  refine AWP.seqR rfl ?_
  refine ASL.q (v := (.rptr [(.list 4 (List.map TEdge.av p0.edges))])) rfl rfl (Light.quiet (opFieldAddrR rfl fieldA_24_3 rfl rfl)) ?_
  refine ASL.q (v := (.list 4 (List.map TEdge.av p0.edges))) rfl rfl (Light.quiet (opLoadR rfl aggA_22 rfl rfl)) ?_
  obtain ⟨a15, ha15, hF⟩ := bindE hF
  refine ASL.x rfl rfl (hCallO hS rfl rfl call_31 (laws_toEdgeS_ok ha15) rfl ?_); rintro v15 G10 hK hS
  refine ASL.q (v := (.ptr b3 3)) rfl rfl (Light.quiet (opFieldAddr rfl fieldA_33_3 rfl rfl)) ?_
  refine ASL.n rfl rfl (hPut hS (j := 1) rfl rfl sizeA_31 rfl rfl (hS.one (k := 0) rfl) (nlt rfl) ?_); rintro G12 hS
  refine ASL.done ?_
  refine AWP.seqR rfl ?_
  refine ASL.q (v := (.agg [(.int .i64 p0.letters), (.int .i64 p0.states), (.int .i64 p0.start), v15])) rfl rfl (Light.quiet (kAtA hS (j := 1) rfl rfl aggA_33 sizeA_33 rfl (nlt rfl) rfl)) ?_
  refine ASL.n rfl rfl (hPutA hS (j := 3) rfl rfl sizeA_33 rfl rfl rfl rfl (allC rfl (allC rfl (allC rfl (allC (hS.one (k := 0) rfl) rfl)))) (nlt rfl) ?_); rintro G13 hS
  refine ASL.done ?_
  refine AWP.ret ?_
  obtain rfl := someE hF
  exact QRet.sole (v := (.agg [(.int .i64 p0.letters), (.int .i64 p0.states), (.int .i64 p0.start), v15])) ⟨resOne.at hS (k := 3) rfl rfl aggA_33 sizeA_33, trivial⟩ ⟨_, ⟨v15, rfl, rfl⟩, hS.pick [0, 5] rfl rfl⟩

set_option maxRecDepth 10000 in
theorem laws_toIntS_ok {p0 : (List Int)} {r : (List Int)} (hF : laws_toIntS p0 = some r) : PO Try.prog 53 [(.list 1 (List.map (AV.int .i64) p0))] 1 (List.map (AV.int .i64) r) := by
  refine HC.enter Try.func53 rfl Try.ntmps53 (by simp) ?_
  have hS := Sep.void; unfold laws_toIntS at hF
  refine AWP.seqR rfl ?_
  have hS := hNil (s := 1) (f := (AV.int .i64)) hS
  refine ASL.q (v := .nil) rfl rfl (Light.quiet (opAssign rfl rfl)) ?_
  refine ASL.done ?_
  refine AWP.seqR rfl ?_
  refine ASL.q (v := (.list 1 (List.map (AV.int .i64) p0))) rfl rfl (Light.quiet (opMove rfl rfl)) ?_
  refine ASL.q (v := (.int .i64 (p0.length : Int))) rfl rfl (Light.quiet (opLenMap (f := (AV.int .i64)) rfl rfl rfl lenT_26 rfl)) ?_
  obtain ⟨z7, hz7, hF⟩ := bindE hF
  refine ASL.x rfl rfl (hMk (f := (AV.int .i64)) hS hz7 (by decide) rfl elemA_26 sizeA_3 bytesA_3 zeroA_3 rfl rfl (by decide) rfl rfl ?_); rintro v7 G2 hK hS
  refine ASL.q (v := v7) rfl rfl (Light.quiet (opAssign rfl rfl)) ?_
  refine ASL.done ?_
  refine AWP.seqM (fun e H => ∃ y4 : (List Int), E.Told e [(3, v7)] ∧ E.Sep H [.row 1 v7 (List.map (AV.int .i64) y4)] ∧ laws_toIntS.k0 y4 = some r) ?_ ?_
  · rintro e0 G5 ⟨y4, hT, hS, hF⟩; refine AWP.only _ hT ?_; unfold laws_toIntS.k0 at hF
    refine AWP.seqR rfl ?_
    refine ASL.q (v := v7) rfl rfl (Light.quiet (opMove rfl rfl)) ?_
    refine ASL.q (v := v7) rfl rfl (Light.quiet (opAssign rfl rfl)) ?_
    refine ASL.done ?_
    refine AWP.ret ?_
    obtain rfl := someE hF
    exact QRet.sole (v := v7) ⟨rfl, trivial⟩ (hS.get (k := 0) rfl)
  · skip
    refine AWP.seqR rfl ?_
    refine ASL.q (v := (.int .i64 0)) rfl rfl (Light.quiet (opAssign rfl rfl)) ?_
    refine ASL.done ?_
    refine AWP.block ?_
    obtain ⟨o10, hL9, hR11⟩ := bindE hF
    refine AWP.loopF (ω := Unit) hL9 (fun s w => [(0, (.list 1 (List.map (AV.int .i64) p0))), (3, v7), (4, (.int .i64 s.2))]) (fun s w => [.row 1 v7 (List.map (AV.int .i64) s.1)]) () ⟨rfl, rfl, rfl, trivial⟩ (hS.pick [0] rfl rfl) ?_
    rintro ⟨y6, x4_l0⟩ _ G12 hS x7 hF hx8
    try dsimp only at hS ⊢
    have hF : laws_toIntS.b0 p0 y6 x4_l0 = some x7 := hF; unfold laws_toIntS.b0 at hF
    refine AWP.seq ?_
    refine AWP.seqR rfl ?_
    refine ASL.q (v := (.int .i64 x4_l0)) rfl rfl (Light.quiet (opMove rfl rfl)) ?_
    refine ASL.q (v := (.list 1 (List.map (AV.int .i64) p0))) rfl rfl (Light.quiet (opMove rfl rfl)) ?_
    refine ASL.q (v := (.int .i64 (p0.length : Int))) rfl rfl (Light.quiet (opLenMap (f := (AV.int .i64)) rfl rfl rfl lenT_26 rfl)) ?_
    refine ASL.q (v := (.bool (decide (x4_l0 < ((p0.length : Int)))))) rfl rfl (Light.quiet (opInt rfl rfl rfl rfl)) ?_
    refine ASL.done ?_
    refine AWP.ifP hF rfl (fun hc13 hF => ?_) (fun hc13 hF => ?_)
    · skip
      refine AWP.skip ?_
      refine QThen.nrm ?_
      refine AWP.seq ?_
      refine AWP.block ?_
      refine AWP.lastR rfl ?_
      refine ASL.q (v := v7) rfl rfl (Light.quiet (opMove rfl rfl)) ?_
      refine ASL.q (v := (.int .i64 x4_l0)) rfl rfl (Light.quiet (opMove rfl rfl)) ?_
      refine ASL.q (v := (.list 1 (List.map (AV.int .i64) p0))) rfl rfl (Light.quiet (opMove rfl rfl)) ?_
      refine ASL.q (v := (.int .i64 x4_l0)) rfl rfl (Light.quiet (opMove rfl rfl)) ?_
      obtain ⟨a18, ha18, hF⟩ := bindE hF
      refine ASL.q (v := (.rptr [(.int .i64 a18)])) rfl rfl (Light.quiet (kIx (f := (AV.int .i64)) ha18 rfl rfl rfl elemA_26 sizeA_3 rfl)) ?_
      refine ASL.q (v := (.int .i64 a18)) rfl rfl (Light.quiet (opLoadR rfl aggA_3 rfl rfl)) ?_
      obtain ⟨m20, hm20, hF⟩ := bindE hF
      refine ASL.q (v := (ptrTo v7 m20 1)) rfl rfl (Light.quiet (kIxO hS (j := 0) rfl hm20 rfl rfl rfl elemA_26 sizeA_3)) ?_
      refine ASL.n rfl rfl (hSt (f := (AV.int .i64)) (a := a18) hS (j := 0) rfl hm20 rfl sizeA_3 rfl rfl ⟨rfl, rfl, rfl⟩ ?_); rintro G14 hS
      refine ASL.done ?_
      refine QBlock.nrm ?_
      refine QThen.nrm ?_
      refine AWP.lastR rfl ?_
      refine ASL.q (v := (.int .i64 x4_l0)) rfl rfl (Light.quiet (opMove rfl rfl)) ?_
      refine ASL.q (v := (.int .i64 (W (x4_l0 + 1)))) rfl rfl (Light.quiet (opInt rfl rfl rfl rfl)) ?_
      refine ASL.q (v := (.int .i64 (W (x4_l0 + 1)))) rfl rfl (Light.quiet (opAssign rfl rfl)) ?_
      refine ASL.done ?_
      refine QThen.nrm ?_
      exact ⟨((y6.set m20 a18), (W (x4_l0 + 1))), (), (someE hF).symm, ⟨rfl, rfl, rfl, trivial⟩, (hS.pick [0] rfl rfl)⟩
    · skip
      refine AWP.exit ?_
      refine QThen.ext ?_
      refine QThen.ext ?_
      refine QBlock.hit ?_
      obtain rfl := (hx8 _ (someE hF).symm)
      have hF := hR11
      refine QThen.nrm ?_
      exact ⟨y6, ⟨rfl, trivial⟩, (hS.pick [0] rfl rfl), hF⟩

set_option maxRecDepth 10000 in
theorem laws_toRankState_ok {p0 : TRankState} {r : TRankState} (hF : laws_toRankState p0 = some r) : HS Try.prog 24 [(TRankState.av p0)] [] fun v L' => ∃ o0_Ranks : AV, v = (.agg [o0_Ranks, (.int .i64 r.owing)]) ∧ L' = [.row 1 o0_Ranks (List.map (AV.int .i64) r.ranks)] := by
  intro H S hS
  refine HC.enter Try.func24 rfl Try.ntmps24 (by simp) ?_
  simp only [List.cons_append, List.nil_append] at hS
  unfold laws_toRankState at hF
  refine AWP.seqR rfl ?_
  refine ASL.q (v := (.rptr [(.list 1 (List.map (AV.int .i64) p0.ranks)), (.int .i64 p0.owing)])) rfl rfl ((qBoxI (v := (TRankState.av p0)) rfl rfl rfl rfl)) ?_
  have hS := hNil (s := 1) (f := (AV.int .i64)) hS
  refine ASL.x rfl rfl (hNewZ hS [.nil, (.int .i64 0)] rfl zeroA_28 ⟨.inl rfl, .inl rfl, trivial⟩ ?_); rintro b2 G1 hK hS
  refine ASL.done ?_
  refine AWP.seqR rfl ?_
  have hS := hNil (s := 1) (f := (AV.int .i64)) hS
  refine ASL.x rfl rfl (hNewZ hS [.nil, (.int .i64 0)] rfl zeroA_28 ⟨.inl rfl, .inl rfl, trivial⟩ ?_); rintro b3 G4 hK hS
  refine ASL.done ?_
  refine AWP.seqR rfl ?_
  refine ASL.q (v := (.rptr [(.list 1 (List.map (AV.int .i64) p0.ranks)), (.int .i64 p0.owing)])) rfl rfl (Light.quiet (opFieldAddrR rfl fieldA_50_0 rfl rfl)) ?_
  refine ASL.q (v := (.list 1 (List.map (AV.int .i64) p0.ranks))) rfl rfl (Light.quiet (opLoadR rfl aggA_26 rfl rfl)) ?_
  obtain ⟨a6, ha6, hF⟩ := bindE hF
  refine ASL.x rfl rfl (hCallO hS rfl rfl call_53 (laws_toIntS_ok ha6) rfl ?_); rintro v6 G7 hK hS
  refine ASL.q (v := (.ptr b3 0)) rfl rfl (Light.quiet (opFieldAddr rfl fieldA_28_0 rfl rfl)) ?_
  refine ASL.n rfl rfl (hPut hS (j := 1) rfl rfl sizeA_26 rfl rfl (hS.one (k := 0) rfl) (nlt rfl) ?_); rintro G9 hS
  refine ASL.done ?_
  refine AWP.seqR rfl ?_
  refine ASL.q (v := (.rptr [(.int .i64 p0.owing)])) rfl rfl (Light.quiet (opFieldAddrR rfl fieldA_50_1 rfl rfl)) ?_
  refine ASL.q (v := (.int .i64 p0.owing)) rfl rfl (Light.quiet (opLoadR rfl aggA_3 rfl rfl)) ?_
  refine ASL.q (v := (.ptr b3 1)) rfl rfl (Light.quiet (opFieldAddr rfl fieldA_28_1 rfl rfl)) ?_
  refine ASL.n rfl rfl (hPut hS (j := 1) rfl rfl sizeA_3 rfl rfl rfl (nlt rfl) ?_); rintro G10 hS
  refine ASL.done ?_
  refine AWP.seqR rfl ?_
  refine ASL.q (v := (.agg [v6, (.int .i64 p0.owing)])) rfl rfl (Light.quiet (kAtA hS (j := 1) rfl rfl aggA_28 sizeA_28 rfl (nlt rfl) rfl)) ?_
  refine ASL.n rfl rfl (hPutA hS (j := 3) rfl rfl sizeA_28 rfl rfl rfl rfl (allC (hS.one (k := 0) rfl) (allC rfl rfl)) (nlt rfl) ?_); rintro G11 hS
  refine ASL.done ?_
  refine AWP.ret ?_
  obtain rfl := someE hF
  exact QRet.sole (v := (.agg [v6, (.int .i64 p0.owing)])) ⟨resOne.at hS (k := 3) rfl rfl aggA_28 sizeA_28, trivial⟩ ⟨_, ⟨v6, rfl, rfl⟩, hS.pick [0, 5] rfl rfl⟩

set_option maxRecDepth 10000 in
theorem spec_l1In_ok (p0 : Int) (p1 : Int) (p2 : Int) : PC Try.prog 45 [(.int .i64 p0), (.int .i64 p1), (.int .i64 p2)] fun v => v = (.bool (spec_l1In p0 p1 p2)) := by
  generalize hF : spec_l1In p0 p1 p2 = r
  refine PC.enter Try.func45 rfl Try.ntmps45 (by simp) ?_
  have hS := Sep.void; unfold spec_l1In at hF
  refine AWP.seqR rfl ?_
  refine ASL.q (v := (.bool false)) rfl rfl (Light.quiet (opAssign rfl rfl)) ?_
  refine ASL.done ?_
  refine AWP.seqR rfl ?_
  refine ASL.q (v := (.int .i64 p0)) rfl rfl (Light.quiet (opMove rfl rfl)) ?_
  refine ASL.q (v := (.int .i64 p1)) rfl rfl (Light.quiet (opMove rfl rfl)) ?_
  refine ASL.q (v := (.bool (decide (p0 ≥ p1)))) rfl rfl (Light.quiet (opInt rfl rfl rfl rfl)) ?_
  obtain ⟨c10, hc10, hF⟩ := bndE hF
  refine ASL.q (v := (.bool c10)) rfl rfl ((Quiet.cast (Light.quiet (opMove rfl rfl)) (congrArg AV.bool hc10.symm))) ?_
  refine ASL.g (v := (.int .i64 p0)) (.bool c10) true rfl (wT _) rfl (fun hG => by have q0 := hG; subst q0; exact Light.quiet (opMove rfl rfl)) ?_
  refine ASL.g (v := (.int .i64 p2)) (.bool c10) true rfl (wT _) rfl (fun hG => by have q0 := hG; subst q0; exact Light.quiet (opMove rfl rfl)) ?_
  refine ASL.g (v := (.bool (decide (p0 ≤ p2)))) (.bool c10) true rfl (wT _) rfl (fun hG => by have q0 := hG; subst q0; exact Light.quiet (opInt rfl rfl rfl rfl)) ?_
  refine ASL.q (v := (.bool (c10 && (decide (p0 ≤ p2))))) rfl rfl (Light.quiet (opPick (b := c10) rfl rfl (by cases c10 <;> rfl))) ?_
  refine ASL.q (v := (.bool (c10 && (decide (p0 ≤ p2))))) rfl rfl (Light.quiet (opAssign rfl rfl)) ?_
  refine ASL.done ?_
  refine AWP.ret ?_
  obtain rfl := hF
  exact QRet.sole (v := (.bool (c10 && (decide (p0 ≤ p2))))) ⟨rfl, trivial⟩ rfl

set_option maxRecDepth 10000 in
theorem spec_SetOk_ok (p0 : Int) : PC Try.prog 77 [(.int .i64 p0)] fun v => v = (.bool (spec_SetOk p0)) := by
  generalize hF : spec_SetOk p0 = r
  refine PC.enter Try.func77 rfl Try.ntmps77 (by simp) ?_
  have hS := Sep.void; unfold spec_SetOk at hF
  refine AWP.seqR rfl ?_
  refine ASL.q (v := (.bool false)) rfl rfl (Light.quiet (opAssign rfl rfl)) ?_
  refine ASL.done ?_
  refine AWP.seqR rfl ?_
  refine ASL.q (v := (.int .i64 p0)) rfl rfl (Light.quiet (opMove rfl rfl)) ?_
  refine ASL.q (v := (.bool (spec_l1In p0 0 2147483647))) rfl rfl ((qCall rfl rfl call_45 (spec_l1In_ok p0 0 2147483647) rfl)) ?_
  refine ASL.q (v := (.bool (spec_l1In p0 0 2147483647))) rfl rfl (Light.quiet (opAssign rfl rfl)) ?_
  refine ASL.done ?_
  refine AWP.ret ?_
  obtain rfl := hF
  exact QRet.sole (v := (.bool (spec_l1In p0 0 2147483647))) ⟨rfl, trivial⟩ rfl

set_option maxRecDepth 10000 in
theorem spec_SetIn_ok (p0 : Int) (p1 : Int) : PC Try.prog 69 [(.int .i64 p0), (.int .i64 p1)] fun v => v = (.bool (spec_SetIn p0 p1)) := by
  generalize hF : spec_SetIn p0 p1 = r
  refine PC.enter Try.func69 rfl Try.ntmps69 (by simp) ?_
  have hS := Sep.void; unfold spec_SetIn at hF
  refine AWP.seqR rfl ?_
  refine ASL.q (v := (.bool false)) rfl rfl (Light.quiet (opAssign rfl rfl)) ?_
  refine ASL.done ?_
  refine AWP.seqR rfl ?_
  refine ASL.q (v := (.int .i64 p0)) rfl rfl (Light.quiet (opMove rfl rfl)) ?_
  refine ASL.q (v := (.bool (spec_SetOk p0))) rfl rfl ((qCall rfl rfl call_77 (spec_SetOk_ok p0) rfl)) ?_
  obtain ⟨c7, hc7, hF⟩ := bndE hF
  refine ASL.q (v := (.bool c7)) rfl rfl ((Quiet.cast (Light.quiet (opMove rfl rfl)) (congrArg AV.bool hc7.symm))) ?_
  refine ASL.g (v := (.int .i64 p1)) (.bool c7) true rfl (wT _) rfl (fun hG => by have q0 := hG; subst q0; exact Light.quiet (opMove rfl rfl)) ?_
  refine ASL.g (v := (.bool (spec_SetOk p1))) (.bool c7) true rfl (wT _) rfl (fun hG => by have q0 := hG; subst q0; exact (qCall rfl rfl call_77 (spec_SetOk_ok p1) rfl)) ?_
  refine ASL.q (v := (.bool (c7 && (spec_SetOk p1)))) rfl rfl (Light.quiet (opPick (b := c7) rfl rfl (by cases c7 <;> rfl))) ?_
  obtain ⟨c11, hc11, hF⟩ := bndE hF
  refine ASL.q (v := (.bool c11)) rfl rfl ((Quiet.cast (Light.quiet (opMove rfl rfl)) (congrArg AV.bool hc11.symm))) ?_
  refine ASL.g (v := (.int .i64 p0)) (.bool c11) true rfl (wT _) rfl (fun hG => by have q0 := hG; subst q0; exact Light.quiet (opMove rfl rfl)) ?_
  refine ASL.g (v := (.int .i64 p1)) (.bool c11) true rfl (wT _) rfl (fun hG => by have q0 := hG; subst q0; exact Light.quiet (opMove rfl rfl)) ?_
  refine ASL.g (v := (.int .i64 (bAnd .i64 p0 p1))) (.bool c11) true rfl (wT _) rfl (fun hG => by have q0 := hG; subst q0; exact Light.quiet (opInt rfl rfl rfl rfl)) ?_
  refine ASL.g (v := (.int .i64 p0)) (.bool c11) true rfl (wT _) rfl (fun hG => by have q0 := hG; subst q0; exact Light.quiet (opMove rfl rfl)) ?_
  refine ASL.g (v := (.bool (decide (((bAnd .i64 p0 p1)) = p0)))) (.bool c11) true rfl (wT _) rfl (fun hG => by have q0 := hG; subst q0; exact Light.quiet (opInt rfl rfl rfl rfl)) ?_
  refine ASL.q (v := (.bool (c11 && (decide (((bAnd .i64 p0 p1)) = p0))))) rfl rfl (Light.quiet (opPick (b := c11) rfl rfl (by cases c11 <;> rfl))) ?_
  refine ASL.q (v := (.bool (c11 && (decide (((bAnd .i64 p0 p1)) = p0))))) rfl rfl (Light.quiet (opAssign rfl rfl)) ?_
  refine ASL.done ?_
  refine AWP.ret ?_
  obtain rfl := hF
  exact QRet.sole (v := (.bool (c11 && (decide (((bAnd .i64 p0 p1)) = p0))))) ⟨rfl, trivial⟩ rfl

set_option maxRecDepth 10000 in
theorem spec_l4State_ok (p0 : Int) (p1 : Int) : PC Try.prog 70 [(.int .i64 p0), (.int .i64 p1)] fun v => v = (.bool (spec_l4State p0 p1)) := by
  generalize hF : spec_l4State p0 p1 = r
  refine PC.enter Try.func70 rfl Try.ntmps70 (by simp) ?_
  have hS := Sep.void; unfold spec_l4State at hF
  refine AWP.seqR rfl ?_
  refine ASL.q (v := (.bool false)) rfl rfl (Light.quiet (opAssign rfl rfl)) ?_
  refine ASL.done ?_
  refine AWP.seqR rfl ?_
  refine ASL.q (v := (.int .i64 p0)) rfl rfl (Light.quiet (opMove rfl rfl)) ?_
  refine ASL.q (v := (.int .i64 p1)) rfl rfl (Light.quiet (opMove rfl rfl)) ?_
  refine ASL.q (v := (.int .i64 (W (p1 - 1)))) rfl rfl (Light.quiet (opInt rfl rfl rfl rfl)) ?_
  refine ASL.q (v := (.bool (spec_l1In p0 0 ((W (p1 - 1)))))) rfl rfl ((qCall rfl rfl call_45 (spec_l1In_ok p0 0 ((W (p1 - 1)))) rfl)) ?_
  refine ASL.q (v := (.bool (spec_l1In p0 0 ((W (p1 - 1)))))) rfl rfl (Light.quiet (opAssign rfl rfl)) ?_
  refine ASL.done ?_
  refine AWP.ret ?_
  obtain rfl := hF
  exact QRet.sole (v := (.bool (spec_l1In p0 0 ((W (p1 - 1)))))) ⟨rfl, trivial⟩ rfl

set_option maxRecDepth 10000 in
theorem spec_l4Less_ok (p0 : TEdge) (p1 : TEdge) : PC Try.prog 71 [(TEdge.av p0), (TEdge.av p1)] fun v => v = (.bool (spec_l4Less p0 p1)) := by
  generalize hF : spec_l4Less p0 p1 = r
  refine PC.enter Try.func71 rfl Try.ntmps71 (by simp) ?_
  have hS := Sep.void; unfold spec_l4Less at hF
  refine AWP.seqR rfl ?_
  refine ASL.q (v := (.rptr [(.int .i64 p0.from_), (.int .i64 p0.letter), (.int .i64 p0.to_), (.bool p0.good)])) rfl rfl ((qBoxI (v := (TEdge.av p0)) rfl rfl rfl rfl)) ?_
  refine ASL.q (v := (.rptr [(.int .i64 p1.from_), (.int .i64 p1.letter), (.int .i64 p1.to_), (.bool p1.good)])) rfl rfl ((qBoxI (v := (TEdge.av p1)) rfl rfl rfl rfl)) ?_
  refine ASL.q (v := (.bool false)) rfl rfl (Light.quiet (opAssign rfl rfl)) ?_
  refine ASL.done ?_
  refine AWP.seq ?_
  refine AWP.seqR rfl ?_
  refine ASL.q (v := (.rptr [(.int .i64 p0.from_), (.int .i64 p0.letter), (.int .i64 p0.to_), (.bool p0.good)])) rfl rfl (Light.quiet (opFieldAddrR rfl fieldA_73_0 rfl rfl)) ?_
  refine ASL.q (v := (.int .i64 p0.from_)) rfl rfl (Light.quiet (opLoadR rfl aggA_3 rfl rfl)) ?_
  refine ASL.q (v := (.rptr [(.int .i64 p1.from_), (.int .i64 p1.letter), (.int .i64 p1.to_), (.bool p1.good)])) rfl rfl (Light.quiet (opFieldAddrR rfl fieldA_73_0 rfl rfl)) ?_
  refine ASL.q (v := (.int .i64 p1.from_)) rfl rfl (Light.quiet (opLoadR rfl aggA_3 rfl rfl)) ?_
  refine ASL.q (v := (.bool (decide (p0.from_ ≠ p1.from_)))) rfl rfl (Light.quiet (opInt rfl rfl rfl rfl)) ?_
  refine ASL.done ?_
  refine AWP.ifP hF rfl (fun hc1 hF => ?_) (fun hc1 hF => ?_)
  · skip
    refine AWP.seqR rfl ?_
    refine ASL.q (v := (.rptr [(.int .i64 p0.from_), (.int .i64 p0.letter), (.int .i64 p0.to_), (.bool p0.good)])) rfl rfl (Light.quiet (opFieldAddrR rfl fieldA_73_0 rfl rfl)) ?_
    refine ASL.q (v := (.int .i64 p0.from_)) rfl rfl (Light.quiet (opLoadR rfl aggA_3 rfl rfl)) ?_
    refine ASL.q (v := (.rptr [(.int .i64 p1.from_), (.int .i64 p1.letter), (.int .i64 p1.to_), (.bool p1.good)])) rfl rfl (Light.quiet (opFieldAddrR rfl fieldA_73_0 rfl rfl)) ?_
    refine ASL.q (v := (.int .i64 p1.from_)) rfl rfl (Light.quiet (opLoadR rfl aggA_3 rfl rfl)) ?_
    refine ASL.q (v := (.bool (decide (p0.from_ < p1.from_)))) rfl rfl (Light.quiet (opInt rfl rfl rfl rfl)) ?_
    refine ASL.q (v := (.bool (decide (p0.from_ < p1.from_)))) rfl rfl (Light.quiet (opAssign rfl rfl)) ?_
    refine ASL.done ?_
    refine AWP.ret ?_
    refine QThen.rt ?_
    obtain rfl := hF
    exact QRet.sole (v := (.bool (decide (p0.from_ < p1.from_)))) ⟨rfl, trivial⟩ rfl
  · skip
    refine AWP.skip ?_
    refine QThen.nrm ?_
    refine AWP.seq ?_
    refine AWP.seqR rfl ?_
    refine ASL.q (v := (.rptr [(.int .i64 p0.letter), (.int .i64 p0.to_), (.bool p0.good)])) rfl rfl (Light.quiet (opFieldAddrR rfl fieldA_73_1 rfl rfl)) ?_
    refine ASL.q (v := (.int .i64 p0.letter)) rfl rfl (Light.quiet (opLoadR rfl aggA_3 rfl rfl)) ?_
    refine ASL.q (v := (.rptr [(.int .i64 p1.letter), (.int .i64 p1.to_), (.bool p1.good)])) rfl rfl (Light.quiet (opFieldAddrR rfl fieldA_73_1 rfl rfl)) ?_
    refine ASL.q (v := (.int .i64 p1.letter)) rfl rfl (Light.quiet (opLoadR rfl aggA_3 rfl rfl)) ?_
    refine ASL.q (v := (.bool (decide (p0.letter ≠ p1.letter)))) rfl rfl (Light.quiet (opInt rfl rfl rfl rfl)) ?_
    refine ASL.done ?_
    refine AWP.ifP hF rfl (fun hc2 hF => ?_) (fun hc2 hF => ?_)
    · skip
      refine AWP.seqR rfl ?_
      refine ASL.q (v := (.rptr [(.int .i64 p0.letter), (.int .i64 p0.to_), (.bool p0.good)])) rfl rfl (Light.quiet (opFieldAddrR rfl fieldA_73_1 rfl rfl)) ?_
      refine ASL.q (v := (.int .i64 p0.letter)) rfl rfl (Light.quiet (opLoadR rfl aggA_3 rfl rfl)) ?_
      refine ASL.q (v := (.rptr [(.int .i64 p1.letter), (.int .i64 p1.to_), (.bool p1.good)])) rfl rfl (Light.quiet (opFieldAddrR rfl fieldA_73_1 rfl rfl)) ?_
      refine ASL.q (v := (.int .i64 p1.letter)) rfl rfl (Light.quiet (opLoadR rfl aggA_3 rfl rfl)) ?_
      refine ASL.q (v := (.bool (decide (p0.letter < p1.letter)))) rfl rfl (Light.quiet (opInt rfl rfl rfl rfl)) ?_
      refine ASL.q (v := (.bool (decide (p0.letter < p1.letter)))) rfl rfl (Light.quiet (opAssign rfl rfl)) ?_
      refine ASL.done ?_
      refine AWP.ret ?_
      refine QThen.rt ?_
      obtain rfl := hF
      exact QRet.sole (v := (.bool (decide (p0.letter < p1.letter)))) ⟨rfl, trivial⟩ rfl
    · skip
      refine AWP.skip ?_
      refine QThen.nrm ?_
      refine AWP.seqR rfl ?_
      refine ASL.q (v := (.rptr [(.int .i64 p0.to_), (.bool p0.good)])) rfl rfl (Light.quiet (opFieldAddrR rfl fieldA_73_2 rfl rfl)) ?_
      refine ASL.q (v := (.int .i64 p0.to_)) rfl rfl (Light.quiet (opLoadR rfl aggA_3 rfl rfl)) ?_
      refine ASL.q (v := (.rptr [(.int .i64 p1.to_), (.bool p1.good)])) rfl rfl (Light.quiet (opFieldAddrR rfl fieldA_73_2 rfl rfl)) ?_
      refine ASL.q (v := (.int .i64 p1.to_)) rfl rfl (Light.quiet (opLoadR rfl aggA_3 rfl rfl)) ?_
      refine ASL.q (v := (.bool (decide (p0.to_ < p1.to_)))) rfl rfl (Light.quiet (opInt rfl rfl rfl rfl)) ?_
      refine ASL.q (v := (.bool (decide (p0.to_ < p1.to_)))) rfl rfl (Light.quiet (opAssign rfl rfl)) ?_
      refine ASL.done ?_
      refine AWP.ret ?_
      obtain rfl := hF
      exact QRet.sole (v := (.bool (decide (p0.to_ < p1.to_)))) ⟨rfl, trivial⟩ rfl

set_option maxRecDepth 10000 in
theorem spec_AutoOk_ok {p0 : TAuto} {r : Bool} (hF : spec_AutoOk p0 = some r) : PC Try.prog 51 [(TAuto.av p0)] fun v => v = (.bool r) := by
  refine PC.enter Try.func51 rfl Try.ntmps51 (by simp) ?_
  have hS := Sep.void; unfold spec_AutoOk at hF
  refine AWP.seqR rfl ?_
  refine ASL.q (v := (.rptr [(.int .i64 p0.letters), (.int .i64 p0.states), (.int .i64 p0.start), (.list 4 (List.map TEdge.av p0.edges))])) rfl rfl ((qBoxI (v := (TAuto.av p0)) rfl rfl rfl rfl)) ?_
  refine ASL.q (v := (.bool false)) rfl rfl (Light.quiet (opAssign rfl rfl)) ?_
  refine ASL.done ?_
  refine AWP.seq ?_
  refine AWP.seqD [(0, false), (1, false), (2, false), (3, false), (4, false), (5, false), (6, false), (7, false), (8, false), (9, false), (10, false), (11, false), (12, false), (13, false), (14, false), (15, false), (16, false), (17, false), (18, false), (19, false), (20, false), (21, false), (22, false), (23, false), (24, false), (25, false)] mixed (by kernel_rfl) rfl ?_
  refine ARL.q0 (v := (.rptr [(.int .i64 p0.letters), (.int .i64 p0.states), (.int .i64 p0.start), (.list 4 (List.map TEdge.av p0.edges))])) rfl rfl (Light.quiet (opFieldAddrR rfl fieldA_33_0 rfl rfl)) ?_
  refine ARL.q0 (v := (.int .i64 p0.letters)) rfl rfl (Light.quiet (opLoadR rfl aggA_3 rfl rfl)) ?_
  refine ARL.q0 (v := (.bool (spec_l1In p0.letters 1 8))) rfl rfl ((qCall rfl rfl call_45 (spec_l1In_ok p0.letters 1 8) rfl)) ?_
  refine ARL.q0 (v := (.bool (!(spec_l1In p0.letters 1 8)))) rfl rfl (Light.quiet (opNot rfl rfl)) ?_
  obtain ⟨c9, hc9, hF⟩ := bndE hF
  refine ARL.q0 (v := (.bool c9)) rfl rfl ((Quiet.cast (Light.quiet (opMove rfl rfl)) (congrArg AV.bool hc9.symm))) ?_
  refine ARL.g (v := (.rptr [(.int .i64 p0.states), (.int .i64 p0.start), (.list 4 (List.map TEdge.av p0.edges))])) (.bool c9) false rfl (wF _) rfl noneAlive (fun hG => by have q0 := gN hG; subst q0; exact Light.quiet (opFieldAddrR rfl fieldA_33_1 rfl rfl)) ?_
  refine ARL.g (v := (.int .i64 p0.states)) (.bool c9) false rfl (wF _) rfl noneAlive (fun hG => by have q0 := gN hG; subst q0; exact Light.quiet (opLoadR rfl aggA_3 rfl rfl)) ?_
  refine ARL.g (v := (.bool (spec_l1In p0.states 0 31))) (.bool c9) false rfl (wF _) rfl noneAlive (fun hG => by have q0 := gN hG; subst q0; exact (qCall rfl rfl call_45 (spec_l1In_ok p0.states 0 31) rfl)) ?_
  refine ARL.g (v := (.bool (!(spec_l1In p0.states 0 31)))) (.bool c9) false rfl (wF _) rfl noneAlive (fun hG => by have q0 := gN hG; subst q0; exact Light.quiet (opNot rfl rfl)) ?_
  refine ARL.q0 (v := (.bool (c9 || (!(spec_l1In p0.states 0 31))))) rfl rfl (Light.quiet (opPick (b := c9) rfl rfl (by cases c9 <;> rfl))) ?_
  obtain ⟨c15, hc15, hF⟩ := bndE hF
  refine ARL.q0 (v := (.bool c15)) rfl rfl ((Quiet.cast (Light.quiet (opMove rfl rfl)) (congrArg AV.bool hc15.symm))) ?_
  refine ARL.g (v := (.rptr [(.int .i64 p0.start), (.list 4 (List.map TEdge.av p0.edges))])) (.bool c15) false rfl (wF _) rfl noneAlive (fun hG => by have q0 := gN hG; subst q0; exact Light.quiet (opFieldAddrR rfl fieldA_33_2 rfl rfl)) ?_
  refine ARL.g (v := (.int .i64 p0.start)) (.bool c15) false rfl (wF _) rfl noneAlive (fun hG => by have q0 := gN hG; subst q0; exact Light.quiet (opLoadR rfl aggA_3 rfl rfl)) ?_
  refine ARL.g (v := (.rptr [(.int .i64 p0.states), (.int .i64 p0.start), (.list 4 (List.map TEdge.av p0.edges))])) (.bool c15) false rfl (wF _) rfl noneAlive (fun hG => by have q0 := gN hG; subst q0; exact Light.quiet (opFieldAddrR rfl fieldA_33_1 rfl rfl)) ?_
  refine ARL.g (v := (.int .i64 p0.states)) (.bool c15) false rfl (wF _) rfl noneAlive (fun hG => by have q0 := gN hG; subst q0; exact Light.quiet (opLoadR rfl aggA_3 rfl rfl)) ?_
  obtain ⟨u1, hu1, hF⟩ := bindE hF
  refine ARL.g (v := (.int .i64 (shl .i64 1 p0.states))) (.bool c15) false rfl (wF _) rfl noneAlive (fun hG => by have q0 := gN hG; subst q0; exact Light.quiet (opShl rfl rfl rfl (of_decide_eq_true (chkE (whenE hu1))) rfl)) ?_
  refine ARL.g (v := (.int .i64 (W (((shl .i64 1 p0.states)) - 1)))) (.bool c15) false rfl (wF _) rfl noneAlive (fun hG => by have q0 := gN hG; subst q0; exact Light.quiet (opInt rfl rfl rfl rfl)) ?_
  refine ARL.g (v := (.bool (spec_SetIn p0.start ((W (((shl .i64 1 p0.states)) - 1)))))) (.bool c15) false rfl (wF _) rfl noneAlive (fun hG => by have q0 := gN hG; subst q0; exact (qCall rfl rfl call_69 (spec_SetIn_ok p0.start ((W (((shl .i64 1 p0.states)) - 1)))) rfl)) ?_
  refine ARL.g (v := (.bool (!(spec_SetIn p0.start ((W (((shl .i64 1 p0.states)) - 1))))))) (.bool c15) false rfl (wF _) rfl noneAlive (fun hG => by have q0 := gN hG; subst q0; exact Light.quiet (opNot rfl rfl)) ?_
  refine ARL.q0 (v := (.bool (c15 || (!(spec_SetIn p0.start ((W (((shl .i64 1 p0.states)) - 1)))))))) rfl rfl (Light.quiet (opPick (b := c15) rfl rfl (by cases c15 <;> rfl))) ?_
  obtain ⟨c25, hc25, hF⟩ := bndE hF
  refine ARL.q0 (v := (.bool c25)) rfl rfl ((Quiet.cast (Light.quiet (opMove rfl rfl)) (congrArg AV.bool hc25.symm))) ?_
  refine ARL.g (v := (.rptr [(.list 4 (List.map TEdge.av p0.edges))])) (.bool c25) false rfl (wF _) rfl noneAlive (fun hG => by have q0 := gN hG; subst q0; exact Light.quiet (opFieldAddrR rfl fieldA_33_3 rfl rfl)) ?_
  refine ARL.g (v := (.list 4 (List.map TEdge.av p0.edges))) (.bool c25) false rfl (wF _) rfl noneAlive (fun hG => by have q0 := gN hG; subst q0; exact Light.quiet (opLoadR rfl aggA_31 rfl rfl)) ?_
  refine ARL.g (v := (.int .i64 (p0.edges.length : Int))) (.bool c25) false rfl (wF _) rfl noneAlive (fun hG => by have q0 := gN hG; subst q0; exact Light.quiet (opLenMap (f := TEdge.av) rfl rfl rfl lenT_31 rfl)) ?_
  refine ARL.g (v := (.bool (decide (((p0.edges.length : Int)) > 2000)))) (.bool c25) false rfl (wF _) rfl noneAlive (fun hG => by have q0 := gN hG; subst q0; exact Light.quiet (opInt rfl rfl rfl rfl)) ?_
  refine ARL.q0 (v := (.bool (c25 || (decide (((p0.edges.length : Int)) > 2000))))) rfl rfl (Light.quiet (opPick (b := c25) rfl rfl (by cases c25 <;> rfl))) ?_
  refine ARL.done ?_
  refine AWP.ifB hF rfl (fun hc2 hF => ?_) (fun hc2 hF => ?_)
  · skip
    refine AWP.seqR rfl ?_
    refine ASL.q (v := (.bool false)) rfl rfl (Light.quiet (opAssign rfl rfl)) ?_
    refine ASL.done ?_
    refine AWP.ret ?_
    refine QThen.rt ?_
    obtain rfl := someE hF
    exact QRet.sole (v := (.bool false)) ⟨rfl, trivial⟩ rfl
  · skip
    refine AWP.skip ?_
    refine QThen.nrm ?_
    refine AWP.seqM (fun e H => E.Told e [] ∧ E.Sep H [] ∧ spec_AutoOk.k0 = some r) ?_ ?_
    · rintro e0 G3 ⟨hT, hS, hF⟩; refine AWP.only _ hT ?_; unfold spec_AutoOk.k0 at hF
      refine AWP.seqR rfl ?_
      refine ASL.q (v := (.bool true)) rfl rfl (Light.quiet (opAssign rfl rfl)) ?_
      refine ASL.done ?_
      refine AWP.ret ?_
      obtain rfl := someE hF
      exact QRet.sole (v := (.bool true)) ⟨rfl, trivial⟩ rfl
    · skip
      refine AWP.seqR rfl ?_
      refine ASL.q (v := (.int .i64 0)) rfl rfl (Light.quiet (opAssign rfl rfl)) ?_
      refine ASL.done ?_
      refine AWP.block ?_
      obtain ⟨o7, hL6, hR8⟩ := bindE hF
      refine AWP.loopF (ω := Unit) hL6 (fun s w => [(1, (.rptr [(.int .i64 p0.letters), (.int .i64 p0.states), (.int .i64 p0.start), (.list 4 (List.map TEdge.av p0.edges))])), (3, (.int .i64 s))]) (fun s w => []) () ⟨rfl, rfl, trivial⟩ (hS.pick [] rfl rfl) ?_
      rintro x3_l0 _ G9 hS x4 hF hx5
      try dsimp only at hS ⊢
      have hF : spec_AutoOk.b0 p0 x3_l0 = some x4 := hF; unfold spec_AutoOk.b0 at hF
      refine AWP.seq ?_
      refine AWP.seqR rfl ?_
      refine ASL.q (v := (.int .i64 x3_l0)) rfl rfl (Light.quiet (opMove rfl rfl)) ?_
      refine ASL.q (v := (.rptr [(.list 4 (List.map TEdge.av p0.edges))])) rfl rfl (Light.quiet (opFieldAddrR rfl fieldA_33_3 rfl rfl)) ?_
      refine ASL.q (v := (.list 4 (List.map TEdge.av p0.edges))) rfl rfl (Light.quiet (opLoadR rfl aggA_31 rfl rfl)) ?_
      refine ASL.q (v := (.int .i64 (p0.edges.length : Int))) rfl rfl (Light.quiet (opLenMap (f := TEdge.av) rfl rfl rfl lenT_31 rfl)) ?_
      refine ASL.q (v := (.bool (decide (x3_l0 < ((p0.edges.length : Int)))))) rfl rfl (Light.quiet (opInt rfl rfl rfl rfl)) ?_
      refine ASL.done ?_
      refine AWP.ifP hF rfl (fun hc10 hF => ?_) (fun hc10 hF => ?_)
      · skip
        refine AWP.skip ?_
        refine QThen.nrm ?_
        refine AWP.seq ?_
        refine AWP.block ?_
        refine AWP.seqR rfl ?_
        refine ASL.q (v := (.rptr [(.list 4 (List.map TEdge.av p0.edges))])) rfl rfl (Light.quiet (opFieldAddrR rfl fieldA_33_3 rfl rfl)) ?_
        refine ASL.q (v := (.list 4 (List.map TEdge.av p0.edges))) rfl rfl (Light.quiet (opLoadR rfl aggA_31 rfl rfl)) ?_
        refine ASL.q (v := (.int .i64 x3_l0)) rfl rfl (Light.quiet (opMove rfl rfl)) ?_
        obtain ⟨a41, ha41, hF⟩ := bindE hF
        refine ASL.q (v := (.rptr [(.int .i64 a41.from_), (.int .i64 a41.letter), (.int .i64 a41.to_), (.bool a41.good)])) rfl rfl (Light.quiet (kIx (f := TEdge.av) ha41 rfl rfl rfl elemA_31 sizeA_73 rfl)) ?_
        refine ASL.q (v := (TEdge.av a41)) rfl rfl (Light.quiet (opLoadRA rfl aggA_73 sizeA_73 rfl (nlt rfl) rfl)) ?_
        refine ASL.x rfl rfl (hNewZ hS [(.int .i64 0), (.int .i64 0), (.int .i64 0), (.bool false)] rfl zeroA_73 ⟨.inl rfl, .inl rfl, .inl rfl, .inl rfl, trivial⟩ ?_); rintro b4 G11 hK hS
        refine ASL.n rfl rfl (hPutA hS (j := 0) rfl rfl sizeA_73 rfl rfl rfl rfl rfl (nlt rfl) ?_); rintro G13 hS
        refine ASL.done ?_
        refine AWP.seqD [(0, false), (1, false), (2, false), (3, false), (4, false), (5, false), (6, false), (7, false), (8, false), (9, false), (10, false), (11, false), (12, false), (13, false), (14, false), (15, false), (16, false), (17, false), (18, false), (19, false), (20, false), (21, false), (22, false), (23, false), (24, false), (25, false), (26, false), (27, false), (28, false), (29, false), (30, false), (31, false), (32, false), (33, false), (34, false), (35, false), (36, false), (37, false)] mixed (by kernel_rfl) rfl ?_
        refine ARL.q0 (v := (.ptr b4 0)) rfl rfl (Light.quiet (opFieldAddr rfl fieldA_73_0 rfl rfl)) ?_
        refine ARL.q (v := (.int .i64 a41.from_)) rfl rfl (hS.aliveC (k := 0) rfl) (Light.quiet (kAt hS (j := 0) rfl rfl aggA_3 rfl rfl)) ?_
        refine ARL.q0 (v := (.rptr [(.int .i64 p0.states), (.int .i64 p0.start), (.list 4 (List.map TEdge.av p0.edges))])) rfl rfl (Light.quiet (opFieldAddrR rfl fieldA_33_1 rfl rfl)) ?_
        refine ARL.q0 (v := (.int .i64 p0.states)) rfl rfl (Light.quiet (opLoadR rfl aggA_3 rfl rfl)) ?_
        refine ARL.q0 (v := (.bool (spec_l4State a41.from_ p0.states))) rfl rfl ((qCall rfl rfl call_70 (spec_l4State_ok a41.from_ p0.states) rfl)) ?_
        refine ARL.q0 (v := (.bool (!(spec_l4State a41.from_ p0.states)))) rfl rfl (Light.quiet (opNot rfl rfl)) ?_
        obtain ⟨c49, hc49, hF⟩ := bndE hF
        refine ARL.q0 (v := (.bool c49)) rfl rfl ((Quiet.cast (Light.quiet (opMove rfl rfl)) (congrArg AV.bool hc49.symm))) ?_
        refine ARL.g (v := (.ptr b4 2)) (.bool c49) false rfl (wF _) rfl noneAlive (fun hG => by have q0 := gN hG; subst q0; exact Light.quiet (opFieldAddr rfl fieldA_73_2 rfl rfl)) ?_
        refine ARL.g (v := (.int .i64 a41.to_)) (.bool c49) false rfl (wF _) rfl (hS.aliveC (k := 0) rfl) (fun hG => by have q0 := gN hG; subst q0; exact Light.quiet (kAt hS (j := 0) rfl rfl aggA_3 rfl rfl)) ?_
        refine ARL.g (v := (.rptr [(.int .i64 p0.states), (.int .i64 p0.start), (.list 4 (List.map TEdge.av p0.edges))])) (.bool c49) false rfl (wF _) rfl noneAlive (fun hG => by have q0 := gN hG; subst q0; exact Light.quiet (opFieldAddrR rfl fieldA_33_1 rfl rfl)) ?_
        refine ARL.g (v := (.int .i64 p0.states)) (.bool c49) false rfl (wF _) rfl noneAlive (fun hG => by have q0 := gN hG; subst q0; exact Light.quiet (opLoadR rfl aggA_3 rfl rfl)) ?_
        refine ARL.g (v := (.bool (spec_l4State a41.to_ p0.states))) (.bool c49) false rfl (wF _) rfl noneAlive (fun hG => by have q0 := gN hG; subst q0; exact (qCall rfl rfl call_70 (spec_l4State_ok a41.to_ p0.states) rfl)) ?_
        refine ARL.g (v := (.bool (!(spec_l4State a41.to_ p0.states)))) (.bool c49) false rfl (wF _) rfl noneAlive (fun hG => by have q0 := gN hG; subst q0; exact Light.quiet (opNot rfl rfl)) ?_
        refine ARL.q0 (v := (.bool (c49 || (!(spec_l4State a41.to_ p0.states))))) rfl rfl (Light.quiet (opPick (b := c49) rfl rfl (by cases c49 <;> rfl))) ?_
        obtain ⟨c57, hc57, hF⟩ := bndE hF
        refine ARL.q0 (v := (.bool c57)) rfl rfl ((Quiet.cast (Light.quiet (opMove rfl rfl)) (congrArg AV.bool hc57.symm))) ?_
        refine ARL.g (v := (.ptr b4 1)) (.bool c57) false rfl (wF _) rfl noneAlive (fun hG => by have q0 := gN hG; subst q0; exact Light.quiet (opFieldAddr rfl fieldA_73_1 rfl rfl)) ?_
        refine ARL.g (v := (.int .i64 a41.letter)) (.bool c57) false rfl (wF _) rfl (hS.aliveC (k := 0) rfl) (fun hG => by have q0 := gN hG; subst q0; exact Light.quiet (kAt hS (j := 0) rfl rfl aggA_3 rfl rfl)) ?_
        refine ARL.g (v := (.rptr [(.int .i64 p0.letters), (.int .i64 p0.states), (.int .i64 p0.start), (.list 4 (List.map TEdge.av p0.edges))])) (.bool c57) false rfl (wF _) rfl noneAlive (fun hG => by have q0 := gN hG; subst q0; exact Light.quiet (opFieldAddrR rfl fieldA_33_0 rfl rfl)) ?_
        refine ARL.g (v := (.int .i64 p0.letters)) (.bool c57) false rfl (wF _) rfl noneAlive (fun hG => by have q0 := gN hG; subst q0; exact Light.quiet (opLoadR rfl aggA_3 rfl rfl)) ?_
        refine ARL.g (v := (.int .i64 (W (p0.letters - 1)))) (.bool c57) false rfl (wF _) rfl noneAlive (fun hG => by have q0 := gN hG; subst q0; exact Light.quiet (opInt rfl rfl rfl rfl)) ?_
        refine ARL.g (v := (.bool (spec_l1In a41.letter 0 ((W (p0.letters - 1)))))) (.bool c57) false rfl (wF _) rfl noneAlive (fun hG => by have q0 := gN hG; subst q0; exact (qCall rfl rfl call_45 (spec_l1In_ok a41.letter 0 ((W (p0.letters - 1)))) rfl)) ?_
        refine ARL.g (v := (.bool (!(spec_l1In a41.letter 0 ((W (p0.letters - 1))))))) (.bool c57) false rfl (wF _) rfl noneAlive (fun hG => by have q0 := gN hG; subst q0; exact Light.quiet (opNot rfl rfl)) ?_
        refine ARL.q0 (v := (.bool (c57 || (!(spec_l1In a41.letter 0 ((W (p0.letters - 1)))))))) rfl rfl (Light.quiet (opPick (b := c57) rfl rfl (by cases c57 <;> rfl))) ?_
        obtain ⟨c66, hc66, hF⟩ := bndE hF
        refine ARL.q0 (v := (.bool c66)) rfl rfl ((Quiet.cast (Light.quiet (opMove rfl rfl)) (congrArg AV.bool hc66.symm))) ?_
        refine ARL.g (v := (.int .i64 x3_l0)) (.bool c66) false rfl (wF _) rfl noneAlive (fun hG => by have q0 := gN hG; subst q0; exact Light.quiet (opMove rfl rfl)) ?_
        refine ARL.g (v := (.bool (decide (x3_l0 > 0)))) (.bool c66) false rfl (wF _) rfl noneAlive (fun hG => by have q0 := gN hG; subst q0; exact Light.quiet (opInt rfl rfl rfl rfl)) ?_
        obtain ⟨c69, hc69, hF⟩ := bndE hF
        refine ARL.g (v := (.bool c69)) (.bool c66) false rfl (wF _) rfl noneAlive (fun hG => by have q0 := gN hG; subst q0; exact (Quiet.cast (Light.quiet (opMove rfl rfl)) (congrArg AV.bool hc69.symm))) ?_
        refine ARL.g (v := (.rptr [(.list 4 (List.map TEdge.av p0.edges))])) (bif (!c66) then (.bool c69) else .tup []) true rfl (wGT _ _) rfl noneAlive (fun hG => by have q0 := gN (gA1 hG); have q1 := gA2 hG; subst q0; subst q1; exact Light.quiet (opFieldAddrR rfl fieldA_33_3 rfl rfl)) ?_
        refine ARL.g (v := (.list 4 (List.map TEdge.av p0.edges))) (bif (!c66) then (.bool c69) else .tup []) true rfl (wGT _ _) rfl noneAlive (fun hG => by have q0 := gN (gA1 hG); have q1 := gA2 hG; subst q0; subst q1; exact Light.quiet (opLoadR rfl aggA_31 rfl rfl)) ?_
        refine ARL.g (v := (.int .i64 x3_l0)) (bif (!c66) then (.bool c69) else .tup []) true rfl (wGT _ _) rfl noneAlive (fun hG => by have q0 := gN (gA1 hG); have q1 := gA2 hG; subst q0; subst q1; exact Light.quiet (opMove rfl rfl)) ?_
        refine ARL.g (v := (.int .i64 (W (x3_l0 - 1)))) (bif (!c66) then (.bool c69) else .tup []) true rfl (wGT _ _) rfl noneAlive (fun hG => by have q0 := gN (gA1 hG); have q1 := gA2 hG; subst q0; subst q1; exact Light.quiet (opInt rfl rfl rfl rfl)) ?_
        obtain ⟨a74, ha74, hF⟩ := bindE hF
        refine ARL.g (v := (.rptr [(.int .i64 a74.from_), (.int .i64 a74.letter), (.int .i64 a74.to_), (.bool a74.good)])) (bif (!c66) then (.bool c69) else .tup []) true rfl (wGT _ _) rfl noneAlive (fun hG => by have q0 := gN (gA1 hG); have q1 := gA2 hG; subst q0; subst q1; exact Light.quiet (kIx (f := TEdge.av) (whenE ha74) rfl rfl rfl elemA_31 sizeA_73 rfl)) ?_
        refine ARL.g (v := (TEdge.av a74)) (bif (!c66) then (.bool c69) else .tup []) true rfl (wGT _ _) rfl noneAlive (fun hG => by have q0 := gN (gA1 hG); have q1 := gA2 hG; subst q0; subst q1; exact Light.quiet (opLoadRA rfl aggA_73 sizeA_73 rfl (nlt rfl) rfl)) ?_
        refine ARL.g (v := (TEdge.av a41)) (bif (!c66) then (.bool c69) else .tup []) true rfl (wGT _ _) rfl (hS.aliveC (k := 0) rfl) (fun hG => by have q0 := gN (gA1 hG); have q1 := gA2 hG; subst q0; subst q1; exact Light.quiet (kAtA hS (j := 0) rfl rfl aggA_73 sizeA_73 rfl (nlt rfl) rfl)) ?_
        refine ARL.g (v := (.bool (spec_l4Less a74 a41))) (bif (!c66) then (.bool c69) else .tup []) true rfl (wGT _ _) rfl noneAlive (fun hG => by have q0 := gN (gA1 hG); have q1 := gA2 hG; subst q0; subst q1; exact (qCall rfl rfl call_71 (spec_l4Less_ok a74 a41) rfl)) ?_
        refine ARL.g (v := (.bool (!(spec_l4Less a74 a41)))) (bif (!c66) then (.bool c69) else .tup []) true rfl (wGT _ _) rfl noneAlive (fun hG => by have q0 := gN (gA1 hG); have q1 := gA2 hG; subst q0; subst q1; exact Light.quiet (opNot rfl rfl)) ?_
        refine ARL.g (v := (.bool (c69 && (!(spec_l4Less a74 a41))))) (.bool c66) false rfl (wF _) rfl noneAlive (fun hG => by have q0 := gN hG; subst q0; exact Light.quiet (opPick (b := c69) rfl rfl (by cases c69 <;> rfl))) ?_
        refine ARL.q0 (v := (.bool (c66 || (c69 && (!(spec_l4Less a74 a41)))))) rfl rfl (Light.quiet (opPick (b := c66) rfl rfl (by cases c66 <;> rfl))) ?_
        refine ARL.done ?_
        refine AWP.ifB hF rfl (fun hc14 hF => ?_) (fun hc14 hF => ?_)
        · skip
          refine AWP.seqR rfl ?_
          refine ASL.q (v := (.bool false)) rfl rfl (Light.quiet (opAssign rfl rfl)) ?_
          refine ASL.done ?_
          refine AWP.ret ?_
          refine QBlock.ret ?_
          refine QThen.rt ?_
          refine QThen.rt ?_
          refine QBlock.ret ?_
          refine QThen.rt ?_
          obtain rfl := (hx5 _ (someE hF).symm)
          have hF := hR8
          have hF := sumR hF
          obtain rfl := someE hF
          exact QRet.sole (v := (.bool false)) ⟨rfl, trivial⟩ rfl
        · skip
          refine AWP.skip ?_
          refine QBlock.nrm ?_
          refine QThen.nrm ?_
          refine AWP.lastR rfl ?_
          refine ASL.q (v := (.int .i64 x3_l0)) rfl rfl (Light.quiet (opMove rfl rfl)) ?_
          refine ASL.q (v := (.int .i64 (W (x3_l0 + 1)))) rfl rfl (Light.quiet (opInt rfl rfl rfl rfl)) ?_
          refine ASL.q (v := (.int .i64 (W (x3_l0 + 1)))) rfl rfl (Light.quiet (opAssign rfl rfl)) ?_
          refine ASL.done ?_
          refine QThen.nrm ?_
          exact ⟨(W (x3_l0 + 1)), (), (someE hF).symm, ⟨rfl, rfl, trivial⟩, (hS.pick [] rfl rfl)⟩
      · skip
        refine AWP.exit ?_
        refine QThen.ext ?_
        refine QThen.ext ?_
        refine QBlock.hit ?_
        obtain rfl := (hx5 _ (someE hF).symm)
        have hF := hR8
        have hF := sumL hF
        refine QThen.nrm ?_
        exact ⟨trivial, (hS.pick [] rfl rfl), hF⟩

set_option maxRecDepth 10000 in
theorem spec_l13States_ok {p0 : TAuto} {r : Bool} (hF : spec_l13States p0 = some r) : PC Try.prog 29 [(TAuto.av p0)] fun v => v = (.bool r) := by
  refine PC.enter Try.func29 rfl Try.ntmps29 (by simp) ?_
  have hS := Sep.void; unfold spec_l13States at hF
  refine AWP.seqR rfl ?_
  refine ASL.q (v := (.rptr [(.int .i64 p0.letters), (.int .i64 p0.states), (.int .i64 p0.start), (.list 4 (List.map TEdge.av p0.edges))])) rfl rfl ((qBoxI (v := (TAuto.av p0)) rfl rfl rfl rfl)) ?_
  refine ASL.q (v := (.bool false)) rfl rfl (Light.quiet (opAssign rfl rfl)) ?_
  refine ASL.done ?_
  refine AWP.seqR rfl ?_
  refine ASL.q (v := (TAuto.av p0)) rfl rfl (Light.quiet (opLoadRA rfl aggA_33 sizeA_33 rfl (nlt rfl) rfl)) ?_
  obtain ⟨a4, ha4, hF⟩ := bindE hF
  refine ASL.q (v := (.bool a4)) rfl rfl ((qCall rfl rfl call_51 (spec_AutoOk_ok ha4) rfl)) ?_
  refine ASL.q (v := (.bool a4)) rfl rfl (Light.quiet (opMove rfl rfl)) ?_
  refine ASL.g (v := (.rptr [(.int .i64 p0.states), (.int .i64 p0.start), (.list 4 (List.map TEdge.av p0.edges))])) (.bool a4) true rfl (wT _) rfl (fun hG => by have q0 := hG; subst q0; exact Light.quiet (opFieldAddrR rfl fieldA_33_1 rfl rfl)) ?_
  refine ASL.g (v := (.int .i64 p0.states)) (.bool a4) true rfl (wT _) rfl (fun hG => by have q0 := hG; subst q0; exact Light.quiet (opLoadR rfl aggA_3 rfl rfl)) ?_
  refine ASL.g (v := (.bool (decide (p0.states ≤ 2)))) (.bool a4) true rfl (wT _) rfl (fun hG => by have q0 := hG; subst q0; exact Light.quiet (opInt rfl rfl rfl rfl)) ?_
  refine ASL.q (v := (.bool (a4 && (decide (p0.states ≤ 2))))) rfl rfl (Light.quiet (opPick (b := a4) rfl rfl (by cases a4 <;> rfl))) ?_
  refine ASL.q (v := (.bool (a4 && (decide (p0.states ≤ 2))))) rfl rfl (Light.quiet (opAssign rfl rfl)) ?_
  refine ASL.done ?_
  refine AWP.ret ?_
  obtain rfl := someE hF
  exact QRet.sole (v := (.bool (a4 && (decide (p0.states ≤ 2))))) ⟨rfl, trivial⟩ rfl

set_option maxRecDepth 10000 in
theorem spec_l1Bit_ok {p0 : Int} {r : Int} (hF : spec_l1Bit p0 = some r) : PC Try.prog 54 [(.int .i64 p0)] fun v => v = (.int .i64 r) := by
  refine PC.enter Try.func54 rfl Try.ntmps54 (by simp) ?_
  have hS := Sep.void; unfold spec_l1Bit at hF
  refine AWP.seqR rfl ?_
  refine ASL.q (v := (.int .i64 0)) rfl rfl (Light.quiet (opAssign rfl rfl)) ?_
  refine ASL.done ?_
  refine AWP.seqR rfl ?_
  refine ASL.q (v := (.int .i64 p0)) rfl rfl (Light.quiet (opMove rfl rfl)) ?_
  refine ASL.q (v := (.int .i64 (bAnd .i64 p0 31))) rfl rfl (Light.quiet (opInt rfl rfl rfl rfl)) ?_
  obtain ⟨u1, hu1, hF⟩ := bindE hF
  refine ASL.q (v := (.int .i64 (shl .i64 1 ((bAnd .i64 p0 31))))) rfl rfl (Light.quiet (opShl rfl rfl rfl (of_decide_eq_true (chkE hu1)) rfl)) ?_
  refine ASL.q (v := (.int .i64 (shl .i64 1 ((bAnd .i64 p0 31))))) rfl rfl (Light.quiet (opAssign rfl rfl)) ?_
  refine ASL.done ?_
  refine AWP.ret ?_
  obtain rfl := someE hF
  exact QRet.sole (v := (.int .i64 (shl .i64 1 ((bAnd .i64 p0 31))))) ⟨rfl, trivial⟩ rfl

set_option maxRecDepth 10000 in
theorem spec_l1Has_ok {p0 : Int} {p1 : Int} {r : Bool} (hF : spec_l1Has p0 p1 = some r) : PC Try.prog 30 [(.int .i64 p0), (.int .i64 p1)] fun v => v = (.bool r) := by
  refine PC.enter Try.func30 rfl Try.ntmps30 (by simp) ?_
  have hS := Sep.void; unfold spec_l1Has at hF
  refine AWP.seqR rfl ?_
  refine ASL.q (v := (.bool false)) rfl rfl (Light.quiet (opAssign rfl rfl)) ?_
  refine ASL.done ?_
  refine AWP.seqR rfl ?_
  refine ASL.q (v := (.int .i64 p1)) rfl rfl (Light.quiet (opMove rfl rfl)) ?_
  refine ASL.q (v := (.bool (spec_l1In p1 0 30))) rfl rfl ((qCall rfl rfl call_45 (spec_l1In_ok p1 0 30) rfl)) ?_
  obtain ⟨c7, hc7, hF⟩ := bndE hF
  refine ASL.q (v := (.bool c7)) rfl rfl ((Quiet.cast (Light.quiet (opMove rfl rfl)) (congrArg AV.bool hc7.symm))) ?_
  refine ASL.g (v := (.int .i64 p0)) (.bool c7) true rfl (wT _) rfl (fun hG => by have q0 := hG; subst q0; exact Light.quiet (opMove rfl rfl)) ?_
  refine ASL.g (v := (.int .i64 p1)) (.bool c7) true rfl (wT _) rfl (fun hG => by have q0 := hG; subst q0; exact Light.quiet (opMove rfl rfl)) ?_
  obtain ⟨a10, ha10, hF⟩ := bindE hF
  refine ASL.g (v := (.int .i64 a10)) (.bool c7) true rfl (wT _) rfl (fun hG => by have q0 := hG; subst q0; exact (qCall rfl rfl call_54 (spec_l1Bit_ok (whenE ha10)) rfl)) ?_
  refine ASL.g (v := (.int .i64 (bAnd .i64 p0 a10))) (.bool c7) true rfl (wT _) rfl (fun hG => by have q0 := hG; subst q0; exact Light.quiet (opInt rfl rfl rfl rfl)) ?_
  refine ASL.g (v := (.bool (decide (((bAnd .i64 p0 a10)) ≠ 0)))) (.bool c7) true rfl (wT _) rfl (fun hG => by have q0 := hG; subst q0; exact Light.quiet (opInt rfl rfl rfl rfl)) ?_
  refine ASL.q (v := (.bool (c7 && (decide (((bAnd .i64 p0 a10)) ≠ 0))))) rfl rfl (Light.quiet (opPick (b := c7) rfl rfl (by cases c7 <;> rfl))) ?_
  refine ASL.q (v := (.bool (c7 && (decide (((bAnd .i64 p0 a10)) ≠ 0))))) rfl rfl (Light.quiet (opAssign rfl rfl)) ?_
  refine ASL.done ?_
  refine AWP.ret ?_
  obtain rfl := someE hF
  exact QRet.sole (v := (.bool (c7 && (decide (((bAnd .i64 p0 a10)) ≠ 0))))) ⟨rfl, trivial⟩ rfl

set_option maxRecDepth 10000 in
theorem spec_l13Ok_ok {p0 : TAuto} {p1 : TRankState} {r : Bool} (hF : spec_l13Ok p0 p1 = some r) : PC Try.prog 47 [(TAuto.av p0), (TRankState.av p1)] fun v => v = (.bool r) := by
  refine PC.enter Try.func47 rfl Try.ntmps47 (by simp) ?_
  have hS := Sep.void; unfold spec_l13Ok at hF
  refine AWP.seqR rfl ?_
  refine ASL.q (v := (.rptr [(.int .i64 p0.letters), (.int .i64 p0.states), (.int .i64 p0.start), (.list 4 (List.map TEdge.av p0.edges))])) rfl rfl ((qBoxI (v := (TAuto.av p0)) rfl rfl rfl rfl)) ?_
  refine ASL.q (v := (.rptr [(.list 1 (List.map (AV.int .i64) p1.ranks)), (.int .i64 p1.owing)])) rfl rfl ((qBoxI (v := (TRankState.av p1)) rfl rfl rfl rfl)) ?_
  refine ASL.q (v := (.bool false)) rfl rfl (Light.quiet (opAssign rfl rfl)) ?_
  refine ASL.done ?_
  refine AWP.seq ?_
  refine AWP.seqD [(0, false), (1, false), (2, false), (3, false), (4, false), (5, false), (6, false), (7, false), (8, false), (9, false), (10, false), (11, false), (12, false), (13, false), (14, false), (15, false)] mixed (by kernel_rfl) rfl ?_
  refine ARL.q0 (v := (.rptr [(.list 1 (List.map (AV.int .i64) p1.ranks)), (.int .i64 p1.owing)])) rfl rfl (Light.quiet (opFieldAddrR rfl fieldA_28_0 rfl rfl)) ?_
  refine ARL.q0 (v := (.list 1 (List.map (AV.int .i64) p1.ranks))) rfl rfl (Light.quiet (opLoadR rfl aggA_26 rfl rfl)) ?_
  refine ARL.q0 (v := (.int .i64 (p1.ranks.length : Int))) rfl rfl (Light.quiet (opLenMap (f := (AV.int .i64)) rfl rfl rfl lenT_26 rfl)) ?_
  refine ARL.q0 (v := (.rptr [(.int .i64 p0.states), (.int .i64 p0.start), (.list 4 (List.map TEdge.av p0.edges))])) rfl rfl (Light.quiet (opFieldAddrR rfl fieldA_33_1 rfl rfl)) ?_
  refine ARL.q0 (v := (.int .i64 p0.states)) rfl rfl (Light.quiet (opLoadR rfl aggA_3 rfl rfl)) ?_
  refine ARL.q0 (v := (.bool (decide (((p1.ranks.length : Int)) ≠ p0.states)))) rfl rfl (Light.quiet (opInt rfl rfl rfl rfl)) ?_
  obtain ⟨c13, hc13, hF⟩ := bndE hF
  refine ARL.q0 (v := (.bool c13)) rfl rfl ((Quiet.cast (Light.quiet (opMove rfl rfl)) (congrArg AV.bool hc13.symm))) ?_
  refine ARL.g (v := (.rptr [(.int .i64 p1.owing)])) (.bool c13) false rfl (wF _) rfl noneAlive (fun hG => by have q0 := gN hG; subst q0; exact Light.quiet (opFieldAddrR rfl fieldA_28_1 rfl rfl)) ?_
  refine ARL.g (v := (.int .i64 p1.owing)) (.bool c13) false rfl (wF _) rfl noneAlive (fun hG => by have q0 := gN hG; subst q0; exact Light.quiet (opLoadR rfl aggA_3 rfl rfl)) ?_
  refine ARL.g (v := (.rptr [(.int .i64 p0.states), (.int .i64 p0.start), (.list 4 (List.map TEdge.av p0.edges))])) (.bool c13) false rfl (wF _) rfl noneAlive (fun hG => by have q0 := gN hG; subst q0; exact Light.quiet (opFieldAddrR rfl fieldA_33_1 rfl rfl)) ?_
  refine ARL.g (v := (.int .i64 p0.states)) (.bool c13) false rfl (wF _) rfl noneAlive (fun hG => by have q0 := gN hG; subst q0; exact Light.quiet (opLoadR rfl aggA_3 rfl rfl)) ?_
  obtain ⟨u1, hu1, hF⟩ := bindE hF
  refine ARL.g (v := (.int .i64 (shl .i64 1 p0.states))) (.bool c13) false rfl (wF _) rfl noneAlive (fun hG => by have q0 := gN hG; subst q0; exact Light.quiet (opShl rfl rfl rfl (of_decide_eq_true (chkE (whenE hu1))) rfl)) ?_
  refine ARL.g (v := (.int .i64 (W (((shl .i64 1 p0.states)) - 1)))) (.bool c13) false rfl (wF _) rfl noneAlive (fun hG => by have q0 := gN hG; subst q0; exact Light.quiet (opInt rfl rfl rfl rfl)) ?_
  refine ARL.g (v := (.bool (spec_SetIn p1.owing ((W (((shl .i64 1 p0.states)) - 1)))))) (.bool c13) false rfl (wF _) rfl noneAlive (fun hG => by have q0 := gN hG; subst q0; exact (qCall rfl rfl call_69 (spec_SetIn_ok p1.owing ((W (((shl .i64 1 p0.states)) - 1)))) rfl)) ?_
  refine ARL.g (v := (.bool (!(spec_SetIn p1.owing ((W (((shl .i64 1 p0.states)) - 1))))))) (.bool c13) false rfl (wF _) rfl noneAlive (fun hG => by have q0 := gN hG; subst q0; exact Light.quiet (opNot rfl rfl)) ?_
  refine ARL.q0 (v := (.bool (c13 || (!(spec_SetIn p1.owing ((W (((shl .i64 1 p0.states)) - 1)))))))) rfl rfl (Light.quiet (opPick (b := c13) rfl rfl (by cases c13 <;> rfl))) ?_
  refine ARL.done ?_
  refine AWP.ifB hF rfl (fun hc2 hF => ?_) (fun hc2 hF => ?_)
  · skip
    refine AWP.seqR rfl ?_
    refine ASL.q (v := (.bool false)) rfl rfl (Light.quiet (opAssign rfl rfl)) ?_
    refine ASL.done ?_
    refine AWP.ret ?_
    refine QThen.rt ?_
    obtain rfl := someE hF
    exact QRet.sole (v := (.bool false)) ⟨rfl, trivial⟩ rfl
  · skip
    refine AWP.skip ?_
    refine QThen.nrm ?_
    refine AWP.seqM (fun e H => E.Told e [] ∧ E.Sep H [] ∧ spec_l13Ok.k0 = some r) ?_ ?_
    · rintro e0 G3 ⟨hT, hS, hF⟩; refine AWP.only _ hT ?_; unfold spec_l13Ok.k0 at hF
      refine AWP.seqR rfl ?_
      refine ASL.q (v := (.bool true)) rfl rfl (Light.quiet (opAssign rfl rfl)) ?_
      refine ASL.done ?_
      refine AWP.ret ?_
      obtain rfl := someE hF
      exact QRet.sole (v := (.bool true)) ⟨rfl, trivial⟩ rfl
    · skip
      refine AWP.seqR rfl ?_
      refine ASL.q (v := (.int .i64 0)) rfl rfl (Light.quiet (opAssign rfl rfl)) ?_
      refine ASL.done ?_
      refine AWP.block ?_
      obtain ⟨o7, hL6, hR8⟩ := bindE hF
      refine AWP.loopF (ω := Unit) hL6 (fun s w => [(2, (.rptr [(.int .i64 p0.letters), (.int .i64 p0.states), (.int .i64 p0.start), (.list 4 (List.map TEdge.av p0.edges))])), (3, (.rptr [(.list 1 (List.map (AV.int .i64) p1.ranks)), (.int .i64 p1.owing)])), (5, (.int .i64 s))]) (fun s w => []) () ⟨rfl, rfl, rfl, trivial⟩ (hS.pick [] rfl rfl) ?_
      rintro x5_l0 _ G9 hS x4 hF hx5
      try dsimp only at hS ⊢
      have hF : spec_l13Ok.b0 p0 p1 x5_l0 = some x4 := hF; unfold spec_l13Ok.b0 at hF
      refine AWP.seq ?_
      refine AWP.seqR rfl ?_
      refine ASL.q (v := (.int .i64 x5_l0)) rfl rfl (Light.quiet (opMove rfl rfl)) ?_
      refine ASL.q (v := (.rptr [(.int .i64 p0.states), (.int .i64 p0.start), (.list 4 (List.map TEdge.av p0.edges))])) rfl rfl (Light.quiet (opFieldAddrR rfl fieldA_33_1 rfl rfl)) ?_
      refine ASL.q (v := (.int .i64 p0.states)) rfl rfl (Light.quiet (opLoadR rfl aggA_3 rfl rfl)) ?_
      refine ASL.q (v := (.bool (decide (x5_l0 < p0.states)))) rfl rfl (Light.quiet (opInt rfl rfl rfl rfl)) ?_
      refine ASL.done ?_
      refine AWP.ifP hF rfl (fun hc10 hF => ?_) (fun hc10 hF => ?_)
      · skip
        refine AWP.skip ?_
        refine QThen.nrm ?_
        refine AWP.seq ?_
        refine AWP.block ?_
        refine AWP.seqR rfl ?_
        refine ASL.q (v := (.rptr [(.list 1 (List.map (AV.int .i64) p1.ranks)), (.int .i64 p1.owing)])) rfl rfl (Light.quiet (opFieldAddrR rfl fieldA_28_0 rfl rfl)) ?_
        refine ASL.q (v := (.list 1 (List.map (AV.int .i64) p1.ranks))) rfl rfl (Light.quiet (opLoadR rfl aggA_26 rfl rfl)) ?_
        refine ASL.q (v := (.int .i64 x5_l0)) rfl rfl (Light.quiet (opMove rfl rfl)) ?_
        obtain ⟨a32, ha32, hF⟩ := bindE hF
        refine ASL.q (v := (.rptr [(.int .i64 a32)])) rfl rfl (Light.quiet (kIx (f := (AV.int .i64)) ha32 rfl rfl rfl elemA_26 sizeA_3 rfl)) ?_
        refine ASL.q (v := (.int .i64 a32)) rfl rfl (Light.quiet (opLoadR rfl aggA_3 rfl rfl)) ?_
        refine ASL.q (v := (.int .i64 a32)) rfl rfl (Light.quiet (opAssign rfl rfl)) ?_
        refine ASL.done ?_
        refine AWP.seqR rfl ?_
        refine ASL.q (v := (.int .i64 a32)) rfl rfl (Light.quiet (opMove rfl rfl)) ?_
        refine ASL.q (v := (.rptr [(.int .i64 p0.states), (.int .i64 p0.start), (.list 4 (List.map TEdge.av p0.edges))])) rfl rfl (Light.quiet (opFieldAddrR rfl fieldA_33_1 rfl rfl)) ?_
        refine ASL.q (v := (.int .i64 p0.states)) rfl rfl (Light.quiet (opLoadR rfl aggA_3 rfl rfl)) ?_
        refine ASL.q (v := (.int .i64 (W (2 * p0.states)))) rfl rfl (Light.quiet (opInt rfl rfl rfl rfl)) ?_
        refine ASL.q (v := (.bool (spec_l1In a32 ((-1)) ((W (2 * p0.states)))))) rfl rfl ((qCall rfl rfl call_45 (spec_l1In_ok a32 ((-1)) ((W (2 * p0.states)))) rfl)) ?_
        refine ASL.q (v := (.bool (!(spec_l1In a32 ((-1)) ((W (2 * p0.states))))))) rfl rfl (Light.quiet (opNot rfl rfl)) ?_
        obtain ⟨c40, hc40, hF⟩ := bndE hF
        refine ASL.q (v := (.bool c40)) rfl rfl ((Quiet.cast (Light.quiet (opMove rfl rfl)) (congrArg AV.bool hc40.symm))) ?_
        refine ASL.g (v := (.rptr [(.int .i64 p1.owing)])) (.bool c40) false rfl (wF _) rfl (fun hG => by have q0 := gN hG; subst q0; exact Light.quiet (opFieldAddrR rfl fieldA_28_1 rfl rfl)) ?_
        refine ASL.g (v := (.int .i64 p1.owing)) (.bool c40) false rfl (wF _) rfl (fun hG => by have q0 := gN hG; subst q0; exact Light.quiet (opLoadR rfl aggA_3 rfl rfl)) ?_
        refine ASL.g (v := (.int .i64 x5_l0)) (.bool c40) false rfl (wF _) rfl (fun hG => by have q0 := gN hG; subst q0; exact Light.quiet (opMove rfl rfl)) ?_
        obtain ⟨a44, ha44, hF⟩ := bindE hF
        refine ASL.g (v := (.bool a44)) (.bool c40) false rfl (wF _) rfl (fun hG => by have q0 := gN hG; subst q0; exact (qCall rfl rfl call_30 (spec_l1Has_ok (whenE ha44)) rfl)) ?_
        refine ASL.g (v := (.bool a44)) (.bool c40) false rfl (wF _) rfl (fun hG => by have q0 := gN hG; subst q0; exact Light.quiet (opMove rfl rfl)) ?_
        refine ASL.g (v := (.int .i64 a32)) (bif (!c40) then (.bool a44) else .tup []) true rfl (wGT _ _) rfl (fun hG => by have q0 := gN (gA1 hG); have q1 := gA2 hG; subst q0; subst q1; exact Light.quiet (opMove rfl rfl)) ?_
        refine ASL.g (v := (.bool (decide (a32 < 0)))) (bif (!c40) then (.bool a44) else .tup []) true rfl (wGT _ _) rfl (fun hG => by have q0 := gN (gA1 hG); have q1 := gA2 hG; subst q0; subst q1; exact Light.quiet (opInt rfl rfl rfl rfl)) ?_
        obtain ⟨c48, hc48, hF⟩ := bndE hF
        refine ASL.g (v := (.bool c48)) (bif (!c40) then (.bool a44) else .tup []) true rfl (wGT _ _) rfl (fun hG => by have q0 := gN (gA1 hG); have q1 := gA2 hG; subst q0; subst q1; exact (Quiet.cast (Light.quiet (opMove rfl rfl)) (congrArg AV.bool hc48.symm))) ?_
        refine ASL.g (v := (.int .i64 a32)) (bif ((!c40) && a44) then (.bool c48) else .tup []) false rfl (wGF _ _) rfl (fun hG => by have q0 := gN (gA1 (gA1 hG)); have q1 := gA2 (gA1 hG); have q2 := gN (gA2 hG); subst q0; subst q1; subst q2; exact Light.quiet (opMove rfl rfl)) ?_
        refine ASL.g (v := (.int .i64 (Int.tmod a32 2))) (bif ((!c40) && a44) then (.bool c48) else .tup []) false rfl (wGF _ _) rfl (fun hG => by have q0 := gN (gA1 (gA1 hG)); have q1 := gA2 (gA1 hG); have q2 := gN (gA2 hG); subst q0; subst q1; subst q2; exact Light.quiet (opRem rfl rfl rfl (by decide) rfl)) ?_
        refine ASL.g (v := (.bool (decide (((Int.tmod a32 2)) = 1)))) (bif ((!c40) && a44) then (.bool c48) else .tup []) false rfl (wGF _ _) rfl (fun hG => by have q0 := gN (gA1 (gA1 hG)); have q1 := gA2 (gA1 hG); have q2 := gN (gA2 hG); subst q0; subst q1; subst q2; exact Light.quiet (opInt rfl rfl rfl rfl)) ?_
        refine ASL.g (v := (.bool (c48 || (decide (((Int.tmod a32 2)) = 1))))) (bif (!c40) then (.bool a44) else .tup []) true rfl (wGT _ _) rfl (fun hG => by have q0 := gN (gA1 hG); have q1 := gA2 hG; subst q0; subst q1; exact Light.quiet (opPick (b := c48) rfl rfl (by cases c48 <;> rfl))) ?_
        refine ASL.g (v := (.bool (a44 && (c48 || (decide (((Int.tmod a32 2)) = 1)))))) (.bool c40) false rfl (wF _) rfl (fun hG => by have q0 := gN hG; subst q0; exact Light.quiet (opPick (b := a44) rfl rfl (by cases a44 <;> rfl))) ?_
        refine ASL.q (v := (.bool (c40 || (a44 && (c48 || (decide (((Int.tmod a32 2)) = 1))))))) rfl rfl (Light.quiet (opPick (b := c40) rfl rfl (by cases c40 <;> rfl))) ?_
        refine ASL.done ?_
        refine AWP.ifB hF rfl (fun hc11 hF => ?_) (fun hc11 hF => ?_)
        · skip
          refine AWP.seqR rfl ?_
          refine ASL.q (v := (.bool false)) rfl rfl (Light.quiet (opAssign rfl rfl)) ?_
          refine ASL.done ?_
          refine AWP.ret ?_
          refine QBlock.ret ?_
          refine QThen.rt ?_
          refine QThen.rt ?_
          refine QBlock.ret ?_
          refine QThen.rt ?_
          obtain rfl := (hx5 _ (someE hF).symm)
          have hF := hR8
          have hF := sumR hF
          obtain rfl := someE hF
          exact QRet.sole (v := (.bool false)) ⟨rfl, trivial⟩ rfl
        · skip
          refine AWP.skip ?_
          refine QBlock.nrm ?_
          refine QThen.nrm ?_
          refine AWP.lastR rfl ?_
          refine ASL.q (v := (.int .i64 x5_l0)) rfl rfl (Light.quiet (opMove rfl rfl)) ?_
          refine ASL.q (v := (.int .i64 (W (x5_l0 + 1)))) rfl rfl (Light.quiet (opInt rfl rfl rfl rfl)) ?_
          refine ASL.q (v := (.int .i64 (W (x5_l0 + 1)))) rfl rfl (Light.quiet (opAssign rfl rfl)) ?_
          refine ASL.done ?_
          refine QThen.nrm ?_
          exact ⟨(W (x5_l0 + 1)), (), (someE hF).symm, ⟨rfl, rfl, rfl, trivial⟩, (hS.pick [] rfl rfl)⟩
      · skip
        refine AWP.exit ?_
        refine QThen.ext ?_
        refine QThen.ext ?_
        refine QBlock.hit ?_
        obtain rfl := (hx5 _ (someE hF).symm)
        have hF := hR8
        have hF := sumL hF
        refine QThen.nrm ?_
        exact ⟨trivial, (hS.pick [] rfl rfl), hF⟩

set_option maxRecDepth 10000 in
theorem spec_RankOk_ok {p0 : TAuto} {p1 : TRankState} {r : Bool} (hF : spec_RankOk p0 p1 = some r) : PC Try.prog 19 [(TAuto.av p0), (TRankState.av p1)] fun v => v = (.bool r) := by
  refine PC.enter Try.func19 rfl Try.ntmps19 (by simp) ?_
  have hS := Sep.void; unfold spec_RankOk at hF
  refine AWP.seqR rfl ?_
  refine ASL.q (v := (.rptr [(.int .i64 p0.letters), (.int .i64 p0.states), (.int .i64 p0.start), (.list 4 (List.map TEdge.av p0.edges))])) rfl rfl ((qBoxI (v := (TAuto.av p0)) rfl rfl rfl rfl)) ?_
  refine ASL.q (v := (.rptr [(.list 1 (List.map (AV.int .i64) p1.ranks)), (.int .i64 p1.owing)])) rfl rfl ((qBoxI (v := (TRankState.av p1)) rfl rfl rfl rfl)) ?_
  refine ASL.q (v := (.bool false)) rfl rfl (Light.quiet (opAssign rfl rfl)) ?_
  refine ASL.done ?_
  refine AWP.seqR rfl ?_
  refine ASL.q (v := (TAuto.av p0)) rfl rfl (Light.quiet (opLoadRA rfl aggA_33 sizeA_33 rfl (nlt rfl) rfl)) ?_
  obtain ⟨a6, ha6, hF⟩ := bindE hF
  refine ASL.q (v := (.bool a6)) rfl rfl ((qCall rfl rfl call_29 (spec_l13States_ok ha6) rfl)) ?_
  refine ASL.q (v := (.bool a6)) rfl rfl (Light.quiet (opMove rfl rfl)) ?_
  refine ASL.g (v := (TAuto.av p0)) (.bool a6) true rfl (wT _) rfl (fun hG => by have q0 := hG; subst q0; exact Light.quiet (opLoadRA rfl aggA_33 sizeA_33 rfl (nlt rfl) rfl)) ?_
  refine ASL.g (v := (TRankState.av p1)) (.bool a6) true rfl (wT _) rfl (fun hG => by have q0 := hG; subst q0; exact Light.quiet (opLoadRA rfl aggA_28 sizeA_28 rfl (nlt rfl) rfl)) ?_
  obtain ⟨a10, ha10, hF⟩ := bindE hF
  refine ASL.g (v := (.bool a10)) (.bool a6) true rfl (wT _) rfl (fun hG => by have q0 := hG; subst q0; exact (qCall rfl rfl call_47 (spec_l13Ok_ok (whenE ha10)) rfl)) ?_
  refine ASL.q (v := (.bool (a6 && a10))) rfl rfl (Light.quiet (opPick (b := a6) rfl rfl (by cases a6 <;> rfl))) ?_
  refine ASL.q (v := (.bool (a6 && a10))) rfl rfl (Light.quiet (opAssign rfl rfl)) ?_
  refine ASL.done ?_
  refine AWP.ret ?_
  obtain rfl := someE hF
  exact QRet.sole (v := (.bool (a6 && a10))) ⟨rfl, trivial⟩ rfl

set_option maxRecDepth 10000 in
theorem spec_l13Bounds_ok {p0 : TAuto} {p1 : TRankState} {p2 : Int} {r : (List Int)} (hF : spec_l13Bounds p0 p1 p2 = some r) : PO Try.prog 66 [(TAuto.av p0), (TRankState.av p1), (.int .i64 p2)] 1 (List.map (AV.int .i64) r) := by
  refine HC.enter Try.func66 rfl Try.ntmps66 (by simp) ?_
  have hS := Sep.void; unfold spec_l13Bounds at hF
  refine AWP.seqR rfl ?_
  refine ASL.q (v := (.rptr [(.int .i64 p0.letters), (.int .i64 p0.states), (.int .i64 p0.start), (.list 4 (List.map TEdge.av p0.edges))])) rfl rfl ((qBoxI (v := (TAuto.av p0)) rfl rfl rfl rfl)) ?_
  refine ASL.q (v := (.rptr [(.list 1 (List.map (AV.int .i64) p1.ranks)), (.int .i64 p1.owing)])) rfl rfl ((qBoxI (v := (TRankState.av p1)) rfl rfl rfl rfl)) ?_
  have hS := hNil (s := 1) (f := (AV.int .i64)) hS
  refine ASL.q (v := .nil) rfl rfl (Light.quiet (opAssign rfl rfl)) ?_
  refine ASL.done ?_
  refine AWP.seqR rfl ?_
  refine ASL.x rfl rfl (hLit (f := (AV.int .i64)) (zs := []) hS rfl rfl elemA_26 sizeA_3 zeroA_3 rfl rfl rfl rfl (by simp [cells]) (nlt rfl) ?_); rintro v12 G2 hK hS
  refine ASL.q (v := v12) rfl rfl (Light.quiet (opAssign rfl rfl)) ?_
  refine ASL.done ?_
  refine AWP.seqM (fun e H => ∃ y4 : (List Int), ∃ w5 : AV, E.Told e [(2, (.int .i64 p2)), (3, (.rptr [(.int .i64 p0.letters), (.int .i64 p0.states), (.int .i64 p0.start), (.list 4 (List.map TEdge.av p0.edges))])), (4, (.rptr [(.list 1 (List.map (AV.int .i64) p1.ranks)), (.int .i64 p1.owing)])), (7, w5)] ∧ E.Sep H [.row 1 w5 (List.map (AV.int .i64) y4)] ∧ spec_l13Bounds.k0 p0 p1 p2 y4 = some r) ?_ ?_
  · rintro e0 G25 ⟨y4, w5, hT, hS, hF⟩; refine AWP.only _ hT ?_; unfold spec_l13Bounds.k0 at hF
    refine AWP.seqM (fun e H => ∃ y7 : (List Int), E.Told e [(7, w5)] ∧ E.Sep H [.row 1 w5 (List.map (AV.int .i64) y7)] ∧ spec_l13Bounds.k1 y7 = some r) ?_ ?_
    · rintro e0 G8 ⟨y7, hT, hS, hF⟩; refine AWP.only _ hT ?_; unfold spec_l13Bounds.k1 at hF
      refine AWP.seqR rfl ?_
      refine ASL.q (v := w5) rfl rfl (Light.quiet (opMove rfl rfl)) ?_
      refine ASL.q (v := w5) rfl rfl (Light.quiet (opAssign rfl rfl)) ?_
      refine ASL.done ?_
      refine AWP.ret ?_
      obtain rfl := someE hF
      exact QRet.sole (v := w5) ⟨rfl, trivial⟩ (hS.get (k := 0) rfl)
    · skip
      refine AWP.seqR rfl ?_
      refine ASL.q (v := (.int .i64 0)) rfl rfl (Light.quiet (opAssign rfl rfl)) ?_
      refine ASL.done ?_
      refine AWP.block ?_
      obtain ⟨o13, hL12, hR14⟩ := bindE hF
      refine AWP.loopF (ω := Unit) hL12 (fun s w => [(2, (.int .i64 p2)), (3, (.rptr [(.int .i64 p0.letters), (.int .i64 p0.states), (.int .i64 p0.start), (.list 4 (List.map TEdge.av p0.edges))])), (4, (.rptr [(.list 1 (List.map (AV.int .i64) p1.ranks)), (.int .i64 p1.owing)])), (7, w5), (9, (.int .i64 s.2))]) (fun s w => [.row 1 w5 (List.map (AV.int .i64) s.1)]) () ⟨rfl, rfl, rfl, rfl, rfl, trivial⟩ (hS.pick [0] rfl rfl) ?_
      rintro ⟨y9, x9_l0⟩ _ G15 hS x10 hF hx11
      try dsimp only at hS ⊢
      have hF : spec_l13Bounds.b0 p0 p1 p2 y9 x9_l0 = some x10 := hF; unfold spec_l13Bounds.b0 at hF
      refine AWP.seq ?_
      refine AWP.seqR rfl ?_
      refine ASL.q (v := (.int .i64 x9_l0)) rfl rfl (Light.quiet (opMove rfl rfl)) ?_
      refine ASL.q (v := (.rptr [(.list 4 (List.map TEdge.av p0.edges))])) rfl rfl (Light.quiet (opFieldAddrR rfl fieldA_33_3 rfl rfl)) ?_
      refine ASL.q (v := (.list 4 (List.map TEdge.av p0.edges))) rfl rfl (Light.quiet (opLoadR rfl aggA_31 rfl rfl)) ?_
      refine ASL.q (v := (.int .i64 (p0.edges.length : Int))) rfl rfl (Light.quiet (opLenMap (f := TEdge.av) rfl rfl rfl lenT_31 rfl)) ?_
      refine ASL.q (v := (.bool (decide (x9_l0 < ((p0.edges.length : Int)))))) rfl rfl (Light.quiet (opInt rfl rfl rfl rfl)) ?_
      refine ASL.done ?_
      refine AWP.ifP hF rfl (fun hc16 hF => ?_) (fun hc16 hF => ?_)
      · skip
        refine AWP.skip ?_
        refine QThen.nrm ?_
        refine AWP.seq ?_
        refine AWP.block ?_
        refine AWP.seqR rfl ?_
        refine ASL.q (v := (.rptr [(.list 4 (List.map TEdge.av p0.edges))])) rfl rfl (Light.quiet (opFieldAddrR rfl fieldA_33_3 rfl rfl)) ?_
        refine ASL.q (v := (.list 4 (List.map TEdge.av p0.edges))) rfl rfl (Light.quiet (opLoadR rfl aggA_31 rfl rfl)) ?_
        refine ASL.q (v := (.int .i64 x9_l0)) rfl rfl (Light.quiet (opMove rfl rfl)) ?_
        obtain ⟨a32, ha32, hF⟩ := bindE hF
        refine ASL.q (v := (.rptr [(.int .i64 a32.from_), (.int .i64 a32.letter), (.int .i64 a32.to_), (.bool a32.good)])) rfl rfl (Light.quiet (kIx (f := TEdge.av) ha32 rfl rfl rfl elemA_31 sizeA_73 rfl)) ?_
        refine ASL.q (v := (TEdge.av a32)) rfl rfl (Light.quiet (opLoadRA rfl aggA_73 sizeA_73 rfl (nlt rfl) rfl)) ?_
        refine ASL.x rfl rfl (hNewZ hS [(.int .i64 0), (.int .i64 0), (.int .i64 0), (.bool false)] rfl zeroA_73 ⟨.inl rfl, .inl rfl, .inl rfl, .inl rfl, trivial⟩ ?_); rintro b10 G17 hK hS
        refine ASL.n rfl rfl (hPutA hS (j := 0) rfl rfl sizeA_73 rfl rfl rfl rfl rfl (nlt rfl) ?_); rintro G19 hS
        refine ASL.done ?_
        refine AWP.seqR rfl ?_
        refine ASL.q (v := (.rptr [(.list 1 (List.map (AV.int .i64) p1.ranks)), (.int .i64 p1.owing)])) rfl rfl (Light.quiet (opFieldAddrR rfl fieldA_28_0 rfl rfl)) ?_
        refine ASL.q (v := (.list 1 (List.map (AV.int .i64) p1.ranks))) rfl rfl (Light.quiet (opLoadR rfl aggA_26 rfl rfl)) ?_
        refine ASL.q (v := (.ptr b10 0)) rfl rfl (Light.quiet (opFieldAddr rfl fieldA_73_0 rfl rfl)) ?_
        refine ASL.q (v := (.int .i64 a32.from_)) rfl rfl (Light.quiet (kAt hS (j := 0) rfl rfl aggA_3 rfl rfl)) ?_
        obtain ⟨a38, ha38, hF⟩ := bindE hF
        refine ASL.q (v := (.rptr [(.int .i64 a38)])) rfl rfl (Light.quiet (kIx (f := (AV.int .i64)) ha38 rfl rfl rfl elemA_26 sizeA_3 rfl)) ?_
        refine ASL.q (v := (.int .i64 a38)) rfl rfl (Light.quiet (opLoadR rfl aggA_3 rfl rfl)) ?_
        refine ASL.q (v := (.int .i64 a38)) rfl rfl (Light.quiet (opAssign rfl rfl)) ?_
        refine ASL.done ?_
        refine AWP.seq ?_
        refine AWP.seqR rfl ?_
        refine ASL.q (v := (.ptr b10 1)) rfl rfl (Light.quiet (opFieldAddr rfl fieldA_73_1 rfl rfl)) ?_
        refine ASL.q (v := (.int .i64 a32.letter)) rfl rfl (Light.quiet (kAt hS (j := 0) rfl rfl aggA_3 rfl rfl)) ?_
        refine ASL.q (v := (.int .i64 p2)) rfl rfl (Light.quiet (opMove rfl rfl)) ?_
        refine ASL.q (v := (.bool (decide (a32.letter ≠ p2)))) rfl rfl (Light.quiet (opInt rfl rfl rfl rfl)) ?_
        obtain ⟨c44, hc44, hF⟩ := bndE hF
        refine ASL.q (v := (.bool c44)) rfl rfl ((Quiet.cast (Light.quiet (opMove rfl rfl)) (congrArg AV.bool hc44.symm))) ?_
        refine ASL.g (v := (.int .i64 a38)) (.bool c44) false rfl (wF _) rfl (fun hG => by have q0 := gN hG; subst q0; exact Light.quiet (opMove rfl rfl)) ?_
        refine ASL.g (v := (.bool (decide (a38 < 0)))) (.bool c44) false rfl (wF _) rfl (fun hG => by have q0 := gN hG; subst q0; exact Light.quiet (opInt rfl rfl rfl rfl)) ?_
        refine ASL.q (v := (.bool (c44 || (decide (a38 < 0))))) rfl rfl (Light.quiet (opPick (b := c44) rfl rfl (by cases c44 <;> rfl))) ?_
        refine ASL.done ?_
        refine AWP.ifB hF rfl (fun hc20 hF => ?_) (fun hc20 hF => ?_)
        · skip
          refine AWP.exit ?_
          refine QThen.ext ?_
          refine QBlock.hit ?_
          refine QThen.nrm ?_
          refine AWP.lastR rfl ?_
          refine ASL.q (v := (.int .i64 x9_l0)) rfl rfl (Light.quiet (opMove rfl rfl)) ?_
          refine ASL.q (v := (.int .i64 (W (x9_l0 + 1)))) rfl rfl (Light.quiet (opInt rfl rfl rfl rfl)) ?_
          refine ASL.q (v := (.int .i64 (W (x9_l0 + 1)))) rfl rfl (Light.quiet (opAssign rfl rfl)) ?_
          refine ASL.done ?_
          refine QThen.nrm ?_
          exact ⟨(y9, (W (x9_l0 + 1))), (), (someE hF).symm, ⟨rfl, rfl, rfl, rfl, rfl, trivial⟩, (hS.pick [1] rfl rfl)⟩
        · skip
          refine AWP.skip ?_
          refine QThen.nrm ?_
          refine AWP.seqM (fun e H => ∃ x11_3 : Int, E.Told e [(2, (.int .i64 p2)), (3, (.rptr [(.int .i64 p0.letters), (.int .i64 p0.states), (.int .i64 p0.start), (.list 4 (List.map TEdge.av p0.edges))])), (4, (.rptr [(.list 1 (List.map (AV.int .i64) p1.ranks)), (.int .i64 p1.owing)])), (7, w5), (9, (.int .i64 x9_l0)), (10, (.ptr b10 0)), (11, (.int .i64 x11_3))] ∧ E.Sep H [.row 1 w5 (List.map (AV.int .i64) y9), .cell b10 [(.int .i64 a32.from_), (.int .i64 a32.letter), (.int .i64 a32.to_), (.bool a32.good)]] ∧ spec_l13Bounds.k2 y9 a32 x9_l0 x11_3 = some x10) ?_ ?_
          · rintro e0 G23 ⟨x11_3, hT, hS, hF⟩; refine AWP.only _ hT ?_; unfold spec_l13Bounds.k2 at hF
            refine AWP.seqR rfl ?_
            refine ASL.q (v := w5) rfl rfl (Light.quiet (opMove rfl rfl)) ?_
            refine ASL.q (v := (.ptr b10 2)) rfl rfl (Light.quiet (opFieldAddr rfl fieldA_73_2 rfl rfl)) ?_
            refine ASL.q (v := (.int .i64 a32.to_)) rfl rfl (Light.quiet (kAt hS (j := 1) rfl rfl aggA_3 rfl rfl)) ?_
            obtain ⟨a57, ha57, hF⟩ := bindE hF
            refine ASL.q (v := (ptrTo w5 a32.to_.toNat 1)) rfl rfl (Light.quiet (kIxOx hS (j := 0) rfl ha57 rfl rfl rfl elemA_26 sizeA_3)) ?_
            refine ASL.q (v := (.int .i64 a57)) rfl rfl (Light.quiet (kLd (f := (AV.int .i64)) hS (j := 0) rfl ha57 rfl aggA_3 rfl (fun _ => rfl))) ?_
            refine ASL.q (v := (.bool (decide (a57 < 0)))) rfl rfl (Light.quiet (opInt rfl rfl rfl rfl)) ?_
            obtain ⟨c60, hc60, hF⟩ := bndE hF
            refine ASL.q (v := (.bool c60)) rfl rfl ((Quiet.cast (Light.quiet (opMove rfl rfl)) (congrArg AV.bool hc60.symm))) ?_
            refine ASL.g (v := (.int .i64 x11_3)) (.bool c60) false rfl (wF _) rfl (fun hG => by have q0 := gN hG; subst q0; exact Light.quiet (opMove rfl rfl)) ?_
            refine ASL.g (v := w5) (.bool c60) false rfl (wF _) rfl (fun hG => by have q0 := gN hG; subst q0; exact Light.quiet (opMove rfl rfl)) ?_
            refine ASL.g (v := (.ptr b10 2)) (.bool c60) false rfl (wF _) rfl (fun hG => by have q0 := gN hG; subst q0; exact Light.quiet (opFieldAddr rfl fieldA_73_2 rfl rfl)) ?_
            refine ASL.g (v := (.int .i64 a32.to_)) (.bool c60) false rfl (wF _) rfl (fun hG => by have q0 := gN hG; subst q0; exact Light.quiet (kAt hS (j := 1) rfl rfl aggA_3 rfl rfl)) ?_
            obtain ⟨a65, ha65, hF⟩ := bindE hF
            refine ASL.g (v := (ptrTo w5 a32.to_.toNat 1)) (.bool c60) false rfl (wF _) rfl (fun hG => by have q0 := gN hG; subst q0; exact Light.quiet (kIxOx hS (j := 0) rfl (whenE ha65) rfl rfl rfl elemA_26 sizeA_3)) ?_
            refine ASL.g (v := (.int .i64 a65)) (.bool c60) false rfl (wF _) rfl (fun hG => by have q0 := gN hG; subst q0; exact Light.quiet (kLd (f := (AV.int .i64)) hS (j := 0) rfl (whenE ha65) rfl aggA_3 rfl (fun _ => rfl))) ?_
            refine ASL.g (v := (.bool (decide (x11_3 < a65)))) (.bool c60) false rfl (wF _) rfl (fun hG => by have q0 := gN hG; subst q0; exact Light.quiet (opInt rfl rfl rfl rfl)) ?_
            refine ASL.q (v := (.bool (c60 || (decide (x11_3 < a65))))) rfl rfl (Light.quiet (opPick (b := c60) rfl rfl (by cases c60 <;> rfl))) ?_
            refine ASL.done ?_
            refine AWP.ifB hF rfl (fun hc21 hF => ?_) (fun hc21 hF => ?_)
            · skip
              refine AWP.lastR rfl ?_
              refine ASL.q (v := w5) rfl rfl (Light.quiet (opMove rfl rfl)) ?_
              refine ASL.q (v := (.ptr b10 2)) rfl rfl (Light.quiet (opFieldAddr rfl fieldA_73_2 rfl rfl)) ?_
              refine ASL.q (v := (.int .i64 a32.to_)) rfl rfl (Light.quiet (kAt hS (j := 1) rfl rfl aggA_3 rfl rfl)) ?_
              refine ASL.q (v := (.int .i64 x11_3)) rfl rfl (Light.quiet (opMove rfl rfl)) ?_
              obtain ⟨m73, hm73, hF⟩ := bindE hF
              refine ASL.q (v := (ptrTo w5 m73 1)) rfl rfl (Light.quiet (kIxO hS (j := 0) rfl hm73 rfl rfl rfl elemA_26 sizeA_3)) ?_
              refine ASL.n rfl rfl (hSt (f := (AV.int .i64)) (a := x11_3) hS (j := 0) rfl hm73 rfl sizeA_3 rfl rfl ⟨rfl, rfl, rfl⟩ ?_); rintro G22 hS
              refine ASL.done ?_
              refine QBlock.nrm ?_
              refine QThen.nrm ?_
              refine AWP.lastR rfl ?_
              refine ASL.q (v := (.int .i64 x9_l0)) rfl rfl (Light.quiet (opMove rfl rfl)) ?_
              refine ASL.q (v := (.int .i64 (W (x9_l0 + 1)))) rfl rfl (Light.quiet (opInt rfl rfl rfl rfl)) ?_
              refine ASL.q (v := (.int .i64 (W (x9_l0 + 1)))) rfl rfl (Light.quiet (opAssign rfl rfl)) ?_
              refine ASL.done ?_
              refine QThen.nrm ?_
              exact ⟨((y9.set m73 x11_3), (W (x9_l0 + 1))), (), (someE hF).symm, ⟨rfl, rfl, rfl, rfl, rfl, trivial⟩, (hS.pick [0] rfl rfl)⟩
            · skip
              refine AWP.skip ?_
              refine QBlock.nrm ?_
              refine QThen.nrm ?_
              refine AWP.lastR rfl ?_
              refine ASL.q (v := (.int .i64 x9_l0)) rfl rfl (Light.quiet (opMove rfl rfl)) ?_
              refine ASL.q (v := (.int .i64 (W (x9_l0 + 1)))) rfl rfl (Light.quiet (opInt rfl rfl rfl rfl)) ?_
              refine ASL.q (v := (.int .i64 (W (x9_l0 + 1)))) rfl rfl (Light.quiet (opAssign rfl rfl)) ?_
              refine ASL.done ?_
              refine QThen.nrm ?_
              exact ⟨(y9, (W (x9_l0 + 1))), (), (someE hF).symm, ⟨rfl, rfl, rfl, rfl, rfl, trivial⟩, (hS.pick [0] rfl rfl)⟩
          · skip
            refine AWP.seqR rfl ?_
            refine ASL.q (v := (.ptr b10 3)) rfl rfl (Light.quiet (opFieldAddr rfl fieldA_73_3 rfl rfl)) ?_
            refine ASL.q (v := (.bool a32.good)) rfl rfl (Light.quiet (kAt hS (j := 0) rfl rfl aggA_4 rfl rfl)) ?_
            refine ASL.done ?_
            refine AWP.ifB hF rfl (fun hc24 hF => ?_) (fun hc24 hF => ?_)
            · skip
              refine AWP.lastR rfl ?_
              refine ASL.q (v := (.int .i64 a38)) rfl rfl (Light.quiet (opMove rfl rfl)) ?_
              refine ASL.q (v := (.int .i64 a38)) rfl rfl (Light.quiet (opMove rfl rfl)) ?_
              refine ASL.q (v := (.int .i64 (Int.tmod a38 2))) rfl rfl (Light.quiet (opRem rfl rfl rfl (by decide) rfl)) ?_
              refine ASL.q (v := (.int .i64 (W (a38 - ((Int.tmod a38 2)))))) rfl rfl (Light.quiet (opInt rfl rfl rfl rfl)) ?_
              refine ASL.q (v := (.int .i64 (W (a38 - ((Int.tmod a38 2)))))) rfl rfl (Light.quiet (opAssign rfl rfl)) ?_
              refine ASL.done ?_
              refine QThen.nrm ?_
              exact ⟨(W (a38 - ((Int.tmod a38 2)))), ⟨rfl, rfl, rfl, rfl, rfl, rfl, rfl, trivial⟩, (hS.pick [1, 0] rfl rfl), hF⟩
            · skip
              refine AWP.skip ?_
              refine QThen.nrm ?_
              exact ⟨a38, ⟨rfl, rfl, rfl, rfl, rfl, rfl, rfl, trivial⟩, (hS.pick [1, 0] rfl rfl), hF⟩
      · skip
        refine AWP.exit ?_
        refine QThen.ext ?_
        refine QThen.ext ?_
        refine QBlock.hit ?_
        obtain rfl := (hx11 _ (someE hF).symm)
        have hF := hR14
        refine QThen.nrm ?_
        exact ⟨y9, ⟨rfl, trivial⟩, (hS.pick [0] rfl rfl), hF⟩
  · skip
    refine AWP.seqR rfl ?_
    refine ASL.q (v := (.int .i64 0)) rfl rfl (Light.quiet (opAssign rfl rfl)) ?_
    refine ASL.done ?_
    refine AWP.block ?_
    obtain ⟨o32, hL31, hR33⟩ := bindE hF
    refine AWP.loopF (ω := AV) hL31 (fun s w => [(2, (.int .i64 p2)), (3, (.rptr [(.int .i64 p0.letters), (.int .i64 p0.states), (.int .i64 p0.start), (.list 4 (List.map TEdge.av p0.edges))])), (4, (.rptr [(.list 1 (List.map (AV.int .i64) p1.ranks)), (.int .i64 p1.owing)])), (7, w), (8, (.int .i64 s.2))]) (fun s w => [.row 1 w (List.map (AV.int .i64) s.1)]) v12 ⟨rfl, rfl, rfl, rfl, rfl, trivial⟩ (hS.pick [0] rfl rfl) ?_
    rintro ⟨y26, x8_l1⟩ w27 G34 hS x29 hF hx30
    try dsimp only at hS ⊢
    have hF : spec_l13Bounds.b1 p0 y26 x8_l1 = some x29 := hF; unfold spec_l13Bounds.b1 at hF
    refine AWP.seq ?_
    refine AWP.seqR rfl ?_
    refine ASL.q (v := (.int .i64 x8_l1)) rfl rfl (Light.quiet (opMove rfl rfl)) ?_
    refine ASL.q (v := (.rptr [(.int .i64 p0.states), (.int .i64 p0.start), (.list 4 (List.map TEdge.av p0.edges))])) rfl rfl (Light.quiet (opFieldAddrR rfl fieldA_33_1 rfl rfl)) ?_
    refine ASL.q (v := (.int .i64 p0.states)) rfl rfl (Light.quiet (opLoadR rfl aggA_3 rfl rfl)) ?_
    refine ASL.q (v := (.bool (decide (x8_l1 < p0.states)))) rfl rfl (Light.quiet (opInt rfl rfl rfl rfl)) ?_
    refine ASL.done ?_
    refine AWP.ifP hF rfl (fun hc35 hF => ?_) (fun hc35 hF => ?_)
    · skip
      refine AWP.skip ?_
      refine QThen.nrm ?_
      refine AWP.seq ?_
      refine AWP.block ?_
      refine AWP.lastR rfl ?_
      refine ASL.q (v := w27) rfl rfl (Light.quiet (opMove rfl rfl)) ?_
      refine ASL.q (v := (.list 1 (List.map (AV.int .i64) [(-1)]))) rfl rfl ((qLit (xs := [(.int .i64 (-1))]) rfl elemA_26 sizeA_3 zeroA_3 rfl rfl rfl rfl (by simp [cells]) (nlt rfl))) ?_
      obtain ⟨z21, hz21, hF⟩ := bindE hF
      refine ASL.x rfl rfl (hApp (f := (AV.int .i64)) (ws := [(-1)]) hS (j := 0) rfl hz21 rfl elemA_26 rfl sizeA_3 bytesA_3 zeroA_3 rfl rfl rfl (fun _ => rfl) ?_); rintro v21 G36 hS
      refine ASL.q (v := v21) rfl rfl (Light.quiet (opAssign rfl rfl)) ?_
      refine ASL.done ?_
      refine QBlock.nrm ?_
      refine QThen.nrm ?_
      refine AWP.lastR rfl ?_
      refine ASL.q (v := (.int .i64 x8_l1)) rfl rfl (Light.quiet (opMove rfl rfl)) ?_
      refine ASL.q (v := (.int .i64 (W (x8_l1 + 1)))) rfl rfl (Light.quiet (opInt rfl rfl rfl rfl)) ?_
      refine ASL.q (v := (.int .i64 (W (x8_l1 + 1)))) rfl rfl (Light.quiet (opAssign rfl rfl)) ?_
      refine ASL.done ?_
      refine QThen.nrm ?_
      exact ⟨(z21, (W (x8_l1 + 1))), v21, (someE hF).symm, ⟨rfl, rfl, rfl, rfl, rfl, trivial⟩, (hS.pick [0] rfl rfl)⟩
    · skip
      refine AWP.exit ?_
      refine QThen.ext ?_
      refine QThen.ext ?_
      refine QBlock.hit ?_
      obtain rfl := (hx30 _ (someE hF).symm)
      have hF := hR33
      refine QThen.nrm ?_
      exact ⟨y26, w27, ⟨rfl, rfl, rfl, rfl, trivial⟩, (hS.pick [0] rfl rfl), hF⟩

set_option maxRecDepth 10000 in
theorem spec_l1Min_ok (p0 : Int) (p1 : Int) : PC Try.prog 67 [(.int .i64 p0), (.int .i64 p1)] fun v => v = (.int .i64 (spec_l1Min p0 p1)) := by
  generalize hF : spec_l1Min p0 p1 = r
  refine PC.enter Try.func67 rfl Try.ntmps67 (by simp) ?_
  have hS := Sep.void; unfold spec_l1Min at hF
  refine AWP.seqR rfl ?_
  refine ASL.q (v := (.int .i64 0)) rfl rfl (Light.quiet (opAssign rfl rfl)) ?_
  refine ASL.done ?_
  refine AWP.seq ?_
  refine AWP.seqR rfl ?_
  refine ASL.q (v := (.int .i64 p0)) rfl rfl (Light.quiet (opMove rfl rfl)) ?_
  refine ASL.q (v := (.int .i64 p1)) rfl rfl (Light.quiet (opMove rfl rfl)) ?_
  refine ASL.q (v := (.bool (decide (p0 < p1)))) rfl rfl (Light.quiet (opInt rfl rfl rfl rfl)) ?_
  refine ASL.done ?_
  refine AWP.ifP hF rfl (fun hc1 hF => ?_) (fun hc1 hF => ?_)
  · skip
    refine AWP.seqR rfl ?_
    refine ASL.q (v := (.int .i64 p0)) rfl rfl (Light.quiet (opMove rfl rfl)) ?_
    refine ASL.q (v := (.int .i64 p0)) rfl rfl (Light.quiet (opAssign rfl rfl)) ?_
    refine ASL.done ?_
    refine AWP.ret ?_
    refine QThen.rt ?_
    obtain rfl := hF
    exact QRet.sole (v := (.int .i64 p0)) ⟨rfl, trivial⟩ rfl
  · skip
    refine AWP.skip ?_
    refine QThen.nrm ?_
    refine AWP.seqR rfl ?_
    refine ASL.q (v := (.int .i64 p1)) rfl rfl (Light.quiet (opMove rfl rfl)) ?_
    refine ASL.q (v := (.int .i64 p1)) rfl rfl (Light.quiet (opAssign rfl rfl)) ?_
    refine ASL.done ?_
    refine AWP.ret ?_
    obtain rfl := hF
    exact QRet.sole (v := (.int .i64 p1)) ⟨rfl, trivial⟩ rfl

set_option maxRecDepth 10000 in
theorem spec_l4Next_ok {p0 : TAuto} {p1 : Int} {p2 : Int} {r : Int} (hF : spec_l4Next p0 p1 p2 = some r) : PC Try.prog 68 [(TAuto.av p0), (.int .i64 p1), (.int .i64 p2)] fun v => v = (.int .i64 r) := by
  refine PC.enter Try.func68 rfl Try.ntmps68 (by simp) ?_
  have hS := Sep.void; unfold spec_l4Next at hF
  refine AWP.seqR rfl ?_
  refine ASL.q (v := (.rptr [(.int .i64 p0.letters), (.int .i64 p0.states), (.int .i64 p0.start), (.list 4 (List.map TEdge.av p0.edges))])) rfl rfl ((qBoxI (v := (TAuto.av p0)) rfl rfl rfl rfl)) ?_
  refine ASL.q (v := (.int .i64 0)) rfl rfl (Light.quiet (opAssign rfl rfl)) ?_
  refine ASL.done ?_
  refine AWP.seqR rfl ?_
  refine ASL.q (v := (.int .i64 0)) rfl rfl (Light.quiet (opAssign rfl rfl)) ?_
  refine ASL.done ?_
  refine AWP.seqM (fun e H => ∃ x7_1 : Int, E.Told e [(7, (.int .i64 x7_1))] ∧ E.Sep H [] ∧ spec_l4Next.k0 x7_1 = some r) ?_ ?_
  · rintro e0 G1 ⟨x7_1, hT, hS, hF⟩; refine AWP.only _ hT ?_; unfold spec_l4Next.k0 at hF
    refine AWP.seqR rfl ?_
    refine ASL.q (v := (.int .i64 x7_1)) rfl rfl (Light.quiet (opMove rfl rfl)) ?_
    refine ASL.q (v := (.int .i64 x7_1)) rfl rfl (Light.quiet (opAssign rfl rfl)) ?_
    refine ASL.done ?_
    refine AWP.ret ?_
    obtain rfl := someE hF
    exact QRet.sole (v := (.int .i64 x7_1)) ⟨rfl, trivial⟩ rfl
  · skip
    refine AWP.seqR rfl ?_
    refine ASL.q (v := (.int .i64 0)) rfl rfl (Light.quiet (opAssign rfl rfl)) ?_
    refine ASL.done ?_
    refine AWP.block ?_
    obtain ⟨o5, hL4, hR6⟩ := bindE hF
    refine AWP.loopF (ω := Unit) hL4 (fun s w => [(1, (.int .i64 p1)), (2, (.int .i64 p2)), (3, (.rptr [(.int .i64 p0.letters), (.int .i64 p0.states), (.int .i64 p0.start), (.list 4 (List.map TEdge.av p0.edges))])), (7, (.int .i64 s.1)), (8, (.int .i64 s.2))]) (fun s w => []) () ⟨rfl, rfl, rfl, rfl, rfl, trivial⟩ (hS.pick [] rfl rfl) ?_
    rintro ⟨x7_l0, x8_l0⟩ _ G7 hS x2 hF hx3
    try dsimp only at hS ⊢
    have hF : spec_l4Next.b0 p0 p2 p1 x7_l0 x8_l0 = some x2 := hF; unfold spec_l4Next.b0 at hF
    refine AWP.seq ?_
    refine AWP.seqR rfl ?_
    refine ASL.q (v := (.int .i64 x8_l0)) rfl rfl (Light.quiet (opMove rfl rfl)) ?_
    refine ASL.q (v := (.rptr [(.list 4 (List.map TEdge.av p0.edges))])) rfl rfl (Light.quiet (opFieldAddrR rfl fieldA_33_3 rfl rfl)) ?_
    refine ASL.q (v := (.list 4 (List.map TEdge.av p0.edges))) rfl rfl (Light.quiet (opLoadR rfl aggA_31 rfl rfl)) ?_
    refine ASL.q (v := (.int .i64 (p0.edges.length : Int))) rfl rfl (Light.quiet (opLenMap (f := TEdge.av) rfl rfl rfl lenT_31 rfl)) ?_
    refine ASL.q (v := (.bool (decide (x8_l0 < ((p0.edges.length : Int)))))) rfl rfl (Light.quiet (opInt rfl rfl rfl rfl)) ?_
    refine ASL.done ?_
    refine AWP.ifP hF rfl (fun hc8 hF => ?_) (fun hc8 hF => ?_)
    · skip
      refine AWP.skip ?_
      refine QThen.nrm ?_
      refine AWP.seq ?_
      refine AWP.block ?_
      refine AWP.seqR rfl ?_
      refine ASL.q (v := (.rptr [(.list 4 (List.map TEdge.av p0.edges))])) rfl rfl (Light.quiet (opFieldAddrR rfl fieldA_33_3 rfl rfl)) ?_
      refine ASL.q (v := (.list 4 (List.map TEdge.av p0.edges))) rfl rfl (Light.quiet (opLoadR rfl aggA_31 rfl rfl)) ?_
      refine ASL.q (v := (.int .i64 x8_l0)) rfl rfl (Light.quiet (opMove rfl rfl)) ?_
      obtain ⟨a20, ha20, hF⟩ := bindE hF
      refine ASL.q (v := (.rptr [(.int .i64 a20.from_), (.int .i64 a20.letter), (.int .i64 a20.to_), (.bool a20.good)])) rfl rfl (Light.quiet (kIx (f := TEdge.av) ha20 rfl rfl rfl elemA_31 sizeA_73 rfl)) ?_
      refine ASL.q (v := (TEdge.av a20)) rfl rfl (Light.quiet (opLoadRA rfl aggA_73 sizeA_73 rfl (nlt rfl) rfl)) ?_
      refine ASL.x rfl rfl (hNewZ hS [(.int .i64 0), (.int .i64 0), (.int .i64 0), (.bool false)] rfl zeroA_73 ⟨.inl rfl, .inl rfl, .inl rfl, .inl rfl, trivial⟩ ?_); rintro b9 G9 hK hS
      refine ASL.n rfl rfl (hPutA hS (j := 0) rfl rfl sizeA_73 rfl rfl rfl rfl rfl (nlt rfl) ?_); rintro G11 hS
      refine ASL.done ?_
      refine AWP.seqR rfl ?_
      refine ASL.q (v := (.ptr b9 1)) rfl rfl (Light.quiet (opFieldAddr rfl fieldA_73_1 rfl rfl)) ?_
      refine ASL.q (v := (.int .i64 a20.letter)) rfl rfl (Light.quiet (kAt hS (j := 0) rfl rfl aggA_3 rfl rfl)) ?_
      refine ASL.q (v := (.int .i64 p2)) rfl rfl (Light.quiet (opMove rfl rfl)) ?_
      refine ASL.q (v := (.bool (decide (a20.letter = p2)))) rfl rfl (Light.quiet (opInt rfl rfl rfl rfl)) ?_
      obtain ⟨c26, hc26, hF⟩ := bndE hF
      refine ASL.q (v := (.bool c26)) rfl rfl ((Quiet.cast (Light.quiet (opMove rfl rfl)) (congrArg AV.bool hc26.symm))) ?_
      refine ASL.g (v := (.int .i64 p1)) (.bool c26) true rfl (wT _) rfl (fun hG => by have q0 := hG; subst q0; exact Light.quiet (opMove rfl rfl)) ?_
      refine ASL.g (v := (.ptr b9 0)) (.bool c26) true rfl (wT _) rfl (fun hG => by have q0 := hG; subst q0; exact Light.quiet (opFieldAddr rfl fieldA_73_0 rfl rfl)) ?_
      refine ASL.g (v := (.int .i64 a20.from_)) (.bool c26) true rfl (wT _) rfl (fun hG => by have q0 := hG; subst q0; exact Light.quiet (kAt hS (j := 0) rfl rfl aggA_3 rfl rfl)) ?_
      obtain ⟨a30, ha30, hF⟩ := bindE hF
      refine ASL.g (v := (.bool a30)) (.bool c26) true rfl (wT _) rfl (fun hG => by have q0 := hG; subst q0; exact (qCall rfl rfl call_30 (spec_l1Has_ok (whenE ha30)) rfl)) ?_
      refine ASL.q (v := (.bool (c26 && a30))) rfl rfl (Light.quiet (opPick (b := c26) rfl rfl (by cases c26 <;> rfl))) ?_
      refine ASL.done ?_
      refine AWP.ifB hF rfl (fun hc12 hF => ?_) (fun hc12 hF => ?_)
      · skip
        refine AWP.lastR rfl ?_
        refine ASL.q (v := (.int .i64 x7_l0)) rfl rfl (Light.quiet (opMove rfl rfl)) ?_
        refine ASL.q (v := (.ptr b9 2)) rfl rfl (Light.quiet (opFieldAddr rfl fieldA_73_2 rfl rfl)) ?_
        refine ASL.q (v := (.int .i64 a20.to_)) rfl rfl (Light.quiet (kAt hS (j := 0) rfl rfl aggA_3 rfl rfl)) ?_
        obtain ⟨a35, ha35, hF⟩ := bindE hF
        refine ASL.q (v := (.int .i64 a35)) rfl rfl ((qCall rfl rfl call_54 (spec_l1Bit_ok ha35) rfl)) ?_
        refine ASL.q (v := (.int .i64 (bOr .i64 x7_l0 a35))) rfl rfl (Light.quiet (opInt rfl rfl rfl rfl)) ?_
        refine ASL.q (v := (.int .i64 (bOr .i64 x7_l0 a35))) rfl rfl (Light.quiet (opAssign rfl rfl)) ?_
        refine ASL.done ?_
        refine QBlock.nrm ?_
        refine QThen.nrm ?_
        refine AWP.lastR rfl ?_
        refine ASL.q (v := (.int .i64 x8_l0)) rfl rfl (Light.quiet (opMove rfl rfl)) ?_
        refine ASL.q (v := (.int .i64 (W (x8_l0 + 1)))) rfl rfl (Light.quiet (opInt rfl rfl rfl rfl)) ?_
        refine ASL.q (v := (.int .i64 (W (x8_l0 + 1)))) rfl rfl (Light.quiet (opAssign rfl rfl)) ?_
        refine ASL.done ?_
        refine QThen.nrm ?_
        exact ⟨((bOr .i64 x7_l0 a35), (W (x8_l0 + 1))), (), (someE hF).symm, ⟨rfl, rfl, rfl, rfl, rfl, trivial⟩, (hS.pick [] rfl rfl)⟩
      · skip
        refine AWP.skip ?_
        refine QBlock.nrm ?_
        refine QThen.nrm ?_
        refine AWP.lastR rfl ?_
        refine ASL.q (v := (.int .i64 x8_l0)) rfl rfl (Light.quiet (opMove rfl rfl)) ?_
        refine ASL.q (v := (.int .i64 (W (x8_l0 + 1)))) rfl rfl (Light.quiet (opInt rfl rfl rfl rfl)) ?_
        refine ASL.q (v := (.int .i64 (W (x8_l0 + 1)))) rfl rfl (Light.quiet (opAssign rfl rfl)) ?_
        refine ASL.done ?_
        refine QThen.nrm ?_
        exact ⟨(x7_l0, (W (x8_l0 + 1))), (), (someE hF).symm, ⟨rfl, rfl, rfl, rfl, rfl, trivial⟩, (hS.pick [] rfl rfl)⟩
    · skip
      refine AWP.exit ?_
      refine QThen.ext ?_
      refine QThen.ext ?_
      refine QBlock.hit ?_
      obtain rfl := (hx3 _ (someE hF).symm)
      have hF := hR6
      refine QThen.nrm ?_
      exact ⟨x7_l0, ⟨rfl, trivial⟩, (hS.pick [] rfl rfl), hF⟩

set_option maxRecDepth 10000 in
theorem spec_l13Next_ok {p0 : TAuto} {p1 : TRankState} {p2 : Int} {r : (List TRankState)} (hF : spec_l13Next p0 p1 p2 = some r) : PO Try.prog 46 [(TAuto.av p0), (TRankState.av p1), (.int .i64 p2)] 2 (List.map TRankState.av r) := by
  refine HC.enter Try.func46 rfl Try.ntmps46 (by simp) ?_
  have hS := Sep.void; unfold spec_l13Next at hF
  refine AWP.seqR rfl ?_
  refine ASL.q (v := (.rptr [(.int .i64 p0.letters), (.int .i64 p0.states), (.int .i64 p0.start), (.list 4 (List.map TEdge.av p0.edges))])) rfl rfl ((qBoxI (v := (TAuto.av p0)) rfl rfl rfl rfl)) ?_
  refine ASL.q (v := (.rptr [(.list 1 (List.map (AV.int .i64) p1.ranks)), (.int .i64 p1.owing)])) rfl rfl ((qBoxI (v := (TRankState.av p1)) rfl rfl rfl rfl)) ?_
  have hS := hNil (s := 2) (f := TRankState.av) hS
  refine ASL.q (v := .nil) rfl rfl (Light.quiet (opAssign rfl rfl)) ?_
  refine ASL.done ?_
  refine AWP.seqR rfl ?_
  refine ASL.q (v := (TAuto.av p0)) rfl rfl (Light.quiet (opLoadRA rfl aggA_33 sizeA_33 rfl (nlt rfl) rfl)) ?_
  refine ASL.q (v := (TRankState.av p1)) rfl rfl (Light.quiet (opLoadRA rfl aggA_28 sizeA_28 rfl (nlt rfl) rfl)) ?_
  refine ASL.q (v := (.int .i64 p2)) rfl rfl (Light.quiet (opMove rfl rfl)) ?_
  obtain ⟨a21, ha21, hF⟩ := bindE hF
  refine ASL.q (v := (.list 1 (List.map (AV.int .i64) a21))) rfl rfl ((qCall rfl rfl call_66 (PO.list (spec_l13Bounds_ok ha21)) rfl)) ?_
  refine ASL.q (v := (.list 1 (List.map (AV.int .i64) a21))) rfl rfl (Light.quiet (opAssign rfl rfl)) ?_
  refine ASL.done ?_
  refine AWP.seqR rfl ?_
  refine ASL.q (v := (.list 1 (List.map (AV.int .i64) []))) rfl rfl ((qLit (xs := []) rfl elemA_26 sizeA_3 zeroA_3 rfl rfl rfl rfl (by simp [cells]) (nlt rfl))) ?_
  refine ASL.q (v := (.list 1 (List.map (fun xs : (List Int) => AV.list 1 (List.map (AV.int .i64) xs)) [[]]))) rfl rfl ((qLit (xs := [(.list 1 (List.map (AV.int .i64) []))]) rfl elemA_85 sizeA_26 zeroA_26 rfl rfl rfl rfl (by simp [cells]) (nlt rfl))) ?_
  refine ASL.q (v := (.list 1 (List.map (fun xs : (List Int) => AV.list 1 (List.map (AV.int .i64) xs)) [[]]))) rfl rfl (Light.quiet (opAssign rfl rfl)) ?_
  refine ASL.done ?_
  refine AWP.seqM (fun e H => ∃ x8_1 : (List (List Int)), E.Told e [(2, (.int .i64 p2)), (3, (.rptr [(.int .i64 p0.letters), (.int .i64 p0.states), (.int .i64 p0.start), (.list 4 (List.map TEdge.av p0.edges))])), (4, (.rptr [(.list 1 (List.map (AV.int .i64) p1.ranks)), (.int .i64 p1.owing)])), (8, (.list 1 (List.map (fun xs : (List Int) => AV.list 1 (List.map (AV.int .i64) xs)) x8_1)))] ∧ E.Sep H [] ∧ spec_l13Next.k0 p0 p1 p2 x8_1 = some r) ?_ ?_
  · rintro e0 G36 ⟨x8_1, hT, hS, hF⟩; refine AWP.only _ hT ?_; unfold spec_l13Next.k0 at hF
    refine AWP.seqR rfl ?_
    refine ASL.q (v := (.rptr [(.int .i64 p0.states), (.int .i64 p0.start), (.list 4 (List.map TEdge.av p0.edges))])) rfl rfl (Light.quiet (opFieldAddrR rfl fieldA_33_1 rfl rfl)) ?_
    refine ASL.q (v := (.int .i64 p0.states)) rfl rfl (Light.quiet (opLoadR rfl aggA_3 rfl rfl)) ?_
    obtain ⟨u2, hu2, hF⟩ := bindE hF
    refine ASL.q (v := (.int .i64 (shl .i64 1 p0.states))) rfl rfl (Light.quiet (opShl rfl rfl rfl (of_decide_eq_true (chkE hu2)) rfl)) ?_
    refine ASL.q (v := (.int .i64 (W (((shl .i64 1 p0.states)) - 1)))) rfl rfl (Light.quiet (opInt rfl rfl rfl rfl)) ?_
    refine ASL.q (v := (.int .i64 (W (((shl .i64 1 p0.states)) - 1)))) rfl rfl (Light.quiet (opAssign rfl rfl)) ?_
    refine ASL.done ?_
    refine AWP.seqM (fun e H => ∃ x13_2 : Int, E.Told e [(3, (.rptr [(.int .i64 p0.letters), (.int .i64 p0.states), (.int .i64 p0.start), (.list 4 (List.map TEdge.av p0.edges))])), (8, (.list 1 (List.map (fun xs : (List Int) => AV.list 1 (List.map (AV.int .i64) xs)) x8_1))), (13, (.int .i64 x13_2))] ∧ E.Sep H [] ∧ spec_l13Next.k1 x8_1 p0 x13_2 = some r) ?_ ?_
    · rintro e0 G34 ⟨x13_2, hT, hS, hF⟩; refine AWP.only _ hT ?_; unfold spec_l13Next.k1 at hF
      refine AWP.seqR rfl ?_
      refine ASL.x rfl rfl (hLit (f := TRankState.av) (zs := []) hS rfl rfl elemA_44 sizeA_28 zeroA_28 rfl rfl rfl rfl (by simp [cells, TRankState.av]) (nlt rfl) ?_); rintro v75 G3 hK hS
      refine ASL.q (v := v75) rfl rfl (Light.quiet (opAssign rfl rfl)) ?_
      refine ASL.done ?_
      refine AWP.seqM (fun e H => ∃ y5 : (List TRankState), ∃ w6 : AV, E.Told e [(14, w6)] ∧ E.Sep H [.row 2 w6 (List.map TRankState.av y5)] ∧ spec_l13Next.k2 y5 = some r) ?_ ?_
      · rintro e0 G8 ⟨y5, w6, hT, hS, hF⟩; refine AWP.only _ hT ?_; unfold spec_l13Next.k2 at hF
        refine AWP.seqR rfl ?_
        refine ASL.q (v := w6) rfl rfl (Light.quiet (opMove rfl rfl)) ?_
        refine ASL.q (v := w6) rfl rfl (Light.quiet (opAssign rfl rfl)) ?_
        refine ASL.done ?_
        refine AWP.ret ?_
        obtain rfl := someE hF
        exact QRet.sole (v := w6) ⟨rfl, trivial⟩ (hS.get (k := 0) rfl)
      · skip
        refine AWP.seqR rfl ?_
        refine ASL.q (v := (.int .i64 0)) rfl rfl (Light.quiet (opAssign rfl rfl)) ?_
        refine ASL.done ?_
        refine AWP.block ?_
        obtain ⟨o15, hL14, hR16⟩ := bindE hF
        refine AWP.loopF (ω := AV) hL14 (fun s w => [(3, (.rptr [(.int .i64 p0.letters), (.int .i64 p0.states), (.int .i64 p0.start), (.list 4 (List.map TEdge.av p0.edges))])), (8, (.list 1 (List.map (fun xs : (List Int) => AV.list 1 (List.map (AV.int .i64) xs)) x8_1))), (13, (.int .i64 x13_2)), (14, w), (15, (.int .i64 s.2))]) (fun s w => [.row 2 w (List.map TRankState.av s.1)]) v75 ⟨rfl, rfl, rfl, rfl, rfl, trivial⟩ (hS.pick [0] rfl rfl) ?_
        rintro ⟨y9, x15_l0⟩ w10 G17 hS x12 hF hx13
        try dsimp only at hS ⊢
        have hF : spec_l13Next.b0 x8_1 p0 x13_2 y9 x15_l0 = some x12 := hF; unfold spec_l13Next.b0 at hF
        refine AWP.seq ?_
        refine AWP.seqR rfl ?_
        refine ASL.q (v := (.int .i64 x15_l0)) rfl rfl (Light.quiet (opMove rfl rfl)) ?_
        refine ASL.q (v := (.list 1 (List.map (fun xs : (List Int) => AV.list 1 (List.map (AV.int .i64) xs)) x8_1))) rfl rfl (Light.quiet (opMove rfl rfl)) ?_
        refine ASL.q (v := (.int .i64 (x8_1.length : Int))) rfl rfl (Light.quiet (opLenMap (f := (fun xs : (List Int) => AV.list 1 (List.map (AV.int .i64) xs))) rfl rfl rfl lenT_85 rfl)) ?_
        refine ASL.q (v := (.bool (decide (x15_l0 < ((x8_1.length : Int)))))) rfl rfl (Light.quiet (opInt rfl rfl rfl rfl)) ?_
        refine ASL.done ?_
        refine AWP.ifP hF rfl (fun hc18 hF => ?_) (fun hc18 hF => ?_)
        · skip
          refine AWP.skip ?_
          refine QThen.nrm ?_
          refine AWP.seqM (fun e H => ∃ y19 : (List TRankState), ∃ w20 : AV, E.Told e [(3, (.rptr [(.int .i64 p0.letters), (.int .i64 p0.states), (.int .i64 p0.start), (.list 4 (List.map TEdge.av p0.edges))])), (8, (.list 1 (List.map (fun xs : (List Int) => AV.list 1 (List.map (AV.int .i64) xs)) x8_1))), (13, (.int .i64 x13_2)), (14, w20), (15, (.int .i64 x15_l0))] ∧ E.Sep H [.row 2 w20 (List.map TRankState.av y19)] ∧ spec_l13Next.k3 x15_l0 y19 = some x12) ?_ ?_
          · rintro e0 G22 ⟨y19, w20, hT, hS, hF⟩; refine AWP.only _ hT ?_; unfold spec_l13Next.k3 at hF
            refine AWP.lastR rfl ?_
            refine ASL.q (v := (.int .i64 x15_l0)) rfl rfl (Light.quiet (opMove rfl rfl)) ?_
            refine ASL.q (v := (.int .i64 (W (x15_l0 + 1)))) rfl rfl (Light.quiet (opInt rfl rfl rfl rfl)) ?_
            refine ASL.q (v := (.int .i64 (W (x15_l0 + 1)))) rfl rfl (Light.quiet (opAssign rfl rfl)) ?_
            refine ASL.done ?_
            refine QThen.nrm ?_
            exact ⟨(y19, (W (x15_l0 + 1))), w20, (someE hF).symm, ⟨rfl, rfl, rfl, rfl, rfl, trivial⟩, (hS.pick [0] rfl rfl)⟩
          · skip
            refine AWP.block ?_
            refine AWP.seqR rfl ?_
            refine ASL.q (v := (.int .i64 0)) rfl rfl (Light.quiet (opAssign rfl rfl)) ?_
            refine ASL.done ?_
            refine AWP.seqM (fun e H => ∃ x16_5 : Int, E.Told e [(3, (.rptr [(.int .i64 p0.letters), (.int .i64 p0.states), (.int .i64 p0.start), (.list 4 (List.map TEdge.av p0.edges))])), (8, (.list 1 (List.map (fun xs : (List Int) => AV.list 1 (List.map (AV.int .i64) xs)) x8_1))), (13, (.int .i64 x13_2)), (14, w10), (15, (.int .i64 x15_l0)), (16, (.int .i64 x16_5))] ∧ E.Sep H [.row 2 w10 (List.map TRankState.av y9)] ∧ spec_l13Next.k4 x8_1 x15_l0 y9 x16_5 = some x12) ?_ ?_
            · rintro e0 G25 ⟨x16_5, hT, hS, hF⟩; refine AWP.only _ hT ?_; unfold spec_l13Next.k4 at hF
              refine AWP.lastR rfl ?_
              refine ASL.q (v := w10) rfl rfl (Light.quiet (opMove rfl rfl)) ?_
              refine ASL.q (v := (.list 1 (List.map (fun xs : (List Int) => AV.list 1 (List.map (AV.int .i64) xs)) x8_1))) rfl rfl (Light.quiet (opMove rfl rfl)) ?_
              refine ASL.q (v := (.int .i64 x15_l0)) rfl rfl (Light.quiet (opMove rfl rfl)) ?_
              obtain ⟨a119, ha119, hF⟩ := bindE hF
              refine ASL.q (v := (.rptr [(.list 1 (List.map (AV.int .i64) a119))])) rfl rfl (Light.quiet (kIx (f := (fun xs : (List Int) => AV.list 1 (List.map (AV.int .i64) xs))) ha119 rfl rfl rfl elemA_85 sizeA_26 rfl)) ?_
              refine ASL.q (v := (.list 1 (List.map (AV.int .i64) a119))) rfl rfl (Light.quiet (opLoadR rfl aggA_26 rfl rfl)) ?_
              refine ASL.q (v := (.int .i64 x16_5)) rfl rfl (Light.quiet (opMove rfl rfl)) ?_
              refine ASL.q (v := (.agg [(.list 1 (List.map (AV.int .i64) a119)), (.int .i64 x16_5)])) rfl rfl (Light.quiet (opBuildZ (zs := [(.list 1 (List.map (AV.int .i64) [])), (.int .i64 0)]) rfl plan_28 zeroA_28 ⟨.inr ⟨_, rfl, rfl⟩, .inl rfl, trivial⟩ rfl)) ?_
              refine ASL.q (v := (.list 2 (List.map TRankState.av [(TRankState.mk a119 x16_5)]))) rfl rfl ((qLit (xs := [(.agg [(.list 1 (List.map (AV.int .i64) a119)), (.int .i64 x16_5)])]) rfl elemA_44 sizeA_28 zeroA_28 rfl rfl rfl rfl (by simp [cells, TRankState.av]) (nlt rfl))) ?_
              obtain ⟨z124, hz124, hF⟩ := bindE hF
              refine ASL.x rfl rfl (hApp (f := TRankState.av) (ws := [(TRankState.mk a119 x16_5)]) hS (j := 0) rfl hz124 rfl elemA_44 rfl sizeA_28 bytesA_28 zeroA_28 rfl rfl rfl (fun _ => rfl) ?_); rintro v124 G23 hS
              refine ASL.q (v := v124) rfl rfl (Light.quiet (opAssign rfl rfl)) ?_
              refine ASL.done ?_
              refine QBlock.nrm ?_
              refine QThen.nrm ?_
              exact ⟨z124, v124, ⟨rfl, rfl, rfl, rfl, rfl, trivial⟩, (hS.pick [0] rfl rfl), hF⟩
            · skip
              refine AWP.seqR rfl ?_
              refine ASL.q (v := (.int .i64 0)) rfl rfl (Light.quiet (opAssign rfl rfl)) ?_
              refine ASL.done ?_
              refine AWP.block ?_
              obtain ⟨o29, hL28, hR30⟩ := bindE hF
              refine AWP.loopF (ω := Unit) hL28 (fun s w => [(3, (.rptr [(.int .i64 p0.letters), (.int .i64 p0.states), (.int .i64 p0.start), (.list 4 (List.map TEdge.av p0.edges))])), (8, (.list 1 (List.map (fun xs : (List Int) => AV.list 1 (List.map (AV.int .i64) xs)) x8_1))), (13, (.int .i64 x13_2)), (14, w10), (15, (.int .i64 x15_l0)), (16, (.int .i64 s.1)), (17, (.int .i64 s.2))]) (fun s w => [.row 2 w10 (List.map TRankState.av y9)]) () ⟨rfl, rfl, rfl, rfl, rfl, rfl, rfl, trivial⟩ (hS.pick [0] rfl rfl) ?_
              rintro ⟨x16_l1, x17_l1⟩ _ G31 hS x26 hF hx27
              try dsimp only at hS ⊢
              have hF : spec_l13Next.b1 p0 x8_1 x15_l0 x13_2 x16_l1 x17_l1 = some x26 := hF; unfold spec_l13Next.b1 at hF
              refine AWP.seq ?_
              refine AWP.seqR rfl ?_
              refine ASL.q (v := (.int .i64 x17_l1)) rfl rfl (Light.quiet (opMove rfl rfl)) ?_
              refine ASL.q (v := (.rptr [(.int .i64 p0.states), (.int .i64 p0.start), (.list 4 (List.map TEdge.av p0.edges))])) rfl rfl (Light.quiet (opFieldAddrR rfl fieldA_33_1 rfl rfl)) ?_
              refine ASL.q (v := (.int .i64 p0.states)) rfl rfl (Light.quiet (opLoadR rfl aggA_3 rfl rfl)) ?_
              refine ASL.q (v := (.bool (decide (x17_l1 < p0.states)))) rfl rfl (Light.quiet (opInt rfl rfl rfl rfl)) ?_
              refine ASL.done ?_
              refine AWP.ifP hF rfl (fun hc32 hF => ?_) (fun hc32 hF => ?_)
              · skip
                refine AWP.skip ?_
                refine QThen.nrm ?_
                refine AWP.seq ?_
                refine AWP.block ?_
                refine AWP.seqR rfl ?_
                refine ASL.q (v := (.list 1 (List.map (fun xs : (List Int) => AV.list 1 (List.map (AV.int .i64) xs)) x8_1))) rfl rfl (Light.quiet (opMove rfl rfl)) ?_
                refine ASL.q (v := (.int .i64 x15_l0)) rfl rfl (Light.quiet (opMove rfl rfl)) ?_
                obtain ⟨a90, ha90, hF⟩ := bindE hF
                refine ASL.q (v := (.rptr [(.list 1 (List.map (AV.int .i64) a90))])) rfl rfl (Light.quiet (kIx (f := (fun xs : (List Int) => AV.list 1 (List.map (AV.int .i64) xs))) ha90 rfl rfl rfl elemA_85 sizeA_26 rfl)) ?_
                refine ASL.q (v := (.list 1 (List.map (AV.int .i64) a90))) rfl rfl (Light.quiet (opLoadR rfl aggA_26 rfl rfl)) ?_
                refine ASL.q (v := (.int .i64 x17_l1)) rfl rfl (Light.quiet (opMove rfl rfl)) ?_
                obtain ⟨a93, ha93, hF⟩ := bindE hF
                refine ASL.q (v := (.rptr [(.int .i64 a93)])) rfl rfl (Light.quiet (kIx (f := (AV.int .i64)) ha93 rfl rfl rfl elemA_26 sizeA_3 rfl)) ?_
                refine ASL.q (v := (.int .i64 a93)) rfl rfl (Light.quiet (opLoadR rfl aggA_3 rfl rfl)) ?_
                refine ASL.q (v := (.bool (decide (a93 ≥ 0)))) rfl rfl (Light.quiet (opInt rfl rfl rfl rfl)) ?_
                obtain ⟨c96, hc96, hF⟩ := bndE hF
                refine ASL.q (v := (.bool c96)) rfl rfl ((Quiet.cast (Light.quiet (opMove rfl rfl)) (congrArg AV.bool hc96.symm))) ?_
                refine ASL.g (v := (.list 1 (List.map (fun xs : (List Int) => AV.list 1 (List.map (AV.int .i64) xs)) x8_1))) (.bool c96) true rfl (wT _) rfl (fun hG => by have q0 := hG; subst q0; exact Light.quiet (opMove rfl rfl)) ?_
                refine ASL.g (v := (.int .i64 x15_l0)) (.bool c96) true rfl (wT _) rfl (fun hG => by have q0 := hG; subst q0; exact Light.quiet (opMove rfl rfl)) ?_
                obtain ⟨a99, ha99, hF⟩ := bindE hF
                refine ASL.g (v := (.rptr [(.list 1 (List.map (AV.int .i64) a99))])) (.bool c96) true rfl (wT _) rfl (fun hG => by have q0 := hG; subst q0; exact Light.quiet (kIx (f := (fun xs : (List Int) => AV.list 1 (List.map (AV.int .i64) xs))) (whenE ha99) rfl rfl rfl elemA_85 sizeA_26 rfl)) ?_
                refine ASL.g (v := (.list 1 (List.map (AV.int .i64) a99))) (.bool c96) true rfl (wT _) rfl (fun hG => by have q0 := hG; subst q0; exact Light.quiet (opLoadR rfl aggA_26 rfl rfl)) ?_
                refine ASL.g (v := (.int .i64 x17_l1)) (.bool c96) true rfl (wT _) rfl (fun hG => by have q0 := hG; subst q0; exact Light.quiet (opMove rfl rfl)) ?_
                obtain ⟨a102, ha102, hF⟩ := bindE hF
                refine ASL.g (v := (.rptr [(.int .i64 a102)])) (.bool c96) true rfl (wT _) rfl (fun hG => by have q0 := hG; subst q0; exact Light.quiet (kIx (f := (AV.int .i64)) (whenE ha102) rfl rfl rfl elemA_26 sizeA_3 rfl)) ?_
                refine ASL.g (v := (.int .i64 a102)) (.bool c96) true rfl (wT _) rfl (fun hG => by have q0 := hG; subst q0; exact Light.quiet (opLoadR rfl aggA_3 rfl rfl)) ?_
                refine ASL.g (v := (.int .i64 (Int.tmod a102 2))) (.bool c96) true rfl (wT _) rfl (fun hG => by have q0 := hG; subst q0; exact Light.quiet (opRem rfl rfl rfl (by decide) rfl)) ?_
                refine ASL.g (v := (.bool (decide (((Int.tmod a102 2)) = 0)))) (.bool c96) true rfl (wT _) rfl (fun hG => by have q0 := hG; subst q0; exact Light.quiet (opInt rfl rfl rfl rfl)) ?_
                refine ASL.q (v := (.bool (c96 && (decide (((Int.tmod a102 2)) = 0))))) rfl rfl (Light.quiet (opPick (b := c96) rfl rfl (by cases c96 <;> rfl))) ?_
                obtain ⟨c107, hc107, hF⟩ := bndE hF
                refine ASL.q (v := (.bool c107)) rfl rfl ((Quiet.cast (Light.quiet (opMove rfl rfl)) (congrArg AV.bool hc107.symm))) ?_
                refine ASL.g (v := (.int .i64 x13_2)) (.bool c107) true rfl (wT _) rfl (fun hG => by have q0 := hG; subst q0; exact Light.quiet (opMove rfl rfl)) ?_
                refine ASL.g (v := (.int .i64 x17_l1)) (.bool c107) true rfl (wT _) rfl (fun hG => by have q0 := hG; subst q0; exact Light.quiet (opMove rfl rfl)) ?_
                obtain ⟨a110, ha110, hF⟩ := bindE hF
                refine ASL.g (v := (.bool a110)) (.bool c107) true rfl (wT _) rfl (fun hG => by have q0 := hG; subst q0; exact (qCall rfl rfl call_30 (spec_l1Has_ok (whenE ha110)) rfl)) ?_
                refine ASL.q (v := (.bool (c107 && a110))) rfl rfl (Light.quiet (opPick (b := c107) rfl rfl (by cases c107 <;> rfl))) ?_
                refine ASL.done ?_
                refine AWP.ifB hF rfl (fun hc33 hF => ?_) (fun hc33 hF => ?_)
                · skip
                  refine AWP.lastR rfl ?_
                  refine ASL.q (v := (.int .i64 x16_l1)) rfl rfl (Light.quiet (opMove rfl rfl)) ?_
                  refine ASL.q (v := (.int .i64 x17_l1)) rfl rfl (Light.quiet (opMove rfl rfl)) ?_
                  obtain ⟨a114, ha114, hF⟩ := bindE hF
                  refine ASL.q (v := (.int .i64 a114)) rfl rfl ((qCall rfl rfl call_54 (spec_l1Bit_ok ha114) rfl)) ?_
                  refine ASL.q (v := (.int .i64 (bOr .i64 x16_l1 a114))) rfl rfl (Light.quiet (opInt rfl rfl rfl rfl)) ?_
                  refine ASL.q (v := (.int .i64 (bOr .i64 x16_l1 a114))) rfl rfl (Light.quiet (opAssign rfl rfl)) ?_
                  refine ASL.done ?_
                  refine QBlock.nrm ?_
                  refine QThen.nrm ?_
                  refine AWP.lastR rfl ?_
                  refine ASL.q (v := (.int .i64 x17_l1)) rfl rfl (Light.quiet (opMove rfl rfl)) ?_
                  refine ASL.q (v := (.int .i64 (W (x17_l1 + 1)))) rfl rfl (Light.quiet (opInt rfl rfl rfl rfl)) ?_
                  refine ASL.q (v := (.int .i64 (W (x17_l1 + 1)))) rfl rfl (Light.quiet (opAssign rfl rfl)) ?_
                  refine ASL.done ?_
                  refine QThen.nrm ?_
                  exact ⟨((bOr .i64 x16_l1 a114), (W (x17_l1 + 1))), (), (someE hF).symm, ⟨rfl, rfl, rfl, rfl, rfl, rfl, rfl, trivial⟩, (hS.pick [0] rfl rfl)⟩
                · skip
                  refine AWP.skip ?_
                  refine QBlock.nrm ?_
                  refine QThen.nrm ?_
                  refine AWP.lastR rfl ?_
                  refine ASL.q (v := (.int .i64 x17_l1)) rfl rfl (Light.quiet (opMove rfl rfl)) ?_
                  refine ASL.q (v := (.int .i64 (W (x17_l1 + 1)))) rfl rfl (Light.quiet (opInt rfl rfl rfl rfl)) ?_
                  refine ASL.q (v := (.int .i64 (W (x17_l1 + 1)))) rfl rfl (Light.quiet (opAssign rfl rfl)) ?_
                  refine ASL.done ?_
                  refine QThen.nrm ?_
                  exact ⟨(x16_l1, (W (x17_l1 + 1))), (), (someE hF).symm, ⟨rfl, rfl, rfl, rfl, rfl, rfl, rfl, trivial⟩, (hS.pick [0] rfl rfl)⟩
              · skip
                refine AWP.exit ?_
                refine QThen.ext ?_
                refine QThen.ext ?_
                refine QBlock.hit ?_
                obtain rfl := (hx27 _ (someE hF).symm)
                have hF := hR30
                refine QThen.nrm ?_
                exact ⟨x16_l1, ⟨rfl, rfl, rfl, rfl, rfl, rfl, trivial⟩, (hS.pick [0] rfl rfl), hF⟩
        · skip
          refine AWP.exit ?_
          refine QThen.ext ?_
          refine QThen.ext ?_
          refine QBlock.hit ?_
          obtain rfl := (hx13 _ (someE hF).symm)
          have hF := hR16
          refine QThen.nrm ?_
          exact ⟨y9, w10, ⟨rfl, trivial⟩, (hS.pick [0] rfl rfl), hF⟩
    · skip
      refine AWP.seqR rfl ?_
      refine ASL.q (v := (.rptr [(.int .i64 p1.owing)])) rfl rfl (Light.quiet (opFieldAddrR rfl fieldA_28_1 rfl rfl)) ?_
      refine ASL.q (v := (.int .i64 p1.owing)) rfl rfl (Light.quiet (opLoadR rfl aggA_3 rfl rfl)) ?_
      refine ASL.q (v := (.bool (decide (p1.owing ≠ 0)))) rfl rfl (Light.quiet (opInt rfl rfl rfl rfl)) ?_
      refine ASL.done ?_
      refine AWP.ifP hF rfl (fun hc35 hF => ?_) (fun hc35 hF => ?_)
      · skip
        refine AWP.lastR rfl ?_
        refine ASL.q (v := (TAuto.av p0)) rfl rfl (Light.quiet (opLoadRA rfl aggA_33 sizeA_33 rfl (nlt rfl) rfl)) ?_
        refine ASL.q (v := (.rptr [(.int .i64 p1.owing)])) rfl rfl (Light.quiet (opFieldAddrR rfl fieldA_28_1 rfl rfl)) ?_
        refine ASL.q (v := (.int .i64 p1.owing)) rfl rfl (Light.quiet (opLoadR rfl aggA_3 rfl rfl)) ?_
        refine ASL.q (v := (.int .i64 p2)) rfl rfl (Light.quiet (opMove rfl rfl)) ?_
        obtain ⟨a74, ha74, hF⟩ := bindE hF
        refine ASL.q (v := (.int .i64 a74)) rfl rfl ((qCall rfl rfl call_68 (spec_l4Next_ok ha74) rfl)) ?_
        refine ASL.q (v := (.int .i64 a74)) rfl rfl (Light.quiet (opAssign rfl rfl)) ?_
        refine ASL.done ?_
        refine QThen.nrm ?_
        exact ⟨a74, ⟨rfl, rfl, rfl, trivial⟩, (hS.pick [] rfl rfl), hF⟩
      · skip
        refine AWP.skip ?_
        refine QThen.nrm ?_
        exact ⟨(W (((shl .i64 1 p0.states)) - 1)), ⟨rfl, rfl, rfl, trivial⟩, (hS.pick [] rfl rfl), hF⟩
  · skip
    refine AWP.seqR rfl ?_
    refine ASL.q (v := (.int .i64 0)) rfl rfl (Light.quiet (opAssign rfl rfl)) ?_
    refine ASL.done ?_
    refine AWP.block ?_
    obtain ⟨o40, hL39, hR41⟩ := bindE hF
    refine AWP.loopF (ω := Unit) hL39 (fun s w => [(2, (.int .i64 p2)), (3, (.rptr [(.int .i64 p0.letters), (.int .i64 p0.states), (.int .i64 p0.start), (.list 4 (List.map TEdge.av p0.edges))])), (4, (.rptr [(.list 1 (List.map (AV.int .i64) p1.ranks)), (.int .i64 p1.owing)])), (7, (.list 1 (List.map (AV.int .i64) a21))), (8, (.list 1 (List.map (fun xs : (List Int) => AV.list 1 (List.map (AV.int .i64) xs)) s.1))), (9, (.int .i64 s.2))]) (fun s w => []) () ⟨rfl, rfl, rfl, rfl, rfl, rfl, trivial⟩ (hS.pick [] rfl rfl) ?_
    rintro ⟨x8_l2, x9_l2⟩ _ G42 hS x37 hF hx38
    try dsimp only at hS ⊢
    have hF : spec_l13Next.b2 p0 a21 x8_l2 x9_l2 = some x37 := hF; unfold spec_l13Next.b2 at hF
    refine AWP.seq ?_
    refine AWP.seqR rfl ?_
    refine ASL.q (v := (.int .i64 x9_l2)) rfl rfl (Light.quiet (opMove rfl rfl)) ?_
    refine ASL.q (v := (.rptr [(.int .i64 p0.states), (.int .i64 p0.start), (.list 4 (List.map TEdge.av p0.edges))])) rfl rfl (Light.quiet (opFieldAddrR rfl fieldA_33_1 rfl rfl)) ?_
    refine ASL.q (v := (.int .i64 p0.states)) rfl rfl (Light.quiet (opLoadR rfl aggA_3 rfl rfl)) ?_
    refine ASL.q (v := (.bool (decide (x9_l2 < p0.states)))) rfl rfl (Light.quiet (opInt rfl rfl rfl rfl)) ?_
    refine ASL.done ?_
    refine AWP.ifP hF rfl (fun hc43 hF => ?_) (fun hc43 hF => ?_)
    · skip
      refine AWP.skip ?_
      refine QThen.nrm ?_
      refine AWP.seqM (fun e H => ∃ x8_6 : (List (List Int)), E.Told e [(2, (.int .i64 p2)), (3, (.rptr [(.int .i64 p0.letters), (.int .i64 p0.states), (.int .i64 p0.start), (.list 4 (List.map TEdge.av p0.edges))])), (4, (.rptr [(.list 1 (List.map (AV.int .i64) p1.ranks)), (.int .i64 p1.owing)])), (7, (.list 1 (List.map (AV.int .i64) a21))), (8, (.list 1 (List.map (fun xs : (List Int) => AV.list 1 (List.map (AV.int .i64) xs)) x8_6))), (9, (.int .i64 x9_l2))] ∧ E.Sep H [] ∧ spec_l13Next.k5 x9_l2 x8_6 = some x37) ?_ ?_
      · rintro e0 G44 ⟨x8_6, hT, hS, hF⟩; refine AWP.only _ hT ?_; unfold spec_l13Next.k5 at hF
        refine AWP.lastR rfl ?_
        refine ASL.q (v := (.int .i64 x9_l2)) rfl rfl (Light.quiet (opMove rfl rfl)) ?_
        refine ASL.q (v := (.int .i64 (W (x9_l2 + 1)))) rfl rfl (Light.quiet (opInt rfl rfl rfl rfl)) ?_
        refine ASL.q (v := (.int .i64 (W (x9_l2 + 1)))) rfl rfl (Light.quiet (opAssign rfl rfl)) ?_
        refine ASL.done ?_
        refine QThen.nrm ?_
        exact ⟨(x8_6, (W (x9_l2 + 1))), (), (someE hF).symm, ⟨rfl, rfl, rfl, rfl, rfl, rfl, trivial⟩, (hS.pick [] rfl rfl)⟩
      · skip
        refine AWP.block ?_
        refine AWP.seqR rfl ?_
        refine ASL.x rfl rfl (hLit (f := (fun xs : (List Int) => AV.list 1 (List.map (AV.int .i64) xs))) (zs := []) hS rfl rfl elemA_85 sizeA_26 zeroA_26 rfl rfl rfl rfl (by simp [cells]) (nlt rfl) ?_); rintro v30 G45 hK hS
        refine ASL.q (v := v30) rfl rfl (Light.quiet (opAssign rfl rfl)) ?_
        refine ASL.done ?_
        refine AWP.seqM (fun e H => ∃ y47 : (List (List Int)), ∃ w48 : AV, E.Told e [(2, (.int .i64 p2)), (3, (.rptr [(.int .i64 p0.letters), (.int .i64 p0.states), (.int .i64 p0.start), (.list 4 (List.map TEdge.av p0.edges))])), (4, (.rptr [(.list 1 (List.map (AV.int .i64) p1.ranks)), (.int .i64 p1.owing)])), (7, (.list 1 (List.map (AV.int .i64) a21))), (9, (.int .i64 x9_l2)), (10, w48)] ∧ E.Sep H [.row 1 w48 (List.map (fun xs : (List Int) => AV.list 1 (List.map (AV.int .i64) xs)) y47)] ∧ spec_l13Next.k6 x9_l2 y47 = some x37) ?_ ?_
        · rintro e0 G51 ⟨y47, w48, hT, hS, hF⟩; refine AWP.only _ hT ?_; unfold spec_l13Next.k6 at hF
          refine AWP.frz (L' := []) hS (k := 0) rfl [(2, (.int .i64 p2)), (3, (.rptr [(.int .i64 p0.letters), (.int .i64 p0.states), (.int .i64 p0.start), (.list 4 (List.map TEdge.av p0.edges))])), (4, (.rptr [(.list 1 (List.map (AV.int .i64) p1.ranks)), (.int .i64 p1.owing)])), (7, (.list 1 (List.map (AV.int .i64) a21))), (9, (.int .i64 x9_l2)), (10, (.list 1 (List.map (fun xs : (List Int) => AV.list 1 (List.map (AV.int .i64) xs)) y47)))] ⟨.inl rfl, .inl rfl, .inl rfl, .inl rfl, .inl rfl, .inr (.inl ⟨rfl, rfl⟩), trivial⟩ trivial (fun G50 hS => ?_)
          refine AWP.lastR rfl ?_
          refine ASL.q (v := (.list 1 (List.map (fun xs : (List Int) => AV.list 1 (List.map (AV.int .i64) xs)) y47))) rfl rfl (Light.quiet (opMove rfl rfl)) ?_
          refine ASL.q (v := (.list 1 (List.map (fun xs : (List Int) => AV.list 1 (List.map (AV.int .i64) xs)) y47))) rfl rfl (Light.quiet (opAssign rfl rfl)) ?_
          refine ASL.done ?_
          refine QBlock.nrm ?_
          refine QThen.nrm ?_
          exact ⟨y47, ⟨rfl, rfl, rfl, rfl, rfl, rfl, trivial⟩, (hS.pick [] rfl rfl), hF⟩
        · skip
          refine AWP.seqR rfl ?_
          refine ASL.q (v := (.int .i64 0)) rfl rfl (Light.quiet (opAssign rfl rfl)) ?_
          refine ASL.done ?_
          refine AWP.block ?_
          obtain ⟨o58, hL57, hR59⟩ := bindE hF
          refine AWP.loopF (ω := AV) hL57 (fun s w => [(2, (.int .i64 p2)), (3, (.rptr [(.int .i64 p0.letters), (.int .i64 p0.states), (.int .i64 p0.start), (.list 4 (List.map TEdge.av p0.edges))])), (4, (.rptr [(.list 1 (List.map (AV.int .i64) p1.ranks)), (.int .i64 p1.owing)])), (7, (.list 1 (List.map (AV.int .i64) a21))), (8, (.list 1 (List.map (fun xs : (List Int) => AV.list 1 (List.map (AV.int .i64) xs)) x8_l2))), (9, (.int .i64 x9_l2)), (10, w), (11, (.int .i64 s.2))]) (fun s w => [.row 1 w (List.map (fun xs : (List Int) => AV.list 1 (List.map (AV.int .i64) xs)) s.1)]) v30 ⟨rfl, rfl, rfl, rfl, rfl, rfl, rfl, rfl, trivial⟩ (hS.pick [0] rfl rfl) ?_
          rintro ⟨y52, x11_l3⟩ w53 G60 hS x55 hF hx56
          try dsimp only at hS ⊢
          have hF : spec_l13Next.b3 x8_l2 a21 x9_l2 y52 x11_l3 = some x55 := hF; unfold spec_l13Next.b3 at hF
          refine AWP.seq ?_
          refine AWP.seqR rfl ?_
          refine ASL.q (v := (.int .i64 x11_l3)) rfl rfl (Light.quiet (opMove rfl rfl)) ?_
          refine ASL.q (v := (.list 1 (List.map (fun xs : (List Int) => AV.list 1 (List.map (AV.int .i64) xs)) x8_l2))) rfl rfl (Light.quiet (opMove rfl rfl)) ?_
          refine ASL.q (v := (.int .i64 (x8_l2.length : Int))) rfl rfl (Light.quiet (opLenMap (f := (fun xs : (List Int) => AV.list 1 (List.map (AV.int .i64) xs))) rfl rfl rfl lenT_85 rfl)) ?_
          refine ASL.q (v := (.bool (decide (x11_l3 < ((x8_l2.length : Int)))))) rfl rfl (Light.quiet (opInt rfl rfl rfl rfl)) ?_
          refine ASL.done ?_
          refine AWP.ifP hF rfl (fun hc61 hF => ?_) (fun hc61 hF => ?_)
          · skip
            refine AWP.skip ?_
            refine QThen.nrm ?_
            refine AWP.seqM (fun e H => ∃ y62 : (List (List Int)), ∃ w63 : AV, E.Told e [(2, (.int .i64 p2)), (3, (.rptr [(.int .i64 p0.letters), (.int .i64 p0.states), (.int .i64 p0.start), (.list 4 (List.map TEdge.av p0.edges))])), (4, (.rptr [(.list 1 (List.map (AV.int .i64) p1.ranks)), (.int .i64 p1.owing)])), (7, (.list 1 (List.map (AV.int .i64) a21))), (8, (.list 1 (List.map (fun xs : (List Int) => AV.list 1 (List.map (AV.int .i64) xs)) x8_l2))), (9, (.int .i64 x9_l2)), (10, w63), (11, (.int .i64 x11_l3))] ∧ E.Sep H [.row 1 w63 (List.map (fun xs : (List Int) => AV.list 1 (List.map (AV.int .i64) xs)) y62)] ∧ spec_l13Next.k7 x11_l3 y62 = some x55) ?_ ?_
            · rintro e0 G65 ⟨y62, w63, hT, hS, hF⟩; refine AWP.only _ hT ?_; unfold spec_l13Next.k7 at hF
              refine AWP.lastR rfl ?_
              refine ASL.q (v := (.int .i64 x11_l3)) rfl rfl (Light.quiet (opMove rfl rfl)) ?_
              refine ASL.q (v := (.int .i64 (W (x11_l3 + 1)))) rfl rfl (Light.quiet (opInt rfl rfl rfl rfl)) ?_
              refine ASL.q (v := (.int .i64 (W (x11_l3 + 1)))) rfl rfl (Light.quiet (opAssign rfl rfl)) ?_
              refine ASL.done ?_
              refine QThen.nrm ?_
              exact ⟨(y62, (W (x11_l3 + 1))), w63, (someE hF).symm, ⟨rfl, rfl, rfl, rfl, rfl, rfl, rfl, rfl, trivial⟩, (hS.pick [0] rfl rfl)⟩
            · skip
              refine AWP.block ?_
              refine AWP.seqR rfl ?_
              refine ASL.q (v := (.list 1 (List.map (AV.int .i64) a21))) rfl rfl (Light.quiet (opMove rfl rfl)) ?_
              refine ASL.q (v := (.int .i64 x9_l2)) rfl rfl (Light.quiet (opMove rfl rfl)) ?_
              obtain ⟨a39, ha39, hF⟩ := bindE hF
              refine ASL.q (v := (.rptr [(.int .i64 a39)])) rfl rfl (Light.quiet (kIx (f := (AV.int .i64)) ha39 rfl rfl rfl elemA_26 sizeA_3 rfl)) ?_
              refine ASL.q (v := (.int .i64 a39)) rfl rfl (Light.quiet (opLoadR rfl aggA_3 rfl rfl)) ?_
              refine ASL.q (v := (.int .i64 (spec_l1Min 0 a39))) rfl rfl ((qCall rfl rfl call_67 (spec_l1Min_ok 0 a39) rfl)) ?_
              refine ASL.q (v := (.int .i64 (spec_l1Min 0 a39))) rfl rfl (Light.quiet (opAssign rfl rfl)) ?_
              refine ASL.done ?_
              refine AWP.block ?_
              obtain ⟨o72, hL71, hR73⟩ := bindE hF
              refine AWP.loopF (ω := AV) hL71 (fun s w => [(2, (.int .i64 p2)), (3, (.rptr [(.int .i64 p0.letters), (.int .i64 p0.states), (.int .i64 p0.start), (.list 4 (List.map TEdge.av p0.edges))])), (4, (.rptr [(.list 1 (List.map (AV.int .i64) p1.ranks)), (.int .i64 p1.owing)])), (7, (.list 1 (List.map (AV.int .i64) a21))), (8, (.list 1 (List.map (fun xs : (List Int) => AV.list 1 (List.map (AV.int .i64) xs)) x8_l2))), (9, (.int .i64 x9_l2)), (10, w), (11, (.int .i64 x11_l3)), (12, (.int .i64 s.2))]) (fun s w => [.row 1 w (List.map (fun xs : (List Int) => AV.list 1 (List.map (AV.int .i64) xs)) s.1)]) w53 ⟨rfl, rfl, rfl, rfl, rfl, rfl, rfl, rfl, rfl, trivial⟩ (hS.pick [0] rfl rfl) ?_
              rintro ⟨y66, x12_l4⟩ w67 G74 hS x69 hF hx70
              try dsimp only at hS ⊢
              have hF : spec_l13Next.b4 a21 x9_l2 x8_l2 x11_l3 y66 x12_l4 = some x69 := hF; unfold spec_l13Next.b4 at hF
              refine AWP.seq ?_
              refine AWP.seqR rfl ?_
              refine ASL.q (v := (.int .i64 x12_l4)) rfl rfl (Light.quiet (opMove rfl rfl)) ?_
              refine ASL.q (v := (.list 1 (List.map (AV.int .i64) a21))) rfl rfl (Light.quiet (opMove rfl rfl)) ?_
              refine ASL.q (v := (.int .i64 x9_l2)) rfl rfl (Light.quiet (opMove rfl rfl)) ?_
              obtain ⟨a45, ha45, hF⟩ := bindE hF
              refine ASL.q (v := (.rptr [(.int .i64 a45)])) rfl rfl (Light.quiet (kIx (f := (AV.int .i64)) ha45 rfl rfl rfl elemA_26 sizeA_3 rfl)) ?_
              refine ASL.q (v := (.int .i64 a45)) rfl rfl (Light.quiet (opLoadR rfl aggA_3 rfl rfl)) ?_
              refine ASL.q (v := (.bool (decide (x12_l4 ≤ a45)))) rfl rfl (Light.quiet (opInt rfl rfl rfl rfl)) ?_
              refine ASL.done ?_
              refine AWP.ifP hF rfl (fun hc75 hF => ?_) (fun hc75 hF => ?_)
              · skip
                refine AWP.skip ?_
                refine QThen.nrm ?_
                refine AWP.seq ?_
                refine AWP.block ?_
                refine AWP.lastR rfl ?_
                refine ASL.q (v := w67) rfl rfl (Light.quiet (opMove rfl rfl)) ?_
                refine ASL.x rfl rfl (hLit (f := (AV.int .i64)) (zs := []) hS rfl rfl elemA_26 sizeA_3 zeroA_3 rfl rfl rfl rfl (by simp [cells]) (nlt rfl) ?_); rintro v51 G76 hK hS
                refine ASL.q (v := (.list 1 (List.map (fun xs : (List Int) => AV.list 1 (List.map (AV.int .i64) xs)) x8_l2))) rfl rfl (Light.quiet (opMove rfl rfl)) ?_
                refine ASL.q (v := (.int .i64 x11_l3)) rfl rfl (Light.quiet (opMove rfl rfl)) ?_
                obtain ⟨a54, ha54, hF⟩ := bindE hF
                refine ASL.q (v := (.rptr [(.list 1 (List.map (AV.int .i64) a54))])) rfl rfl (Light.quiet (kIx (f := (fun xs : (List Int) => AV.list 1 (List.map (AV.int .i64) xs))) ha54 rfl rfl rfl elemA_85 sizeA_26 rfl)) ?_
                refine ASL.q (v := (.list 1 (List.map (AV.int .i64) a54))) rfl rfl (Light.quiet (opLoadR rfl aggA_26 rfl rfl)) ?_
                obtain ⟨z56, hz56, hF⟩ := bindE hF
                refine ASL.x rfl rfl (hApp (f := (AV.int .i64)) (ws := a54) hS (j := 0) rfl hz56 rfl elemA_26 rfl sizeA_3 bytesA_3 zeroA_3 rfl rfl rfl (fun _ => rfl) ?_); rintro v56 G78 hS
                refine ASL.q (v := (.int .i64 x12_l4)) rfl rfl (Light.quiet (opMove rfl rfl)) ?_
                refine ASL.q (v := (.list 1 (List.map (AV.int .i64) [x12_l4]))) rfl rfl ((qLit (xs := [(.int .i64 x12_l4)]) rfl elemA_26 sizeA_3 zeroA_3 rfl rfl rfl rfl (by simp [cells]) (nlt rfl))) ?_
                obtain ⟨z59, hz59, hF⟩ := bindE hF
                refine ASL.x rfl rfl (hAppF (f := (AV.int .i64)) (ws := [x12_l4]) hS (j := 0) rfl hz59 rfl elemA_26 rfl sizeA_3 bytesA_3 zeroA_3 rfl rfl rfl (fun _ => rfl) ?_); rintro G80 hB hS
                have hS : Sep G80 [.row 1 w67 (List.map (fun xs : (List Int) => AV.list 1 (List.map (AV.int .i64) xs)) y66)] := hS
                refine ASL.q (v := (.list 1 (List.map (fun xs : (List Int) => AV.list 1 (List.map (AV.int .i64) xs)) [z59]))) rfl rfl ((qLit (xs := [(.list 1 (List.map (AV.int .i64) z59))]) rfl elemA_85 sizeA_26 zeroA_26 rfl rfl rfl rfl (by simp [cells]) (nlt rfl))) ?_
                obtain ⟨z61, hz61, hF⟩ := bindE hF
                refine ASL.x rfl rfl (hApp (f := (fun xs : (List Int) => AV.list 1 (List.map (AV.int .i64) xs))) (ws := [z59]) hS (j := 0) rfl hz61 rfl elemA_85 rfl sizeA_26 bytesA_26 zeroA_26 rfl rfl rfl (fun _ => rfl) ?_); rintro v61 G81 hS
                refine ASL.q (v := v61) rfl rfl (Light.quiet (opAssign rfl rfl)) ?_
                refine ASL.done ?_
                refine QBlock.nrm ?_
                refine QThen.nrm ?_
                refine AWP.lastR rfl ?_
                refine ASL.q (v := (.int .i64 x12_l4)) rfl rfl (Light.quiet (opMove rfl rfl)) ?_
                refine ASL.q (v := (.int .i64 (W (x12_l4 + 1)))) rfl rfl (Light.quiet (opInt rfl rfl rfl rfl)) ?_
                refine ASL.q (v := (.int .i64 (W (x12_l4 + 1)))) rfl rfl (Light.quiet (opAssign rfl rfl)) ?_
                refine ASL.done ?_
                refine QThen.nrm ?_
                exact ⟨(z61, (W (x12_l4 + 1))), v61, (someE hF).symm, ⟨rfl, rfl, rfl, rfl, rfl, rfl, rfl, rfl, rfl, trivial⟩, (hS.pick [0] rfl rfl)⟩
              · skip
                refine AWP.exit ?_
                refine QThen.ext ?_
                refine QThen.ext ?_
                refine QBlock.hit ?_
                obtain rfl := (hx70 _ (someE hF).symm)
                have hF := hR73
                refine QBlock.nrm ?_
                refine QThen.nrm ?_
                exact ⟨y66, w67, ⟨rfl, rfl, rfl, rfl, rfl, rfl, rfl, rfl, trivial⟩, (hS.pick [0] rfl rfl), hF⟩
          · skip
            refine AWP.exit ?_
            refine QThen.ext ?_
            refine QThen.ext ?_
            refine QBlock.hit ?_
            obtain rfl := (hx56 _ (someE hF).symm)
            have hF := hR59
            refine QThen.nrm ?_
            exact ⟨y52, w53, ⟨rfl, rfl, rfl, rfl, rfl, rfl, trivial⟩, (hS.pick [0] rfl rfl), hF⟩
    · skip
      refine AWP.exit ?_
      refine QThen.ext ?_
      refine QThen.ext ?_
      refine QBlock.hit ?_
      obtain rfl := (hx38 _ (someE hF).symm)
      have hF := hR41
      refine QThen.nrm ?_
      exact ⟨x8_l2, ⟨rfl, rfl, rfl, rfl, trivial⟩, (hS.pick [] rfl rfl), hF⟩

set_option maxRecDepth 10000 in
theorem spec_RankNext_ok {p0 : TAuto} {p1 : TRankState} {p2 : Int} {r : (List TRankState)} (hF : spec_RankNext p0 p1 p2 = some r) : PO Try.prog 18 [(TAuto.av p0), (TRankState.av p1), (.int .i64 p2)] 2 (List.map TRankState.av r) := by
  refine HC.enter Try.func18 rfl Try.ntmps18 (by simp) ?_
  have hS := Sep.void; unfold spec_RankNext at hF
  refine AWP.seqR rfl ?_
  refine ASL.q (v := (.rptr [(.int .i64 p0.letters), (.int .i64 p0.states), (.int .i64 p0.start), (.list 4 (List.map TEdge.av p0.edges))])) rfl rfl ((qBoxI (v := (TAuto.av p0)) rfl rfl rfl rfl)) ?_
  refine ASL.q (v := (.rptr [(.list 1 (List.map (AV.int .i64) p1.ranks)), (.int .i64 p1.owing)])) rfl rfl ((qBoxI (v := (TRankState.av p1)) rfl rfl rfl rfl)) ?_
  have hS := hNil (s := 2) (f := TRankState.av) hS
  refine ASL.q (v := .nil) rfl rfl (Light.quiet (opAssign rfl rfl)) ?_
  refine ASL.done ?_
  refine AWP.seq ?_
  refine AWP.seqR rfl ?_
  refine ASL.q (v := (TAuto.av p0)) rfl rfl (Light.quiet (opLoadRA rfl aggA_33 sizeA_33 rfl (nlt rfl) rfl)) ?_
  refine ASL.q (v := (TRankState.av p1)) rfl rfl (Light.quiet (opLoadRA rfl aggA_28 sizeA_28 rfl (nlt rfl) rfl)) ?_
  obtain ⟨a9, ha9, hF⟩ := bindE hF
  refine ASL.q (v := (.bool a9)) rfl rfl ((qCall rfl rfl call_19 (spec_RankOk_ok ha9) rfl)) ?_
  refine ASL.q (v := (.bool (!a9))) rfl rfl (Light.quiet (opNot rfl rfl)) ?_
  obtain ⟨c11, hc11, hF⟩ := bndE hF
  refine ASL.q (v := (.bool c11)) rfl rfl ((Quiet.cast (Light.quiet (opMove rfl rfl)) (congrArg AV.bool hc11.symm))) ?_
  refine ASL.g (v := (.int .i64 p2)) (.bool c11) false rfl (wF _) rfl (fun hG => by have q0 := gN hG; subst q0; exact Light.quiet (opMove rfl rfl)) ?_
  refine ASL.g (v := (.rptr [(.int .i64 p0.letters), (.int .i64 p0.states), (.int .i64 p0.start), (.list 4 (List.map TEdge.av p0.edges))])) (.bool c11) false rfl (wF _) rfl (fun hG => by have q0 := gN hG; subst q0; exact Light.quiet (opFieldAddrR rfl fieldA_33_0 rfl rfl)) ?_
  refine ASL.g (v := (.int .i64 p0.letters)) (.bool c11) false rfl (wF _) rfl (fun hG => by have q0 := gN hG; subst q0; exact Light.quiet (opLoadR rfl aggA_3 rfl rfl)) ?_
  refine ASL.g (v := (.int .i64 (W (p0.letters - 1)))) (.bool c11) false rfl (wF _) rfl (fun hG => by have q0 := gN hG; subst q0; exact Light.quiet (opInt rfl rfl rfl rfl)) ?_
  refine ASL.g (v := (.bool (spec_l1In p2 0 ((W (p0.letters - 1)))))) (.bool c11) false rfl (wF _) rfl (fun hG => by have q0 := gN hG; subst q0; exact (qCall rfl rfl call_45 (spec_l1In_ok p2 0 ((W (p0.letters - 1)))) rfl)) ?_
  refine ASL.g (v := (.bool (!(spec_l1In p2 0 ((W (p0.letters - 1))))))) (.bool c11) false rfl (wF _) rfl (fun hG => by have q0 := gN hG; subst q0; exact Light.quiet (opNot rfl rfl)) ?_
  refine ASL.q (v := (.bool (c11 || (!(spec_l1In p2 0 ((W (p0.letters - 1)))))))) rfl rfl (Light.quiet (opPick (b := c11) rfl rfl (by cases c11 <;> rfl))) ?_
  refine ASL.done ?_
  refine AWP.ifB hF rfl (fun hc2 hF => ?_) (fun hc2 hF => ?_)
  · skip
    refine AWP.seqR rfl ?_
    refine ASL.x rfl rfl (hLit (f := TRankState.av) (zs := []) hS rfl rfl elemA_44 sizeA_28 zeroA_28 rfl rfl rfl rfl (by simp [cells, TRankState.av]) (nlt rfl) ?_); rintro v19 G3 hK hS
    refine ASL.q (v := v19) rfl rfl (Light.quiet (opAssign rfl rfl)) ?_
    refine ASL.done ?_
    refine AWP.ret ?_
    refine QThen.rt ?_
    obtain rfl := someE hF
    exact QRet.sole (v := v19) ⟨rfl, trivial⟩ (hS.get (k := 0) rfl)
  · skip
    refine AWP.skip ?_
    refine QThen.nrm ?_
    refine AWP.seqR rfl ?_
    refine ASL.q (v := (TAuto.av p0)) rfl rfl (Light.quiet (opLoadRA rfl aggA_33 sizeA_33 rfl (nlt rfl) rfl)) ?_
    refine ASL.q (v := (TRankState.av p1)) rfl rfl (Light.quiet (opLoadRA rfl aggA_28 sizeA_28 rfl (nlt rfl) rfl)) ?_
    refine ASL.q (v := (.int .i64 p2)) rfl rfl (Light.quiet (opMove rfl rfl)) ?_
    obtain ⟨a23, ha23, hF⟩ := bindE hF
    refine ASL.x rfl rfl (hCallO hS rfl rfl call_46 (spec_l13Next_ok ha23) rfl ?_); rintro v23 G5 hK hS
    refine ASL.q (v := v23) rfl rfl (Light.quiet (opAssign rfl rfl)) ?_
    refine ASL.done ?_
    refine AWP.ret ?_
    obtain rfl := someE hF
    exact QRet.sole (v := v23) ⟨rfl, trivial⟩ (hS.get (k := 0) rfl)

set_option maxRecDepth 10000 in
theorem impl_inRange_ok (p0 : Int) (p1 : Int) (p2 : Int) : PC Try.prog 43 [(.int .i64 p0), (.int .i64 p1), (.int .i64 p2)] fun v => v = (.bool (impl_inRange p0 p1 p2)) := by
  generalize hF : impl_inRange p0 p1 p2 = r
  refine PC.enter Try.func43 rfl Try.ntmps43 (by simp) ?_
  have hS := Sep.void; unfold impl_inRange at hF
  refine AWP.seqR rfl ?_
  refine ASL.q (v := (.bool false)) rfl rfl (Light.quiet (opAssign rfl rfl)) ?_
  refine ASL.done ?_
  refine AWP.seqR rfl ?_
  refine ASL.q (v := (.int .i64 p0)) rfl rfl (Light.quiet (opMove rfl rfl)) ?_
  refine ASL.q (v := (.int .i64 p1)) rfl rfl (Light.quiet (opMove rfl rfl)) ?_
  refine ASL.q (v := (.bool (decide (p0 ≥ p1)))) rfl rfl (Light.quiet (opInt rfl rfl rfl rfl)) ?_
  obtain ⟨c10, hc10, hF⟩ := bndE hF
  refine ASL.q (v := (.bool c10)) rfl rfl ((Quiet.cast (Light.quiet (opMove rfl rfl)) (congrArg AV.bool hc10.symm))) ?_
  refine ASL.g (v := (.int .i64 p0)) (.bool c10) true rfl (wT _) rfl (fun hG => by have q0 := hG; subst q0; exact Light.quiet (opMove rfl rfl)) ?_
  refine ASL.g (v := (.int .i64 p2)) (.bool c10) true rfl (wT _) rfl (fun hG => by have q0 := hG; subst q0; exact Light.quiet (opMove rfl rfl)) ?_
  refine ASL.g (v := (.bool (decide (p0 ≤ p2)))) (.bool c10) true rfl (wT _) rfl (fun hG => by have q0 := hG; subst q0; exact Light.quiet (opInt rfl rfl rfl rfl)) ?_
  refine ASL.q (v := (.bool (c10 && (decide (p0 ≤ p2))))) rfl rfl (Light.quiet (opPick (b := c10) rfl rfl (by cases c10 <;> rfl))) ?_
  refine ASL.q (v := (.bool (c10 && (decide (p0 ≤ p2))))) rfl rfl (Light.quiet (opAssign rfl rfl)) ?_
  refine ASL.done ?_
  refine AWP.ret ?_
  obtain rfl := hF
  exact QRet.sole (v := (.bool (c10 && (decide (p0 ≤ p2))))) ⟨rfl, trivial⟩ rfl

set_option maxRecDepth 10000 in
theorem impl_isLetters_ok (p0 : Int) : PC Try.prog 78 [(.int .i64 p0)] fun v => v = (.bool (impl_isLetters p0)) := by
  generalize hF : impl_isLetters p0 = r
  refine PC.enter Try.func78 rfl Try.ntmps78 (by simp) ?_
  have hS := Sep.void; unfold impl_isLetters at hF
  refine AWP.seqR rfl ?_
  refine ASL.q (v := (.bool false)) rfl rfl (Light.quiet (opAssign rfl rfl)) ?_
  refine ASL.done ?_
  refine AWP.seqR rfl ?_
  refine ASL.q (v := (.int .i64 p0)) rfl rfl (Light.quiet (opMove rfl rfl)) ?_
  refine ASL.q (v := (.bool (impl_inRange p0 1 8))) rfl rfl ((qCall rfl rfl call_43 (impl_inRange_ok p0 1 8) rfl)) ?_
  refine ASL.q (v := (.bool (impl_inRange p0 1 8))) rfl rfl (Light.quiet (opAssign rfl rfl)) ?_
  refine ASL.done ?_
  refine AWP.ret ?_
  obtain rfl := hF
  exact QRet.sole (v := (.bool (impl_inRange p0 1 8))) ⟨rfl, trivial⟩ rfl

set_option maxRecDepth 10000 in
theorem impl_SetOk_ok (p0 : Int) : PC Try.prog 48 [(.int .i64 p0)] fun v => v = (.bool (impl_SetOk p0)) := by
  generalize hF : impl_SetOk p0 = r
  refine PC.enter Try.func48 rfl Try.ntmps48 (by simp) ?_
  have hS := Sep.void; unfold impl_SetOk at hF
  refine AWP.seqR rfl ?_
  refine ASL.q (v := (.bool false)) rfl rfl (Light.quiet (opAssign rfl rfl)) ?_
  refine ASL.done ?_
  refine AWP.seqR rfl ?_
  refine ASL.q (v := (.int .i64 p0)) rfl rfl (Light.quiet (opMove rfl rfl)) ?_
  refine ASL.q (v := (.bool (impl_inRange p0 0 2147483647))) rfl rfl ((qCall rfl rfl call_43 (impl_inRange_ok p0 0 2147483647) rfl)) ?_
  refine ASL.q (v := (.bool (impl_inRange p0 0 2147483647))) rfl rfl (Light.quiet (opAssign rfl rfl)) ?_
  refine ASL.done ?_
  refine AWP.ret ?_
  obtain rfl := hF
  exact QRet.sole (v := (.bool (impl_inRange p0 0 2147483647))) ⟨rfl, trivial⟩ rfl

set_option maxRecDepth 10000 in
theorem impl_only_ok (p0 : Int) : PC Try.prog 49 [(.int .i64 p0)] fun v => v = (.int .i64 (impl_only p0)) := by
  generalize hF : impl_only p0 = r
  refine PC.enter Try.func49 rfl Try.ntmps49 (by simp) ?_
  have hS := Sep.void; unfold impl_only at hF
  refine AWP.seqR rfl ?_
  refine ASL.q (v := (.int .i64 0)) rfl rfl (Light.quiet (opAssign rfl rfl)) ?_
  refine ASL.done ?_
  refine AWP.seqR rfl ?_
  refine ASL.q (v := (.int .i64 p0)) rfl rfl (Light.quiet (opMove rfl rfl)) ?_
  refine ASL.q (v := (.int .u64 (IntKind.u64.wrap p0))) rfl rfl (Light.quiet (opConv rfl rfl und_3 und_88 rfl)) ?_
  refine ASL.q (v := (.int .i64 (shl .i64 1 ((IntKind.u64.wrap p0))))) rfl rfl (Light.quiet (opShl rfl rfl rfl (wrapU_nn rfl _) rfl)) ?_
  refine ASL.q (v := (.int .i64 (shl .i64 1 ((IntKind.u64.wrap p0))))) rfl rfl (Light.quiet (opAssign rfl rfl)) ?_
  refine ASL.done ?_
  refine AWP.ret ?_
  obtain rfl := hF
  exact QRet.sole (v := (.int .i64 (shl .i64 1 ((IntKind.u64.wrap p0))))) ⟨rfl, trivial⟩ rfl

set_option maxRecDepth 10000 in
theorem impl_headOk_ok (p0 : Int) (p1 : Int) (p2 : Int) : PC Try.prog 72 [(.int .i64 p0), (.int .i64 p1), (.int .i64 p2)] fun v => v = (.bool (impl_headOk p0 p1 p2)) := by
  generalize hF : impl_headOk p0 p1 p2 = r
  refine PC.enter Try.func72 rfl Try.ntmps72 (by simp) ?_
  have hS := Sep.void; unfold impl_headOk at hF
  refine AWP.seqR rfl ?_
  refine ASL.q (v := (.bool false)) rfl rfl (Light.quiet (opAssign rfl rfl)) ?_
  refine ASL.done ?_
  refine AWP.seqR rfl ?_
  refine ASL.q (v := (.int .i64 p0)) rfl rfl (Light.quiet (opMove rfl rfl)) ?_
  refine ASL.q (v := (.bool (impl_isLetters p0))) rfl rfl ((qCall rfl rfl call_78 (impl_isLetters_ok p0) rfl)) ?_
  obtain ⟨c9, hc9, hF⟩ := bndE hF
  refine ASL.q (v := (.bool c9)) rfl rfl ((Quiet.cast (Light.quiet (opMove rfl rfl)) (congrArg AV.bool hc9.symm))) ?_
  refine ASL.g (v := (.int .i64 p1)) (.bool c9) true rfl (wT _) rfl (fun hG => by have q0 := hG; subst q0; exact Light.quiet (opMove rfl rfl)) ?_
  refine ASL.g (v := (.bool (impl_inRange p1 0 31))) (.bool c9) true rfl (wT _) rfl (fun hG => by have q0 := hG; subst q0; exact (qCall rfl rfl call_43 (impl_inRange_ok p1 0 31) rfl)) ?_
  refine ASL.q (v := (.bool (c9 && (impl_inRange p1 0 31)))) rfl rfl (Light.quiet (opPick (b := c9) rfl rfl (by cases c9 <;> rfl))) ?_
  obtain ⟨c13, hc13, hF⟩ := bndE hF
  refine ASL.q (v := (.bool c13)) rfl rfl ((Quiet.cast (Light.quiet (opMove rfl rfl)) (congrArg AV.bool hc13.symm))) ?_
  refine ASL.g (v := (.int .i64 p2)) (.bool c13) true rfl (wT _) rfl (fun hG => by have q0 := hG; subst q0; exact Light.quiet (opMove rfl rfl)) ?_
  refine ASL.g (v := (.bool (impl_SetOk p2))) (.bool c13) true rfl (wT _) rfl (fun hG => by have q0 := hG; subst q0; exact (qCall rfl rfl call_48 (impl_SetOk_ok p2) rfl)) ?_
  refine ASL.q (v := (.bool (c13 && (impl_SetOk p2)))) rfl rfl (Light.quiet (opPick (b := c13) rfl rfl (by cases c13 <;> rfl))) ?_
  obtain ⟨c17, hc17, hF⟩ := bndE hF
  refine ASL.q (v := (.bool c17)) rfl rfl ((Quiet.cast (Light.quiet (opMove rfl rfl)) (congrArg AV.bool hc17.symm))) ?_
  refine ASL.g (v := (.int .i64 p2)) (.bool c17) true rfl (wT _) rfl (fun hG => by have q0 := hG; subst q0; exact Light.quiet (opMove rfl rfl)) ?_
  refine ASL.g (v := (.int .i64 p1)) (.bool c17) true rfl (wT _) rfl (fun hG => by have q0 := hG; subst q0; exact Light.quiet (opMove rfl rfl)) ?_
  refine ASL.g (v := (.int .i64 (impl_only p1))) (.bool c17) true rfl (wT _) rfl (fun hG => by have q0 := hG; subst q0; exact (qCall rfl rfl call_49 (impl_only_ok p1) rfl)) ?_
  refine ASL.g (v := (.bool (decide (p2 < ((impl_only p1)))))) (.bool c17) true rfl (wT _) rfl (fun hG => by have q0 := hG; subst q0; exact Light.quiet (opInt rfl rfl rfl rfl)) ?_
  refine ASL.q (v := (.bool (c17 && (decide (p2 < ((impl_only p1))))))) rfl rfl (Light.quiet (opPick (b := c17) rfl rfl (by cases c17 <;> rfl))) ?_
  refine ASL.q (v := (.bool (c17 && (decide (p2 < ((impl_only p1))))))) rfl rfl (Light.quiet (opAssign rfl rfl)) ?_
  refine ASL.done ?_
  refine AWP.ret ?_
  obtain rfl := hF
  exact QRet.sole (v := (.bool (c17 && (decide (p2 < ((impl_only p1))))))) ⟨rfl, trivial⟩ rfl

set_option maxRecDepth 10000 in
theorem cmp_isNaN_int_ok (p0 : Int) : PC Try.prog 81 [(.int .i64 p0)] fun v => v = (.bool (cmp_isNaN_int p0)) := by
  generalize hF : cmp_isNaN_int p0 = r
  refine PC.enter Try.func81 rfl Try.ntmps81 (by simp) ?_
  have hS := Sep.void; unfold cmp_isNaN_int at hF
  refine AWP.seqR rfl ?_
  refine ASL.q (v := (.bool false)) rfl rfl (Light.quiet (opAssign rfl rfl)) ?_
  refine ASL.done ?_
  refine AWP.seqR rfl ?_
  refine ASL.q (v := (.int .i64 p0)) rfl rfl (Light.quiet (opMove rfl rfl)) ?_
  refine ASL.q (v := (.int .i64 p0)) rfl rfl (Light.quiet (opMove rfl rfl)) ?_
  refine ASL.q (v := (.bool (decide (p0 ≠ p0)))) rfl rfl (Light.quiet (opInt rfl rfl rfl rfl)) ?_
  refine ASL.q (v := (.bool (decide (p0 ≠ p0)))) rfl rfl (Light.quiet (opAssign rfl rfl)) ?_
  refine ASL.done ?_
  refine AWP.ret ?_
  obtain rfl := hF
  exact QRet.sole (v := (.bool (decide (p0 ≠ p0)))) ⟨rfl, trivial⟩ rfl

set_option maxRecDepth 10000 in
theorem cmp_Compare_int_ok (p0 : Int) (p1 : Int) : PC Try.prog 80 [(.int .i64 p0), (.int .i64 p1)] fun v => v = (.int .i64 (cmp_Compare_int p0 p1)) := by
  generalize hF : cmp_Compare_int p0 p1 = r
  refine PC.enter Try.func80 rfl Try.ntmps80 (by simp) ?_
  have hS := Sep.void; unfold cmp_Compare_int at hF
  refine AWP.seqR rfl ?_
  refine ASL.q (v := (.int .i64 0)) rfl rfl (Light.quiet (opAssign rfl rfl)) ?_
  refine ASL.done ?_
  refine AWP.seqR rfl ?_
  refine ASL.q (v := (.int .i64 p0)) rfl rfl (Light.quiet (opMove rfl rfl)) ?_
  refine ASL.q (v := (.bool (cmp_isNaN_int p0))) rfl rfl ((qCall rfl rfl call_81 (cmp_isNaN_int_ok p0) rfl)) ?_
  refine ASL.q (v := (.bool (cmp_isNaN_int p0))) rfl rfl (Light.quiet (opAssign rfl rfl)) ?_
  refine ASL.done ?_
  refine AWP.seqR rfl ?_
  refine ASL.q (v := (.int .i64 p1)) rfl rfl (Light.quiet (opMove rfl rfl)) ?_
  refine ASL.q (v := (.bool (cmp_isNaN_int p1))) rfl rfl ((qCall rfl rfl call_81 (cmp_isNaN_int_ok p1) rfl)) ?_
  refine ASL.q (v := (.bool (cmp_isNaN_int p1))) rfl rfl (Light.quiet (opAssign rfl rfl)) ?_
  refine ASL.done ?_
  refine AWP.seq ?_
  refine AWP.seqR rfl ?_
  refine ASL.q (v := (.bool (cmp_isNaN_int p0))) rfl rfl (Light.quiet (opMove rfl rfl)) ?_
  refine ASL.done ?_
  refine AWP.ifB hF rfl (fun hc1 hF => ?_) (fun hc1 hF => ?_)
  · skip
    refine AWP.seq ?_
    refine AWP.seqR rfl ?_
    refine ASL.q (v := (.bool (cmp_isNaN_int p1))) rfl rfl (Light.quiet (opMove rfl rfl)) ?_
    refine ASL.done ?_
    refine AWP.ifB hF rfl (fun hc2 hF => ?_) (fun hc2 hF => ?_)
    · skip
      refine AWP.seqR rfl ?_
      refine ASL.q (v := (.int .i64 0)) rfl rfl (Light.quiet (opAssign rfl rfl)) ?_
      refine ASL.done ?_
      refine AWP.ret ?_
      refine QThen.rt ?_
      refine QThen.rt ?_
      obtain rfl := hF
      exact QRet.sole (v := (.int .i64 0)) ⟨rfl, trivial⟩ rfl
    · skip
      refine AWP.skip ?_
      refine QThen.nrm ?_
      refine AWP.seqR rfl ?_
      refine ASL.q (v := (.int .i64 (-1))) rfl rfl (Light.quiet (opAssign rfl rfl)) ?_
      refine ASL.done ?_
      refine AWP.ret ?_
      refine QThen.rt ?_
      obtain rfl := hF
      exact QRet.sole (v := (.int .i64 (-1))) ⟨rfl, trivial⟩ rfl
  · skip
    refine AWP.skip ?_
    refine QThen.nrm ?_
    refine AWP.seq ?_
    refine AWP.seqR rfl ?_
    refine ASL.q (v := (.bool (cmp_isNaN_int p1))) rfl rfl (Light.quiet (opMove rfl rfl)) ?_
    refine ASL.done ?_
    refine AWP.ifB hF rfl (fun hc3 hF => ?_) (fun hc3 hF => ?_)
    · skip
      refine AWP.seqR rfl ?_
      refine ASL.q (v := (.int .i64 1)) rfl rfl (Light.quiet (opAssign rfl rfl)) ?_
      refine ASL.done ?_
      refine AWP.ret ?_
      refine QThen.rt ?_
      obtain rfl := hF
      exact QRet.sole (v := (.int .i64 1)) ⟨rfl, trivial⟩ rfl
    · skip
      refine AWP.skip ?_
      refine QThen.nrm ?_
      refine AWP.seq ?_
      refine AWP.seqR rfl ?_
      refine ASL.q (v := (.int .i64 p0)) rfl rfl (Light.quiet (opMove rfl rfl)) ?_
      refine ASL.q (v := (.int .i64 p1)) rfl rfl (Light.quiet (opMove rfl rfl)) ?_
      refine ASL.q (v := (.bool (decide (p0 < p1)))) rfl rfl (Light.quiet (opInt rfl rfl rfl rfl)) ?_
      refine ASL.done ?_
      refine AWP.ifP hF rfl (fun hc4 hF => ?_) (fun hc4 hF => ?_)
      · skip
        refine AWP.seqR rfl ?_
        refine ASL.q (v := (.int .i64 (-1))) rfl rfl (Light.quiet (opAssign rfl rfl)) ?_
        refine ASL.done ?_
        refine AWP.ret ?_
        refine QThen.rt ?_
        obtain rfl := hF
        exact QRet.sole (v := (.int .i64 (-1))) ⟨rfl, trivial⟩ rfl
      · skip
        refine AWP.skip ?_
        refine QThen.nrm ?_
        refine AWP.seq ?_
        refine AWP.seqR rfl ?_
        refine ASL.q (v := (.int .i64 p0)) rfl rfl (Light.quiet (opMove rfl rfl)) ?_
        refine ASL.q (v := (.int .i64 p1)) rfl rfl (Light.quiet (opMove rfl rfl)) ?_
        refine ASL.q (v := (.bool (decide (p0 > p1)))) rfl rfl (Light.quiet (opInt rfl rfl rfl rfl)) ?_
        refine ASL.done ?_
        refine AWP.ifP hF rfl (fun hc5 hF => ?_) (fun hc5 hF => ?_)
        · skip
          refine AWP.seqR rfl ?_
          refine ASL.q (v := (.int .i64 1)) rfl rfl (Light.quiet (opAssign rfl rfl)) ?_
          refine ASL.done ?_
          refine AWP.ret ?_
          refine QThen.rt ?_
          obtain rfl := hF
          exact QRet.sole (v := (.int .i64 1)) ⟨rfl, trivial⟩ rfl
        · skip
          refine AWP.skip ?_
          refine QThen.nrm ?_
          refine AWP.seqR rfl ?_
          refine ASL.q (v := (.int .i64 0)) rfl rfl (Light.quiet (opAssign rfl rfl)) ?_
          refine ASL.done ?_
          refine AWP.ret ?_
          obtain rfl := hF
          exact QRet.sole (v := (.int .i64 0)) ⟨rfl, trivial⟩ rfl

set_option maxRecDepth 10000 in
theorem cmp_Or_int_ok {p0 : (List Int)} {r : Int} (hF : cmp_Or_int p0 = some r) : PC Try.prog 79 [(.list 1 (List.map (AV.int .i64) p0))] fun v => v = (.int .i64 r) := by
  refine PC.enter Try.func79 rfl Try.ntmps79 (by simp) ?_
  have hS := Sep.void; unfold cmp_Or_int at hF
  refine AWP.seqR rfl ?_
  refine ASL.q (v := (.int .i64 0)) rfl rfl (Light.quiet (opAssign rfl rfl)) ?_
  refine ASL.done ?_
  refine AWP.seqR rfl ?_
  refine ASL.q (v := (.int .i64 0)) rfl rfl (Light.quiet (opAssign rfl rfl)) ?_
  refine ASL.done ?_
  refine AWP.seqM (fun e H => E.Told e [(3, (.int .i64 0))] ∧ E.Sep H [] ∧ cmp_Or_int.k0 = some r) ?_ ?_
  · rintro e0 G1 ⟨hT, hS, hF⟩; refine AWP.only _ hT ?_; unfold cmp_Or_int.k0 at hF
    refine AWP.seqR rfl ?_
    refine ASL.q (v := (.int .i64 0)) rfl rfl (Light.quiet (opMove rfl rfl)) ?_
    refine ASL.q (v := (.int .i64 0)) rfl rfl (Light.quiet (opAssign rfl rfl)) ?_
    refine ASL.done ?_
    refine AWP.ret ?_
    obtain rfl := someE hF
    exact QRet.sole (v := (.int .i64 0)) ⟨rfl, trivial⟩ rfl
  · skip
    refine AWP.seqR rfl ?_
    refine ASL.q (v := (.list 1 (List.map (AV.int .i64) p0))) rfl rfl (Light.quiet (opMove rfl rfl)) ?_
    refine ASL.q (v := (.int .i64 (p0.length : Int))) rfl rfl (Light.quiet (opLenMap (f := (AV.int .i64)) rfl rfl rfl lenT_26 rfl)) ?_
    refine ASL.q (v := (.int .i64 0)) rfl rfl (Light.quiet (opMove rfl rfl)) ?_
    refine ASL.done ?_
    refine AWP.block ?_
    obtain ⟨o5, hL4, hR6⟩ := bindE hF
    refine AWP.loopF (ω := Unit) hL4 (fun s w => [(3, (.int .i64 0)), (6, (.list 1 (List.map (AV.int .i64) p0))), (7, (.int .i64 (p0.length : Int))), (8, (.int .i64 s))]) (fun s w => []) () ⟨rfl, rfl, rfl, rfl, trivial⟩ (hS.pick [] rfl rfl) ?_
    rintro x8_l0 _ G7 hS x2 hF hx3
    try dsimp only at hS ⊢
    have hF : cmp_Or_int.b0 p0 x8_l0 = some x2 := hF; unfold cmp_Or_int.b0 at hF
    refine AWP.seqR rfl ?_
    refine ASL.q (v := (.bool (decide (x8_l0 < ((p0.length : Int)))))) rfl rfl (Light.quiet (opInt rfl rfl rfl rfl)) ?_
    refine ASL.done ?_
    refine AWP.seq ?_
    refine AWP.ifP hF rfl (fun hc8 hF => ?_) (fun hc8 hF => ?_)
    · skip
      refine AWP.skip ?_
      refine QThen.nrm ?_
      refine AWP.seq ?_
      refine AWP.block ?_
      refine AWP.seqR rfl ?_
      obtain ⟨a10, ha10, hF⟩ := bindE hF
      refine ASL.q (v := (.rptr [(.int .i64 a10)])) rfl rfl (Light.quiet (kIx (f := (AV.int .i64)) ha10 rfl rfl rfl elemA_26 sizeA_3 rfl)) ?_
      refine ASL.q (v := (.int .i64 a10)) rfl rfl (Light.quiet (opLoadR rfl aggA_3 rfl rfl)) ?_
      refine ASL.q (v := (.int .i64 a10)) rfl rfl (Light.quiet (opAssign rfl rfl)) ?_
      refine ASL.done ?_
      refine AWP.seqR rfl ?_
      refine ASL.q (v := (.int .i64 a10)) rfl rfl (Light.quiet (opMove rfl rfl)) ?_
      refine ASL.q (v := (.int .i64 0)) rfl rfl (Light.quiet (opMove rfl rfl)) ?_
      refine ASL.q (v := (.bool (decide (a10 ≠ 0)))) rfl rfl (Light.quiet (opInt rfl rfl rfl rfl)) ?_
      refine ASL.done ?_
      refine AWP.ifP hF rfl (fun hc9 hF => ?_) (fun hc9 hF => ?_)
      · skip
        refine AWP.seqR rfl ?_
        refine ASL.q (v := (.int .i64 a10)) rfl rfl (Light.quiet (opMove rfl rfl)) ?_
        refine ASL.q (v := (.int .i64 a10)) rfl rfl (Light.quiet (opAssign rfl rfl)) ?_
        refine ASL.done ?_
        refine AWP.ret ?_
        refine QBlock.ret ?_
        refine QThen.rt ?_
        refine QThen.rt ?_
        refine QBlock.ret ?_
        refine QThen.rt ?_
        obtain rfl := (hx3 _ (someE hF).symm)
        have hF := hR6
        have hF := sumR hF
        obtain rfl := someE hF
        exact QRet.sole (v := (.int .i64 a10)) ⟨rfl, trivial⟩ rfl
      · skip
        refine AWP.skip ?_
        refine QBlock.nrm ?_
        refine QThen.nrm ?_
        refine AWP.lastR rfl ?_
        refine ASL.q (v := (.int .i64 (W (x8_l0 + 1)))) rfl rfl (Light.quiet (opInt rfl rfl rfl rfl)) ?_
        refine ASL.q (v := (.int .i64 (W (x8_l0 + 1)))) rfl rfl (Light.quiet (opMove rfl rfl)) ?_
        refine ASL.done ?_
        refine QThen.nrm ?_
        exact ⟨(W (x8_l0 + 1)), (), (someE hF).symm, ⟨rfl, rfl, rfl, rfl, trivial⟩, (hS.pick [] rfl rfl)⟩
    · skip
      refine AWP.exit ?_
      refine QThen.ext ?_
      refine QThen.ext ?_
      refine QBlock.hit ?_
      obtain rfl := (hx3 _ (someE hF).symm)
      have hF := hR6
      have hF := sumL hF
      refine QThen.nrm ?_
      exact ⟨⟨rfl, trivial⟩, (hS.pick [] rfl rfl), hF⟩

set_option maxRecDepth 10000 in
theorem impl_compareEdges_ok {p0 : TEdge} {p1 : TEdge} {r : Int} (hF : impl_compareEdges p0 p1 = some r) : PC Try.prog 73 [(TEdge.av p0), (TEdge.av p1)] fun v => v = (.int .i64 r) := by
  refine PC.enter Try.func73 rfl Try.ntmps73 (by simp) ?_
  have hS := Sep.void; unfold impl_compareEdges at hF
  refine AWP.seqR rfl ?_
  refine ASL.q (v := (.rptr [(.int .i64 p0.from_), (.int .i64 p0.letter), (.int .i64 p0.to_), (.bool p0.good)])) rfl rfl ((qBoxI (v := (TEdge.av p0)) rfl rfl rfl rfl)) ?_
  refine ASL.q (v := (.rptr [(.int .i64 p1.from_), (.int .i64 p1.letter), (.int .i64 p1.to_), (.bool p1.good)])) rfl rfl ((qBoxI (v := (TEdge.av p1)) rfl rfl rfl rfl)) ?_
  refine ASL.q (v := (.int .i64 0)) rfl rfl (Light.quiet (opAssign rfl rfl)) ?_
  refine ASL.done ?_
  refine AWP.seqD [(0, false), (1, false), (2, false), (3, false), (4, false), (5, false), (6, false), (7, false), (8, false), (9, false), (10, false), (11, false), (12, false), (13, false), (14, false), (15, false), (16, false), (17, false)] mixed (by kernel_rfl) rfl ?_
  refine ARL.q0 (v := (.rptr [(.int .i64 p0.from_), (.int .i64 p0.letter), (.int .i64 p0.to_), (.bool p0.good)])) rfl rfl (Light.quiet (opFieldAddrR rfl fieldA_73_0 rfl rfl)) ?_
  refine ARL.q0 (v := (.int .i64 p0.from_)) rfl rfl (Light.quiet (opLoadR rfl aggA_3 rfl rfl)) ?_
  refine ARL.q0 (v := (.rptr [(.int .i64 p1.from_), (.int .i64 p1.letter), (.int .i64 p1.to_), (.bool p1.good)])) rfl rfl (Light.quiet (opFieldAddrR rfl fieldA_73_0 rfl rfl)) ?_
  refine ARL.q0 (v := (.int .i64 p1.from_)) rfl rfl (Light.quiet (opLoadR rfl aggA_3 rfl rfl)) ?_
  refine ARL.q0 (v := (.int .i64 (cmp_Compare_int p0.from_ p1.from_))) rfl rfl ((qCall rfl rfl call_80 (cmp_Compare_int_ok p0.from_ p1.from_) rfl)) ?_
  refine ARL.q0 (v := (.rptr [(.int .i64 p0.letter), (.int .i64 p0.to_), (.bool p0.good)])) rfl rfl (Light.quiet (opFieldAddrR rfl fieldA_73_1 rfl rfl)) ?_
  refine ARL.q0 (v := (.int .i64 p0.letter)) rfl rfl (Light.quiet (opLoadR rfl aggA_3 rfl rfl)) ?_
  refine ARL.q0 (v := (.rptr [(.int .i64 p1.letter), (.int .i64 p1.to_), (.bool p1.good)])) rfl rfl (Light.quiet (opFieldAddrR rfl fieldA_73_1 rfl rfl)) ?_
  refine ARL.q0 (v := (.int .i64 p1.letter)) rfl rfl (Light.quiet (opLoadR rfl aggA_3 rfl rfl)) ?_
  refine ARL.q0 (v := (.int .i64 (cmp_Compare_int p0.letter p1.letter))) rfl rfl ((qCall rfl rfl call_80 (cmp_Compare_int_ok p0.letter p1.letter) rfl)) ?_
  refine ARL.q0 (v := (.rptr [(.int .i64 p0.to_), (.bool p0.good)])) rfl rfl (Light.quiet (opFieldAddrR rfl fieldA_73_2 rfl rfl)) ?_
  refine ARL.q0 (v := (.int .i64 p0.to_)) rfl rfl (Light.quiet (opLoadR rfl aggA_3 rfl rfl)) ?_
  refine ARL.q0 (v := (.rptr [(.int .i64 p1.to_), (.bool p1.good)])) rfl rfl (Light.quiet (opFieldAddrR rfl fieldA_73_2 rfl rfl)) ?_
  refine ARL.q0 (v := (.int .i64 p1.to_)) rfl rfl (Light.quiet (opLoadR rfl aggA_3 rfl rfl)) ?_
  refine ARL.q0 (v := (.int .i64 (cmp_Compare_int p0.to_ p1.to_))) rfl rfl ((qCall rfl rfl call_80 (cmp_Compare_int_ok p0.to_ p1.to_) rfl)) ?_
  refine ARL.q0 (v := (.list 1 (List.map (AV.int .i64) [(cmp_Compare_int p0.from_ p1.from_), (cmp_Compare_int p0.letter p1.letter), (cmp_Compare_int p0.to_ p1.to_)]))) rfl rfl ((qLit (xs := [(.int .i64 (cmp_Compare_int p0.from_ p1.from_)), (.int .i64 (cmp_Compare_int p0.letter p1.letter)), (.int .i64 (cmp_Compare_int p0.to_ p1.to_))]) rfl elemA_26 sizeA_3 zeroA_3 rfl rfl rfl rfl (by simp [cells]) (nlt rfl))) ?_
  obtain ⟨a21, ha21, hF⟩ := bindE hF
  refine ARL.q0 (v := (.int .i64 a21)) rfl rfl ((qCall rfl rfl call_79 (cmp_Or_int_ok ha21) rfl)) ?_
  refine ARL.q0 (v := (.int .i64 a21)) rfl rfl (Light.quiet (opAssign rfl rfl)) ?_
  refine ARL.done ?_
  refine AWP.ret ?_
  obtain rfl := someE hF
  exact QRet.sole (v := (.int .i64 a21)) ⟨rfl, trivial⟩ rfl

set_option maxRecDepth 10000 in
theorem impl_AutoOk_ok {p0 : TAuto} {r : Bool} (hF : impl_AutoOk p0 = some r) : PC Try.prog 56 [(TAuto.av p0)] fun v => v = (.bool r) := by
  refine PC.enter Try.func56 rfl Try.ntmps56 (by simp) ?_
  have hS := Sep.void; unfold impl_AutoOk at hF
  refine AWP.seqR rfl ?_
  refine ASL.q (v := (.rptr [(.int .i64 p0.letters), (.int .i64 p0.states), (.int .i64 p0.start), (.list 4 (List.map TEdge.av p0.edges))])) rfl rfl ((qBoxI (v := (TAuto.av p0)) rfl rfl rfl rfl)) ?_
  refine ASL.q (v := (.bool false)) rfl rfl (Light.quiet (opAssign rfl rfl)) ?_
  refine ASL.done ?_
  refine AWP.seq ?_
  refine AWP.seqR rfl ?_
  refine ASL.q (v := (.rptr [(.int .i64 p0.letters), (.int .i64 p0.states), (.int .i64 p0.start), (.list 4 (List.map TEdge.av p0.edges))])) rfl rfl (Light.quiet (opFieldAddrR rfl fieldA_33_0 rfl rfl)) ?_
  refine ASL.q (v := (.int .i64 p0.letters)) rfl rfl (Light.quiet (opLoadR rfl aggA_3 rfl rfl)) ?_
  refine ASL.q (v := (.rptr [(.int .i64 p0.states), (.int .i64 p0.start), (.list 4 (List.map TEdge.av p0.edges))])) rfl rfl (Light.quiet (opFieldAddrR rfl fieldA_33_1 rfl rfl)) ?_
  refine ASL.q (v := (.int .i64 p0.states)) rfl rfl (Light.quiet (opLoadR rfl aggA_3 rfl rfl)) ?_
  refine ASL.q (v := (.rptr [(.int .i64 p0.start), (.list 4 (List.map TEdge.av p0.edges))])) rfl rfl (Light.quiet (opFieldAddrR rfl fieldA_33_2 rfl rfl)) ?_
  refine ASL.q (v := (.int .i64 p0.start)) rfl rfl (Light.quiet (opLoadR rfl aggA_3 rfl rfl)) ?_
  refine ASL.q (v := (.bool (impl_headOk p0.letters p0.states p0.start))) rfl rfl ((qCall rfl rfl call_72 (impl_headOk_ok p0.letters p0.states p0.start) rfl)) ?_
  refine ASL.q (v := (.bool (!(impl_headOk p0.letters p0.states p0.start)))) rfl rfl (Light.quiet (opNot rfl rfl)) ?_
  obtain ⟨c13, hc13, hF⟩ := bndE hF
  refine ASL.q (v := (.bool c13)) rfl rfl ((Quiet.cast (Light.quiet (opMove rfl rfl)) (congrArg AV.bool hc13.symm))) ?_
  refine ASL.g (v := (.rptr [(.list 4 (List.map TEdge.av p0.edges))])) (.bool c13) false rfl (wF _) rfl (fun hG => by have q0 := gN hG; subst q0; exact Light.quiet (opFieldAddrR rfl fieldA_33_3 rfl rfl)) ?_
  refine ASL.g (v := (.list 4 (List.map TEdge.av p0.edges))) (.bool c13) false rfl (wF _) rfl (fun hG => by have q0 := gN hG; subst q0; exact Light.quiet (opLoadR rfl aggA_31 rfl rfl)) ?_
  refine ASL.g (v := (.int .i64 (p0.edges.length : Int))) (.bool c13) false rfl (wF _) rfl (fun hG => by have q0 := gN hG; subst q0; exact Light.quiet (opLenMap (f := TEdge.av) rfl rfl rfl lenT_31 rfl)) ?_
  refine ASL.g (v := (.bool (decide (((p0.edges.length : Int)) > 2000)))) (.bool c13) false rfl (wF _) rfl (fun hG => by have q0 := gN hG; subst q0; exact Light.quiet (opInt rfl rfl rfl rfl)) ?_
  refine ASL.q (v := (.bool (c13 || (decide (((p0.edges.length : Int)) > 2000))))) rfl rfl (Light.quiet (opPick (b := c13) rfl rfl (by cases c13 <;> rfl))) ?_
  refine ASL.done ?_
  refine AWP.ifB hF rfl (fun hc1 hF => ?_) (fun hc1 hF => ?_)
  · skip
    refine AWP.seqR rfl ?_
    refine ASL.q (v := (.bool false)) rfl rfl (Light.quiet (opAssign rfl rfl)) ?_
    refine ASL.done ?_
    refine AWP.ret ?_
    refine QThen.rt ?_
    obtain rfl := someE hF
    exact QRet.sole (v := (.bool false)) ⟨rfl, trivial⟩ rfl
  · skip
    refine AWP.skip ?_
    refine QThen.nrm ?_
    refine AWP.seqM (fun e H => E.Told e [] ∧ E.Sep H [] ∧ impl_AutoOk.k0 = some r) ?_ ?_
    · rintro e0 G2 ⟨hT, hS, hF⟩; refine AWP.only _ hT ?_; unfold impl_AutoOk.k0 at hF
      refine AWP.seqR rfl ?_
      refine ASL.q (v := (.bool true)) rfl rfl (Light.quiet (opAssign rfl rfl)) ?_
      refine ASL.done ?_
      refine AWP.ret ?_
      obtain rfl := someE hF
      exact QRet.sole (v := (.bool true)) ⟨rfl, trivial⟩ rfl
    · skip
      refine AWP.seqR rfl ?_
      refine ASL.q (v := (.rptr [(.list 4 (List.map TEdge.av p0.edges))])) rfl rfl (Light.quiet (opFieldAddrR rfl fieldA_33_3 rfl rfl)) ?_
      refine ASL.q (v := (.list 4 (List.map TEdge.av p0.edges))) rfl rfl (Light.quiet (opLoadR rfl aggA_31 rfl rfl)) ?_
      refine ASL.q (v := (.int .i64 (p0.edges.length : Int))) rfl rfl (Light.quiet (opLenMap (f := TEdge.av) rfl rfl rfl lenT_31 rfl)) ?_
      refine ASL.q (v := (.int .i64 0)) rfl rfl (Light.quiet (opMove rfl rfl)) ?_
      refine ASL.done ?_
      refine AWP.block ?_
      obtain ⟨o6, hL5, hR7⟩ := bindE hF
      refine AWP.loopF (ω := Unit) hL5 (fun s w => [(1, (.rptr [(.int .i64 p0.letters), (.int .i64 p0.states), (.int .i64 p0.start), (.list 4 (List.map TEdge.av p0.edges))])), (20, (.list 4 (List.map TEdge.av p0.edges))), (21, (.int .i64 (p0.edges.length : Int))), (22, (.int .i64 s))]) (fun s w => []) () ⟨rfl, rfl, rfl, rfl, trivial⟩ (hS.pick [] rfl rfl) ?_
      rintro x22_l0 _ G8 hS x3 hF hx4
      try dsimp only at hS ⊢
      have hF : impl_AutoOk.b0 p0 x22_l0 = some x3 := hF; unfold impl_AutoOk.b0 at hF
      refine AWP.seqR rfl ?_
      refine ASL.q (v := (.bool (decide (x22_l0 < ((p0.edges.length : Int)))))) rfl rfl (Light.quiet (opInt rfl rfl rfl rfl)) ?_
      refine ASL.done ?_
      refine AWP.seq ?_
      refine AWP.ifP hF rfl (fun hc9 hF => ?_) (fun hc9 hF => ?_)
      · skip
        refine AWP.skip ?_
        refine QThen.nrm ?_
        refine AWP.seq ?_
        refine AWP.block ?_
        refine AWP.seqR rfl ?_
        refine ASL.q (v := (.int .i64 x22_l0)) rfl rfl (Light.quiet (opMove rfl rfl)) ?_
        obtain ⟨a25, ha25, hF⟩ := bindE hF
        refine ASL.q (v := (.rptr [(.int .i64 a25.from_), (.int .i64 a25.letter), (.int .i64 a25.to_), (.bool a25.good)])) rfl rfl (Light.quiet (kIx (f := TEdge.av) ha25 rfl rfl rfl elemA_31 sizeA_73 rfl)) ?_
        refine ASL.q (v := (TEdge.av a25)) rfl rfl (Light.quiet (opLoadRA rfl aggA_73 sizeA_73 rfl (nlt rfl) rfl)) ?_
        refine ASL.x rfl rfl (hNewZ hS [(.int .i64 0), (.int .i64 0), (.int .i64 0), (.bool false)] rfl zeroA_73 ⟨.inl rfl, .inl rfl, .inl rfl, .inl rfl, trivial⟩ ?_); rintro b4 G10 hK hS
        refine ASL.q (v := (.int .i64 x22_l0)) rfl rfl (Light.quiet (opAssign rfl rfl)) ?_
        refine ASL.n rfl rfl (hPutA hS (j := 0) rfl rfl sizeA_73 rfl rfl rfl rfl rfl (nlt rfl) ?_); rintro G12 hS
        refine ASL.done ?_
        refine AWP.seq ?_
        refine AWP.seqR rfl ?_
        refine ASL.q (v := (.ptr b4 0)) rfl rfl (Light.quiet (opFieldAddr rfl fieldA_73_0 rfl rfl)) ?_
        refine ASL.q (v := (.int .i64 a25.from_)) rfl rfl (Light.quiet (kAt hS (j := 0) rfl rfl aggA_3 rfl rfl)) ?_
        refine ASL.q (v := (.rptr [(.int .i64 p0.states), (.int .i64 p0.start), (.list 4 (List.map TEdge.av p0.edges))])) rfl rfl (Light.quiet (opFieldAddrR rfl fieldA_33_1 rfl rfl)) ?_
        refine ASL.q (v := (.int .i64 p0.states)) rfl rfl (Light.quiet (opLoadR rfl aggA_3 rfl rfl)) ?_
        refine ASL.q (v := (.int .i64 (W (p0.states - 1)))) rfl rfl (Light.quiet (opInt rfl rfl rfl rfl)) ?_
        refine ASL.q (v := (.bool (impl_inRange a25.from_ 0 ((W (p0.states - 1)))))) rfl rfl ((qCall rfl rfl call_43 (impl_inRange_ok a25.from_ 0 ((W (p0.states - 1)))) rfl)) ?_
        refine ASL.q (v := (.bool (!(impl_inRange a25.from_ 0 ((W (p0.states - 1))))))) rfl rfl (Light.quiet (opNot rfl rfl)) ?_
        obtain ⟨c34, hc34, hF⟩ := bndE hF
        refine ASL.q (v := (.bool c34)) rfl rfl ((Quiet.cast (Light.quiet (opMove rfl rfl)) (congrArg AV.bool hc34.symm))) ?_
        refine ASL.g (v := (.ptr b4 2)) (.bool c34) false rfl (wF _) rfl (fun hG => by have q0 := gN hG; subst q0; exact Light.quiet (opFieldAddr rfl fieldA_73_2 rfl rfl)) ?_
        refine ASL.g (v := (.int .i64 a25.to_)) (.bool c34) false rfl (wF _) rfl (fun hG => by have q0 := gN hG; subst q0; exact Light.quiet (kAt hS (j := 0) rfl rfl aggA_3 rfl rfl)) ?_
        refine ASL.g (v := (.rptr [(.int .i64 p0.states), (.int .i64 p0.start), (.list 4 (List.map TEdge.av p0.edges))])) (.bool c34) false rfl (wF _) rfl (fun hG => by have q0 := gN hG; subst q0; exact Light.quiet (opFieldAddrR rfl fieldA_33_1 rfl rfl)) ?_
        refine ASL.g (v := (.int .i64 p0.states)) (.bool c34) false rfl (wF _) rfl (fun hG => by have q0 := gN hG; subst q0; exact Light.quiet (opLoadR rfl aggA_3 rfl rfl)) ?_
        refine ASL.g (v := (.int .i64 (W (p0.states - 1)))) (.bool c34) false rfl (wF _) rfl (fun hG => by have q0 := gN hG; subst q0; exact Light.quiet (opInt rfl rfl rfl rfl)) ?_
        refine ASL.g (v := (.bool (impl_inRange a25.to_ 0 ((W (p0.states - 1)))))) (.bool c34) false rfl (wF _) rfl (fun hG => by have q0 := gN hG; subst q0; exact (qCall rfl rfl call_43 (impl_inRange_ok a25.to_ 0 ((W (p0.states - 1)))) rfl)) ?_
        refine ASL.g (v := (.bool (!(impl_inRange a25.to_ 0 ((W (p0.states - 1))))))) (.bool c34) false rfl (wF _) rfl (fun hG => by have q0 := gN hG; subst q0; exact Light.quiet (opNot rfl rfl)) ?_
        refine ASL.q (v := (.bool (c34 || (!(impl_inRange a25.to_ 0 ((W (p0.states - 1)))))))) rfl rfl (Light.quiet (opPick (b := c34) rfl rfl (by cases c34 <;> rfl))) ?_
        obtain ⟨c43, hc43, hF⟩ := bndE hF
        refine ASL.q (v := (.bool c43)) rfl rfl ((Quiet.cast (Light.quiet (opMove rfl rfl)) (congrArg AV.bool hc43.symm))) ?_
        refine ASL.g (v := (.ptr b4 1)) (.bool c43) false rfl (wF _) rfl (fun hG => by have q0 := gN hG; subst q0; exact Light.quiet (opFieldAddr rfl fieldA_73_1 rfl rfl)) ?_
        refine ASL.g (v := (.int .i64 a25.letter)) (.bool c43) false rfl (wF _) rfl (fun hG => by have q0 := gN hG; subst q0; exact Light.quiet (kAt hS (j := 0) rfl rfl aggA_3 rfl rfl)) ?_
        refine ASL.g (v := (.rptr [(.int .i64 p0.letters), (.int .i64 p0.states), (.int .i64 p0.start), (.list 4 (List.map TEdge.av p0.edges))])) (.bool c43) false rfl (wF _) rfl (fun hG => by have q0 := gN hG; subst q0; exact Light.quiet (opFieldAddrR rfl fieldA_33_0 rfl rfl)) ?_
        refine ASL.g (v := (.int .i64 p0.letters)) (.bool c43) false rfl (wF _) rfl (fun hG => by have q0 := gN hG; subst q0; exact Light.quiet (opLoadR rfl aggA_3 rfl rfl)) ?_
        refine ASL.g (v := (.int .i64 (W (p0.letters - 1)))) (.bool c43) false rfl (wF _) rfl (fun hG => by have q0 := gN hG; subst q0; exact Light.quiet (opInt rfl rfl rfl rfl)) ?_
        refine ASL.g (v := (.bool (impl_inRange a25.letter 0 ((W (p0.letters - 1)))))) (.bool c43) false rfl (wF _) rfl (fun hG => by have q0 := gN hG; subst q0; exact (qCall rfl rfl call_43 (impl_inRange_ok a25.letter 0 ((W (p0.letters - 1)))) rfl)) ?_
        refine ASL.g (v := (.bool (!(impl_inRange a25.letter 0 ((W (p0.letters - 1))))))) (.bool c43) false rfl (wF _) rfl (fun hG => by have q0 := gN hG; subst q0; exact Light.quiet (opNot rfl rfl)) ?_
        refine ASL.q (v := (.bool (c43 || (!(impl_inRange a25.letter 0 ((W (p0.letters - 1)))))))) rfl rfl (Light.quiet (opPick (b := c43) rfl rfl (by cases c43 <;> rfl))) ?_
        refine ASL.done ?_
        refine AWP.ifB hF rfl (fun hc13 hF => ?_) (fun hc13 hF => ?_)
        · skip
          refine AWP.seqR rfl ?_
          refine ASL.q (v := (.bool false)) rfl rfl (Light.quiet (opAssign rfl rfl)) ?_
          refine ASL.done ?_
          refine AWP.ret ?_
          refine QThen.rt ?_
          refine QBlock.ret ?_
          refine QThen.rt ?_
          refine QThen.rt ?_
          refine QBlock.ret ?_
          refine QThen.rt ?_
          obtain rfl := (hx4 _ (someE hF).symm)
          have hF := hR7
          have hF := sumR hF
          obtain rfl := someE hF
          exact QRet.sole (v := (.bool false)) ⟨rfl, trivial⟩ rfl
        · skip
          refine AWP.skip ?_
          refine QThen.nrm ?_
          refine AWP.seqD [(0, false), (1, false), (2, false), (3, false), (4, false), (5, false), (6, false), (7, false), (8, false), (9, false), (10, false), (11, false), (12, false)] mixed (by kernel_rfl) rfl ?_
          refine ARL.q0 (v := (.int .i64 x22_l0)) rfl rfl (Light.quiet (opMove rfl rfl)) ?_
          refine ARL.q0 (v := (.bool (decide (x22_l0 > 0)))) rfl rfl (Light.quiet (opInt rfl rfl rfl rfl)) ?_
          obtain ⟨c54, hc54, hF⟩ := bndE hF
          refine ARL.q0 (v := (.bool c54)) rfl rfl ((Quiet.cast (Light.quiet (opMove rfl rfl)) (congrArg AV.bool hc54.symm))) ?_
          refine ARL.g (v := (.rptr [(.list 4 (List.map TEdge.av p0.edges))])) (.bool c54) true rfl (wT _) rfl noneAlive (fun hG => by have q0 := hG; subst q0; exact Light.quiet (opFieldAddrR rfl fieldA_33_3 rfl rfl)) ?_
          refine ARL.g (v := (.list 4 (List.map TEdge.av p0.edges))) (.bool c54) true rfl (wT _) rfl noneAlive (fun hG => by have q0 := hG; subst q0; exact Light.quiet (opLoadR rfl aggA_31 rfl rfl)) ?_
          refine ARL.g (v := (.int .i64 x22_l0)) (.bool c54) true rfl (wT _) rfl noneAlive (fun hG => by have q0 := hG; subst q0; exact Light.quiet (opMove rfl rfl)) ?_
          refine ARL.g (v := (.int .i64 (W (x22_l0 - 1)))) (.bool c54) true rfl (wT _) rfl noneAlive (fun hG => by have q0 := hG; subst q0; exact Light.quiet (opInt rfl rfl rfl rfl)) ?_
          obtain ⟨a59, ha59, hF⟩ := bindE hF
          refine ARL.g (v := (.rptr [(.int .i64 a59.from_), (.int .i64 a59.letter), (.int .i64 a59.to_), (.bool a59.good)])) (.bool c54) true rfl (wT _) rfl noneAlive (fun hG => by have q0 := hG; subst q0; exact Light.quiet (kIx (f := TEdge.av) (whenE ha59) rfl rfl rfl elemA_31 sizeA_73 rfl)) ?_
          refine ARL.g (v := (TEdge.av a59)) (.bool c54) true rfl (wT _) rfl noneAlive (fun hG => by have q0 := hG; subst q0; exact Light.quiet (opLoadRA rfl aggA_73 sizeA_73 rfl (nlt rfl) rfl)) ?_
          refine ARL.g (v := (TEdge.av a25)) (.bool c54) true rfl (wT _) rfl (hS.aliveC (k := 0) rfl) (fun hG => by have q0 := hG; subst q0; exact Light.quiet (kAtA hS (j := 0) rfl rfl aggA_73 sizeA_73 rfl (nlt rfl) rfl)) ?_
          obtain ⟨a62, ha62, hF⟩ := bindE hF
          refine ARL.g (v := (.int .i64 a62)) (.bool c54) true rfl (wT _) rfl noneAlive (fun hG => by have q0 := hG; subst q0; exact (qCall rfl rfl call_73 (impl_compareEdges_ok (whenE ha62)) rfl)) ?_
          refine ARL.g (v := (.bool (decide (a62 ≥ 0)))) (.bool c54) true rfl (wT _) rfl noneAlive (fun hG => by have q0 := hG; subst q0; exact Light.quiet (opInt rfl rfl rfl rfl)) ?_
          refine ARL.q0 (v := (.bool (c54 && (decide (a62 ≥ 0))))) rfl rfl (Light.quiet (opPick (b := c54) rfl rfl (by cases c54 <;> rfl))) ?_
          refine ARL.done ?_
          refine AWP.ifB hF rfl (fun hc14 hF => ?_) (fun hc14 hF => ?_)
          · skip
            refine AWP.seqR rfl ?_
            refine ASL.q (v := (.bool false)) rfl rfl (Light.quiet (opAssign rfl rfl)) ?_
            refine ASL.done ?_
            refine AWP.ret ?_
            refine QBlock.ret ?_
            refine QThen.rt ?_
            refine QThen.rt ?_
            refine QBlock.ret ?_
            refine QThen.rt ?_
            obtain rfl := (hx4 _ (someE hF).symm)
            have hF := hR7
            have hF := sumR hF
            obtain rfl := someE hF
            exact QRet.sole (v := (.bool false)) ⟨rfl, trivial⟩ rfl
          · skip
            refine AWP.skip ?_
            refine QBlock.nrm ?_
            refine QThen.nrm ?_
            refine AWP.lastR rfl ?_
            refine ASL.q (v := (.int .i64 (W (x22_l0 + 1)))) rfl rfl (Light.quiet (opInt rfl rfl rfl rfl)) ?_
            refine ASL.q (v := (.int .i64 (W (x22_l0 + 1)))) rfl rfl (Light.quiet (opMove rfl rfl)) ?_
            refine ASL.done ?_
            refine QThen.nrm ?_
            exact ⟨(W (x22_l0 + 1)), (), (someE hF).symm, ⟨rfl, rfl, rfl, rfl, trivial⟩, (hS.pick [] rfl rfl)⟩
      · skip
        refine AWP.exit ?_
        refine QThen.ext ?_
        refine QThen.ext ?_
        refine QBlock.hit ?_
        obtain rfl := (hx4 _ (someE hF).symm)
        have hF := hR7
        have hF := sumL hF
        refine QThen.nrm ?_
        exact ⟨trivial, (hS.pick [] rfl rfl), hF⟩

set_option maxRecDepth 10000 in
theorem impl_isRanked_ok {p0 : TAuto} {r : Bool} (hF : impl_isRanked p0 = some r) : PC Try.prog 32 [(TAuto.av p0)] fun v => v = (.bool r) := by
  refine PC.enter Try.func32 rfl Try.ntmps32 (by simp) ?_
  have hS := Sep.void; unfold impl_isRanked at hF
  refine AWP.seqR rfl ?_
  refine ASL.q (v := (.rptr [(.int .i64 p0.letters), (.int .i64 p0.states), (.int .i64 p0.start), (.list 4 (List.map TEdge.av p0.edges))])) rfl rfl ((qBoxI (v := (TAuto.av p0)) rfl rfl rfl rfl)) ?_
  refine ASL.q (v := (.bool false)) rfl rfl (Light.quiet (opAssign rfl rfl)) ?_
  refine ASL.done ?_
  refine AWP.seqR rfl ?_
  refine ASL.q (v := (TAuto.av p0)) rfl rfl (Light.quiet (opLoadRA rfl aggA_33 sizeA_33 rfl (nlt rfl) rfl)) ?_
  obtain ⟨a4, ha4, hF⟩ := bindE hF
  refine ASL.q (v := (.bool a4)) rfl rfl ((qCall rfl rfl call_56 (impl_AutoOk_ok ha4) rfl)) ?_
  refine ASL.q (v := (.bool a4)) rfl rfl (Light.quiet (opMove rfl rfl)) ?_
  refine ASL.g (v := (.rptr [(.int .i64 p0.states), (.int .i64 p0.start), (.list 4 (List.map TEdge.av p0.edges))])) (.bool a4) true rfl (wT _) rfl (fun hG => by have q0 := hG; subst q0; exact Light.quiet (opFieldAddrR rfl fieldA_33_1 rfl rfl)) ?_
  refine ASL.g (v := (.int .i64 p0.states)) (.bool a4) true rfl (wT _) rfl (fun hG => by have q0 := hG; subst q0; exact Light.quiet (opLoadR rfl aggA_3 rfl rfl)) ?_
  refine ASL.g (v := (.bool (decide (p0.states ≤ 2)))) (.bool a4) true rfl (wT _) rfl (fun hG => by have q0 := hG; subst q0; exact Light.quiet (opInt rfl rfl rfl rfl)) ?_
  refine ASL.q (v := (.bool (a4 && (decide (p0.states ≤ 2))))) rfl rfl (Light.quiet (opPick (b := a4) rfl rfl (by cases a4 <;> rfl))) ?_
  refine ASL.q (v := (.bool (a4 && (decide (p0.states ≤ 2))))) rfl rfl (Light.quiet (opAssign rfl rfl)) ?_
  refine ASL.done ?_
  refine AWP.ret ?_
  obtain rfl := someE hF
  exact QRet.sole (v := (.bool (a4 && (decide (p0.states ≤ 2))))) ⟨rfl, trivial⟩ rfl

set_option maxRecDepth 10000 in
theorem impl_has_ok (p0 : Int) (p1 : Int) : PC Try.prog 50 [(.int .i64 p0), (.int .i64 p1)] fun v => v = (.bool (impl_has p0 p1)) := by
  generalize hF : impl_has p0 p1 = r
  refine PC.enter Try.func50 rfl Try.ntmps50 (by simp) ?_
  have hS := Sep.void; unfold impl_has at hF
  refine AWP.seqR rfl ?_
  refine ASL.q (v := (.bool false)) rfl rfl (Light.quiet (opAssign rfl rfl)) ?_
  refine ASL.done ?_
  refine AWP.seqR rfl ?_
  refine ASL.q (v := (.int .i64 p0)) rfl rfl (Light.quiet (opMove rfl rfl)) ?_
  refine ASL.q (v := (.int .i64 p1)) rfl rfl (Light.quiet (opMove rfl rfl)) ?_
  refine ASL.q (v := (.int .u64 (IntKind.u64.wrap p1))) rfl rfl (Light.quiet (opConv rfl rfl und_3 und_88 rfl)) ?_
  refine ASL.q (v := (.int .i64 (shr .i64 p0 ((IntKind.u64.wrap p1))))) rfl rfl (Light.quiet (opShr rfl rfl rfl (wrapU_nn rfl _) rfl)) ?_
  refine ASL.q (v := (.int .i64 (bAnd .i64 ((shr .i64 p0 ((IntKind.u64.wrap p1)))) 1))) rfl rfl (Light.quiet (opInt rfl rfl rfl rfl)) ?_
  refine ASL.q (v := (.bool (decide (((bAnd .i64 ((shr .i64 p0 ((IntKind.u64.wrap p1)))) 1)) = 1)))) rfl rfl (Light.quiet (opInt rfl rfl rfl rfl)) ?_
  refine ASL.q (v := (.bool (decide (((bAnd .i64 ((shr .i64 p0 ((IntKind.u64.wrap p1)))) 1)) = 1)))) rfl rfl (Light.quiet (opAssign rfl rfl)) ?_
  refine ASL.done ?_
  refine AWP.ret ?_
  obtain rfl := hF
  exact QRet.sole (v := (.bool (decide (((bAnd .i64 ((shr .i64 p0 ((IntKind.u64.wrap p1)))) 1)) = 1)))) ⟨rfl, trivial⟩ rfl

set_option maxRecDepth 10000 in
theorem impl_RankOk_ok {p0 : TAuto} {p1 : TRankState} {r : Bool} (hF : impl_RankOk p0 p1 = some r) : PC Try.prog 20 [(TAuto.av p0), (TRankState.av p1)] fun v => v = (.bool r) := by
  refine PC.enter Try.func20 rfl Try.ntmps20 (by simp) ?_
  have hS := Sep.void; unfold impl_RankOk at hF
  refine AWP.seqR rfl ?_
  refine ASL.q (v := (.rptr [(.int .i64 p0.letters), (.int .i64 p0.states), (.int .i64 p0.start), (.list 4 (List.map TEdge.av p0.edges))])) rfl rfl ((qBoxI (v := (TAuto.av p0)) rfl rfl rfl rfl)) ?_
  refine ASL.q (v := (.rptr [(.list 1 (List.map (AV.int .i64) p1.ranks)), (.int .i64 p1.owing)])) rfl rfl ((qBoxI (v := (TRankState.av p1)) rfl rfl rfl rfl)) ?_
  refine ASL.q (v := (.bool false)) rfl rfl (Light.quiet (opAssign rfl rfl)) ?_
  refine ASL.done ?_
  refine AWP.seq ?_
  refine AWP.seqD [(0, false), (1, false), (2, false), (3, false), (4, false), (5, false), (6, false), (7, false), (8, false), (9, false), (10, false), (11, false), (12, false), (13, false), (14, false), (15, false), (16, false), (17, false), (18, false), (19, false), (20, false), (21, false), (22, false), (23, false), (24, false)] mixed (by kernel_rfl) rfl ?_
  refine ARL.q0 (v := (TAuto.av p0)) rfl rfl (Light.quiet (opLoadRA rfl aggA_33 sizeA_33 rfl (nlt rfl) rfl)) ?_
  obtain ⟨a8, ha8, hF⟩ := bindE hF
  refine ARL.q0 (v := (.bool a8)) rfl rfl ((qCall rfl rfl call_32 (impl_isRanked_ok ha8) rfl)) ?_
  refine ARL.q0 (v := (.bool (!a8))) rfl rfl (Light.quiet (opNot rfl rfl)) ?_
  obtain ⟨c10, hc10, hF⟩ := bndE hF
  refine ARL.q0 (v := (.bool c10)) rfl rfl ((Quiet.cast (Light.quiet (opMove rfl rfl)) (congrArg AV.bool hc10.symm))) ?_
  refine ARL.g (v := (.rptr [(.list 1 (List.map (AV.int .i64) p1.ranks)), (.int .i64 p1.owing)])) (.bool c10) false rfl (wF _) rfl noneAlive (fun hG => by have q0 := gN hG; subst q0; exact Light.quiet (opFieldAddrR rfl fieldA_28_0 rfl rfl)) ?_
  refine ARL.g (v := (.list 1 (List.map (AV.int .i64) p1.ranks))) (.bool c10) false rfl (wF _) rfl noneAlive (fun hG => by have q0 := gN hG; subst q0; exact Light.quiet (opLoadR rfl aggA_26 rfl rfl)) ?_
  refine ARL.g (v := (.int .i64 (p1.ranks.length : Int))) (.bool c10) false rfl (wF _) rfl noneAlive (fun hG => by have q0 := gN hG; subst q0; exact Light.quiet (opLenMap (f := (AV.int .i64)) rfl rfl rfl lenT_26 rfl)) ?_
  refine ARL.g (v := (.rptr [(.int .i64 p0.states), (.int .i64 p0.start), (.list 4 (List.map TEdge.av p0.edges))])) (.bool c10) false rfl (wF _) rfl noneAlive (fun hG => by have q0 := gN hG; subst q0; exact Light.quiet (opFieldAddrR rfl fieldA_33_1 rfl rfl)) ?_
  refine ARL.g (v := (.int .i64 p0.states)) (.bool c10) false rfl (wF _) rfl noneAlive (fun hG => by have q0 := gN hG; subst q0; exact Light.quiet (opLoadR rfl aggA_3 rfl rfl)) ?_
  refine ARL.g (v := (.bool (decide (((p1.ranks.length : Int)) ≠ p0.states)))) (.bool c10) false rfl (wF _) rfl noneAlive (fun hG => by have q0 := gN hG; subst q0; exact Light.quiet (opInt rfl rfl rfl rfl)) ?_
  refine ARL.q0 (v := (.bool (c10 || (decide (((p1.ranks.length : Int)) ≠ p0.states))))) rfl rfl (Light.quiet (opPick (b := c10) rfl rfl (by cases c10 <;> rfl))) ?_
  obtain ⟨c18, hc18, hF⟩ := bndE hF
  refine ARL.q0 (v := (.bool c18)) rfl rfl ((Quiet.cast (Light.quiet (opMove rfl rfl)) (congrArg AV.bool hc18.symm))) ?_
  refine ARL.g (v := (.rptr [(.int .i64 p1.owing)])) (.bool c18) false rfl (wF _) rfl noneAlive (fun hG => by have q0 := gN hG; subst q0; exact Light.quiet (opFieldAddrR rfl fieldA_28_1 rfl rfl)) ?_
  refine ARL.g (v := (.int .i64 p1.owing)) (.bool c18) false rfl (wF _) rfl noneAlive (fun hG => by have q0 := gN hG; subst q0; exact Light.quiet (opLoadR rfl aggA_3 rfl rfl)) ?_
  refine ARL.g (v := (.bool (impl_SetOk p1.owing))) (.bool c18) false rfl (wF _) rfl noneAlive (fun hG => by have q0 := gN hG; subst q0; exact (qCall rfl rfl call_48 (impl_SetOk_ok p1.owing) rfl)) ?_
  refine ARL.g (v := (.bool (!(impl_SetOk p1.owing)))) (.bool c18) false rfl (wF _) rfl noneAlive (fun hG => by have q0 := gN hG; subst q0; exact Light.quiet (opNot rfl rfl)) ?_
  refine ARL.q0 (v := (.bool (c18 || (!(impl_SetOk p1.owing))))) rfl rfl (Light.quiet (opPick (b := c18) rfl rfl (by cases c18 <;> rfl))) ?_
  obtain ⟨c24, hc24, hF⟩ := bndE hF
  refine ARL.q0 (v := (.bool c24)) rfl rfl ((Quiet.cast (Light.quiet (opMove rfl rfl)) (congrArg AV.bool hc24.symm))) ?_
  refine ARL.g (v := (.rptr [(.int .i64 p1.owing)])) (.bool c24) false rfl (wF _) rfl noneAlive (fun hG => by have q0 := gN hG; subst q0; exact Light.quiet (opFieldAddrR rfl fieldA_28_1 rfl rfl)) ?_
  refine ARL.g (v := (.int .i64 p1.owing)) (.bool c24) false rfl (wF _) rfl noneAlive (fun hG => by have q0 := gN hG; subst q0; exact Light.quiet (opLoadR rfl aggA_3 rfl rfl)) ?_
  refine ARL.g (v := (.rptr [(.int .i64 p0.states), (.int .i64 p0.start), (.list 4 (List.map TEdge.av p0.edges))])) (.bool c24) false rfl (wF _) rfl noneAlive (fun hG => by have q0 := gN hG; subst q0; exact Light.quiet (opFieldAddrR rfl fieldA_33_1 rfl rfl)) ?_
  refine ARL.g (v := (.int .i64 p0.states)) (.bool c24) false rfl (wF _) rfl noneAlive (fun hG => by have q0 := gN hG; subst q0; exact Light.quiet (opLoadR rfl aggA_3 rfl rfl)) ?_
  refine ARL.g (v := (.int .i64 (impl_only p0.states))) (.bool c24) false rfl (wF _) rfl noneAlive (fun hG => by have q0 := gN hG; subst q0; exact (qCall rfl rfl call_49 (impl_only_ok p0.states) rfl)) ?_
  refine ARL.g (v := (.bool (decide (p1.owing ≥ ((impl_only p0.states)))))) (.bool c24) false rfl (wF _) rfl noneAlive (fun hG => by have q0 := gN hG; subst q0; exact Light.quiet (opInt rfl rfl rfl rfl)) ?_
  refine ARL.q0 (v := (.bool (c24 || (decide (p1.owing ≥ ((impl_only p0.states))))))) rfl rfl (Light.quiet (opPick (b := c24) rfl rfl (by cases c24 <;> rfl))) ?_
  refine ARL.done ?_
  refine AWP.ifB hF rfl (fun hc1 hF => ?_) (fun hc1 hF => ?_)
  · skip
    refine AWP.seqR rfl ?_
    refine ASL.q (v := (.bool false)) rfl rfl (Light.quiet (opAssign rfl rfl)) ?_
    refine ASL.done ?_
    refine AWP.ret ?_
    refine QThen.rt ?_
    obtain rfl := someE hF
    exact QRet.sole (v := (.bool false)) ⟨rfl, trivial⟩ rfl
  · skip
    refine AWP.skip ?_
    refine QThen.nrm ?_
    refine AWP.seqM (fun e H => E.Told e [] ∧ E.Sep H [] ∧ impl_RankOk.k0 = some r) ?_ ?_
    · rintro e0 G2 ⟨hT, hS, hF⟩; refine AWP.only _ hT ?_; unfold impl_RankOk.k0 at hF
      refine AWP.seqR rfl ?_
      refine ASL.q (v := (.bool true)) rfl rfl (Light.quiet (opAssign rfl rfl)) ?_
      refine ASL.done ?_
      refine AWP.ret ?_
      obtain rfl := someE hF
      exact QRet.sole (v := (.bool true)) ⟨rfl, trivial⟩ rfl
    · skip
      refine AWP.seqR rfl ?_
      refine ASL.q (v := (.rptr [(.list 1 (List.map (AV.int .i64) p1.ranks)), (.int .i64 p1.owing)])) rfl rfl (Light.quiet (opFieldAddrR rfl fieldA_28_0 rfl rfl)) ?_
      refine ASL.q (v := (.list 1 (List.map (AV.int .i64) p1.ranks))) rfl rfl (Light.quiet (opLoadR rfl aggA_26 rfl rfl)) ?_
      refine ASL.q (v := (.int .i64 (p1.ranks.length : Int))) rfl rfl (Light.quiet (opLenMap (f := (AV.int .i64)) rfl rfl rfl lenT_26 rfl)) ?_
      refine ASL.q (v := (.int .i64 0)) rfl rfl (Light.quiet (opMove rfl rfl)) ?_
      refine ASL.done ?_
      refine AWP.block ?_
      obtain ⟨o6, hL5, hR7⟩ := bindE hF
      refine AWP.loopF (ω := Unit) hL5 (fun s w => [(2, (.rptr [(.int .i64 p0.letters), (.int .i64 p0.states), (.int .i64 p0.start), (.list 4 (List.map TEdge.av p0.edges))])), (3, (.rptr [(.list 1 (List.map (AV.int .i64) p1.ranks)), (.int .i64 p1.owing)])), (33, (.list 1 (List.map (AV.int .i64) p1.ranks))), (34, (.int .i64 (p1.ranks.length : Int))), (35, (.int .i64 s))]) (fun s w => []) () ⟨rfl, rfl, rfl, rfl, rfl, trivial⟩ (hS.pick [] rfl rfl) ?_
      rintro x35_l0 _ G8 hS x3 hF hx4
      try dsimp only at hS ⊢
      have hF : impl_RankOk.b0 p1 p0 x35_l0 = some x3 := hF; unfold impl_RankOk.b0 at hF
      refine AWP.seqR rfl ?_
      refine ASL.q (v := (.bool (decide (x35_l0 < ((p1.ranks.length : Int)))))) rfl rfl (Light.quiet (opInt rfl rfl rfl rfl)) ?_
      refine ASL.done ?_
      refine AWP.seq ?_
      refine AWP.ifP hF rfl (fun hc9 hF => ?_) (fun hc9 hF => ?_)
      · skip
        refine AWP.skip ?_
        refine QThen.nrm ?_
        refine AWP.seq ?_
        refine AWP.block ?_
        refine AWP.seqR rfl ?_
        refine ASL.q (v := (.int .i64 x35_l0)) rfl rfl (Light.quiet (opMove rfl rfl)) ?_
        obtain ⟨a38, ha38, hF⟩ := bindE hF
        refine ASL.q (v := (.rptr [(.int .i64 a38)])) rfl rfl (Light.quiet (kIx (f := (AV.int .i64)) ha38 rfl rfl rfl elemA_26 sizeA_3 rfl)) ?_
        refine ASL.q (v := (.int .i64 a38)) rfl rfl (Light.quiet (opLoadR rfl aggA_3 rfl rfl)) ?_
        refine ASL.q (v := (.int .i64 x35_l0)) rfl rfl (Light.quiet (opAssign rfl rfl)) ?_
        refine ASL.q (v := (.int .i64 a38)) rfl rfl (Light.quiet (opAssign rfl rfl)) ?_
        refine ASL.done ?_
        refine AWP.seqR rfl ?_
        refine ASL.q (v := (.int .i64 a38)) rfl rfl (Light.quiet (opMove rfl rfl)) ?_
        refine ASL.q (v := (.rptr [(.int .i64 p0.states), (.int .i64 p0.start), (.list 4 (List.map TEdge.av p0.edges))])) rfl rfl (Light.quiet (opFieldAddrR rfl fieldA_33_1 rfl rfl)) ?_
        refine ASL.q (v := (.int .i64 p0.states)) rfl rfl (Light.quiet (opLoadR rfl aggA_3 rfl rfl)) ?_
        refine ASL.q (v := (.int .i64 (W (2 * p0.states)))) rfl rfl (Light.quiet (opInt rfl rfl rfl rfl)) ?_
        refine ASL.q (v := (.bool (impl_inRange a38 ((-1)) ((W (2 * p0.states)))))) rfl rfl ((qCall rfl rfl call_43 (impl_inRange_ok a38 ((-1)) ((W (2 * p0.states)))) rfl)) ?_
        refine ASL.q (v := (.bool (!(impl_inRange a38 ((-1)) ((W (2 * p0.states))))))) rfl rfl (Light.quiet (opNot rfl rfl)) ?_
        obtain ⟨c46, hc46, hF⟩ := bndE hF
        refine ASL.q (v := (.bool c46)) rfl rfl ((Quiet.cast (Light.quiet (opMove rfl rfl)) (congrArg AV.bool hc46.symm))) ?_
        refine ASL.g (v := (.rptr [(.int .i64 p1.owing)])) (.bool c46) false rfl (wF _) rfl (fun hG => by have q0 := gN hG; subst q0; exact Light.quiet (opFieldAddrR rfl fieldA_28_1 rfl rfl)) ?_
        refine ASL.g (v := (.int .i64 p1.owing)) (.bool c46) false rfl (wF _) rfl (fun hG => by have q0 := gN hG; subst q0; exact Light.quiet (opLoadR rfl aggA_3 rfl rfl)) ?_
        refine ASL.g (v := (.int .i64 x35_l0)) (.bool c46) false rfl (wF _) rfl (fun hG => by have q0 := gN hG; subst q0; exact Light.quiet (opMove rfl rfl)) ?_
        refine ASL.g (v := (.bool (impl_has p1.owing x35_l0))) (.bool c46) false rfl (wF _) rfl (fun hG => by have q0 := gN hG; subst q0; exact (qCall rfl rfl call_50 (impl_has_ok p1.owing x35_l0) rfl)) ?_
        obtain ⟨c51, hc51, hF⟩ := bndE hF
        refine ASL.g (v := (.bool c51)) (.bool c46) false rfl (wF _) rfl (fun hG => by have q0 := gN hG; subst q0; exact (Quiet.cast (Light.quiet (opMove rfl rfl)) (congrArg AV.bool hc51.symm))) ?_
        refine ASL.g (v := (.int .i64 a38)) (bif (!c46) then (.bool c51) else .tup []) true rfl (wGT _ _) rfl (fun hG => by have q0 := gN (gA1 hG); have q1 := gA2 hG; subst q0; subst q1; exact Light.quiet (opMove rfl rfl)) ?_
        refine ASL.g (v := (.bool (decide (a38 < 0)))) (bif (!c46) then (.bool c51) else .tup []) true rfl (wGT _ _) rfl (fun hG => by have q0 := gN (gA1 hG); have q1 := gA2 hG; subst q0; subst q1; exact Light.quiet (opInt rfl rfl rfl rfl)) ?_
        obtain ⟨c54, hc54, hF⟩ := bndE hF
        refine ASL.g (v := (.bool c54)) (bif (!c46) then (.bool c51) else .tup []) true rfl (wGT _ _) rfl (fun hG => by have q0 := gN (gA1 hG); have q1 := gA2 hG; subst q0; subst q1; exact (Quiet.cast (Light.quiet (opMove rfl rfl)) (congrArg AV.bool hc54.symm))) ?_
        refine ASL.g (v := (.int .i64 a38)) (bif ((!c46) && c51) then (.bool c54) else .tup []) false rfl (wGF _ _) rfl (fun hG => by have q0 := gN (gA1 (gA1 hG)); have q1 := gA2 (gA1 hG); have q2 := gN (gA2 hG); subst q0; subst q1; subst q2; exact Light.quiet (opMove rfl rfl)) ?_
        refine ASL.g (v := (.int .i64 (Int.tmod a38 2))) (bif ((!c46) && c51) then (.bool c54) else .tup []) false rfl (wGF _ _) rfl (fun hG => by have q0 := gN (gA1 (gA1 hG)); have q1 := gA2 (gA1 hG); have q2 := gN (gA2 hG); subst q0; subst q1; subst q2; exact Light.quiet (opRem rfl rfl rfl (by decide) rfl)) ?_
        refine ASL.g (v := (.bool (decide (((Int.tmod a38 2)) ≠ 0)))) (bif ((!c46) && c51) then (.bool c54) else .tup []) false rfl (wGF _ _) rfl (fun hG => by have q0 := gN (gA1 (gA1 hG)); have q1 := gA2 (gA1 hG); have q2 := gN (gA2 hG); subst q0; subst q1; subst q2; exact Light.quiet (opInt rfl rfl rfl rfl)) ?_
        refine ASL.g (v := (.bool (c54 || (decide (((Int.tmod a38 2)) ≠ 0))))) (bif (!c46) then (.bool c51) else .tup []) true rfl (wGT _ _) rfl (fun hG => by have q0 := gN (gA1 hG); have q1 := gA2 hG; subst q0; subst q1; exact Light.quiet (opPick (b := c54) rfl rfl (by cases c54 <;> rfl))) ?_
        refine ASL.g (v := (.bool (c51 && (c54 || (decide (((Int.tmod a38 2)) ≠ 0)))))) (.bool c46) false rfl (wF _) rfl (fun hG => by have q0 := gN hG; subst q0; exact Light.quiet (opPick (b := c51) rfl rfl (by cases c51 <;> rfl))) ?_
        refine ASL.q (v := (.bool (c46 || (c51 && (c54 || (decide (((Int.tmod a38 2)) ≠ 0))))))) rfl rfl (Light.quiet (opPick (b := c46) rfl rfl (by cases c46 <;> rfl))) ?_
        refine ASL.done ?_
        refine AWP.ifB hF rfl (fun hc10 hF => ?_) (fun hc10 hF => ?_)
        · skip
          refine AWP.seqR rfl ?_
          refine ASL.q (v := (.bool false)) rfl rfl (Light.quiet (opAssign rfl rfl)) ?_
          refine ASL.done ?_
          refine AWP.ret ?_
          refine QBlock.ret ?_
          refine QThen.rt ?_
          refine QThen.rt ?_
          refine QBlock.ret ?_
          refine QThen.rt ?_
          obtain rfl := (hx4 _ (someE hF).symm)
          have hF := hR7
          have hF := sumR hF
          obtain rfl := someE hF
          exact QRet.sole (v := (.bool false)) ⟨rfl, trivial⟩ rfl
        · skip
          refine AWP.skip ?_
          refine QBlock.nrm ?_
          refine QThen.nrm ?_
          refine AWP.lastR rfl ?_
          refine ASL.q (v := (.int .i64 (W (x35_l0 + 1)))) rfl rfl (Light.quiet (opInt rfl rfl rfl rfl)) ?_
          refine ASL.q (v := (.int .i64 (W (x35_l0 + 1)))) rfl rfl (Light.quiet (opMove rfl rfl)) ?_
          refine ASL.done ?_
          refine QThen.nrm ?_
          exact ⟨(W (x35_l0 + 1)), (), (someE hF).symm, ⟨rfl, rfl, rfl, rfl, rfl, trivial⟩, (hS.pick [] rfl rfl)⟩
      · skip
        refine AWP.exit ?_
        refine QThen.ext ?_
        refine QThen.ext ?_
        refine QBlock.hit ?_
        obtain rfl := (hx4 _ (someE hF).symm)
        have hF := hR7
        have hF := sumL hF
        refine QThen.nrm ?_
        exact ⟨trivial, (hS.pick [] rfl rfl), hF⟩

set_option maxRecDepth 10000 in
theorem impl_bounds_ok {p0 : TAuto} {p1 : TRankState} {p2 : Int} {r : (List Int)} (hF : impl_bounds p0 p1 p2 = some r) : PO Try.prog 63 [(TAuto.av p0), (TRankState.av p1), (.int .i64 p2)] 1 (List.map (AV.int .i64) r) := by
  refine HC.enter Try.func63 rfl Try.ntmps63 (by simp) ?_
  have hS := Sep.void; unfold impl_bounds at hF
  refine AWP.seqR rfl ?_
  refine ASL.q (v := (.rptr [(.int .i64 p0.letters), (.int .i64 p0.states), (.int .i64 p0.start), (.list 4 (List.map TEdge.av p0.edges))])) rfl rfl ((qBoxI (v := (TAuto.av p0)) rfl rfl rfl rfl)) ?_
  refine ASL.q (v := (.rptr [(.list 1 (List.map (AV.int .i64) p1.ranks)), (.int .i64 p1.owing)])) rfl rfl ((qBoxI (v := (TRankState.av p1)) rfl rfl rfl rfl)) ?_
  have hS := hNil (s := 1) (f := (AV.int .i64)) hS
  refine ASL.q (v := .nil) rfl rfl (Light.quiet (opAssign rfl rfl)) ?_
  refine ASL.done ?_
  refine AWP.seqR rfl ?_
  refine ASL.q (v := (.rptr [(.int .i64 p0.states), (.int .i64 p0.start), (.list 4 (List.map TEdge.av p0.edges))])) rfl rfl (Light.quiet (opFieldAddrR rfl fieldA_33_1 rfl rfl)) ?_
  refine ASL.q (v := (.int .i64 p0.states)) rfl rfl (Light.quiet (opLoadR rfl aggA_3 rfl rfl)) ?_
  obtain ⟨z14, hz14, hF⟩ := bindE hF
  refine ASL.x rfl rfl (hMk (f := (AV.int .i64)) hS hz14 (by decide) rfl elemA_26 sizeA_3 bytesA_3 zeroA_3 rfl rfl (by decide) rfl rfl ?_); rintro v14 G2 hK hS
  refine ASL.q (v := v14) rfl rfl (Light.quiet (opAssign rfl rfl)) ?_
  refine ASL.done ?_
  refine AWP.seqM (fun e H => ∃ y4 : (List Int), E.Told e [(2, (.int .i64 p2)), (3, (.rptr [(.int .i64 p0.letters), (.int .i64 p0.states), (.int .i64 p0.start), (.list 4 (List.map TEdge.av p0.edges))])), (4, (.rptr [(.list 1 (List.map (AV.int .i64) p1.ranks)), (.int .i64 p1.owing)])), (7, v14)] ∧ E.Sep H [.row 1 v14 (List.map (AV.int .i64) y4)] ∧ impl_bounds.k0 p0 p1 p2 y4 = some r) ?_ ?_
  · rintro e0 G23 ⟨y4, hT, hS, hF⟩; refine AWP.only _ hT ?_; unfold impl_bounds.k0 at hF
    refine AWP.seqM (fun e H => ∃ y5 : (List Int), E.Told e [(7, v14)] ∧ E.Sep H [.row 1 v14 (List.map (AV.int .i64) y5)] ∧ impl_bounds.k1 y5 = some r) ?_ ?_
    · rintro e0 G6 ⟨y5, hT, hS, hF⟩; refine AWP.only _ hT ?_; unfold impl_bounds.k1 at hF
      refine AWP.seqR rfl ?_
      refine ASL.q (v := v14) rfl rfl (Light.quiet (opMove rfl rfl)) ?_
      refine ASL.q (v := v14) rfl rfl (Light.quiet (opAssign rfl rfl)) ?_
      refine ASL.done ?_
      refine AWP.ret ?_
      obtain rfl := someE hF
      exact QRet.sole (v := v14) ⟨rfl, trivial⟩ (hS.get (k := 0) rfl)
    · skip
      refine AWP.seqR rfl ?_
      refine ASL.q (v := (.rptr [(.list 4 (List.map TEdge.av p0.edges))])) rfl rfl (Light.quiet (opFieldAddrR rfl fieldA_33_3 rfl rfl)) ?_
      refine ASL.q (v := (.list 4 (List.map TEdge.av p0.edges))) rfl rfl (Light.quiet (opLoadR rfl aggA_31 rfl rfl)) ?_
      refine ASL.q (v := (.int .i64 (p0.edges.length : Int))) rfl rfl (Light.quiet (opLenMap (f := TEdge.av) rfl rfl rfl lenT_31 rfl)) ?_
      refine ASL.q (v := (.int .i64 0)) rfl rfl (Light.quiet (opMove rfl rfl)) ?_
      refine ASL.done ?_
      refine AWP.block ?_
      obtain ⟨o11, hL10, hR12⟩ := bindE hF
      refine AWP.loopF (ω := Unit) hL10 (fun s w => [(2, (.int .i64 p2)), (4, (.rptr [(.list 1 (List.map (AV.int .i64) p1.ranks)), (.int .i64 p1.owing)])), (7, v14), (25, (.list 4 (List.map TEdge.av p0.edges))), (26, (.int .i64 (p0.edges.length : Int))), (27, (.int .i64 s.2))]) (fun s w => [.row 1 v14 (List.map (AV.int .i64) s.1)]) () ⟨rfl, rfl, rfl, rfl, rfl, rfl, trivial⟩ (hS.pick [0] rfl rfl) ?_
      rintro ⟨y7, x27_l0⟩ _ G13 hS x8 hF hx9
      try dsimp only at hS ⊢
      have hF : impl_bounds.b0 p0 p1 p2 y7 x27_l0 = some x8 := hF; unfold impl_bounds.b0 at hF
      refine AWP.seqR rfl ?_
      refine ASL.q (v := (.bool (decide (x27_l0 < ((p0.edges.length : Int)))))) rfl rfl (Light.quiet (opInt rfl rfl rfl rfl)) ?_
      refine ASL.done ?_
      refine AWP.seq ?_
      refine AWP.ifP hF rfl (fun hc14 hF => ?_) (fun hc14 hF => ?_)
      · skip
        refine AWP.skip ?_
        refine QThen.nrm ?_
        refine AWP.seq ?_
        refine AWP.block ?_
        refine AWP.seqR rfl ?_
        obtain ⟨a29, ha29, hF⟩ := bindE hF
        refine ASL.q (v := (.rptr [(.int .i64 a29.from_), (.int .i64 a29.letter), (.int .i64 a29.to_), (.bool a29.good)])) rfl rfl (Light.quiet (kIx (f := TEdge.av) ha29 rfl rfl rfl elemA_31 sizeA_73 rfl)) ?_
        refine ASL.q (v := (TEdge.av a29)) rfl rfl (Light.quiet (opLoadRA rfl aggA_73 sizeA_73 rfl (nlt rfl) rfl)) ?_
        refine ASL.x rfl rfl (hNewZ hS [(.int .i64 0), (.int .i64 0), (.int .i64 0), (.bool false)] rfl zeroA_73 ⟨.inl rfl, .inl rfl, .inl rfl, .inl rfl, trivial⟩ ?_); rintro b10 G15 hK hS
        refine ASL.n rfl rfl (hPutA hS (j := 0) rfl rfl sizeA_73 rfl rfl rfl rfl rfl (nlt rfl) ?_); rintro G17 hS
        refine ASL.done ?_
        refine AWP.seqR rfl ?_
        refine ASL.q (v := (.rptr [(.list 1 (List.map (AV.int .i64) p1.ranks)), (.int .i64 p1.owing)])) rfl rfl (Light.quiet (opFieldAddrR rfl fieldA_28_0 rfl rfl)) ?_
        refine ASL.q (v := (.list 1 (List.map (AV.int .i64) p1.ranks))) rfl rfl (Light.quiet (opLoadR rfl aggA_26 rfl rfl)) ?_
        refine ASL.q (v := (.ptr b10 0)) rfl rfl (Light.quiet (opFieldAddr rfl fieldA_73_0 rfl rfl)) ?_
        refine ASL.q (v := (.int .i64 a29.from_)) rfl rfl (Light.quiet (kAt hS (j := 0) rfl rfl aggA_3 rfl rfl)) ?_
        obtain ⟨a35, ha35, hF⟩ := bindE hF
        refine ASL.q (v := (.rptr [(.int .i64 a35)])) rfl rfl (Light.quiet (kIx (f := (AV.int .i64)) ha35 rfl rfl rfl elemA_26 sizeA_3 rfl)) ?_
        refine ASL.q (v := (.int .i64 a35)) rfl rfl (Light.quiet (opLoadR rfl aggA_3 rfl rfl)) ?_
        refine ASL.q (v := (.int .i64 a35)) rfl rfl (Light.quiet (opAssign rfl rfl)) ?_
        refine ASL.done ?_
        refine AWP.seq ?_
        refine AWP.seqR rfl ?_
        refine ASL.q (v := (.ptr b10 1)) rfl rfl (Light.quiet (opFieldAddr rfl fieldA_73_1 rfl rfl)) ?_
        refine ASL.q (v := (.int .i64 a29.letter)) rfl rfl (Light.quiet (kAt hS (j := 0) rfl rfl aggA_3 rfl rfl)) ?_
        refine ASL.q (v := (.int .i64 p2)) rfl rfl (Light.quiet (opMove rfl rfl)) ?_
        refine ASL.q (v := (.bool (decide (a29.letter ≠ p2)))) rfl rfl (Light.quiet (opInt rfl rfl rfl rfl)) ?_
        obtain ⟨c41, hc41, hF⟩ := bndE hF
        refine ASL.q (v := (.bool c41)) rfl rfl ((Quiet.cast (Light.quiet (opMove rfl rfl)) (congrArg AV.bool hc41.symm))) ?_
        refine ASL.g (v := (.int .i64 a35)) (.bool c41) false rfl (wF _) rfl (fun hG => by have q0 := gN hG; subst q0; exact Light.quiet (opMove rfl rfl)) ?_
        refine ASL.g (v := (.bool (decide (a35 < 0)))) (.bool c41) false rfl (wF _) rfl (fun hG => by have q0 := gN hG; subst q0; exact Light.quiet (opInt rfl rfl rfl rfl)) ?_
        refine ASL.q (v := (.bool (c41 || (decide (a35 < 0))))) rfl rfl (Light.quiet (opPick (b := c41) rfl rfl (by cases c41 <;> rfl))) ?_
        refine ASL.done ?_
        refine AWP.ifB hF rfl (fun hc18 hF => ?_) (fun hc18 hF => ?_)
        · skip
          refine AWP.exit ?_
          refine QThen.ext ?_
          refine QBlock.hit ?_
          refine QThen.nrm ?_
          refine AWP.lastR rfl ?_
          refine ASL.q (v := (.int .i64 (W (x27_l0 + 1)))) rfl rfl (Light.quiet (opInt rfl rfl rfl rfl)) ?_
          refine ASL.q (v := (.int .i64 (W (x27_l0 + 1)))) rfl rfl (Light.quiet (opMove rfl rfl)) ?_
          refine ASL.done ?_
          refine QThen.nrm ?_
          exact ⟨(y7, (W (x27_l0 + 1))), (), (someE hF).symm, ⟨rfl, rfl, rfl, rfl, rfl, rfl, trivial⟩, (hS.pick [1] rfl rfl)⟩
        · skip
          refine AWP.skip ?_
          refine QThen.nrm ?_
          refine AWP.seqM (fun e H => ∃ x11_3 : Int, E.Told e [(2, (.int .i64 p2)), (4, (.rptr [(.list 1 (List.map (AV.int .i64) p1.ranks)), (.int .i64 p1.owing)])), (7, v14), (10, (.ptr b10 0)), (11, (.int .i64 x11_3)), (25, (.list 4 (List.map TEdge.av p0.edges))), (26, (.int .i64 (p0.edges.length : Int))), (27, (.int .i64 x27_l0))] ∧ E.Sep H [.row 1 v14 (List.map (AV.int .i64) y7), .cell b10 [(.int .i64 a29.from_), (.int .i64 a29.letter), (.int .i64 a29.to_), (.bool a29.good)]] ∧ impl_bounds.k2 y7 a29 x27_l0 x11_3 = some x8) ?_ ?_
          · rintro e0 G21 ⟨x11_3, hT, hS, hF⟩; refine AWP.only _ hT ?_; unfold impl_bounds.k2 at hF
            refine AWP.seqR rfl ?_
            refine ASL.q (v := v14) rfl rfl (Light.quiet (opMove rfl rfl)) ?_
            refine ASL.q (v := (.ptr b10 2)) rfl rfl (Light.quiet (opFieldAddr rfl fieldA_73_2 rfl rfl)) ?_
            refine ASL.q (v := (.int .i64 a29.to_)) rfl rfl (Light.quiet (kAt hS (j := 1) rfl rfl aggA_3 rfl rfl)) ?_
            obtain ⟨a54, ha54, hF⟩ := bindE hF
            refine ASL.q (v := (ptrTo v14 a29.to_.toNat 1)) rfl rfl (Light.quiet (kIxOx hS (j := 0) rfl ha54 rfl rfl rfl elemA_26 sizeA_3)) ?_
            refine ASL.q (v := (.int .i64 a54)) rfl rfl (Light.quiet (kLd (f := (AV.int .i64)) hS (j := 0) rfl ha54 rfl aggA_3 rfl (fun _ => rfl))) ?_
            refine ASL.q (v := (.bool (decide (a54 < 0)))) rfl rfl (Light.quiet (opInt rfl rfl rfl rfl)) ?_
            obtain ⟨c57, hc57, hF⟩ := bndE hF
            refine ASL.q (v := (.bool c57)) rfl rfl ((Quiet.cast (Light.quiet (opMove rfl rfl)) (congrArg AV.bool hc57.symm))) ?_
            refine ASL.g (v := (.int .i64 x11_3)) (.bool c57) false rfl (wF _) rfl (fun hG => by have q0 := gN hG; subst q0; exact Light.quiet (opMove rfl rfl)) ?_
            refine ASL.g (v := v14) (.bool c57) false rfl (wF _) rfl (fun hG => by have q0 := gN hG; subst q0; exact Light.quiet (opMove rfl rfl)) ?_
            refine ASL.g (v := (.ptr b10 2)) (.bool c57) false rfl (wF _) rfl (fun hG => by have q0 := gN hG; subst q0; exact Light.quiet (opFieldAddr rfl fieldA_73_2 rfl rfl)) ?_
            refine ASL.g (v := (.int .i64 a29.to_)) (.bool c57) false rfl (wF _) rfl (fun hG => by have q0 := gN hG; subst q0; exact Light.quiet (kAt hS (j := 1) rfl rfl aggA_3 rfl rfl)) ?_
            obtain ⟨a62, ha62, hF⟩ := bindE hF
            refine ASL.g (v := (ptrTo v14 a29.to_.toNat 1)) (.bool c57) false rfl (wF _) rfl (fun hG => by have q0 := gN hG; subst q0; exact Light.quiet (kIxOx hS (j := 0) rfl (whenE ha62) rfl rfl rfl elemA_26 sizeA_3)) ?_
            refine ASL.g (v := (.int .i64 a62)) (.bool c57) false rfl (wF _) rfl (fun hG => by have q0 := gN hG; subst q0; exact Light.quiet (kLd (f := (AV.int .i64)) hS (j := 0) rfl (whenE ha62) rfl aggA_3 rfl (fun _ => rfl))) ?_
            refine ASL.g (v := (.bool (decide (x11_3 < a62)))) (.bool c57) false rfl (wF _) rfl (fun hG => by have q0 := gN hG; subst q0; exact Light.quiet (opInt rfl rfl rfl rfl)) ?_
            refine ASL.q (v := (.bool (c57 || (decide (x11_3 < a62))))) rfl rfl (Light.quiet (opPick (b := c57) rfl rfl (by cases c57 <;> rfl))) ?_
            refine ASL.done ?_
            refine AWP.ifB hF rfl (fun hc19 hF => ?_) (fun hc19 hF => ?_)
            · skip
              refine AWP.lastR rfl ?_
              refine ASL.q (v := v14) rfl rfl (Light.quiet (opMove rfl rfl)) ?_
              refine ASL.q (v := (.ptr b10 2)) rfl rfl (Light.quiet (opFieldAddr rfl fieldA_73_2 rfl rfl)) ?_
              refine ASL.q (v := (.int .i64 a29.to_)) rfl rfl (Light.quiet (kAt hS (j := 1) rfl rfl aggA_3 rfl rfl)) ?_
              refine ASL.q (v := (.int .i64 x11_3)) rfl rfl (Light.quiet (opMove rfl rfl)) ?_
              obtain ⟨m70, hm70, hF⟩ := bindE hF
              refine ASL.q (v := (ptrTo v14 m70 1)) rfl rfl (Light.quiet (kIxO hS (j := 0) rfl hm70 rfl rfl rfl elemA_26 sizeA_3)) ?_
              refine ASL.n rfl rfl (hSt (f := (AV.int .i64)) (a := x11_3) hS (j := 0) rfl hm70 rfl sizeA_3 rfl rfl ⟨rfl, rfl, rfl⟩ ?_); rintro G20 hS
              refine ASL.done ?_
              refine QBlock.nrm ?_
              refine QThen.nrm ?_
              refine AWP.lastR rfl ?_
              refine ASL.q (v := (.int .i64 (W (x27_l0 + 1)))) rfl rfl (Light.quiet (opInt rfl rfl rfl rfl)) ?_
              refine ASL.q (v := (.int .i64 (W (x27_l0 + 1)))) rfl rfl (Light.quiet (opMove rfl rfl)) ?_
              refine ASL.done ?_
              refine QThen.nrm ?_
              exact ⟨((y7.set m70 x11_3), (W (x27_l0 + 1))), (), (someE hF).symm, ⟨rfl, rfl, rfl, rfl, rfl, rfl, trivial⟩, (hS.pick [0] rfl rfl)⟩
            · skip
              refine AWP.skip ?_
              refine QBlock.nrm ?_
              refine QThen.nrm ?_
              refine AWP.lastR rfl ?_
              refine ASL.q (v := (.int .i64 (W (x27_l0 + 1)))) rfl rfl (Light.quiet (opInt rfl rfl rfl rfl)) ?_
              refine ASL.q (v := (.int .i64 (W (x27_l0 + 1)))) rfl rfl (Light.quiet (opMove rfl rfl)) ?_
              refine ASL.done ?_
              refine QThen.nrm ?_
              exact ⟨(y7, (W (x27_l0 + 1))), (), (someE hF).symm, ⟨rfl, rfl, rfl, rfl, rfl, rfl, trivial⟩, (hS.pick [0] rfl rfl)⟩
          · skip
            refine AWP.seqR rfl ?_
            refine ASL.q (v := (.ptr b10 3)) rfl rfl (Light.quiet (opFieldAddr rfl fieldA_73_3 rfl rfl)) ?_
            refine ASL.q (v := (.bool a29.good)) rfl rfl (Light.quiet (kAt hS (j := 0) rfl rfl aggA_4 rfl rfl)) ?_
            refine ASL.done ?_
            refine AWP.ifB hF rfl (fun hc22 hF => ?_) (fun hc22 hF => ?_)
            · skip
              refine AWP.lastR rfl ?_
              refine ASL.q (v := (.int .i64 a35)) rfl rfl (Light.quiet (opMove rfl rfl)) ?_
              refine ASL.q (v := (.int .i64 a35)) rfl rfl (Light.quiet (opMove rfl rfl)) ?_
              refine ASL.q (v := (.int .i64 (Int.tmod a35 2))) rfl rfl (Light.quiet (opRem rfl rfl rfl (by decide) rfl)) ?_
              refine ASL.q (v := (.int .i64 (W (a35 - ((Int.tmod a35 2)))))) rfl rfl (Light.quiet (opInt rfl rfl rfl rfl)) ?_
              refine ASL.q (v := (.int .i64 (W (a35 - ((Int.tmod a35 2)))))) rfl rfl (Light.quiet (opAssign rfl rfl)) ?_
              refine ASL.done ?_
              refine QThen.nrm ?_
              exact ⟨(W (a35 - ((Int.tmod a35 2)))), ⟨rfl, rfl, rfl, rfl, rfl, rfl, rfl, rfl, trivial⟩, (hS.pick [1, 0] rfl rfl), hF⟩
            · skip
              refine AWP.skip ?_
              refine QThen.nrm ?_
              exact ⟨a35, ⟨rfl, rfl, rfl, rfl, rfl, rfl, rfl, rfl, trivial⟩, (hS.pick [1, 0] rfl rfl), hF⟩
      · skip
        refine AWP.exit ?_
        refine QThen.ext ?_
        refine QThen.ext ?_
        refine QBlock.hit ?_
        obtain rfl := (hx9 _ (someE hF).symm)
        have hF := hR12
        refine QThen.nrm ?_
        exact ⟨y7, ⟨rfl, trivial⟩, (hS.pick [0] rfl rfl), hF⟩
  · skip
    refine AWP.seqR rfl ?_
    refine ASL.q (v := v14) rfl rfl (Light.quiet (opMove rfl rfl)) ?_
    refine ASL.q (v := (.int .i64 (z14.length : Int))) rfl rfl (Light.quiet (kLen hS (j := 0) rfl rfl rfl rfl lenT_26 rfl)) ?_
    refine ASL.q (v := (.int .i64 0)) rfl rfl (Light.quiet (opMove rfl rfl)) ?_
    refine ASL.done ?_
    refine AWP.block ?_
    obtain ⟨o28, hL27, hR29⟩ := bindE hF
    refine AWP.loopF (ω := Unit) hL27 (fun s w => [(2, (.int .i64 p2)), (3, (.rptr [(.int .i64 p0.letters), (.int .i64 p0.states), (.int .i64 p0.start), (.list 4 (List.map TEdge.av p0.edges))])), (4, (.rptr [(.list 1 (List.map (AV.int .i64) p1.ranks)), (.int .i64 p1.owing)])), (7, v14), (16, (.int .i64 (z14.length : Int))), (17, (.int .i64 s.2))]) (fun s w => [.row 1 v14 (List.map (AV.int .i64) s.1)]) () ⟨rfl, rfl, rfl, rfl, rfl, rfl, trivial⟩ (hS.pick [0] rfl rfl) ?_
    rintro ⟨y24, x17_l1⟩ _ G30 hS x25 hF hx26
    try dsimp only at hS ⊢
    have hF : impl_bounds.b1 z14 y24 x17_l1 = some x25 := hF; unfold impl_bounds.b1 at hF
    refine AWP.seqR rfl ?_
    refine ASL.q (v := (.bool (decide (x17_l1 < ((z14.length : Int)))))) rfl rfl (Light.quiet (opInt rfl rfl rfl rfl)) ?_
    refine ASL.done ?_
    refine AWP.seq ?_
    refine AWP.ifP hF rfl (fun hc31 hF => ?_) (fun hc31 hF => ?_)
    · skip
      refine AWP.skip ?_
      refine QThen.nrm ?_
      refine AWP.seq ?_
      refine AWP.block ?_
      refine AWP.seqR rfl ?_
      refine ASL.q (v := (.int .i64 x17_l1)) rfl rfl (Light.quiet (opMove rfl rfl)) ?_
      refine ASL.q (v := (.int .i64 x17_l1)) rfl rfl (Light.quiet (opAssign rfl rfl)) ?_
      refine ASL.done ?_
      refine AWP.lastR rfl ?_
      refine ASL.q (v := v14) rfl rfl (Light.quiet (opMove rfl rfl)) ?_
      refine ASL.q (v := (.int .i64 x17_l1)) rfl rfl (Light.quiet (opMove rfl rfl)) ?_
      obtain ⟨m22, hm22, hF⟩ := bindE hF
      refine ASL.q (v := (ptrTo v14 m22 1)) rfl rfl (Light.quiet (kIxO hS (j := 0) rfl hm22 rfl rfl rfl elemA_26 sizeA_3)) ?_
      refine ASL.n rfl rfl (hSt (f := (AV.int .i64)) (a := (-1)) hS (j := 0) rfl hm22 rfl sizeA_3 rfl rfl ⟨rfl, rfl, rfl⟩ ?_); rintro G32 hS
      refine ASL.done ?_
      refine QBlock.nrm ?_
      refine QThen.nrm ?_
      refine AWP.lastR rfl ?_
      refine ASL.q (v := (.int .i64 (W (x17_l1 + 1)))) rfl rfl (Light.quiet (opInt rfl rfl rfl rfl)) ?_
      refine ASL.q (v := (.int .i64 (W (x17_l1 + 1)))) rfl rfl (Light.quiet (opMove rfl rfl)) ?_
      refine ASL.done ?_
      refine QThen.nrm ?_
      exact ⟨((y24.set m22 ((-1))), (W (x17_l1 + 1))), (), (someE hF).symm, ⟨rfl, rfl, rfl, rfl, rfl, rfl, trivial⟩, (hS.pick [0] rfl rfl)⟩
    · skip
      refine AWP.exit ?_
      refine QThen.ext ?_
      refine QThen.ext ?_
      refine QBlock.hit ?_
      obtain rfl := (hx26 _ (someE hF).symm)
      have hF := hR29
      refine QThen.nrm ?_
      exact ⟨y24, ⟨rfl, rfl, rfl, rfl, trivial⟩, (hS.pick [0] rfl rfl), hF⟩

set_option maxRecDepth 10000 in
theorem slices_Clone_int_int_ok {p0 : (List Int)} {r : (List Int)} (hF : slices_Clone_int_int p0 = some r) : PO Try.prog 64 [(.list 1 (List.map (AV.int .i64) p0))] 1 (List.map (AV.int .i64) r) := by
  refine HC.enter Try.func64 rfl Try.ntmps64 (by simp) ?_
  have hS := Sep.void; unfold slices_Clone_int_int at hF
  refine AWP.seqR rfl ?_
  have hS := hNil (s := 1) (f := (AV.int .i64)) hS
  refine ASL.q (v := .nil) rfl rfl (Light.quiet (opAssign rfl rfl)) ?_
  refine ASL.done ?_
  refine AWP.seq ?_
  refine AWP.seqR rfl ?_
  refine ASL.q (v := (.list 1 (List.map (AV.int .i64) p0))) rfl rfl (Light.quiet (opMove rfl rfl)) ?_
  refine ASL.x rfl rfl (opNilT rfl und_26 rfl rfl ?_); rintro b4 hb4
  refine ASL.done ?_
  refine AWP.ifN hF rfl (fun h => by simpa using hb4 h) (fun h g => by subst h; exact g) (fun hF => ?_) (fun hF => ?_)
  · skip
    refine AWP.seqR rfl ?_
    have hS := hNil (s := 1) (f := (AV.int .i64)) hS
    refine ASL.q (v := .nil) rfl rfl (Light.quiet (opAssign rfl rfl)) ?_
    refine ASL.done ?_
    refine AWP.ret ?_
    refine QThen.rt ?_
    obtain rfl := someE hF
    exact QRet.sole (v := .nil) ⟨rfl, trivial⟩ (hS.get (k := 0) rfl)
  · skip
    refine AWP.skip ?_
    refine QThen.nrm ?_
    refine AWP.seqR rfl ?_
    refine ASL.x rfl rfl (hLit (f := (AV.int .i64)) (zs := []) hS rfl rfl elemA_26 sizeA_3 zeroA_3 rfl rfl rfl rfl (by simp [cells]) (nlt rfl) ?_); rintro v5 G3 hK hS
    refine ASL.q (v := (.list 1 (List.map (AV.int .i64) p0))) rfl rfl (Light.quiet (opMove rfl rfl)) ?_
    obtain ⟨z7, hz7, hF⟩ := bindE hF
    refine ASL.x rfl rfl (hApp (f := (AV.int .i64)) (ws := p0) hS (j := 0) rfl hz7 rfl elemA_26 rfl sizeA_3 bytesA_3 zeroA_3 rfl rfl rfl (fun _ => rfl) ?_); rintro v7 G5 hS
    refine ASL.q (v := v7) rfl rfl (Light.quiet (opAssign rfl rfl)) ?_
    refine ASL.done ?_
    refine AWP.ret ?_
    obtain rfl := someE hF
    exact QRet.sole (v := v7) ⟨rfl, trivial⟩ (hS.get (k := 0) rfl)

end Go.Proofs.Ytllpbgcajgbfbaa
