/- Each of these functions of the program comes to just what its plain function says: FnExactRankStart. -/
import Derived.Test.YtllpbgcajgbfbaaDRankStart
import Derived.Test.YtllpbgcajgbfbaaFa
namespace Go.Proofs.Ytllpbgcajgbfbaa
open Go Go.RowKit E
set_option linter.unusedVariables false
set_option maxRecDepth 10000 in
theorem laws_szEdgeS_ok (p0 : (List TEdge)) (p1 : Int) : PC Try.prog 28 [(.list 4 (List.map TEdge.av p0)), (.int .i64 p1)] fun v => v = (.int .i64 (laws_szEdgeS p0 p1)) := by
  generalize hF : laws_szEdgeS p0 p1 = r
  refine PC.enter Try.func28 rfl Try.ntmps28 (by simp) ?_
  have hS := Sep.void; unfold laws_szEdgeS at hF
  refine AWP.seqR rfl ?_
  refine ASL.q (v := (.int .i64 0)) rfl rfl (Light.quiet (opAssign rfl rfl)) ?_
  refine ASL.done ?_
  refine AWP.seqR rfl ?_
  refine ASL.q (v := (.int .i64 p1)) rfl rfl (Light.quiet (opMove rfl rfl)) ?_
  refine ASL.q (v := (.list 4 (List.map TEdge.av p0))) rfl rfl (Light.quiet (opMove rfl rfl)) ?_
  refine ASL.q (v := (.int .i64 (p0.length : Int))) rfl rfl (Light.quiet (opLenMap (f := TEdge.av) rfl rfl rfl lenT_22 rfl)) ?_
  refine ASL.q (v := (.int .i64 (W (p1 - ((p0.length : Int)))))) rfl rfl (Light.quiet (opInt rfl rfl rfl rfl)) ?_
  refine ASL.q (v := (.int .i64 (W (p1 - ((p0.length : Int)))))) rfl rfl (Light.quiet (opAssign rfl rfl)) ?_
  refine ASL.done ?_
  refine AWP.seq ?_
  refine AWP.seqR rfl ?_
  refine ASL.q (v := (.int .i64 (W (p1 - ((p0.length : Int)))))) rfl rfl (Light.quiet (opMove rfl rfl)) ?_
  refine ASL.q (v := (.bool (decide (((W (p1 - ((p0.length : Int))))) < 0)))) rfl rfl (Light.quiet (opInt rfl rfl rfl rfl)) ?_
  refine ASL.done ?_
  refine AWP.ifP hF rfl (fun hc1 hF => ?_) (fun hc1 hF => ?_)
  · skip
    refine AWP.seqR rfl ?_
    refine ASL.q (v := (.int .i64 (-1))) rfl rfl (Light.quiet (opAssign rfl rfl)) ?_
    refine ASL.done ?_
    refine AWP.ret ?_
    refine QThen.rt ?_
    obtain rfl := hF
    exact QRet.sole (v := (.int .i64 (-1))) ⟨rfl, trivial⟩ rfl
  · skip
    refine AWP.skip ?_
    refine QThen.nrm ?_
    refine AWP.seqR rfl ?_
    refine ASL.q (v := (.int .i64 (W (p1 - ((p0.length : Int)))))) rfl rfl (Light.quiet (opMove rfl rfl)) ?_
    refine ASL.q (v := (.int .i64 (W (p1 - ((p0.length : Int)))))) rfl rfl (Light.quiet (opAssign rfl rfl)) ?_
    refine ASL.done ?_
    refine AWP.ret ?_
    obtain rfl := hF
    exact QRet.sole (v := (.int .i64 (W (p1 - ((p0.length : Int)))))) ⟨rfl, trivial⟩ rfl

set_option maxRecDepth 10000 in
theorem laws_szAuto_ok (p0 : TAuto) (p1 : Int) : PC Try.prog 6 [(TAuto.av p0), (.int .i64 p1)] fun v => v = (.int .i64 (laws_szAuto p0 p1)) := by
  generalize hF : laws_szAuto p0 p1 = r
  refine PC.enter Try.func6 rfl Try.ntmps6 (by simp) ?_
  have hS := Sep.void; unfold laws_szAuto at hF
  refine AWP.seqR rfl ?_
  refine ASL.q (v := (.rptr [(.int .i64 p0.letters), (.int .i64 p0.states), (.int .i64 p0.start), (.list 4 (List.map TEdge.av p0.edges))])) rfl rfl ((qBoxI (v := (TAuto.av p0)) rfl rfl rfl rfl)) ?_
  refine ASL.q (v := (.int .i64 0)) rfl rfl (Light.quiet (opAssign rfl rfl)) ?_
  refine ASL.done ?_
  refine AWP.seqR rfl ?_
  refine ASL.q (v := (.rptr [(.list 4 (List.map TEdge.av p0.edges))])) rfl rfl (Light.quiet (opFieldAddrR rfl fieldA_24_3 rfl rfl)) ?_
  refine ASL.q (v := (.list 4 (List.map TEdge.av p0.edges))) rfl rfl (Light.quiet (opLoadR rfl aggA_22 rfl rfl)) ?_
  refine ASL.q (v := (.int .i64 p1)) rfl rfl (Light.quiet (opMove rfl rfl)) ?_
  refine ASL.q (v := (.int .i64 (laws_szEdgeS p0.edges p1))) rfl rfl ((qCall rfl rfl call_28 (laws_szEdgeS_ok p0.edges p1) rfl)) ?_
  refine ASL.q (v := (.int .i64 (laws_szEdgeS p0.edges p1))) rfl rfl (Light.quiet (opAssign rfl rfl)) ?_
  refine ASL.done ?_
  refine AWP.seq ?_
  refine AWP.seqR rfl ?_
  refine ASL.q (v := (.int .i64 (laws_szEdgeS p0.edges p1))) rfl rfl (Light.quiet (opMove rfl rfl)) ?_
  refine ASL.q (v := (.bool (decide (((laws_szEdgeS p0.edges p1)) < 0)))) rfl rfl (Light.quiet (opInt rfl rfl rfl rfl)) ?_
  refine ASL.done ?_
  refine AWP.ifP hF rfl (fun hc1 hF => ?_) (fun hc1 hF => ?_)
  · skip
    refine AWP.seqR rfl ?_
    refine ASL.q (v := (.int .i64 (-1))) rfl rfl (Light.quiet (opAssign rfl rfl)) ?_
    refine ASL.done ?_
    refine AWP.ret ?_
    refine QThen.rt ?_
    obtain rfl := hF
    exact QRet.sole (v := (.int .i64 (-1))) ⟨rfl, trivial⟩ rfl
  · skip
    refine AWP.skip ?_
    refine QThen.nrm ?_
    refine AWP.seqR rfl ?_
    refine ASL.q (v := (.int .i64 (laws_szEdgeS p0.edges p1))) rfl rfl (Light.quiet (opMove rfl rfl)) ?_
    refine ASL.q (v := (.int .i64 (laws_szEdgeS p0.edges p1))) rfl rfl (Light.quiet (opAssign rfl rfl)) ?_
    refine ASL.done ?_
    refine AWP.ret ?_
    obtain rfl := hF
    exact QRet.sole (v := (.int .i64 (laws_szEdgeS p0.edges p1))) ⟨rfl, trivial⟩ rfl

set_option maxRecDepth 10000 in
theorem laws_toEdge_ok (p0 : TEdge) : PC Try.prog 55 [(TEdge.av p0)] fun v => v = (TEdge.av (laws_toEdge p0)) := by
  generalize hF : laws_toEdge p0 = r
  refine PC.enter Try.func55 rfl Try.ntmps55 (by simp) ?_
  have hS := Sep.void; unfold laws_toEdge at hF
  refine AWP.seqR rfl ?_
  refine ASL.q (v := (.rptr [(.int .i64 p0.from_), (.int .i64 p0.letter), (.int .i64 p0.to_), (.bool p0.good)])) rfl rfl ((qBoxI (v := (TEdge.av p0)) rfl rfl rfl rfl)) ?_
  refine ASL.x rfl rfl (hNewZ hS [(.int .i64 0), (.int .i64 0), (.int .i64 0), (.bool false)] rfl zeroA_73 ⟨.inl rfl, .inl rfl, .inl rfl, .inl rfl, trivial⟩ ?_); rintro b2 G1 hK hS
  refine ASL.done ?_
  refine AWP.seqR rfl ?_
  refine ASL.x rfl rfl (hNewZ hS [(.int .i64 0), (.int .i64 0), (.int .i64 0), (.bool false)] rfl zeroA_73 ⟨.inl rfl, .inl rfl, .inl rfl, .inl rfl, trivial⟩ ?_); rintro b3 G3 hK hS
  refine ASL.done ?_
  refine AWP.seqR rfl ?_
  refine ASL.q (v := (.rptr [(.int .i64 p0.from_), (.int .i64 p0.letter), (.int .i64 p0.to_), (.bool p0.good)])) rfl rfl (Light.quiet (opFieldAddrR rfl fieldA_76_0 rfl rfl)) ?_
  refine ASL.q (v := (.int .i64 p0.from_)) rfl rfl (Light.quiet (opLoadR rfl aggA_3 rfl rfl)) ?_
  refine ASL.q (v := (.ptr b3 0)) rfl rfl (Light.quiet (opFieldAddr rfl fieldA_73_0 rfl rfl)) ?_
  refine ASL.n rfl rfl (hPut hS (j := 0) rfl rfl sizeA_3 rfl rfl rfl (nlt rfl) ?_); rintro G5 hS
  refine ASL.done ?_
  refine AWP.seqR rfl ?_
  refine ASL.q (v := (.rptr [(.int .i64 p0.letter), (.int .i64 p0.to_), (.bool p0.good)])) rfl rfl (Light.quiet (opFieldAddrR rfl fieldA_76_1 rfl rfl)) ?_
  refine ASL.q (v := (.int .i64 p0.letter)) rfl rfl (Light.quiet (opLoadR rfl aggA_3 rfl rfl)) ?_
  refine ASL.q (v := (.ptr b3 1)) rfl rfl (Light.quiet (opFieldAddr rfl fieldA_73_1 rfl rfl)) ?_
  refine ASL.n rfl rfl (hPut hS (j := 0) rfl rfl sizeA_3 rfl rfl rfl (nlt rfl) ?_); rintro G6 hS
  refine ASL.done ?_
  refine AWP.seqR rfl ?_
  refine ASL.q (v := (.rptr [(.int .i64 p0.to_), (.bool p0.good)])) rfl rfl (Light.quiet (opFieldAddrR rfl fieldA_76_2 rfl rfl)) ?_
  refine ASL.q (v := (.int .i64 p0.to_)) rfl rfl (Light.quiet (opLoadR rfl aggA_3 rfl rfl)) ?_
  refine ASL.q (v := (.ptr b3 2)) rfl rfl (Light.quiet (opFieldAddr rfl fieldA_73_2 rfl rfl)) ?_
  refine ASL.n rfl rfl (hPut hS (j := 0) rfl rfl sizeA_3 rfl rfl rfl (nlt rfl) ?_); rintro G7 hS
  refine ASL.done ?_
  refine AWP.seqR rfl ?_
  refine ASL.q (v := (.rptr [(.bool p0.good)])) rfl rfl (Light.quiet (opFieldAddrR rfl fieldA_76_3 rfl rfl)) ?_
  refine ASL.q (v := (.bool p0.good)) rfl rfl (Light.quiet (opLoadR rfl aggA_4 rfl rfl)) ?_
  refine ASL.q (v := (.ptr b3 3)) rfl rfl (Light.quiet (opFieldAddr rfl fieldA_73_3 rfl rfl)) ?_
  refine ASL.n rfl rfl (hPut hS (j := 0) rfl rfl sizeA_4 rfl rfl rfl (nlt rfl) ?_); rintro G8 hS
  refine ASL.done ?_
  refine AWP.seqR rfl ?_
  refine ASL.q (v := (TEdge.av p0)) rfl rfl (Light.quiet (kAtA hS (j := 0) rfl rfl aggA_73 sizeA_73 rfl (nlt rfl) rfl)) ?_
  refine ASL.n rfl rfl (hPutA hS (j := 1) rfl rfl sizeA_73 rfl rfl rfl rfl rfl (nlt rfl) ?_); rintro G9 hS
  refine ASL.done ?_
  refine AWP.ret ?_
  obtain rfl := hF
  exact QRet.sole (v := (TEdge.av p0)) ⟨resOne.at hS (k := 1) rfl rfl aggA_73 sizeA_73, trivial⟩ rfl

set_option maxRecDepth 10000 in
theorem laws_toEdgeS_ok {p0 : (List TEdge)} {r : (List TEdge)} (hF : laws_toEdgeS p0 = some r) : PO Try.prog 31 [(.list 4 (List.map TEdge.av p0))] 4 (List.map TEdge.av r) := by
  refine HC.enter Try.func31 rfl Try.ntmps31 (by simp) ?_
  have hS := Sep.void; unfold laws_toEdgeS at hF
  refine AWP.seqR rfl ?_
  have hS := hNil (s := 4) (f := TEdge.av) hS
  refine ASL.q (v := .nil) rfl rfl (Light.quiet (opAssign rfl rfl)) ?_
  refine ASL.done ?_
  refine AWP.seqR rfl ?_
  refine ASL.q (v := (.list 4 (List.map TEdge.av p0))) rfl rfl (Light.quiet (opMove rfl rfl)) ?_
  refine ASL.q (v := (.int .i64 (p0.length : Int))) rfl rfl (Light.quiet (opLenMap (f := TEdge.av) rfl rfl rfl lenT_22 rfl)) ?_
  obtain ⟨z7, hz7, hF⟩ := bindE hF
  refine ASL.x rfl rfl (hMk (f := TEdge.av) hS hz7 (by decide) rfl elemA_31 sizeA_73 bytesA_73 zeroA_73 rfl rfl (by decide) rfl rfl ?_); rintro v7 G2 hK hS
  refine ASL.q (v := v7) rfl rfl (Light.quiet (opAssign rfl rfl)) ?_
  refine ASL.done ?_
  refine AWP.seqM (fun e H => ∃ y4 : (List TEdge), E.Told e [(3, v7)] ∧ E.Sep H [.row 4 v7 (List.map TEdge.av y4)] ∧ laws_toEdgeS.k0 y4 = some r) ?_ ?_
  · rintro e0 G5 ⟨y4, hT, hS, hF⟩; refine AWP.only _ hT ?_; unfold laws_toEdgeS.k0 at hF
    refine AWP.seqR rfl ?_
    refine ASL.q (v := v7) rfl rfl (Light.quiet (opMove rfl rfl)) ?_
    refine ASL.q (v := v7) rfl rfl (Light.quiet (opAssign rfl rfl)) ?_
    refine ASL.done ?_
    refine AWP.ret ?_
    obtain rfl := someE hF
    exact QRet.sole (v := v7) ⟨rfl, trivial⟩ (hS.get (k := 0) rfl)
  · skip
    refine AWP.seqR rfl ?_
    refine ASL.q (v := (.int .i64 0)) rfl rfl (Light.quiet (opAssign rfl rfl)) ?_
    refine ASL.done ?_
    refine AWP.block ?_
    obtain ⟨o10, hL9, hR11⟩ := bindE hF
    refine AWP.loopF (ω := Unit) hL9 (fun s w => [(0, (.list 4 (List.map TEdge.av p0))), (3, v7), (4, (.int .i64 s.2))]) (fun s w => [.row 4 v7 (List.map TEdge.av s.1)]) () ⟨rfl, rfl, rfl, trivial⟩ (hS.pick [0] rfl rfl) ?_
    rintro ⟨y6, x4_l0⟩ _ G12 hS x7 hF hx8
    try dsimp only at hS ⊢
    have hF : laws_toEdgeS.b0 p0 y6 x4_l0 = some x7 := hF; unfold laws_toEdgeS.b0 at hF
    refine AWP.seq ?_
    refine AWP.seqR rfl ?_
    refine ASL.q (v := (.int .i64 x4_l0)) rfl rfl (Light.quiet (opMove rfl rfl)) ?_
    refine ASL.q (v := (.list 4 (List.map TEdge.av p0))) rfl rfl (Light.quiet (opMove rfl rfl)) ?_
    refine ASL.q (v := (.int .i64 (p0.length : Int))) rfl rfl (Light.quiet (opLenMap (f := TEdge.av) rfl rfl rfl lenT_22 rfl)) ?_
    refine ASL.q (v := (.bool (decide (x4_l0 < ((p0.length : Int)))))) rfl rfl (Light.quiet (opInt rfl rfl rfl rfl)) ?_
    refine ASL.done ?_
    refine AWP.ifP hF rfl (fun hc13 hF => ?_) (fun hc13 hF => ?_)
    · skip
      refine AWP.skip ?_
      refine QThen.nrm ?_
      refine AWP.seq ?_
      refine AWP.block ?_
      refine AWP.lastR rfl ?_
      refine ASL.q (v := v7) rfl rfl (Light.quiet (opMove rfl rfl)) ?_
      refine ASL.q (v := (.int .i64 x4_l0)) rfl rfl (Light.quiet (opMove rfl rfl)) ?_
      refine ASL.q (v := (.list 4 (List.map TEdge.av p0))) rfl rfl (Light.quiet (opMove rfl rfl)) ?_
      refine ASL.q (v := (.int .i64 x4_l0)) rfl rfl (Light.quiet (opMove rfl rfl)) ?_
      obtain ⟨a18, ha18, hF⟩ := bindE hF
      refine ASL.q (v := (.rptr [(.int .i64 a18.from_), (.int .i64 a18.letter), (.int .i64 a18.to_), (.bool a18.good)])) rfl rfl (Light.quiet (kIx (f := TEdge.av) ha18 rfl rfl rfl elemA_22 sizeA_76 rfl)) ?_
      refine ASL.q (v := (TEdge.av a18)) rfl rfl (Light.quiet (opLoadRA rfl aggA_76 sizeA_76 rfl (nlt rfl) rfl)) ?_
      refine ASL.q (v := (TEdge.av (laws_toEdge a18))) rfl rfl ((qCall rfl rfl call_55 (laws_toEdge_ok a18) rfl)) ?_
      obtain ⟨m21, hm21, hF⟩ := bindE hF
      refine ASL.q (v := (ptrTo v7 m21 4)) rfl rfl (Light.quiet (kIxO hS (j := 0) rfl hm21 rfl rfl rfl elemA_31 sizeA_73)) ?_
      refine ASL.n rfl rfl (hSt (f := TEdge.av) (a := (laws_toEdge a18)) hS (j := 0) rfl hm21 rfl sizeA_73 rfl rfl ⟨rfl, rfl, rfl⟩ ?_); rintro G14 hS
      refine ASL.done ?_
      refine QBlock.nrm ?_
      refine QThen.nrm ?_
      refine AWP.lastR rfl ?_
      refine ASL.q (v := (.int .i64 x4_l0)) rfl rfl (Light.quiet (opMove rfl rfl)) ?_
      refine ASL.q (v := (.int .i64 (W (x4_l0 + 1)))) rfl rfl (Light.quiet (opInt rfl rfl rfl rfl)) ?_
      refine ASL.q (v := (.int .i64 (W (x4_l0 + 1)))) rfl rfl (Light.quiet (opAssign rfl rfl)) ?_
      refine ASL.done ?_
      refine QThen.nrm ?_
      exact ⟨((y6.set m21 ((laws_toEdge a18))), (W (x4_l0 + 1))), (), (someE hF).symm, ⟨rfl, rfl, rfl, trivial⟩, (hS.pick [0] rfl rfl)⟩
    · skip
      refine AWP.exit ?_
      refine QThen.ext ?_
      refine QThen.ext ?_
      refine QBlock.hit ?_
      obtain rfl := (hx8 _ (someE hF).symm)
      have hF := hR11
      refine QThen.nrm ?_
      exact ⟨y6, ⟨rfl, trivial⟩, (hS.pick [0] rfl rfl), hF⟩

set_option maxRecDepth 10000 in
theorem laws_toAuto_ok {p0 : TAuto} {r : TAuto} (hF : laws_toAuto p0 = some r) : HS Try.prog 8 [(TAuto.av p0)] [] fun v L' => ∃ o0_Edges : AV, v = (.agg [(.int .i64 r.letters), (.int .i64 r.states), (.int .i64 r.start), o0_Edges]) ∧ L' = [.row 4 o0_Edges (List.map TEdge.av r.edges)] := by
  intro H S hS
  refine HC.enter Try.func8 rfl Try.ntmps8 (by simp) ?_
  simp only [List.cons_append, List.nil_append] at hS
  unfold laws_toAuto at hF
  refine AWP.seqR rfl ?_
  refine ASL.q (v := (.rptr [(.int .i64 p0.letters), (.int .i64 p0.states), (.int .i64 p0.start), (.list 4 (List.map TEdge.av p0.edges))])) rfl rfl ((qBoxI (v := (TAuto.av p0)) rfl rfl rfl rfl)) ?_
  have hS := hNil (s := 4) (f := TEdge.av) hS
  refine ASL.x rfl rfl (hNewZ hS [(.int .i64 0), (.int .i64 0), (.int .i64 0), .nil] rfl zeroA_33 ⟨.inl rfl, .inl rfl, .inl rfl, .inl rfl, trivial⟩ ?_); rintro b2 G1 hK hS
  refine ASL.done ?_
  refine AWP.seqR rfl ?_
  have hS := hNil (s := 4) (f := TEdge.av) hS
  refine ASL.x rfl rfl (hNewZ hS [(.int .i64 0), (.int .i64 0), (.int .i64 0), .nil] rfl zeroA_33 ⟨.inl rfl, .inl rfl, .inl rfl, .inl rfl, trivial⟩ ?_); rintro b3 G4 hK hS
  refine ASL.done ?_
  refine AWP.seqR rfl ?_
  refine ASL.q (v := (.rptr [(.int .i64 p0.letters), (.int .i64 p0.states), (.int .i64 p0.start), (.list 4 (List.map TEdge.av p0.edges))])) rfl rfl (Light.quiet (opFieldAddrR rfl fieldA_24_0 rfl rfl)) ?_
  refine ASL.q (v := (.int .i64 p0.letters)) rfl rfl (Light.quiet (opLoadR rfl aggA_3 rfl rfl)) ?_
  refine ASL.q (v := (.ptr b3 0)) rfl rfl (Light.quiet (opFieldAddr rfl fieldA_33_0 rfl rfl)) ?_
  refine ASL.n rfl rfl (hPut hS (j := 0) rfl rfl sizeA_3 rfl rfl rfl (nlt rfl) ?_); rintro G7 hS
  refine ASL.done ?_
  refine AWP.seqR rfl ?_
  refine ASL.q (v := (.rptr [(.int .i64 p0.states), (.int .i64 p0.start), (.list 4 (List.map TEdge.av p0.edges))])) rfl rfl (Light.quiet (opFieldAddrR rfl fieldA_24_1 rfl rfl)) ?_
  refine ASL.q (v := (.int .i64 p0.states)) rfl rfl (Light.quiet (opLoadR rfl aggA_3 rfl rfl)) ?_
  refine ASL.q (v := (.ptr b3 1)) rfl rfl (Light.quiet (opFieldAddr rfl fieldA_33_1 rfl rfl)) ?_
  refine ASL.n rfl rfl (hPut hS (j := 0) rfl rfl sizeA_3 rfl rfl rfl (nlt rfl) ?_); rintro G8 hS
  refine ASL.done ?_
  refine AWP.seqR rfl ?_
  refine ASL.q (v := (.rptr [(.int .i64 p0.start), (.list 4 (List.map TEdge.av p0.edges))])) rfl rfl (Light.quiet (opFieldAddrR rfl fieldA_24_2 rfl rfl)) ?_
  refine ASL.q (v := (.int .i64 p0.start)) rfl rfl (Light.quiet (opLoadR rfl aggA_3 rfl rfl)) ?_
  refine ASL.q (v := (.ptr b3 2)) rfl rfl (Light.quiet (opFieldAddr rfl fieldA_33_2 rfl rfl)) ?_
  refine ASL.n rfl rfl (hPut hS (j := 0) rfl rfl sizeA_3 rfl rfl rfl (nlt rfl) ?_); rintro G9 hS
  refine ASL.done ?_
  refine AWP.seqR rfl ?_
  refine ASL.q (v := (.rptr [(.list 4 (List.map TEdge.av p0.edges))])) rfl rfl (Light.quiet (opFieldAddrR rfl fieldA_24_3 rfl rfl)) ?_
  refine ASL.q (v := (.list 4 (List.map TEdge.av p0.edges))) rfl rfl (Light.quiet (opLoadR rfl aggA_22 rfl rfl)) ?_
  obtain ⟨a15, ha15, hF⟩ := bindE hF
  refine ASL.x rfl rfl (hCallO hS rfl rfl call_31 (laws_toEdgeS_ok ha15) rfl ?_); rintro v15 G10 hK hS
  refine ASL.q (v := (.ptr b3 3)) rfl rfl (Light.quiet (opFieldAddr rfl fieldA_33_3 rfl rfl)) ?_
  refine ASL.n rfl rfl (hPut hS (j := 1) rfl rfl sizeA_31 rfl rfl (hS.one (k := 0) rfl) (nlt rfl) ?_); rintro G12 hS
  refine ASL.done ?_
  refine AWP.seqR rfl ?_
  refine ASL.q (v := (.agg [(.int .i64 p0.letters), (.int .i64 p0.states), (.int .i64 p0.start), v15])) rfl rfl (Light.quiet (kAtA hS (j := 1) rfl rfl aggA_33 sizeA_33 rfl (nlt rfl) rfl)) ?_
  refine ASL.n rfl rfl (hPutA hS (j := 3) rfl rfl sizeA_33 rfl rfl rfl rfl (allC rfl (allC rfl (allC rfl (allC (hS.one (k := 0) rfl) rfl)))) (nlt rfl) ?_); rintro G13 hS
  refine ASL.done ?_
  refine AWP.ret ?_
  obtain rfl := someE hF
  exact QRet.sole (v := (.agg [(.int .i64 p0.letters), (.int .i64 p0.states), (.int .i64 p0.start), v15])) ⟨resOne.at hS (k := 3) rfl rfl aggA_33 sizeA_33, trivial⟩ ⟨_, ⟨v15, rfl, rfl⟩, hS.pick [0, 5] rfl rfl⟩

set_option maxRecDepth 10000 in
theorem spec_l1In_ok (p0 : Int) (p1 : Int) (p2 : Int) : PC Try.prog 45 [(.int .i64 p0), (.int .i64 p1), (.int .i64 p2)] fun v => v = (.bool (spec_l1In p0 p1 p2)) := by
  generalize hF : spec_l1In p0 p1 p2 = r
  refine PC.enter Try.func45 rfl Try.ntmps45 (by simp) ?_
  have hS := Sep.void; unfold spec_l1In at hF
  refine AWP.seqR rfl ?_
  refine ASL.q (v := (.bool false)) rfl rfl (Light.quiet (opAssign rfl rfl)) ?_
  refine ASL.done ?_
  refine AWP.seqR rfl ?_
  refine ASL.q (v := (.int .i64 p0)) rfl rfl (Light.quiet (opMove rfl rfl)) ?_
  refine ASL.q (v := (.int .i64 p1)) rfl rfl (Light.quiet (opMove rfl rfl)) ?_
  refine ASL.q (v := (.bool (decide (p0 ≥ p1)))) rfl rfl (Light.quiet (opInt rfl rfl rfl rfl)) ?_
  obtain ⟨c10, hc10, hF⟩ := bndE hF
  refine ASL.q (v := (.bool c10)) rfl rfl ((Quiet.cast (Light.quiet (opMove rfl rfl)) (congrArg AV.bool hc10.symm))) ?_
  refine ASL.g (v := (.int .i64 p0)) (.bool c10) true rfl (wT _) rfl (fun hG => by have q0 := hG; subst q0; exact Light.quiet (opMove rfl rfl)) ?_
  refine ASL.g (v := (.int .i64 p2)) (.bool c10) true rfl (wT _) rfl (fun hG => by have q0 := hG; subst q0; exact Light.quiet (opMove rfl rfl)) ?_
  refine ASL.g (v := (.bool (decide (p0 ≤ p2)))) (.bool c10) true rfl (wT _) rfl (fun hG => by have q0 := hG; subst q0; exact Light.quiet (opInt rfl rfl rfl rfl)) ?_
  refine ASL.q (v := (.bool (c10 && (decide (p0 ≤ p2))))) rfl rfl (Light.quiet (opPick (b := c10) rfl rfl (by cases c10 <;> rfl))) ?_
  refine ASL.q (v := (.bool (c10 && (decide (p0 ≤ p2))))) rfl rfl (Light.quiet (opAssign rfl rfl)) ?_
  refine ASL.done ?_
  refine AWP.ret ?_
  obtain rfl := hF
  exact QRet.sole (v := (.bool (c10 && (decide (p0 ≤ p2))))) ⟨rfl, trivial⟩ rfl

set_option maxRecDepth 10000 in
theorem spec_SetOk_ok (p0 : Int) : PC Try.prog 77 [(.int .i64 p0)] fun v => v = (.bool (spec_SetOk p0)) := by
  generalize hF : spec_SetOk p0 = r
  refine PC.enter Try.func77 rfl Try.ntmps77 (by simp) ?_
  have hS := Sep.void; unfold spec_SetOk at hF
  refine AWP.seqR rfl ?_
  refine ASL.q (v := (.bool false)) rfl rfl (Light.quiet (opAssign rfl rfl)) ?_
  refine ASL.done ?_
  refine AWP.seqR rfl ?_
  refine ASL.q (v := (.int .i64 p0)) rfl rfl (Light.quiet (opMove rfl rfl)) ?_
  refine ASL.q (v := (.bool (spec_l1In p0 0 2147483647))) rfl rfl ((qCall rfl rfl call_45 (spec_l1In_ok p0 0 2147483647) rfl)) ?_
  refine ASL.q (v := (.bool (spec_l1In p0 0 2147483647))) rfl rfl (Light.quiet (opAssign rfl rfl)) ?_
  refine ASL.done ?_
  refine AWP.ret ?_
  obtain rfl := hF
  exact QRet.sole (v := (.bool (spec_l1In p0 0 2147483647))) ⟨rfl, trivial⟩ rfl

set_option maxRecDepth 10000 in
theorem spec_SetIn_ok (p0 : Int) (p1 : Int) : PC Try.prog 69 [(.int .i64 p0), (.int .i64 p1)] fun v => v = (.bool (spec_SetIn p0 p1)) := by
  generalize hF : spec_SetIn p0 p1 = r
  refine PC.enter Try.func69 rfl Try.ntmps69 (by simp) ?_
  have hS := Sep.void; unfold spec_SetIn at hF
  refine AWP.seqR rfl ?_
  refine ASL.q (v := (.bool false)) rfl rfl (Light.quiet (opAssign rfl rfl)) ?_
  refine ASL.done ?_
  refine AWP.seqR rfl ?_
  refine ASL.q (v := (.int .i64 p0)) rfl rfl (Light.quiet (opMove rfl rfl)) ?_
  refine ASL.q (v := (.bool (spec_SetOk p0))) rfl rfl ((qCall rfl rfl call_77 (spec_SetOk_ok p0) rfl)) ?_
  obtain ⟨c7, hc7, hF⟩ := bndE hF
  refine ASL.q (v := (.bool c7)) rfl rfl ((Quiet.cast (Light.quiet (opMove rfl rfl)) (congrArg AV.bool hc7.symm))) ?_
  refine ASL.g (v := (.int .i64 p1)) (.bool c7) true rfl (wT _) rfl (fun hG => by have q0 := hG; subst q0; exact Light.quiet (opMove rfl rfl)) ?_
  refine ASL.g (v := (.bool (spec_SetOk p1))) (.bool c7) true rfl (wT _) rfl (fun hG => by have q0 := hG; subst q0; exact (qCall rfl rfl call_77 (spec_SetOk_ok p1) rfl)) ?_
  refine ASL.q (v := (.bool (c7 && (spec_SetOk p1)))) rfl rfl (Light.quiet (opPick (b := c7) rfl rfl (by cases c7 <;> rfl))) ?_
  obtain ⟨c11, hc11, hF⟩ := bndE hF
  refine ASL.q (v := (.bool c11)) rfl rfl ((Quiet.cast (Light.quiet (opMove rfl rfl)) (congrArg AV.bool hc11.symm))) ?_
  refine ASL.g (v := (.int .i64 p0)) (.bool c11) true rfl (wT _) rfl (fun hG => by have q0 := hG; subst q0; exact Light.quiet (opMove rfl rfl)) ?_
  refine ASL.g (v := (.int .i64 p1)) (.bool c11) true rfl (wT _) rfl (fun hG => by have q0 := hG; subst q0; exact Light.quiet (opMove rfl rfl)) ?_
  refine ASL.g (v := (.int .i64 (bAnd .i64 p0 p1))) (.bool c11) true rfl (wT _) rfl (fun hG => by have q0 := hG; subst q0; exact Light.quiet (opInt rfl rfl rfl rfl)) ?_
  refine ASL.g (v := (.int .i64 p0)) (.bool c11) true rfl (wT _) rfl (fun hG => by have q0 := hG; subst q0; exact Light.quiet (opMove rfl rfl)) ?_
  refine ASL.g (v := (.bool (decide (((bAnd .i64 p0 p1)) = p0)))) (.bool c11) true rfl (wT _) rfl (fun hG => by have q0 := hG; subst q0; exact Light.quiet (opInt rfl rfl rfl rfl)) ?_
  refine ASL.q (v := (.bool (c11 && (decide (((bAnd .i64 p0 p1)) = p0))))) rfl rfl (Light.quiet (opPick (b := c11) rfl rfl (by cases c11 <;> rfl))) ?_
  refine ASL.q (v := (.bool (c11 && (decide (((bAnd .i64 p0 p1)) = p0))))) rfl rfl (Light.quiet (opAssign rfl rfl)) ?_
  refine ASL.done ?_
  refine AWP.ret ?_
  obtain rfl := hF
  exact QRet.sole (v := (.bool (c11 && (decide (((bAnd .i64 p0 p1)) = p0))))) ⟨rfl, trivial⟩ rfl

set_option maxRecDepth 10000 in
theorem spec_l4State_ok (p0 : Int) (p1 : Int) : PC Try.prog 70 [(.int .i64 p0), (.int .i64 p1)] fun v => v = (.bool (spec_l4State p0 p1)) := by
  generalize hF : spec_l4State p0 p1 = r
  refine PC.enter Try.func70 rfl Try.ntmps70 (by simp) ?_
  have hS := Sep.void; unfold spec_l4State at hF
  refine AWP.seqR rfl ?_
  refine ASL.q (v := (.bool false)) rfl rfl (Light.quiet (opAssign rfl rfl)) ?_
  refine ASL.done ?_
  refine AWP.seqR rfl ?_
  refine ASL.q (v := (.int .i64 p0)) rfl rfl (Light.quiet (opMove rfl rfl)) ?_
  refine ASL.q (v := (.int .i64 p1)) rfl rfl (Light.quiet (opMove rfl rfl)) ?_
  refine ASL.q (v := (.int .i64 (W (p1 - 1)))) rfl rfl (Light.quiet (opInt rfl rfl rfl rfl)) ?_
  refine ASL.q (v := (.bool (spec_l1In p0 0 ((W (p1 - 1)))))) rfl rfl ((qCall rfl rfl call_45 (spec_l1In_ok p0 0 ((W (p1 - 1)))) rfl)) ?_
  refine ASL.q (v := (.bool (spec_l1In p0 0 ((W (p1 - 1)))))) rfl rfl (Light.quiet (opAssign rfl rfl)) ?_
  refine ASL.done ?_
  refine AWP.ret ?_
  obtain rfl := hF
  exact QRet.sole (v := (.bool (spec_l1In p0 0 ((W (p1 - 1)))))) ⟨rfl, trivial⟩ rfl

set_option maxRecDepth 10000 in
theorem spec_l4Less_ok (p0 : TEdge) (p1 : TEdge) : PC Try.prog 71 [(TEdge.av p0), (TEdge.av p1)] fun v => v = (.bool (spec_l4Less p0 p1)) := by
  generalize hF : spec_l4Less p0 p1 = r
  refine PC.enter Try.func71 rfl Try.ntmps71 (by simp) ?_
  have hS := Sep.void; unfold spec_l4Less at hF
  refine AWP.seqR rfl ?_
  refine ASL.q (v := (.rptr [(.int .i64 p0.from_), (.int .i64 p0.letter), (.int .i64 p0.to_), (.bool p0.good)])) rfl rfl ((qBoxI (v := (TEdge.av p0)) rfl rfl rfl rfl)) ?_
  refine ASL.q (v := (.rptr [(.int .i64 p1.from_), (.int .i64 p1.letter), (.int .i64 p1.to_), (.bool p1.good)])) rfl rfl ((qBoxI (v := (TEdge.av p1)) rfl rfl rfl rfl)) ?_
  refine ASL.q (v := (.bool false)) rfl rfl (Light.quiet (opAssign rfl rfl)) ?_
  refine ASL.done ?_
  refine AWP.seq ?_
  refine AWP.seqR rfl ?_
  refine ASL.q (v := (.rptr [(.int .i64 p0.from_), (.int .i64 p0.letter), (.int .i64 p0.to_), (.bool p0.good)])) rfl rfl (Light.quiet (opFieldAddrR rfl fieldA_73_0 rfl rfl)) ?_
  refine ASL.q (v := (.int .i64 p0.from_)) rfl rfl (Light.quiet (opLoadR rfl aggA_3 rfl rfl)) ?_
  refine ASL.q (v := (.rptr [(.int .i64 p1.from_), (.int .i64 p1.letter), (.int .i64 p1.to_), (.bool p1.good)])) rfl rfl (Light.quiet (opFieldAddrR rfl fieldA_73_0 rfl rfl)) ?_
  refine ASL.q (v := (.int .i64 p1.from_)) rfl rfl (Light.quiet (opLoadR rfl aggA_3 rfl rfl)) ?_
  refine ASL.q (v := (.bool (decide (p0.from_ ≠ p1.from_)))) rfl rfl (Light.quiet (opInt rfl rfl rfl rfl)) ?_
  refine ASL.done ?_
  refine AWP.ifP hF rfl (fun hc1 hF => ?_) (fun hc1 hF => ?_)
  · skip
    refine AWP.seqR rfl ?_
    refine ASL.q (v := (.rptr [(.int .i64 p0.from_), (.int .i64 p0.letter), (.int .i64 p0.to_), (.bool p0.good)])) rfl rfl (Light.quiet (opFieldAddrR rfl fieldA_73_0 rfl rfl)) ?_
    refine ASL.q (v := (.int .i64 p0.from_)) rfl rfl (Light.quiet (opLoadR rfl aggA_3 rfl rfl)) ?_
    refine ASL.q (v := (.rptr [(.int .i64 p1.from_), (.int .i64 p1.letter), (.int .i64 p1.to_), (.bool p1.good)])) rfl rfl (Light.quiet (opFieldAddrR rfl fieldA_73_0 rfl rfl)) ?_
    refine ASL.q (v := (.int .i64 p1.from_)) rfl rfl (Light.quiet (opLoadR rfl aggA_3 rfl rfl)) ?_
    refine ASL.q (v := (.bool (decide (p0.from_ < p1.from_)))) rfl rfl (Light.quiet (opInt rfl rfl rfl rfl)) ?_
    refine ASL.q (v := (.bool (decide (p0.from_ < p1.from_)))) rfl rfl (Light.quiet (opAssign rfl rfl)) ?_
    refine ASL.done ?_
    refine AWP.ret ?_
    refine QThen.rt ?_
    obtain rfl := hF
    exact QRet.sole (v := (.bool (decide (p0.from_ < p1.from_)))) ⟨rfl, trivial⟩ rfl
  · skip
    refine AWP.skip ?_
    refine QThen.nrm ?_
    refine AWP.seq ?_
    refine AWP.seqR rfl ?_
    refine ASL.q (v := (.rptr [(.int .i64 p0.letter), (.int .i64 p0.to_), (.bool p0.good)])) rfl rfl (Light.quiet (opFieldAddrR rfl fieldA_73_1 rfl rfl)) ?_
    refine ASL.q (v := (.int .i64 p0.letter)) rfl rfl (Light.quiet (opLoadR rfl aggA_3 rfl rfl)) ?_
    refine ASL.q (v := (.rptr [(.int .i64 p1.letter), (.int .i64 p1.to_), (.bool p1.good)])) rfl rfl (Light.quiet (opFieldAddrR rfl fieldA_73_1 rfl rfl)) ?_
    refine ASL.q (v := (.int .i64 p1.letter)) rfl rfl (Light.quiet (opLoadR rfl aggA_3 rfl rfl)) ?_
    refine ASL.q (v := (.bool (decide (p0.letter ≠ p1.letter)))) rfl rfl (Light.quiet (opInt rfl rfl rfl rfl)) ?_
    refine ASL.done ?_
    refine AWP.ifP hF rfl (fun hc2 hF => ?_) (fun hc2 hF => ?_)
    · skip
      refine AWP.seqR rfl ?_
      refine ASL.q (v := (.rptr [(.int .i64 p0.letter), (.int .i64 p0.to_), (.bool p0.good)])) rfl rfl (Light.quiet (opFieldAddrR rfl fieldA_73_1 rfl rfl)) ?_
      refine ASL.q (v := (.int .i64 p0.letter)) rfl rfl (Light.quiet (opLoadR rfl aggA_3 rfl rfl)) ?_
      refine ASL.q (v := (.rptr [(.int .i64 p1.letter), (.int .i64 p1.to_), (.bool p1.good)])) rfl rfl (Light.quiet (opFieldAddrR rfl fieldA_73_1 rfl rfl)) ?_
      refine ASL.q (v := (.int .i64 p1.letter)) rfl rfl (Light.quiet (opLoadR rfl aggA_3 rfl rfl)) ?_
      refine ASL.q (v := (.bool (decide (p0.letter < p1.letter)))) rfl rfl (Light.quiet (opInt rfl rfl rfl rfl)) ?_
      refine ASL.q (v := (.bool (decide (p0.letter < p1.letter)))) rfl rfl (Light.quiet (opAssign rfl rfl)) ?_
      refine ASL.done ?_
      refine AWP.ret ?_
      refine QThen.rt ?_
      obtain rfl := hF
      exact QRet.sole (v := (.bool (decide (p0.letter < p1.letter)))) ⟨rfl, trivial⟩ rfl
    · skip
      refine AWP.skip ?_
      refine QThen.nrm ?_
      refine AWP.seqR rfl ?_
      refine ASL.q (v := (.rptr [(.int .i64 p0.to_), (.bool p0.good)])) rfl rfl (Light.quiet (opFieldAddrR rfl fieldA_73_2 rfl rfl)) ?_
      refine ASL.q (v := (.int .i64 p0.to_)) rfl rfl (Light.quiet (opLoadR rfl aggA_3 rfl rfl)) ?_
      refine ASL.q (v := (.rptr [(.int .i64 p1.to_), (.bool p1.good)])) rfl rfl (Light.quiet (opFieldAddrR rfl fieldA_73_2 rfl rfl)) ?_
      refine ASL.q (v := (.int .i64 p1.to_)) rfl rfl (Light.quiet (opLoadR rfl aggA_3 rfl rfl)) ?_
      refine ASL.q (v := (.bool (decide (p0.to_ < p1.to_)))) rfl rfl (Light.quiet (opInt rfl rfl rfl rfl)) ?_
      refine ASL.q (v := (.bool (decide (p0.to_ < p1.to_)))) rfl rfl (Light.quiet (opAssign rfl rfl)) ?_
      refine ASL.done ?_
      refine AWP.ret ?_
      obtain rfl := hF
      exact QRet.sole (v := (.bool (decide (p0.to_ < p1.to_)))) ⟨rfl, trivial⟩ rfl

set_option maxRecDepth 10000 in
theorem spec_AutoOk_ok {p0 : TAuto} {r : Bool} (hF : spec_AutoOk p0 = some r) : PC Try.prog 51 [(TAuto.av p0)] fun v => v = (.bool r) := by
  refine PC.enter Try.func51 rfl Try.ntmps51 (by simp) ?_
  have hS := Sep.void; unfold spec_AutoOk at hF
  refine AWP.seqR rfl ?_
  refine ASL.q (v := (.rptr [(.int .i64 p0.letters), (.int .i64 p0.states), (.int .i64 p0.start), (.list 4 (List.map TEdge.av p0.edges))])) rfl rfl ((qBoxI (v := (TAuto.av p0)) rfl rfl rfl rfl)) ?_
  refine ASL.q (v := (.bool false)) rfl rfl (Light.quiet (opAssign rfl rfl)) ?_
  refine ASL.done ?_
  refine AWP.seq ?_
  refine AWP.seqD [(0, false), (1, false), (2, false), (3, false), (4, false), (5, false), (6, false), (7, false), (8, false), (9, false), (10, false), (11, false), (12, false), (13, false), (14, false), (15, false), (16, false), (17, false), (18, false), (19, false), (20, false), (21, false), (22, false), (23, false), (24, false), (25, false)] mixed (by kernel_rfl) rfl ?_
  refine ARL.q0 (v := (.rptr [(.int .i64 p0.letters), (.int .i64 p0.states), (.int .i64 p0.start), (.list 4 (List.map TEdge.av p0.edges))])) rfl rfl (Light.quiet (opFieldAddrR rfl fieldA_33_0 rfl rfl)) ?_
  refine ARL.q0 (v := (.int .i64 p0.letters)) rfl rfl (Light.quiet (opLoadR rfl aggA_3 rfl rfl)) ?_
  refine ARL.q0 (v := (.bool (spec_l1In p0.letters 1 8))) rfl rfl ((qCall rfl rfl call_45 (spec_l1In_ok p0.letters 1 8) rfl)) ?_
  refine ARL.q0 (v := (.bool (!(spec_l1In p0.letters 1 8)))) rfl rfl (Light.quiet (opNot rfl rfl)) ?_
  obtain ⟨c9, hc9, hF⟩ := bndE hF
  refine ARL.q0 (v := (.bool c9)) rfl rfl ((Quiet.cast (Light.quiet (opMove rfl rfl)) (congrArg AV.bool hc9.symm))) ?_
  refine ARL.g (v := (.rptr [(.int .i64 p0.states), (.int .i64 p0.start), (.list 4 (List.map TEdge.av p0.edges))])) (.bool c9) false rfl (wF _) rfl noneAlive (fun hG => by have q0 := gN hG; subst q0; exact Light.quiet (opFieldAddrR rfl fieldA_33_1 rfl rfl)) ?_
  refine ARL.g (v := (.int .i64 p0.states)) (.bool c9) false rfl (wF _) rfl noneAlive (fun hG => by have q0 := gN hG; subst q0; exact Light.quiet (opLoadR rfl aggA_3 rfl rfl)) ?_
  refine ARL.g (v := (.bool (spec_l1In p0.states 0 31))) (.bool c9) false rfl (wF _) rfl noneAlive (fun hG => by have q0 := gN hG; subst q0; exact (qCall rfl rfl call_45 (spec_l1In_ok p0.states 0 31) rfl)) ?_
  refine ARL.g (v := (.bool (!(spec_l1In p0.states 0 31)))) (.bool c9) false rfl (wF _) rfl noneAlive (fun hG => by have q0 := gN hG; subst q0; exact Light.quiet (opNot rfl rfl)) ?_
  refine ARL.q0 (v := (.bool (c9 || (!(spec_l1In p0.states 0 31))))) rfl rfl (Light.quiet (opPick (b := c9) rfl rfl (by cases c9 <;> rfl))) ?_
  obtain ⟨c15, hc15, hF⟩ := bndE hF
  refine ARL.q0 (v := (.bool c15)) rfl rfl ((Quiet.cast (Light.quiet (opMove rfl rfl)) (congrArg AV.bool hc15.symm))) ?_
  refine ARL.g (v := (.rptr [(.int .i64 p0.start), (.list 4 (List.map TEdge.av p0.edges))])) (.bool c15) false rfl (wF _) rfl noneAlive (fun hG => by have q0 := gN hG; subst q0; exact Light.quiet (opFieldAddrR rfl fieldA_33_2 rfl rfl)) ?_
  refine ARL.g (v := (.int .i64 p0.start)) (.bool c15) false rfl (wF _) rfl noneAlive (fun hG => by have q0 := gN hG; subst q0; exact Light.quiet (opLoadR rfl aggA_3 rfl rfl)) ?_
  refine ARL.g (v := (.rptr [(.int .i64 p0.states), (.int .i64 p0.start), (.list 4 (List.map TEdge.av p0.edges))])) (.bool c15) false rfl (wF _) rfl noneAlive (fun hG => by have q0 := gN hG; subst q0; exact Light.quiet (opFieldAddrR rfl fieldA_33_1 rfl rfl)) ?_
  refine ARL.g (v := (.int .i64 p0.states)) (.bool c15) false rfl (wF _) rfl noneAlive (fun hG => by have q0 := gN hG; subst q0; exact Light.quiet (opLoadR rfl aggA_3 rfl rfl)) ?_
  obtain ⟨u1, hu1, hF⟩ := bindE hF
  refine ARL.g (v := (.int .i64 (shl .i64 1 p0.states))) (.bool c15) false rfl (wF _) rfl noneAlive (fun hG => by have q0 := gN hG; subst q0; exact Light.quiet (opShl rfl rfl rfl (of_decide_eq_true (chkE (whenE hu1))) rfl)) ?_
  refine ARL.g (v := (.int .i64 (W (((shl .i64 1 p0.states)) - 1)))) (.bool c15) false rfl (wF _) rfl noneAlive (fun hG => by have q0 := gN hG; subst q0; exact Light.quiet (opInt rfl rfl rfl rfl)) ?_
  refine ARL.g (v := (.bool (spec_SetIn p0.start ((W (((shl .i64 1 p0.states)) - 1)))))) (.bool c15) false rfl (wF _) rfl noneAlive (fun hG => by have q0 := gN hG; subst q0; exact (qCall rfl rfl call_69 (spec_SetIn_ok p0.start ((W (((shl .i64 1 p0.states)) - 1)))) rfl)) ?_
  refine ARL.g (v := (.bool (!(spec_SetIn p0.start ((W (((shl .i64 1 p0.states)) - 1))))))) (.bool c15) false rfl (wF _) rfl noneAlive (fun hG => by have q0 := gN hG; subst q0; exact Light.quiet (opNot rfl rfl)) ?_
  refine ARL.q0 (v := (.bool (c15 || (!(spec_SetIn p0.start ((W (((shl .i64 1 p0.states)) - 1)))))))) rfl rfl (Light.quiet (opPick (b := c15) rfl rfl (by cases c15 <;> rfl))) ?_
  obtain ⟨c25, hc25, hF⟩ := bndE hF
  refine ARL.q0 (v := (.bool c25)) rfl rfl ((Quiet.cast (Light.quiet (opMove rfl rfl)) (congrArg AV.bool hc25.symm))) ?_
  refine ARL.g (v := (.rptr [(.list 4 (List.map TEdge.av p0.edges))])) (.bool c25) false rfl (wF _) rfl noneAlive (fun hG => by have q0 := gN hG; subst q0; exact Light.quiet (opFieldAddrR rfl fieldA_33_3 rfl rfl)) ?_
  refine ARL.g (v := (.list 4 (List.map TEdge.av p0.edges))) (.bool c25) false rfl (wF _) rfl noneAlive (fun hG => by have q0 := gN hG; subst q0; exact Light.quiet (opLoadR rfl aggA_31 rfl rfl)) ?_
  refine ARL.g (v := (.int .i64 (p0.edges.length : Int))) (.bool c25) false rfl (wF _) rfl noneAlive (fun hG => by have q0 := gN hG; subst q0; exact Light.quiet (opLenMap (f := TEdge.av) rfl rfl rfl lenT_31 rfl)) ?_
  refine ARL.g (v := (.bool (decide (((p0.edges.length : Int)) > 2000)))) (.bool c25) false rfl (wF _) rfl noneAlive (fun hG => by have q0 := gN hG; subst q0; exact Light.quiet (opInt rfl rfl rfl rfl)) ?_
  refine ARL.q0 (v := (.bool (c25 || (decide (((p0.edges.length : Int)) > 2000))))) rfl rfl (Light.quiet (opPick (b := c25) rfl rfl (by cases c25 <;> rfl))) ?_
  refine ARL.done ?_
  refine AWP.ifB hF rfl (fun hc2 hF => ?_) (fun hc2 hF => ?_)
  · skip
    refine AWP.seqR rfl ?_
    refine ASL.q (v := (.bool false)) rfl rfl (Light.quiet (opAssign rfl rfl)) ?_
    refine ASL.done ?_
    refine AWP.ret ?_
    refine QThen.rt ?_
    obtain rfl := someE hF
    exact QRet.sole (v := (.bool false)) ⟨rfl, trivial⟩ rfl
  · skip
    refine AWP.skip ?_
    refine QThen.nrm ?_
    refine AWP.seqM (fun e H => E.Told e [] ∧ E.Sep H [] ∧ spec_AutoOk.k0 = some r) ?_ ?_
    · rintro e0 G3 ⟨hT, hS, hF⟩; refine AWP.only _ hT ?_; unfold spec_AutoOk.k0 at hF
      refine AWP.seqR rfl ?_
      refine ASL.q (v := (.bool true)) rfl rfl (Light.quiet (opAssign rfl rfl)) ?_
      refine ASL.done ?_
      refine AWP.ret ?_
      obtain rfl := someE hF
      exact QRet.sole (v := (.bool true)) ⟨rfl, trivial⟩ rfl
    · skip
      refine AWP.seqR rfl ?_
      refine ASL.q (v := (.int .i64 0)) rfl rfl (Light.quiet (opAssign rfl rfl)) ?_
      refine ASL.done ?_
      refine AWP.block ?_
      obtain ⟨o7, hL6, hR8⟩ := bindE hF
      refine AWP.loopF (ω := Unit) hL6 (fun s w => [(1, (.rptr [(.int .i64 p0.letters), (.int .i64 p0.states), (.int .i64 p0.start), (.list 4 (List.map TEdge.av p0.edges))])), (3, (.int .i64 s))]) (fun s w => []) () ⟨rfl, rfl, trivial⟩ (hS.pick [] rfl rfl) ?_
      rintro x3_l0 _ G9 hS x4 hF hx5
      try dsimp only at hS ⊢
      have hF : spec_AutoOk.b0 p0 x3_l0 = some x4 := hF; unfold spec_AutoOk.b0 at hF
      refine AWP.seq ?_
      refine AWP.seqR rfl ?_
      refine ASL.q (v := (.int .i64 x3_l0)) rfl rfl (Light.quiet (opMove rfl rfl)) ?_
      refine ASL.q (v := (.rptr [(.list 4 (List.map TEdge.av p0.edges))])) rfl rfl (Light.quiet (opFieldAddrR rfl fieldA_33_3 rfl rfl)) ?_
      refine ASL.q (v := (.list 4 (List.map TEdge.av p0.edges))) rfl rfl (Light.quiet (opLoadR rfl aggA_31 rfl rfl)) ?_
      refine ASL.q (v := (.int .i64 (p0.edges.length : Int))) rfl rfl (Light.quiet (opLenMap (f := TEdge.av) rfl rfl rfl lenT_31 rfl)) ?_
      refine ASL.q (v := (.bool (decide (x3_l0 < ((p0.edges.length : Int)))))) rfl rfl (Light.quiet (opInt rfl rfl rfl rfl)) ?_
      refine ASL.done ?_
      refine AWP.ifP hF rfl (fun hc10 hF => ?_) (fun hc10 hF => ?_)
      · skip
        refine AWP.skip ?_
        refine QThen.nrm ?_
        refine AWP.seq ?_
        refine AWP.block ?_
        refine AWP.seqR rfl ?_
        refine ASL.q (v := (.rptr [(.list 4 (List.map TEdge.av p0.edges))])) rfl rfl (Light.quiet (opFieldAddrR rfl fieldA_33_3 rfl rfl)) ?_
        refine ASL.q (v := (.list 4 (List.map TEdge.av p0.edges))) rfl rfl (Light.quiet (opLoadR rfl aggA_31 rfl rfl)) ?_
        refine ASL.q (v := (.int .i64 x3_l0)) rfl rfl (Light.quiet (opMove rfl rfl)) ?_
        obtain ⟨a41, ha41, hF⟩ := bindE hF
        refine ASL.q (v := (.rptr [(.int .i64 a41.from_), (.int .i64 a41.letter), (.int .i64 a41.to_), (.bool a41.good)])) rfl rfl (Light.quiet (kIx (f := TEdge.av) ha41 rfl rfl rfl elemA_31 sizeA_73 rfl)) ?_
        refine ASL.q (v := (TEdge.av a41)) rfl rfl (Light.quiet (opLoadRA rfl aggA_73 sizeA_73 rfl (nlt rfl) rfl)) ?_
        refine ASL.x rfl rfl (hNewZ hS [(.int .i64 0), (.int .i64 0), (.int .i64 0), (.bool false)] rfl zeroA_73 ⟨.inl rfl, .inl rfl, .inl rfl, .inl rfl, trivial⟩ ?_); rintro b4 G11 hK hS
        refine ASL.n rfl rfl (hPutA hS (j := 0) rfl rfl sizeA_73 rfl rfl rfl rfl rfl (nlt rfl) ?_); rintro G13 hS
        refine ASL.done ?_
        refine AWP.seqD [(0, false), (1, false), (2, false), (3, false), (4, false), (5, false), (6, false), (7, false), (8, false), (9, false), (10, false), (11, false), (12, false), (13, false), (14, false), (15, false), (16, false), (17, false), (18, false), (19, false), (20, false), (21, false), (22, false), (23, false), (24, false), (25, false), (26, false), (27, false), (28, false), (29, false), (30, false), (31, false), (32, false), (33, false), (34, false), (35, false), (36, false), (37, false)] mixed (by kernel_rfl) rfl ?_
        refine ARL.q0 (v := (.ptr b4 0)) rfl rfl (Light.quiet (opFieldAddr rfl fieldA_73_0 rfl rfl)) ?_
        refine ARL.q (v := (.int .i64 a41.from_)) rfl rfl (hS.aliveC (k := 0) rfl) (Light.quiet (kAt hS (j := 0) rfl rfl aggA_3 rfl rfl)) ?_
        refine ARL.q0 (v := (.rptr [(.int .i64 p0.states), (.int .i64 p0.start), (.list 4 (List.map TEdge.av p0.edges))])) rfl rfl (Light.quiet (opFieldAddrR rfl fieldA_33_1 rfl rfl)) ?_
        refine ARL.q0 (v := (.int .i64 p0.states)) rfl rfl (Light.quiet (opLoadR rfl aggA_3 rfl rfl)) ?_
        refine ARL.q0 (v := (.bool (spec_l4State a41.from_ p0.states))) rfl rfl ((qCall rfl rfl call_70 (spec_l4State_ok a41.from_ p0.states) rfl)) ?_
        refine ARL.q0 (v := (.bool (!(spec_l4State a41.from_ p0.states)))) rfl rfl (Light.quiet (opNot rfl rfl)) ?_
        obtain ⟨c49, hc49, hF⟩ := bndE hF
        refine ARL.q0 (v := (.bool c49)) rfl rfl ((Quiet.cast (Light.quiet (opMove rfl rfl)) (congrArg AV.bool hc49.symm))) ?_
        refine ARL.g (v := (.ptr b4 2)) (.bool c49) false rfl (wF _) rfl noneAlive (fun hG => by have q0 := gN hG; subst q0; exact Light.quiet (opFieldAddr rfl fieldA_73_2 rfl rfl)) ?_
        refine ARL.g (v := (.int .i64 a41.to_)) (.bool c49) false rfl (wF _) rfl (hS.aliveC (k := 0) rfl) (fun hG => by have q0 := gN hG; subst q0; exact Light.quiet (kAt hS (j := 0) rfl rfl aggA_3 rfl rfl)) ?_
        refine ARL.g (v := (.rptr [(.int .i64 p0.states), (.int .i64 p0.start), (.list 4 (List.map TEdge.av p0.edges))])) (.bool c49) false rfl (wF _) rfl noneAlive (fun hG => by have q0 := gN hG; subst q0; exact Light.quiet (opFieldAddrR rfl fieldA_33_1 rfl rfl)) ?_
        refine ARL.g (v := (.int .i64 p0.states)) (.bool c49) false rfl (wF _) rfl noneAlive (fun hG => by have q0 := gN hG; subst q0; exact Light.quiet (opLoadR rfl aggA_3 rfl rfl)) ?_
        refine ARL.g (v := (.bool (spec_l4State a41.to_ p0.states))) (.bool c49) false rfl (wF _) rfl noneAlive (fun hG => by have q0 := gN hG; subst q0; exact (qCall rfl rfl call_70 (spec_l4State_ok a41.to_ p0.states) rfl)) ?_
        refine ARL.g (v := (.bool (!(spec_l4State a41.to_ p0.states)))) (.bool c49) false rfl (wF _) rfl noneAlive (fun hG => by have q0 := gN hG; subst q0; exact Light.quiet (opNot rfl rfl)) ?_
        refine ARL.q0 (v := (.bool (c49 || (!(spec_l4State a41.to_ p0.states))))) rfl rfl (Light.quiet (opPick (b := c49) rfl rfl (by cases c49 <;> rfl))) ?_
        obtain ⟨c57, hc57, hF⟩ := bndE hF
        refine ARL.q0 (v := (.bool c57)) rfl rfl ((Quiet.cast (Light.quiet (opMove rfl rfl)) (congrArg AV.bool hc57.symm))) ?_
        refine ARL.g (v := (.ptr b4 1)) (.bool c57) false rfl (wF _) rfl noneAlive (fun hG => by have q0 := gN hG; subst q0; exact Light.quiet (opFieldAddr rfl fieldA_73_1 rfl rfl)) ?_
        refine ARL.g (v := (.int .i64 a41.letter)) (.bool c57) false rfl (wF _) rfl (hS.aliveC (k := 0) rfl) (fun hG => by have q0 := gN hG; subst q0; exact Light.quiet (kAt hS (j := 0) rfl rfl aggA_3 rfl rfl)) ?_
        refine ARL.g (v := (.rptr [(.int .i64 p0.letters), (.int .i64 p0.states), (.int .i64 p0.start), (.list 4 (List.map TEdge.av p0.edges))])) (.bool c57) false rfl (wF _) rfl noneAlive (fun hG => by have q0 := gN hG; subst q0; exact Light.quiet (opFieldAddrR rfl fieldA_33_0 rfl rfl)) ?_
        refine ARL.g (v := (.int .i64 p0.letters)) (.bool c57) false rfl (wF _) rfl noneAlive (fun hG => by have q0 := gN hG; subst q0; exact Light.quiet (opLoadR rfl aggA_3 rfl rfl)) ?_
        refine ARL.g (v := (.int .i64 (W (p0.letters - 1)))) (.bool c57) false rfl (wF _) rfl noneAlive (fun hG => by have q0 := gN hG; subst q0; exact Light.quiet (opInt rfl rfl rfl rfl)) ?_
        refine ARL.g (v := (.bool (spec_l1In a41.letter 0 ((W (p0.letters - 1)))))) (.bool c57) false rfl (wF _) rfl noneAlive (fun hG => by have q0 := gN hG; subst q0; exact (qCall rfl rfl call_45 (spec_l1In_ok a41.letter 0 ((W (p0.letters - 1)))) rfl)) ?_
        refine ARL.g (v := (.bool (!(spec_l1In a41.letter 0 ((W (p0.letters - 1))))))) (.bool c57) false rfl (wF _) rfl noneAlive (fun hG => by have q0 := gN hG; subst q0; exact Light.quiet (opNot rfl rfl)) ?_
        refine ARL.q0 (v := (.bool (c57 || (!(spec_l1In a41.letter 0 ((W (p0.letters - 1)))))))) rfl rfl (Light.quiet (opPick (b := c57) rfl rfl (by cases c57 <;> rfl))) ?_
        obtain ⟨c66, hc66, hF⟩ := bndE hF
        refine ARL.q0 (v := (.bool c66)) rfl rfl ((Quiet.cast (Light.quiet (opMove rfl rfl)) (congrArg AV.bool hc66.symm))) ?_
        refine ARL.g (v := (.int .i64 x3_l0)) (.bool c66) false rfl (wF _) rfl noneAlive (fun hG => by have q0 := gN hG; subst q0; exact Light.quiet (opMove rfl rfl)) ?_
        refine ARL.g (v := (.bool (decide (x3_l0 > 0)))) (.bool c66) false rfl (wF _) rfl noneAlive (fun hG => by have q0 := gN hG; subst q0; exact Light.quiet (opInt rfl rfl rfl rfl)) ?_
        obtain ⟨c69, hc69, hF⟩ := bndE hF
        refine ARL.g (v := (.bool c69)) (.bool c66) false rfl (wF _) rfl noneAlive (fun hG => by have q0 := gN hG; subst q0; exact (Quiet.cast (Light.quiet (opMove rfl rfl)) (congrArg AV.bool hc69.symm))) ?_
        refine ARL.g (v := (.rptr [(.list 4 (List.map TEdge.av p0.edges))])) (bif (!c66) then (.bool c69) else .tup []) true rfl (wGT _ _) rfl noneAlive (fun hG => by have q0 := gN (gA1 hG); have q1 := gA2 hG; subst q0; subst q1; exact Light.quiet (opFieldAddrR rfl fieldA_33_3 rfl rfl)) ?_
        refine ARL.g (v := (.list 4 (List.map TEdge.av p0.edges))) (bif (!c66) then (.bool c69) else .tup []) true rfl (wGT _ _) rfl noneAlive (fun hG => by have q0 := gN (gA1 hG); have q1 := gA2 hG; subst q0; subst q1; exact Light.quiet (opLoadR rfl aggA_31 rfl rfl)) ?_
        refine ARL.g (v := (.int .i64 x3_l0)) (bif (!c66) then (.bool c69) else .tup []) true rfl (wGT _ _) rfl noneAlive (fun hG => by have q0 := gN (gA1 hG); have q1 := gA2 hG; subst q0; subst q1; exact Light.quiet (opMove rfl rfl)) ?_
        refine ARL.g (v := (.int .i64 (W (x3_l0 - 1)))) (bif (!c66) then (.bool c69) else .tup []) true rfl (wGT _ _) rfl noneAlive (fun hG => by have q0 := gN (gA1 hG); have q1 := gA2 hG; subst q0; subst q1; exact Light.quiet (opInt rfl rfl rfl rfl)) ?_
        obtain ⟨a74, ha74, hF⟩ := bindE hF
        refine ARL.g (v := (.rptr [(.int .i64 a74.from_), (.int .i64 a74.letter), (.int .i64 a74.to_), (.bool a74.good)])) (bif (!c66) then (.bool c69) else .tup []) true rfl (wGT _ _) rfl noneAlive (fun hG => by have q0 := gN (gA1 hG); have q1 := gA2 hG; subst q0; subst q1; exact Light.quiet (kIx (f := TEdge.av) (whenE ha74) rfl rfl rfl elemA_31 sizeA_73 rfl)) ?_
        refine ARL.g (v := (TEdge.av a74)) (bif (!c66) then (.bool c69) else .tup []) true rfl (wGT _ _) rfl noneAlive (fun hG => by have q0 := gN (gA1 hG); have q1 := gA2 hG; subst q0; subst q1; exact Light.quiet (opLoadRA rfl aggA_73 sizeA_73 rfl (nlt rfl) rfl)) ?_
        refine ARL.g (v := (TEdge.av a41)) (bif (!c66) then (.bool c69) else .tup []) true rfl (wGT _ _) rfl (hS.aliveC (k := 0) rfl) (fun hG => by have q0 := gN (gA1 hG); have q1 := gA2 hG; subst q0; subst q1; exact Light.quiet (kAtA hS (j := 0) rfl rfl aggA_73 sizeA_73 rfl (nlt rfl) rfl)) ?_
        refine ARL.g (v := (.bool (spec_l4Less a74 a41))) (bif (!c66) then (.bool c69) else .tup []) true rfl (wGT _ _) rfl noneAlive (fun hG => by have q0 := gN (gA1 hG); have q1 := gA2 hG; subst q0; subst q1; exact (qCall rfl rfl call_71 (spec_l4Less_ok a74 a41) rfl)) ?_
        refine ARL.g (v := (.bool (!(spec_l4Less a74 a41)))) (bif (!c66) then (.bool c69) else .tup []) true rfl (wGT _ _) rfl noneAlive (fun hG => by have q0 := gN (gA1 hG); have q1 := gA2 hG; subst q0; subst q1; exact Light.quiet (opNot rfl rfl)) ?_
        refine ARL.g (v := (.bool (c69 && (!(spec_l4Less a74 a41))))) (.bool c66) false rfl (wF _) rfl noneAlive (fun hG => by have q0 := gN hG; subst q0; exact Light.quiet (opPick (b := c69) rfl rfl (by cases c69 <;> rfl))) ?_
        refine ARL.q0 (v := (.bool (c66 || (c69 && (!(spec_l4Less a74 a41)))))) rfl rfl (Light.quiet (opPick (b := c66) rfl rfl (by cases c66 <;> rfl))) ?_
        refine ARL.done ?_
        refine AWP.ifB hF rfl (fun hc14 hF => ?_) (fun hc14 hF => ?_)
        · skip
          refine AWP.seqR rfl ?_
          refine ASL.q (v := (.bool false)) rfl rfl (Light.quiet (opAssign rfl rfl)) ?_
          refine ASL.done ?_
          refine AWP.ret ?_
          refine QBlock.ret ?_
          refine QThen.rt ?_
          refine QThen.rt ?_
          refine QBlock.ret ?_
          refine QThen.rt ?_
          obtain rfl := (hx5 _ (someE hF).symm)
          have hF := hR8
          have hF := sumR hF
          obtain rfl := someE hF
          exact QRet.sole (v := (.bool false)) ⟨rfl, trivial⟩ rfl
        · skip
          refine AWP.skip ?_
          refine QBlock.nrm ?_
          refine QThen.nrm ?_
          refine AWP.lastR rfl ?_
          refine ASL.q (v := (.int .i64 x3_l0)) rfl rfl (Light.quiet (opMove rfl rfl)) ?_
          refine ASL.q (v := (.int .i64 (W (x3_l0 + 1)))) rfl rfl (Light.quiet (opInt rfl rfl rfl rfl)) ?_
          refine ASL.q (v := (.int .i64 (W (x3_l0 + 1)))) rfl rfl (Light.quiet (opAssign rfl rfl)) ?_
          refine ASL.done ?_
          refine QThen.nrm ?_
          exact ⟨(W (x3_l0 + 1)), (), (someE hF).symm, ⟨rfl, rfl, trivial⟩, (hS.pick [] rfl rfl)⟩
      · skip
        refine AWP.exit ?_
        refine QThen.ext ?_
        refine QThen.ext ?_
        refine QBlock.hit ?_
        obtain rfl := (hx5 _ (someE hF).symm)
        have hF := hR8
        have hF := sumL hF
        refine QThen.nrm ?_
        exact ⟨trivial, (hS.pick [] rfl rfl), hF⟩

set_option maxRecDepth 10000 in
theorem spec_l13States_ok {p0 : TAuto} {r : Bool} (hF : spec_l13States p0 = some r) : PC Try.prog 29 [(TAuto.av p0)] fun v => v = (.bool r) := by
  refine PC.enter Try.func29 rfl Try.ntmps29 (by simp) ?_
  have hS := Sep.void; unfold spec_l13States at hF
  refine AWP.seqR rfl ?_
  refine ASL.q (v := (.rptr [(.int .i64 p0.letters), (.int .i64 p0.states), (.int .i64 p0.start), (.list 4 (List.map TEdge.av p0.edges))])) rfl rfl ((qBoxI (v := (TAuto.av p0)) rfl rfl rfl rfl)) ?_
  refine ASL.q (v := (.bool false)) rfl rfl (Light.quiet (opAssign rfl rfl)) ?_
  refine ASL.done ?_
  refine AWP.seqR rfl ?_
  refine ASL.q (v := (TAuto.av p0)) rfl rfl (Light.quiet (opLoadRA rfl aggA_33 sizeA_33 rfl (nlt rfl) rfl)) ?_
  obtain ⟨a4, ha4, hF⟩ := bindE hF
  refine ASL.q (v := (.bool a4)) rfl rfl ((qCall rfl rfl call_51 (spec_AutoOk_ok ha4) rfl)) ?_
  refine ASL.q (v := (.bool a4)) rfl rfl (Light.quiet (opMove rfl rfl)) ?_
  refine ASL.g (v := (.rptr [(.int .i64 p0.states), (.int .i64 p0.start), (.list 4 (List.map TEdge.av p0.edges))])) (.bool a4) true rfl (wT _) rfl (fun hG => by have q0 := hG; subst q0; exact Light.quiet (opFieldAddrR rfl fieldA_33_1 rfl rfl)) ?_
  refine ASL.g (v := (.int .i64 p0.states)) (.bool a4) true rfl (wT _) rfl (fun hG => by have q0 := hG; subst q0; exact Light.quiet (opLoadR rfl aggA_3 rfl rfl)) ?_
  refine ASL.g (v := (.bool (decide (p0.states ≤ 2)))) (.bool a4) true rfl (wT _) rfl (fun hG => by have q0 := hG; subst q0; exact Light.quiet (opInt rfl rfl rfl rfl)) ?_
  refine ASL.q (v := (.bool (a4 && (decide (p0.states ≤ 2))))) rfl rfl (Light.quiet (opPick (b := a4) rfl rfl (by cases a4 <;> rfl))) ?_
  refine ASL.q (v := (.bool (a4 && (decide (p0.states ≤ 2))))) rfl rfl (Light.quiet (opAssign rfl rfl)) ?_
  refine ASL.done ?_
  refine AWP.ret ?_
  obtain rfl := someE hF
  exact QRet.sole (v := (.bool (a4 && (decide (p0.states ≤ 2))))) ⟨rfl, trivial⟩ rfl

set_option maxRecDepth 10000 in
theorem spec_l1Bit_ok {p0 : Int} {r : Int} (hF : spec_l1Bit p0 = some r) : PC Try.prog 54 [(.int .i64 p0)] fun v => v = (.int .i64 r) := by
  refine PC.enter Try.func54 rfl Try.ntmps54 (by simp) ?_
  have hS := Sep.void; unfold spec_l1Bit at hF
  refine AWP.seqR rfl ?_
  refine ASL.q (v := (.int .i64 0)) rfl rfl (Light.quiet (opAssign rfl rfl)) ?_
  refine ASL.done ?_
  refine AWP.seqR rfl ?_
  refine ASL.q (v := (.int .i64 p0)) rfl rfl (Light.quiet (opMove rfl rfl)) ?_
  refine ASL.q (v := (.int .i64 (bAnd .i64 p0 31))) rfl rfl (Light.quiet (opInt rfl rfl rfl rfl)) ?_
  obtain ⟨u1, hu1, hF⟩ := bindE hF
  refine ASL.q (v := (.int .i64 (shl .i64 1 ((bAnd .i64 p0 31))))) rfl rfl (Light.quiet (opShl rfl rfl rfl (of_decide_eq_true (chkE hu1)) rfl)) ?_
  refine ASL.q (v := (.int .i64 (shl .i64 1 ((bAnd .i64 p0 31))))) rfl rfl (Light.quiet (opAssign rfl rfl)) ?_
  refine ASL.done ?_
  refine AWP.ret ?_
  obtain rfl := someE hF
  exact QRet.sole (v := (.int .i64 (shl .i64 1 ((bAnd .i64 p0 31))))) ⟨rfl, trivial⟩ rfl

set_option maxRecDepth 10000 in
theorem spec_l1Has_ok {p0 : Int} {p1 : Int} {r : Bool} (hF : spec_l1Has p0 p1 = some r) : PC Try.prog 30 [(.int .i64 p0), (.int .i64 p1)] fun v => v = (.bool r) := by
  refine PC.enter Try.func30 rfl Try.ntmps30 (by simp) ?_
  have hS := Sep.void; unfold spec_l1Has at hF
  refine AWP.seqR rfl ?_
  refine ASL.q (v := (.bool false)) rfl rfl (Light.quiet (opAssign rfl rfl)) ?_
  refine ASL.done ?_
  refine AWP.seqR rfl ?_
  refine ASL.q (v := (.int .i64 p1)) rfl rfl (Light.quiet (opMove rfl rfl)) ?_
  refine ASL.q (v := (.bool (spec_l1In p1 0 30))) rfl rfl ((qCall rfl rfl call_45 (spec_l1In_ok p1 0 30) rfl)) ?_
  obtain ⟨c7, hc7, hF⟩ := bndE hF
  refine ASL.q (v := (.bool c7)) rfl rfl ((Quiet.cast (Light.quiet (opMove rfl rfl)) (congrArg AV.bool hc7.symm))) ?_
  refine ASL.g (v := (.int .i64 p0)) (.bool c7) true rfl (wT _) rfl (fun hG => by have q0 := hG; subst q0; exact Light.quiet (opMove rfl rfl)) ?_
  refine ASL.g (v := (.int .i64 p1)) (.bool c7) true rfl (wT _) rfl (fun hG => by have q0 := hG; subst q0; exact Light.quiet (opMove rfl rfl)) ?_
  obtain ⟨a10, ha10, hF⟩ := bindE hF
  refine ASL.g (v := (.int .i64 a10)) (.bool c7) true rfl (wT _) rfl (fun hG => by have q0 := hG; subst q0; exact (qCall rfl rfl call_54 (spec_l1Bit_ok (whenE ha10)) rfl)) ?_
  refine ASL.g (v := (.int .i64 (bAnd .i64 p0 a10))) (.bool c7) true rfl (wT _) rfl (fun hG => by have q0 := hG; subst q0; exact Light.quiet (opInt rfl rfl rfl rfl)) ?_
  refine ASL.g (v := (.bool (decide (((bAnd .i64 p0 a10)) ≠ 0)))) (.bool c7) true rfl (wT _) rfl (fun hG => by have q0 := hG; subst q0; exact Light.quiet (opInt rfl rfl rfl rfl)) ?_
  refine ASL.q (v := (.bool (c7 && (decide (((bAnd .i64 p0 a10)) ≠ 0))))) rfl rfl (Light.quiet (opPick (b := c7) rfl rfl (by cases c7 <;> rfl))) ?_
  refine ASL.q (v := (.bool (c7 && (decide (((bAnd .i64 p0 a10)) ≠ 0))))) rfl rfl (Light.quiet (opAssign rfl rfl)) ?_
  refine ASL.done ?_
  refine AWP.ret ?_
  obtain rfl := someE hF
  exact QRet.sole (v := (.bool (c7 && (decide (((bAnd .i64 p0 a10)) ≠ 0))))) ⟨rfl, trivial⟩ rfl

set_option maxRecDepth 10000 in
theorem spec_RankStart_ok {p0 : TAuto} {r : (TRankState × Bool)} (hF : spec_RankStart p0 = some r) : HS Try.prog 7 [(TAuto.av p0)] [] fun v L' => ∃ o0_Ranks : AV, v = .tup [(.agg [o0_Ranks, (.int .i64 r.1.owing)]), (.bool r.2)] ∧ L' = [.row 1 o0_Ranks (List.map (AV.int .i64) r.1.ranks)] := by
  intro H S hS
  refine HC.enter Try.func7 rfl Try.ntmps7 (by simp) ?_
  simp only [List.cons_append, List.nil_append] at hS
  unfold spec_RankStart at hF
  refine AWP.seqR rfl ?_
  refine ASL.q (v := (.rptr [(.int .i64 p0.letters), (.int .i64 p0.states), (.int .i64 p0.start), (.list 4 (List.map TEdge.av p0.edges))])) rfl rfl ((qBoxI (v := (TAuto.av p0)) rfl rfl rfl rfl)) ?_
  have hS := hNil (s := 1) (f := (AV.int .i64)) hS
  refine ASL.x rfl rfl (hNewZ hS [.nil, (.int .i64 0)] rfl zeroA_28 ⟨.inl rfl, .inl rfl, trivial⟩ ?_); rintro b2 G1 hK hS
  refine ASL.q (v := (.bool false)) rfl rfl (Light.quiet (opAssign rfl rfl)) ?_
  refine ASL.done ?_
  refine AWP.seq ?_
  refine AWP.seqR rfl ?_
  refine ASL.q (v := (TAuto.av p0)) rfl rfl (Light.quiet (opLoadRA rfl aggA_33 sizeA_33 rfl (nlt rfl) rfl)) ?_
  obtain ⟨a8, ha8, hF⟩ := bindE hF
  refine ASL.q (v := (.bool a8)) rfl rfl ((qCall rfl rfl call_29 (spec_l13States_ok ha8) rfl)) ?_
  refine ASL.q (v := (.bool (!a8))) rfl rfl (Light.quiet (opNot rfl rfl)) ?_
  refine ASL.done ?_
  refine AWP.ifB hF rfl (fun hc4 hF => ?_) (fun hc4 hF => ?_)
  · skip
    refine AWP.seqR rfl ?_
    refine ASL.q (v := (.agg [.nil, (.int .i64 0)])) rfl rfl (Light.quiet (opBuildZ (zs := [.nil, (.int .i64 0)]) rfl plan_28 zeroA_28 ⟨.inl rfl, .inl rfl, trivial⟩ rfl)) ?_
    have hS := hNil (s := 1) (f := (AV.int .i64)) hS
    refine ASL.n rfl rfl (hPutA hS (j := 1) rfl rfl sizeA_28 rfl rfl rfl rfl (allC (hS.one (k := 0) rfl) (allC rfl rfl)) (nlt rfl) ?_); rintro G5 hS
    refine ASL.q (v := (.bool false)) rfl rfl (Light.quiet (opAssign rfl rfl)) ?_
    refine ASL.done ?_
    refine AWP.ret ?_
    refine QThen.rt ?_
    obtain rfl := someE hF
    exact QRet.many (vs := [(.agg [.nil, (.int .i64 0)]), (.bool false)]) ⟨resOne.at hS (k := 1) rfl rfl aggA_28 sizeA_28, rfl, trivial⟩ (by simp) ⟨_, ⟨.nil, rfl, rfl⟩, hS.pick [0, 3] rfl rfl⟩
  · skip
    refine AWP.skip ?_
    refine QThen.nrm ?_
    refine AWP.seqR rfl ?_
    refine ASL.q (v := (.agg [.nil, (.int .i64 0)])) rfl rfl (Light.quiet (opBuildZ (zs := [.nil, (.int .i64 0)]) rfl plan_28 zeroA_28 ⟨.inl rfl, .inl rfl, trivial⟩ rfl)) ?_
    have hS := hNil (s := 1) (f := (AV.int .i64)) hS
    refine ASL.x rfl rfl (hNewZ hS [.nil, (.int .i64 0)] rfl zeroA_28 ⟨.inl rfl, .inl rfl, trivial⟩ ?_); rintro b4 G7 hK hS
    have hS := hNil (s := 1) (f := (AV.int .i64)) hS
    refine ASL.n rfl rfl (hPutA hS (j := 1) rfl rfl sizeA_28 rfl rfl rfl rfl (allC (hS.one (k := 0) rfl) (allC rfl rfl)) (nlt rfl) ?_); rintro G10 hS
    refine ASL.done ?_
    refine AWP.seqM (fun e H => ∃ y12 : (List Int), ∃ y15 : Int, ∃ w13 : AV, E.Told e [(2, (.ptr b2 0)), (4, (.ptr b4 0))] ∧ E.Sep H [.row 1 .nil (List.map (AV.int .i64) ([])), .cell b2 [.nil, (.int .i64 0)], .row 1 w13 (List.map (AV.int .i64) y12), .cell b4 [w13, (.int .i64 y15)], .snap S] ∧ spec_RankStart.k0 y12 y15 = some r) ?_ ?_
    · rintro e0 G17 ⟨y12, y15, w13, hT, hS, hF⟩; refine AWP.only _ hT ?_; unfold spec_RankStart.k0 at hF
      refine AWP.seqR rfl ?_
      refine ASL.q (v := (.agg [w13, (.int .i64 y15)])) rfl rfl (Light.quiet (kAtA hS (j := 3) rfl rfl aggA_28 sizeA_28 rfl (nlt rfl) rfl)) ?_
      refine ASL.n rfl rfl (hPutA hS (j := 1) rfl rfl sizeA_28 rfl rfl rfl rfl (allC (hS.one (k := 2) rfl) (allC rfl rfl)) (nlt rfl) ?_); rintro G16 hS
      refine ASL.q (v := (.bool true)) rfl rfl (Light.quiet (opAssign rfl rfl)) ?_
      refine ASL.done ?_
      refine AWP.ret ?_
      obtain rfl := someE hF
      exact QRet.many (vs := [(.agg [w13, (.int .i64 y15)]), (.bool true)]) ⟨resOne.at hS (k := 1) rfl rfl aggA_28 sizeA_28, rfl, trivial⟩ (by simp) ⟨_, ⟨w13, rfl, rfl⟩, hS.pick [2, 4] rfl rfl⟩
    · skip
      refine AWP.seqR rfl ?_
      refine ASL.q (v := (.int .i64 0)) rfl rfl (Light.quiet (opAssign rfl rfl)) ?_
      refine ASL.done ?_
      refine AWP.block ?_
      obtain ⟨o25, hL24, hR26⟩ := bindE hF
      refine AWP.loopF (ω := AV) hL24 (fun s w => [(1, (.rptr [(.int .i64 p0.letters), (.int .i64 p0.states), (.int .i64 p0.start), (.list 4 (List.map TEdge.av p0.edges))])), (2, (.ptr b2 0)), (4, (.ptr b4 0)), (5, (.int .i64 s.2.2))]) (fun s w => [.row 1 .nil (List.map (AV.int .i64) ([])), .cell b2 [.nil, (.int .i64 0)], .row 1 w (List.map (AV.int .i64) s.1), .cell b4 [w, (.int .i64 s.2.1)], .snap S]) .nil ⟨rfl, rfl, rfl, rfl, trivial⟩ (hS.pick [4, 3, 0, 1, 5] rfl rfl) ?_
      rintro ⟨y18, y21, x5_l0⟩ w19 G27 hS x22 hF hx23
      try dsimp only at hS ⊢
      have hF : spec_RankStart.b0 p0 y18 y21 x5_l0 = some x22 := hF; unfold spec_RankStart.b0 at hF
      refine AWP.seq ?_
      refine AWP.seqR rfl ?_
      refine ASL.q (v := (.int .i64 x5_l0)) rfl rfl (Light.quiet (opMove rfl rfl)) ?_
      refine ASL.q (v := (.rptr [(.int .i64 p0.states), (.int .i64 p0.start), (.list 4 (List.map TEdge.av p0.edges))])) rfl rfl (Light.quiet (opFieldAddrR rfl fieldA_33_1 rfl rfl)) ?_
      refine ASL.q (v := (.int .i64 p0.states)) rfl rfl (Light.quiet (opLoadR rfl aggA_3 rfl rfl)) ?_
      refine ASL.q (v := (.bool (decide (x5_l0 < p0.states)))) rfl rfl (Light.quiet (opInt rfl rfl rfl rfl)) ?_
      refine ASL.done ?_
      refine AWP.ifP hF rfl (fun hc28 hF => ?_) (fun hc28 hF => ?_)
      · skip
        refine AWP.skip ?_
        refine QThen.nrm ?_
        refine AWP.seq ?_
        refine AWP.block ?_
        refine AWP.seqR rfl ?_
        refine ASL.q (v := (.int .i64 (-1))) rfl rfl (Light.quiet (opAssign rfl rfl)) ?_
        refine ASL.done ?_
        refine AWP.seqM (fun e H => ∃ x6_2 : Int, E.Told e [(1, (.rptr [(.int .i64 p0.letters), (.int .i64 p0.states), (.int .i64 p0.start), (.list 4 (List.map TEdge.av p0.edges))])), (2, (.ptr b2 0)), (4, (.ptr b4 0)), (5, (.int .i64 x5_l0)), (6, (.int .i64 x6_2))] ∧ E.Sep H [.row 1 .nil (List.map (AV.int .i64) ([])), .cell b2 [.nil, (.int .i64 0)], .row 1 w19 (List.map (AV.int .i64) y18), .cell b4 [w19, (.int .i64 y21)], .snap S] ∧ spec_RankStart.k1 y18 y21 x5_l0 x6_2 = some x22) ?_ ?_
        · rintro e0 G32 ⟨x6_2, hT, hS, hF⟩; refine AWP.only _ hT ?_; unfold spec_RankStart.k1 at hF
          refine AWP.lastR rfl ?_
          refine ASL.q (v := (.ptr b4 0)) rfl rfl (Light.quiet (opFieldAddr rfl fieldA_28_0 rfl rfl)) ?_
          refine ASL.q (v := w19) rfl rfl (Light.quiet (kAt hS (j := 3) rfl rfl aggA_26 rfl rfl)) ?_
          refine ASL.q (v := (.int .i64 x6_2)) rfl rfl (Light.quiet (opMove rfl rfl)) ?_
          refine ASL.q (v := (.list 1 (List.map (AV.int .i64) [x6_2]))) rfl rfl ((qLit (xs := [(.int .i64 x6_2)]) rfl elemA_26 sizeA_3 zeroA_3 rfl rfl rfl rfl (by simp [cells]) (nlt rfl))) ?_
          obtain ⟨z29, hz29, hF⟩ := bindE hF
          refine ASL.x rfl rfl (hApp (f := (AV.int .i64)) (ws := [x6_2]) hS (j := 2) rfl hz29 rfl elemA_26 rfl sizeA_3 bytesA_3 zeroA_3 rfl rfl rfl (fun _ => rfl) ?_); rintro v29 G29 hS
          refine ASL.q (v := (.ptr b4 0)) rfl rfl (Light.quiet (opFieldAddr rfl fieldA_28_0 rfl rfl)) ?_
          refine ASL.n rfl rfl (hPut hS (j := 3) rfl rfl sizeA_26 rfl rfl (hS.one (k := 2) rfl) (nlt rfl) ?_); rintro G31 hS
          refine ASL.done ?_
          refine QBlock.nrm ?_
          refine QThen.nrm ?_
          refine AWP.lastR rfl ?_
          refine ASL.q (v := (.int .i64 x5_l0)) rfl rfl (Light.quiet (opMove rfl rfl)) ?_
          refine ASL.q (v := (.int .i64 (W (x5_l0 + 1)))) rfl rfl (Light.quiet (opInt rfl rfl rfl rfl)) ?_
          refine ASL.q (v := (.int .i64 (W (x5_l0 + 1)))) rfl rfl (Light.quiet (opAssign rfl rfl)) ?_
          refine ASL.done ?_
          refine QThen.nrm ?_
          exact ⟨(z29, y21, (W (x5_l0 + 1))), v29, (someE hF).symm, ⟨rfl, rfl, rfl, rfl, trivial⟩, (hS.pick [0, 1, 2, 3, 4] rfl rfl)⟩
        · skip
          refine AWP.seqR rfl ?_
          refine ASL.q (v := (.rptr [(.int .i64 p0.start), (.list 4 (List.map TEdge.av p0.edges))])) rfl rfl (Light.quiet (opFieldAddrR rfl fieldA_33_2 rfl rfl)) ?_
          refine ASL.q (v := (.int .i64 p0.start)) rfl rfl (Light.quiet (opLoadR rfl aggA_3 rfl rfl)) ?_
          refine ASL.q (v := (.int .i64 x5_l0)) rfl rfl (Light.quiet (opMove rfl rfl)) ?_
          obtain ⟨a21, ha21, hF⟩ := bindE hF
          refine ASL.q (v := (.bool a21)) rfl rfl ((qCall rfl rfl call_30 (spec_l1Has_ok ha21) rfl)) ?_
          refine ASL.done ?_
          refine AWP.ifB hF rfl (fun hc33 hF => ?_) (fun hc33 hF => ?_)
          · skip
            refine AWP.lastR rfl ?_
            refine ASL.q (v := (.rptr [(.int .i64 p0.states), (.int .i64 p0.start), (.list 4 (List.map TEdge.av p0.edges))])) rfl rfl (Light.quiet (opFieldAddrR rfl fieldA_33_1 rfl rfl)) ?_
            refine ASL.q (v := (.int .i64 p0.states)) rfl rfl (Light.quiet (opLoadR rfl aggA_3 rfl rfl)) ?_
            refine ASL.q (v := (.int .i64 (W (2 * p0.states)))) rfl rfl (Light.quiet (opInt rfl rfl rfl rfl)) ?_
            refine ASL.q (v := (.int .i64 (W (2 * p0.states)))) rfl rfl (Light.quiet (opAssign rfl rfl)) ?_
            refine ASL.done ?_
            refine QThen.nrm ?_
            exact ⟨(W (2 * p0.states)), ⟨rfl, rfl, rfl, rfl, rfl, trivial⟩, (hS.pick [0, 1, 2, 3, 4] rfl rfl), hF⟩
          · skip
            refine AWP.skip ?_
            refine QThen.nrm ?_
            exact ⟨(-1), ⟨rfl, rfl, rfl, rfl, rfl, trivial⟩, (hS.pick [0, 1, 2, 3, 4] rfl rfl), hF⟩
      · skip
        refine AWP.exit ?_
        refine QThen.ext ?_
        refine QThen.ext ?_
        refine QBlock.hit ?_
        obtain rfl := (hx23 _ (someE hF).symm)
        have hF := hR26
        refine QThen.nrm ?_
        exact ⟨y18, y21, w19, ⟨rfl, rfl, trivial⟩, (hS.pick [0, 1, 2, 3, 4] rfl rfl), hF⟩

set_option maxRecDepth 10000 in
theorem impl_inRange_ok (p0 : Int) (p1 : Int) (p2 : Int) : PC Try.prog 43 [(.int .i64 p0), (.int .i64 p1), (.int .i64 p2)] fun v => v = (.bool (impl_inRange p0 p1 p2)) := by
  generalize hF : impl_inRange p0 p1 p2 = r
  refine PC.enter Try.func43 rfl Try.ntmps43 (by simp) ?_
  have hS := Sep.void; unfold impl_inRange at hF
  refine AWP.seqR rfl ?_
  refine ASL.q (v := (.bool false)) rfl rfl (Light.quiet (opAssign rfl rfl)) ?_
  refine ASL.done ?_
  refine AWP.seqR rfl ?_
  refine ASL.q (v := (.int .i64 p0)) rfl rfl (Light.quiet (opMove rfl rfl)) ?_
  refine ASL.q (v := (.int .i64 p1)) rfl rfl (Light.quiet (opMove rfl rfl)) ?_
  refine ASL.q (v := (.bool (decide (p0 ≥ p1)))) rfl rfl (Light.quiet (opInt rfl rfl rfl rfl)) ?_
  obtain ⟨c10, hc10, hF⟩ := bndE hF
  refine ASL.q (v := (.bool c10)) rfl rfl ((Quiet.cast (Light.quiet (opMove rfl rfl)) (congrArg AV.bool hc10.symm))) ?_
  refine ASL.g (v := (.int .i64 p0)) (.bool c10) true rfl (wT _) rfl (fun hG => by have q0 := hG; subst q0; exact Light.quiet (opMove rfl rfl)) ?_
  refine ASL.g (v := (.int .i64 p2)) (.bool c10) true rfl (wT _) rfl (fun hG => by have q0 := hG; subst q0; exact Light.quiet (opMove rfl rfl)) ?_
  refine ASL.g (v := (.bool (decide (p0 ≤ p2)))) (.bool c10) true rfl (wT _) rfl (fun hG => by have q0 := hG; subst q0; exact Light.quiet (opInt rfl rfl rfl rfl)) ?_
  refine ASL.q (v := (.bool (c10 && (decide (p0 ≤ p2))))) rfl rfl (Light.quiet (opPick (b := c10) rfl rfl (by cases c10 <;> rfl))) ?_
  refine ASL.q (v := (.bool (c10 && (decide (p0 ≤ p2))))) rfl rfl (Light.quiet (opAssign rfl rfl)) ?_
  refine ASL.done ?_
  refine AWP.ret ?_
  obtain rfl := hF
  exact QRet.sole (v := (.bool (c10 && (decide (p0 ≤ p2))))) ⟨rfl, trivial⟩ rfl

set_option maxRecDepth 10000 in
theorem impl_isLetters_ok (p0 : Int) : PC Try.prog 78 [(.int .i64 p0)] fun v => v = (.bool (impl_isLetters p0)) := by
  generalize hF : impl_isLetters p0 = r
  refine PC.enter Try.func78 rfl Try.ntmps78 (by simp) ?_
  have hS := Sep.void; unfold impl_isLetters at hF
  refine AWP.seqR rfl ?_
  refine ASL.q (v := (.bool false)) rfl rfl (Light.quiet (opAssign rfl rfl)) ?_
  refine ASL.done ?_
  refine AWP.seqR rfl ?_
  refine ASL.q (v := (.int .i64 p0)) rfl rfl (Light.quiet (opMove rfl rfl)) ?_
  refine ASL.q (v := (.bool (impl_inRange p0 1 8))) rfl rfl ((qCall rfl rfl call_43 (impl_inRange_ok p0 1 8) rfl)) ?_
  refine ASL.q (v := (.bool (impl_inRange p0 1 8))) rfl rfl (Light.quiet (opAssign rfl rfl)) ?_
  refine ASL.done ?_
  refine AWP.ret ?_
  obtain rfl := hF
  exact QRet.sole (v := (.bool (impl_inRange p0 1 8))) ⟨rfl, trivial⟩ rfl

set_option maxRecDepth 10000 in
theorem impl_SetOk_ok (p0 : Int) : PC Try.prog 48 [(.int .i64 p0)] fun v => v = (.bool (impl_SetOk p0)) := by
  generalize hF : impl_SetOk p0 = r
  refine PC.enter Try.func48 rfl Try.ntmps48 (by simp) ?_
  have hS := Sep.void; unfold impl_SetOk at hF
  refine AWP.seqR rfl ?_
  refine ASL.q (v := (.bool false)) rfl rfl (Light.quiet (opAssign rfl rfl)) ?_
  refine ASL.done ?_
  refine AWP.seqR rfl ?_
  refine ASL.q (v := (.int .i64 p0)) rfl rfl (Light.quiet (opMove rfl rfl)) ?_
  refine ASL.q (v := (.bool (impl_inRange p0 0 2147483647))) rfl rfl ((qCall rfl rfl call_43 (impl_inRange_ok p0 0 2147483647) rfl)) ?_
  refine ASL.q (v := (.bool (impl_inRange p0 0 2147483647))) rfl rfl (Light.quiet (opAssign rfl rfl)) ?_
  refine ASL.done ?_
  refine AWP.ret ?_
  obtain rfl := hF
  exact QRet.sole (v := (.bool (impl_inRange p0 0 2147483647))) ⟨rfl, trivial⟩ rfl

set_option maxRecDepth 10000 in
theorem impl_only_ok (p0 : Int) : PC Try.prog 49 [(.int .i64 p0)] fun v => v = (.int .i64 (impl_only p0)) := by
  generalize hF : impl_only p0 = r
  refine PC.enter Try.func49 rfl Try.ntmps49 (by simp) ?_
  have hS := Sep.void; unfold impl_only at hF
  refine AWP.seqR rfl ?_
  refine ASL.q (v := (.int .i64 0)) rfl rfl (Light.quiet (opAssign rfl rfl)) ?_
  refine ASL.done ?_
  refine AWP.seqR rfl ?_
  refine ASL.q (v := (.int .i64 p0)) rfl rfl (Light.quiet (opMove rfl rfl)) ?_
  refine ASL.q (v := (.int .u64 (IntKind.u64.wrap p0))) rfl rfl (Light.quiet (opConv rfl rfl und_3 und_88 rfl)) ?_
  refine ASL.q (v := (.int .i64 (shl .i64 1 ((IntKind.u64.wrap p0))))) rfl rfl (Light.quiet (opShl rfl rfl rfl (wrapU_nn rfl _) rfl)) ?_
  refine ASL.q (v := (.int .i64 (shl .i64 1 ((IntKind.u64.wrap p0))))) rfl rfl (Light.quiet (opAssign rfl rfl)) ?_
  refine ASL.done ?_
  refine AWP.ret ?_
  obtain rfl := hF
  exact QRet.sole (v := (.int .i64 (shl .i64 1 ((IntKind.u64.wrap p0))))) ⟨rfl, trivial⟩ rfl

set_option maxRecDepth 10000 in
theorem impl_headOk_ok (p0 : Int) (p1 : Int) (p2 : Int) : PC Try.prog 72 [(.int .i64 p0), (.int .i64 p1), (.int .i64 p2)] fun v => v = (.bool (impl_headOk p0 p1 p2)) := by
  generalize hF : impl_headOk p0 p1 p2 = r
  refine PC.enter Try.func72 rfl Try.ntmps72 (by simp) ?_
  have hS := Sep.void; unfold impl_headOk at hF
  refine AWP.seqR rfl ?_
  refine ASL.q (v := (.bool false)) rfl rfl (Light.quiet (opAssign rfl rfl)) ?_
  refine ASL.done ?_
  refine AWP.seqR rfl ?_
  refine ASL.q (v := (.int .i64 p0)) rfl rfl (Light.quiet (opMove rfl rfl)) ?_
  refine ASL.q (v := (.bool (impl_isLetters p0))) rfl rfl ((qCall rfl rfl call_78 (impl_isLetters_ok p0) rfl)) ?_
  obtain ⟨c9, hc9, hF⟩ := bndE hF
  refine ASL.q (v := (.bool c9)) rfl rfl ((Quiet.cast (Light.quiet (opMove rfl rfl)) (congrArg AV.bool hc9.symm))) ?_
  refine ASL.g (v := (.int .i64 p1)) (.bool c9) true rfl (wT _) rfl (fun hG => by have q0 := hG; subst q0; exact Light.quiet (opMove rfl rfl)) ?_
  refine ASL.g (v := (.bool (impl_inRange p1 0 31))) (.bool c9) true rfl (wT _) rfl (fun hG => by have q0 := hG; subst q0; exact (qCall rfl rfl call_43 (impl_inRange_ok p1 0 31) rfl)) ?_
  refine ASL.q (v := (.bool (c9 && (impl_inRange p1 0 31)))) rfl rfl (Light.quiet (opPick (b := c9) rfl rfl (by cases c9 <;> rfl))) ?_
  obtain ⟨c13, hc13, hF⟩ := bndE hF
  refine ASL.q (v := (.bool c13)) rfl rfl ((Quiet.cast (Light.quiet (opMove rfl rfl)) (congrArg AV.bool hc13.symm))) ?_
  refine ASL.g (v := (.int .i64 p2)) (.bool c13) true rfl (wT _) rfl (fun hG => by have q0 := hG; subst q0; exact Light.quiet (opMove rfl rfl)) ?_
  refine ASL.g (v := (.bool (impl_SetOk p2))) (.bool c13) true rfl (wT _) rfl (fun hG => by have q0 := hG; subst q0; exact (qCall rfl rfl call_48 (impl_SetOk_ok p2) rfl)) ?_
  refine ASL.q (v := (.bool (c13 && (impl_SetOk p2)))) rfl rfl (Light.quiet (opPick (b := c13) rfl rfl (by cases c13 <;> rfl))) ?_
  obtain ⟨c17, hc17, hF⟩ := bndE hF
  refine ASL.q (v := (.bool c17)) rfl rfl ((Quiet.cast (Light.quiet (opMove rfl rfl)) (congrArg AV.bool hc17.symm))) ?_
  refine ASL.g (v := (.int .i64 p2)) (.bool c17) true rfl (wT _) rfl (fun hG => by have q0 := hG; subst q0; exact Light.quiet (opMove rfl rfl)) ?_
  refine ASL.g (v := (.int .i64 p1)) (.bool c17) true rfl (wT _) rfl (fun hG => by have q0 := hG; subst q0; exact Light.quiet (opMove rfl rfl)) ?_
  refine ASL.g (v := (.int .i64 (impl_only p1))) (.bool c17) true rfl (wT _) rfl (fun hG => by have q0 := hG; subst q0; exact (qCall rfl rfl call_49 (impl_only_ok p1) rfl)) ?_
  refine ASL.g (v := (.bool (decide (p2 < ((impl_only p1)))))) (.bool c17) true rfl (wT _) rfl (fun hG => by have q0 := hG; subst q0; exact Light.quiet (opInt rfl rfl rfl rfl)) ?_
  refine ASL.q (v := (.bool (c17 && (decide (p2 < ((impl_only p1))))))) rfl rfl (Light.quiet (opPick (b := c17) rfl rfl (by cases c17 <;> rfl))) ?_
  refine ASL.q (v := (.bool (c17 && (decide (p2 < ((impl_only p1))))))) rfl rfl (Light.quiet (opAssign rfl rfl)) ?_
  refine ASL.done ?_
  refine AWP.ret ?_
  obtain rfl := hF
  exact QRet.sole (v := (.bool (c17 && (decide (p2 < ((impl_only p1))))))) ⟨rfl, trivial⟩ rfl

set_option maxRecDepth 10000 in
theorem cmp_isNaN_int_ok (p0 : Int) : PC Try.prog 81 [(.int .i64 p0)] fun v => v = (.bool (cmp_isNaN_int p0)) := by
  generalize hF : cmp_isNaN_int p0 = r
  refine PC.enter Try.func81 rfl Try.ntmps81 (by simp) ?_
  have hS := Sep.void; unfold cmp_isNaN_int at hF
  refine AWP.seqR rfl ?_
  refine ASL.q (v := (.bool false)) rfl rfl (Light.quiet (opAssign rfl rfl)) ?_
  refine ASL.done ?_
  refine AWP.seqR rfl ?_
  refine ASL.q (v := (.int .i64 p0)) rfl rfl (Light.quiet (opMove rfl rfl)) ?_
  refine ASL.q (v := (.int .i64 p0)) rfl rfl (Light.quiet (opMove rfl rfl)) ?_
  refine ASL.q (v := (.bool (decide (p0 ≠ p0)))) rfl rfl (Light.quiet (opInt rfl rfl rfl rfl)) ?_
  refine ASL.q (v := (.bool (decide (p0 ≠ p0)))) rfl rfl (Light.quiet (opAssign rfl rfl)) ?_
  refine ASL.done ?_
  refine AWP.ret ?_
  obtain rfl := hF
  exact QRet.sole (v := (.bool (decide (p0 ≠ p0)))) ⟨rfl, trivial⟩ rfl

set_option maxRecDepth 10000 in
theorem cmp_Compare_int_ok (p0 : Int) (p1 : Int) : PC Try.prog 80 [(.int .i64 p0), (.int .i64 p1)] fun v => v = (.int .i64 (cmp_Compare_int p0 p1)) := by
  generalize hF : cmp_Compare_int p0 p1 = r
  refine PC.enter Try.func80 rfl Try.ntmps80 (by simp) ?_
  have hS := Sep.void; unfold cmp_Compare_int at hF
  refine AWP.seqR rfl ?_
  refine ASL.q (v := (.int .i64 0)) rfl rfl (Light.quiet (opAssign rfl rfl)) ?_
  refine ASL.done ?_
  refine AWP.seqR rfl ?_
  refine ASL.q (v := (.int .i64 p0)) rfl rfl (Light.quiet (opMove rfl rfl)) ?_
  refine ASL.q (v := (.bool (cmp_isNaN_int p0))) rfl rfl ((qCall rfl rfl call_81 (cmp_isNaN_int_ok p0) rfl)) ?_
  refine ASL.q (v := (.bool (cmp_isNaN_int p0))) rfl rfl (Light.quiet (opAssign rfl rfl)) ?_
  refine ASL.done ?_
  refine AWP.seqR rfl ?_
  refine ASL.q (v := (.int .i64 p1)) rfl rfl (Light.quiet (opMove rfl rfl)) ?_
  refine ASL.q (v := (.bool (cmp_isNaN_int p1))) rfl rfl ((qCall rfl rfl call_81 (cmp_isNaN_int_ok p1) rfl)) ?_
  refine ASL.q (v := (.bool (cmp_isNaN_int p1))) rfl rfl (Light.quiet (opAssign rfl rfl)) ?_
  refine ASL.done ?_
  refine AWP.seq ?_
  refine AWP.seqR rfl ?_
  refine ASL.q (v := (.bool (cmp_isNaN_int p0))) rfl rfl (Light.quiet (opMove rfl rfl)) ?_
  refine ASL.done ?_
  refine AWP.ifB hF rfl (fun hc1 hF => ?_) (fun hc1 hF => ?_)
  · skip
    refine AWP.seq ?_
    refine AWP.seqR rfl ?_
    refine ASL.q (v := (.bool (cmp_isNaN_int p1))) rfl rfl (Light.quiet (opMove rfl rfl)) ?_
    refine ASL.done ?_
    refine AWP.ifB hF rfl (fun hc2 hF => ?_) (fun hc2 hF => ?_)
    · skip
      refine AWP.seqR rfl ?_
      refine ASL.q (v := (.int .i64 0)) rfl rfl (Light.quiet (opAssign rfl rfl)) ?_
      refine ASL.done ?_
      refine AWP.ret ?_
      refine QThen.rt ?_
      refine QThen.rt ?_
      obtain rfl := hF
      exact QRet.sole (v := (.int .i64 0)) ⟨rfl, trivial⟩ rfl
    · skip
      refine AWP.skip ?_
      refine QThen.nrm ?_
      refine AWP.seqR rfl ?_
      refine ASL.q (v := (.int .i64 (-1))) rfl rfl (Light.quiet (opAssign rfl rfl)) ?_
      refine ASL.done ?_
      refine AWP.ret ?_
      refine QThen.rt ?_
      obtain rfl := hF
      exact QRet.sole (v := (.int .i64 (-1))) ⟨rfl, trivial⟩ rfl
  · skip
    refine AWP.skip ?_
    refine QThen.nrm ?_
    refine AWP.seq ?_
    refine AWP.seqR rfl ?_
    refine ASL.q (v := (.bool (cmp_isNaN_int p1))) rfl rfl (Light.quiet (opMove rfl rfl)) ?_
    refine ASL.done ?_
    refine AWP.ifB hF rfl (fun hc3 hF => ?_) (fun hc3 hF => ?_)
    · skip
      refine AWP.seqR rfl ?_
      refine ASL.q (v := (.int .i64 1)) rfl rfl (Light.quiet (opAssign rfl rfl)) ?_
      refine ASL.done ?_
      refine AWP.ret ?_
      refine QThen.rt ?_
      obtain rfl := hF
      exact QRet.sole (v := (.int .i64 1)) ⟨rfl, trivial⟩ rfl
    · skip
      refine AWP.skip ?_
      refine QThen.nrm ?_
      refine AWP.seq ?_
      refine AWP.seqR rfl ?_
      refine ASL.q (v := (.int .i64 p0)) rfl rfl (Light.quiet (opMove rfl rfl)) ?_
      refine ASL.q (v := (.int .i64 p1)) rfl rfl (Light.quiet (opMove rfl rfl)) ?_
      refine ASL.q (v := (.bool (decide (p0 < p1)))) rfl rfl (Light.quiet (opInt rfl rfl rfl rfl)) ?_
      refine ASL.done ?_
      refine AWP.ifP hF rfl (fun hc4 hF => ?_) (fun hc4 hF => ?_)
      · skip
        refine AWP.seqR rfl ?_
        refine ASL.q (v := (.int .i64 (-1))) rfl rfl (Light.quiet (opAssign rfl rfl)) ?_
        refine ASL.done ?_
        refine AWP.ret ?_
        refine QThen.rt ?_
        obtain rfl := hF
        exact QRet.sole (v := (.int .i64 (-1))) ⟨rfl, trivial⟩ rfl
      · skip
        refine AWP.skip ?_
        refine QThen.nrm ?_
        refine AWP.seq ?_
        refine AWP.seqR rfl ?_
        refine ASL.q (v := (.int .i64 p0)) rfl rfl (Light.quiet (opMove rfl rfl)) ?_
        refine ASL.q (v := (.int .i64 p1)) rfl rfl (Light.quiet (opMove rfl rfl)) ?_
        refine ASL.q (v := (.bool (decide (p0 > p1)))) rfl rfl (Light.quiet (opInt rfl rfl rfl rfl)) ?_
        refine ASL.done ?_
        refine AWP.ifP hF rfl (fun hc5 hF => ?_) (fun hc5 hF => ?_)
        · skip
          refine AWP.seqR rfl ?_
          refine ASL.q (v := (.int .i64 1)) rfl rfl (Light.quiet (opAssign rfl rfl)) ?_
          refine ASL.done ?_
          refine AWP.ret ?_
          refine QThen.rt ?_
          obtain rfl := hF
          exact QRet.sole (v := (.int .i64 1)) ⟨rfl, trivial⟩ rfl
        · skip
          refine AWP.skip ?_
          refine QThen.nrm ?_
          refine AWP.seqR rfl ?_
          refine ASL.q (v := (.int .i64 0)) rfl rfl (Light.quiet (opAssign rfl rfl)) ?_
          refine ASL.done ?_
          refine AWP.ret ?_
          obtain rfl := hF
          exact QRet.sole (v := (.int .i64 0)) ⟨rfl, trivial⟩ rfl

set_option maxRecDepth 10000 in
theorem cmp_Or_int_ok {p0 : (List Int)} {r : Int} (hF : cmp_Or_int p0 = some r) : PC Try.prog 79 [(.list 1 (List.map (AV.int .i64) p0))] fun v => v = (.int .i64 r) := by
  refine PC.enter Try.func79 rfl Try.ntmps79 (by simp) ?_
  have hS := Sep.void; unfold cmp_Or_int at hF
  refine AWP.seqR rfl ?_
  refine ASL.q (v := (.int .i64 0)) rfl rfl (Light.quiet (opAssign rfl rfl)) ?_
  refine ASL.done ?_
  refine AWP.seqR rfl ?_
  refine ASL.q (v := (.int .i64 0)) rfl rfl (Light.quiet (opAssign rfl rfl)) ?_
  refine ASL.done ?_
  refine AWP.seqM (fun e H => E.Told e [(3, (.int .i64 0))] ∧ E.Sep H [] ∧ cmp_Or_int.k0 = some r) ?_ ?_
  · rintro e0 G1 ⟨hT, hS, hF⟩; refine AWP.only _ hT ?_; unfold cmp_Or_int.k0 at hF
    refine AWP.seqR rfl ?_
    refine ASL.q (v := (.int .i64 0)) rfl rfl (Light.quiet (opMove rfl rfl)) ?_
    refine ASL.q (v := (.int .i64 0)) rfl rfl (Light.quiet (opAssign rfl rfl)) ?_
    refine ASL.done ?_
    refine AWP.ret ?_
    obtain rfl := someE hF
    exact QRet.sole (v := (.int .i64 0)) ⟨rfl, trivial⟩ rfl
  · skip
    refine AWP.seqR rfl ?_
    refine ASL.q (v := (.list 1 (List.map (AV.int .i64) p0))) rfl rfl (Light.quiet (opMove rfl rfl)) ?_
    refine ASL.q (v := (.int .i64 (p0.length : Int))) rfl rfl (Light.quiet (opLenMap (f := (AV.int .i64)) rfl rfl rfl lenT_26 rfl)) ?_
    refine ASL.q (v := (.int .i64 0)) rfl rfl (Light.quiet (opMove rfl rfl)) ?_
    refine ASL.done ?_
    refine AWP.block ?_
    obtain ⟨o5, hL4, hR6⟩ := bindE hF
    refine AWP.loopF (ω := Unit) hL4 (fun s w => [(3, (.int .i64 0)), (6, (.list 1 (List.map (AV.int .i64) p0))), (7, (.int .i64 (p0.length : Int))), (8, (.int .i64 s))]) (fun s w => []) () ⟨rfl, rfl, rfl, rfl, trivial⟩ (hS.pick [] rfl rfl) ?_
    rintro x8_l0 _ G7 hS x2 hF hx3
    try dsimp only at hS ⊢
    have hF : cmp_Or_int.b0 p0 x8_l0 = some x2 := hF; unfold cmp_Or_int.b0 at hF
    refine AWP.seqR rfl ?_
    refine ASL.q (v := (.bool (decide (x8_l0 < ((p0.length : Int)))))) rfl rfl (Light.quiet (opInt rfl rfl rfl rfl)) ?_
    refine ASL.done ?_
    refine AWP.seq ?_
    refine AWP.ifP hF rfl (fun hc8 hF => ?_) (fun hc8 hF => ?_)
    · skip
      refine AWP.skip ?_
      refine QThen.nrm ?_
      refine AWP.seq ?_
      refine AWP.block ?_
      refine AWP.seqR rfl ?_
      obtain ⟨a10, ha10, hF⟩ := bindE hF
      refine ASL.q (v := (.rptr [(.int .i64 a10)])) rfl rfl (Light.quiet (kIx (f := (AV.int .i64)) ha10 rfl rfl rfl elemA_26 sizeA_3 rfl)) ?_
      refine ASL.q (v := (.int .i64 a10)) rfl rfl (Light.quiet (opLoadR rfl aggA_3 rfl rfl)) ?_
      refine ASL.q (v := (.int .i64 a10)) rfl rfl (Light.quiet (opAssign rfl rfl)) ?_
      refine ASL.done ?_
      refine AWP.seqR rfl ?_
      refine ASL.q (v := (.int .i64 a10)) rfl rfl (Light.quiet (opMove rfl rfl)) ?_
      refine ASL.q (v := (.int .i64 0)) rfl rfl (Light.quiet (opMove rfl rfl)) ?_
      refine ASL.q (v := (.bool (decide (a10 ≠ 0)))) rfl rfl (Light.quiet (opInt rfl rfl rfl rfl)) ?_
      refine ASL.done ?_
      refine AWP.ifP hF rfl (fun hc9 hF => ?_) (fun hc9 hF => ?_)
      · skip
        refine AWP.seqR rfl ?_
        refine ASL.q (v := (.int .i64 a10)) rfl rfl (Light.quiet (opMove rfl rfl)) ?_
        refine ASL.q (v := (.int .i64 a10)) rfl rfl (Light.quiet (opAssign rfl rfl)) ?_
        refine ASL.done ?_
        refine AWP.ret ?_
        refine QBlock.ret ?_
        refine QThen.rt ?_
        refine QThen.rt ?_
        refine QBlock.ret ?_
        refine QThen.rt ?_
        obtain rfl := (hx3 _ (someE hF).symm)
        have hF := hR6
        have hF := sumR hF
        obtain rfl := someE hF
        exact QRet.sole (v := (.int .i64 a10)) ⟨rfl, trivial⟩ rfl
      · skip
        refine AWP.skip ?_
        refine QBlock.nrm ?_
        refine QThen.nrm ?_
        refine AWP.lastR rfl ?_
        refine ASL.q (v := (.int .i64 (W (x8_l0 + 1)))) rfl rfl (Light.quiet (opInt rfl rfl rfl rfl)) ?_
        refine ASL.q (v := (.int .i64 (W (x8_l0 + 1)))) rfl rfl (Light.quiet (opMove rfl rfl)) ?_
        refine ASL.done ?_
        refine QThen.nrm ?_
        exact ⟨(W (x8_l0 + 1)), (), (someE hF).symm, ⟨rfl, rfl, rfl, rfl, trivial⟩, (hS.pick [] rfl rfl)⟩
    · skip
      refine AWP.exit ?_
      refine QThen.ext ?_
      refine QThen.ext ?_
      refine QBlock.hit ?_
      obtain rfl := (hx3 _ (someE hF).symm)
      have hF := hR6
      have hF := sumL hF
      refine QThen.nrm ?_
      exact ⟨⟨rfl, trivial⟩, (hS.pick [] rfl rfl), hF⟩

set_option maxRecDepth 10000 in
theorem impl_compareEdges_ok {p0 : TEdge} {p1 : TEdge} {r : Int} (hF : impl_compareEdges p0 p1 = some r) : PC Try.prog 73 [(TEdge.av p0), (TEdge.av p1)] fun v => v = (.int .i64 r) := by
  refine PC.enter Try.func73 rfl Try.ntmps73 (by simp) ?_
  have hS := Sep.void; unfold impl_compareEdges at hF
  refine AWP.seqR rfl ?_
  refine ASL.q (v := (.rptr [(.int .i64 p0.from_), (.int .i64 p0.letter), (.int .i64 p0.to_), (.bool p0.good)])) rfl rfl ((qBoxI (v := (TEdge.av p0)) rfl rfl rfl rfl)) ?_
  refine ASL.q (v := (.rptr [(.int .i64 p1.from_), (.int .i64 p1.letter), (.int .i64 p1.to_), (.bool p1.good)])) rfl rfl ((qBoxI (v := (TEdge.av p1)) rfl rfl rfl rfl)) ?_
  refine ASL.q (v := (.int .i64 0)) rfl rfl (Light.quiet (opAssign rfl rfl)) ?_
  refine ASL.done ?_
  refine AWP.seqD [(0, false), (1, false), (2, false), (3, false), (4, false), (5, false), (6, false), (7, false), (8, false), (9, false), (10, false), (11, false), (12, false), (13, false), (14, false), (15, false), (16, false), (17, false)] mixed (by kernel_rfl) rfl ?_
  refine ARL.q0 (v := (.rptr [(.int .i64 p0.from_), (.int .i64 p0.letter), (.int .i64 p0.to_), (.bool p0.good)])) rfl rfl (Light.quiet (opFieldAddrR rfl fieldA_73_0 rfl rfl)) ?_
  refine ARL.q0 (v := (.int .i64 p0.from_)) rfl rfl (Light.quiet (opLoadR rfl aggA_3 rfl rfl)) ?_
  refine ARL.q0 (v := (.rptr [(.int .i64 p1.from_), (.int .i64 p1.letter), (.int .i64 p1.to_), (.bool p1.good)])) rfl rfl (Light.quiet (opFieldAddrR rfl fieldA_73_0 rfl rfl)) ?_
  refine ARL.q0 (v := (.int .i64 p1.from_)) rfl rfl (Light.quiet (opLoadR rfl aggA_3 rfl rfl)) ?_
  refine ARL.q0 (v := (.int .i64 (cmp_Compare_int p0.from_ p1.from_))) rfl rfl ((qCall rfl rfl call_80 (cmp_Compare_int_ok p0.from_ p1.from_) rfl)) ?_
  refine ARL.q0 (v := (.rptr [(.int .i64 p0.letter), (.int .i64 p0.to_), (.bool p0.good)])) rfl rfl (Light.quiet (opFieldAddrR rfl fieldA_73_1 rfl rfl)) ?_
  refine ARL.q0 (v := (.int .i64 p0.letter)) rfl rfl (Light.quiet (opLoadR rfl aggA_3 rfl rfl)) ?_
  refine ARL.q0 (v := (.rptr [(.int .i64 p1.letter), (.int .i64 p1.to_), (.bool p1.good)])) rfl rfl (Light.quiet (opFieldAddrR rfl fieldA_73_1 rfl rfl)) ?_
  refine ARL.q0 (v := (.int .i64 p1.letter)) rfl rfl (Light.quiet (opLoadR rfl aggA_3 rfl rfl)) ?_
  refine ARL.q0 (v := (.int .i64 (cmp_Compare_int p0.letter p1.letter))) rfl rfl ((qCall rfl rfl call_80 (cmp_Compare_int_ok p0.letter p1.letter) rfl)) ?_
  refine ARL.q0 (v := (.rptr [(.int .i64 p0.to_), (.bool p0.good)])) rfl rfl (Light.quiet (opFieldAddrR rfl fieldA_73_2 rfl rfl)) ?_
  refine ARL.q0 (v := (.int .i64 p0.to_)) rfl rfl (Light.quiet (opLoadR rfl aggA_3 rfl rfl)) ?_
  refine ARL.q0 (v := (.rptr [(.int .i64 p1.to_), (.bool p1.good)])) rfl rfl (Light.quiet (opFieldAddrR rfl fieldA_73_2 rfl rfl)) ?_
  refine ARL.q0 (v := (.int .i64 p1.to_)) rfl rfl (Light.quiet (opLoadR rfl aggA_3 rfl rfl)) ?_
  refine ARL.q0 (v := (.int .i64 (cmp_Compare_int p0.to_ p1.to_))) rfl rfl ((qCall rfl rfl call_80 (cmp_Compare_int_ok p0.to_ p1.to_) rfl)) ?_
  refine ARL.q0 (v := (.list 1 (List.map (AV.int .i64) [(cmp_Compare_int p0.from_ p1.from_), (cmp_Compare_int p0.letter p1.letter), (cmp_Compare_int p0.to_ p1.to_)]))) rfl rfl ((qLit (xs := [(.int .i64 (cmp_Compare_int p0.from_ p1.from_)), (.int .i64 (cmp_Compare_int p0.letter p1.letter)), (.int .i64 (cmp_Compare_int p0.to_ p1.to_))]) rfl elemA_26 sizeA_3 zeroA_3 rfl rfl rfl rfl (by simp [cells]) (nlt rfl))) ?_
  obtain ⟨a21, ha21, hF⟩ := bindE hF
  refine ARL.q0 (v := (.int .i64 a21)) rfl rfl ((qCall rfl rfl call_79 (cmp_Or_int_ok ha21) rfl)) ?_
  refine ARL.q0 (v := (.int .i64 a21)) rfl rfl (Light.quiet (opAssign rfl rfl)) ?_
  refine ARL.done ?_
  refine AWP.ret ?_
  obtain rfl := someE hF
  exact QRet.sole (v := (.int .i64 a21)) ⟨rfl, trivial⟩ rfl

set_option maxRecDepth 10000 in
theorem impl_AutoOk_ok {p0 : TAuto} {r : Bool} (hF : impl_AutoOk p0 = some r) : PC Try.prog 56 [(TAuto.av p0)] fun v => v = (.bool r) := by
  refine PC.enter Try.func56 rfl Try.ntmps56 (by simp) ?_
  have hS := Sep.void; unfold impl_AutoOk at hF
  refine AWP.seqR rfl ?_
  refine ASL.q (v := (.rptr [(.int .i64 p0.letters), (.int .i64 p0.states), (.int .i64 p0.start), (.list 4 (List.map TEdge.av p0.edges))])) rfl rfl ((qBoxI (v := (TAuto.av p0)) rfl rfl rfl rfl)) ?_
  refine ASL.q (v := (.bool false)) rfl rfl (Light.quiet (opAssign rfl rfl)) ?_
  refine ASL.done ?_
  refine AWP.seq ?_
  refine AWP.seqR rfl ?_
  refine ASL.q (v := (.rptr [(.int .i64 p0.letters), (.int .i64 p0.states), (.int .i64 p0.start), (.list 4 (List.map TEdge.av p0.edges))])) rfl rfl (Light.quiet (opFieldAddrR rfl fieldA_33_0 rfl rfl)) ?_
  refine ASL.q (v := (.int .i64 p0.letters)) rfl rfl (Light.quiet (opLoadR rfl aggA_3 rfl rfl)) ?_
  refine ASL.q (v := (.rptr [(.int .i64 p0.states), (.int .i64 p0.start), (.list 4 (List.map TEdge.av p0.edges))])) rfl rfl (Light.quiet (opFieldAddrR rfl fieldA_33_1 rfl rfl)) ?_
  refine ASL.q (v := (.int .i64 p0.states)) rfl rfl (Light.quiet (opLoadR rfl aggA_3 rfl rfl)) ?_
  refine ASL.q (v := (.rptr [(.int .i64 p0.start), (.list 4 (List.map TEdge.av p0.edges))])) rfl rfl (Light.quiet (opFieldAddrR rfl fieldA_33_2 rfl rfl)) ?_
  refine ASL.q (v := (.int .i64 p0.start)) rfl rfl (Light.quiet (opLoadR rfl aggA_3 rfl rfl)) ?_
  refine ASL.q (v := (.bool (impl_headOk p0.letters p0.states p0.start))) rfl rfl ((qCall rfl rfl call_72 (impl_headOk_ok p0.letters p0.states p0.start) rfl)) ?_
  refine ASL.q (v := (.bool (!(impl_headOk p0.letters p0.states p0.start)))) rfl rfl (Light.quiet (opNot rfl rfl)) ?_
  obtain ⟨c13, hc13, hF⟩ := bndE hF
  refine ASL.q (v := (.bool c13)) rfl rfl ((Quiet.cast (Light.quiet (opMove rfl rfl)) (congrArg AV.bool hc13.symm))) ?_
  refine ASL.g (v := (.rptr [(.list 4 (List.map TEdge.av p0.edges))])) (.bool c13) false rfl (wF _) rfl (fun hG => by have q0 := gN hG; subst q0; exact Light.quiet (opFieldAddrR rfl fieldA_33_3 rfl rfl)) ?_
  refine ASL.g (v := (.list 4 (List.map TEdge.av p0.edges))) (.bool c13) false rfl (wF _) rfl (fun hG => by have q0 := gN hG; subst q0; exact Light.quiet (opLoadR rfl aggA_31 rfl rfl)) ?_
  refine ASL.g (v := (.int .i64 (p0.edges.length : Int))) (.bool c13) false rfl (wF _) rfl (fun hG => by have q0 := gN hG; subst q0; exact Light.quiet (opLenMap (f := TEdge.av) rfl rfl rfl lenT_31 rfl)) ?_
  refine ASL.g (v := (.bool (decide (((p0.edges.length : Int)) > 2000)))) (.bool c13) false rfl (wF _) rfl (fun hG => by have q0 := gN hG; subst q0; exact Light.quiet (opInt rfl rfl rfl rfl)) ?_
  refine ASL.q (v := (.bool (c13 || (decide (((p0.edges.length : Int)) > 2000))))) rfl rfl (Light.quiet (opPick (b := c13) rfl rfl (by cases c13 <;> rfl))) ?_
  refine ASL.done ?_
  refine AWP.ifB hF rfl (fun hc1 hF => ?_) (fun hc1 hF => ?_)
  · skip
    refine AWP.seqR rfl ?_
    refine ASL.q (v := (.bool false)) rfl rfl (Light.quiet (opAssign rfl rfl)) ?_
    refine ASL.done ?_
    refine AWP.ret ?_
    refine QThen.rt ?_
    obtain rfl := someE hF
    exact QRet.sole (v := (.bool false)) ⟨rfl, trivial⟩ rfl
  · skip
    refine AWP.skip ?_
    refine QThen.nrm ?_
    refine AWP.seqM (fun e H => E.Told e [] ∧ E.Sep H [] ∧ impl_AutoOk.k0 = some r) ?_ ?_
    · rintro e0 G2 ⟨hT, hS, hF⟩; refine AWP.only _ hT ?_; unfold impl_AutoOk.k0 at hF
      refine AWP.seqR rfl ?_
      refine ASL.q (v := (.bool true)) rfl rfl (Light.quiet (opAssign rfl rfl)) ?_
      refine ASL.done ?_
      refine AWP.ret ?_
      obtain rfl := someE hF
      exact QRet.sole (v := (.bool true)) ⟨rfl, trivial⟩ rfl
    · skip
      refine AWP.seqR rfl ?_
      refine ASL.q (v := (.rptr [(.list 4 (List.map TEdge.av p0.edges))])) rfl rfl (Light.quiet (opFieldAddrR rfl fieldA_33_3 rfl rfl)) ?_
      refine ASL.q (v := (.list 4 (List.map TEdge.av p0.edges))) rfl rfl (Light.quiet (opLoadR rfl aggA_31 rfl rfl)) ?_
      refine ASL.q (v := (.int .i64 (p0.edges.length : Int))) rfl rfl (Light.quiet (opLenMap (f := TEdge.av) rfl rfl rfl lenT_31 rfl)) ?_
      refine ASL.q (v := (.int .i64 0)) rfl rfl (Light.quiet (opMove rfl rfl)) ?_
      refine ASL.done ?_
      refine AWP.block ?_
      obtain ⟨o6, hL5, hR7⟩ := bindE hF
      refine AWP.loopF (ω := Unit) hL5 (fun s w => [(1, (.rptr [(.int .i64 p0.letters), (.int .i64 p0.states), (.int .i64 p0.start), (.list 4 (List.map TEdge.av p0.edges))])), (20, (.list 4 (List.map TEdge.av p0.edges))), (21, (.int .i64 (p0.edges.length : Int))), (22, (.int .i64 s))]) (fun s w => []) () ⟨rfl, rfl, rfl, rfl, trivial⟩ (hS.pick [] rfl rfl) ?_
      rintro x22_l0 _ G8 hS x3 hF hx4
      try dsimp only at hS ⊢
      have hF : impl_AutoOk.b0 p0 x22_l0 = some x3 := hF; unfold impl_AutoOk.b0 at hF
      refine AWP.seqR rfl ?_
      refine ASL.q (v := (.bool (decide (x22_l0 < ((p0.edges.length : Int)))))) rfl rfl (Light.quiet (opInt rfl rfl rfl rfl)) ?_
      refine ASL.done ?_
      refine AWP.seq ?_
      refine AWP.ifP hF rfl (fun hc9 hF => ?_) (fun hc9 hF => ?_)
      · skip
        refine AWP.skip ?_
        refine QThen.nrm ?_
        refine AWP.seq ?_
        refine AWP.block ?_
        refine AWP.seqR rfl ?_
        refine ASL.q (v := (.int .i64 x22_l0)) rfl rfl (Light.quiet (opMove rfl rfl)) ?_
        obtain ⟨a25, ha25, hF⟩ := bindE hF
        refine ASL.q (v := (.rptr [(.int .i64 a25.from_), (.int .i64 a25.letter), (.int .i64 a25.to_), (.bool a25.good)])) rfl rfl (Light.quiet (kIx (f := TEdge.av) ha25 rfl rfl rfl elemA_31 sizeA_73 rfl)) ?_
        refine ASL.q (v := (TEdge.av a25)) rfl rfl (Light.quiet (opLoadRA rfl aggA_73 sizeA_73 rfl (nlt rfl) rfl)) ?_
        refine ASL.x rfl rfl (hNewZ hS [(.int .i64 0), (.int .i64 0), (.int .i64 0), (.bool false)] rfl zeroA_73 ⟨.inl rfl, .inl rfl, .inl rfl, .inl rfl, trivial⟩ ?_); rintro b4 G10 hK hS
        refine ASL.q (v := (.int .i64 x22_l0)) rfl rfl (Light.quiet (opAssign rfl rfl)) ?_
        refine ASL.n rfl rfl (hPutA hS (j := 0) rfl rfl sizeA_73 rfl rfl rfl rfl rfl (nlt rfl) ?_); rintro G12 hS
        refine ASL.done ?_
        refine AWP.seq ?_
        refine AWP.seqR rfl ?_
        refine ASL.q (v := (.ptr b4 0)) rfl rfl (Light.quiet (opFieldAddr rfl fieldA_73_0 rfl rfl)) ?_
        refine ASL.q (v := (.int .i64 a25.from_)) rfl rfl (Light.quiet (kAt hS (j := 0) rfl rfl aggA_3 rfl rfl)) ?_
        refine ASL.q (v := (.rptr [(.int .i64 p0.states), (.int .i64 p0.start), (.list 4 (List.map TEdge.av p0.edges))])) rfl rfl (Light.quiet (opFieldAddrR rfl fieldA_33_1 rfl rfl)) ?_
        refine ASL.q (v := (.int .i64 p0.states)) rfl rfl (Light.quiet (opLoadR rfl aggA_3 rfl rfl)) ?_
        refine ASL.q (v := (.int .i64 (W (p0.states - 1)))) rfl rfl (Light.quiet (opInt rfl rfl rfl rfl)) ?_
        refine ASL.q (v := (.bool (impl_inRange a25.from_ 0 ((W (p0.states - 1)))))) rfl rfl ((qCall rfl rfl call_43 (impl_inRange_ok a25.from_ 0 ((W (p0.states - 1)))) rfl)) ?_
        refine ASL.q (v := (.bool (!(impl_inRange a25.from_ 0 ((W (p0.states - 1))))))) rfl rfl (Light.quiet (opNot rfl rfl)) ?_
        obtain ⟨c34, hc34, hF⟩ := bndE hF
        refine ASL.q (v := (.bool c34)) rfl rfl ((Quiet.cast (Light.quiet (opMove rfl rfl)) (congrArg AV.bool hc34.symm))) ?_
        refine ASL.g (v := (.ptr b4 2)) (.bool c34) false rfl (wF _) rfl (fun hG => by have q0 := gN hG; subst q0; exact Light.quiet (opFieldAddr rfl fieldA_73_2 rfl rfl)) ?_
        refine ASL.g (v := (.int .i64 a25.to_)) (.bool c34) false rfl (wF _) rfl (fun hG => by have q0 := gN hG; subst q0; exact Light.quiet (kAt hS (j := 0) rfl rfl aggA_3 rfl rfl)) ?_
        refine ASL.g (v := (.rptr [(.int .i64 p0.states), (.int .i64 p0.start), (.list 4 (List.map TEdge.av p0.edges))])) (.bool c34) false rfl (wF _) rfl (fun hG => by have q0 := gN hG; subst q0; exact Light.quiet (opFieldAddrR rfl fieldA_33_1 rfl rfl)) ?_
        refine ASL.g (v := (.int .i64 p0.states)) (.bool c34) false rfl (wF _) rfl (fun hG => by have q0 := gN hG; subst q0; exact Light.quiet (opLoadR rfl aggA_3 rfl rfl)) ?_
        refine ASL.g (v := (.int .i64 (W (p0.states - 1)))) (.bool c34) false rfl (wF _) rfl (fun hG => by have q0 := gN hG; subst q0; exact Light.quiet (opInt rfl rfl rfl rfl)) ?_
        refine ASL.g (v := (.bool (impl_inRange a25.to_ 0 ((W (p0.states - 1)))))) (.bool c34) false rfl (wF _) rfl (fun hG => by have q0 := gN hG; subst q0; exact (qCall rfl rfl call_43 (impl_inRange_ok a25.to_ 0 ((W (p0.states - 1)))) rfl)) ?_
        refine ASL.g (v := (.bool (!(impl_inRange a25.to_ 0 ((W (p0.states - 1))))))) (.bool c34) false rfl (wF _) rfl (fun hG => by have q0 := gN hG; subst q0; exact Light.quiet (opNot rfl rfl)) ?_
        refine ASL.q (v := (.bool (c34 || (!(impl_inRange a25.to_ 0 ((W (p0.states - 1)))))))) rfl rfl (Light.quiet (opPick (b := c34) rfl rfl (by cases c34 <;> rfl))) ?_
        obtain ⟨c43, hc43, hF⟩ := bndE hF
        refine ASL.q (v := (.bool c43)) rfl rfl ((Quiet.cast (Light.quiet (opMove rfl rfl)) (congrArg AV.bool hc43.symm))) ?_
        refine ASL.g (v := (.ptr b4 1)) (.bool c43) false rfl (wF _) rfl (fun hG => by have q0 := gN hG; subst q0; exact Light.quiet (opFieldAddr rfl fieldA_73_1 rfl rfl)) ?_
        refine ASL.g (v := (.int .i64 a25.letter)) (.bool c43) false rfl (wF _) rfl (fun hG => by have q0 := gN hG; subst q0; exact Light.quiet (kAt hS (j := 0) rfl rfl aggA_3 rfl rfl)) ?_
        refine ASL.g (v := (.rptr [(.int .i64 p0.letters), (.int .i64 p0.states), (.int .i64 p0.start), (.list 4 (List.map TEdge.av p0.edges))])) (.bool c43) false rfl (wF _) rfl (fun hG => by have q0 := gN hG; subst q0; exact Light.quiet (opFieldAddrR rfl fieldA_33_0 rfl rfl)) ?_
        refine ASL.g (v := (.int .i64 p0.letters)) (.bool c43) false rfl (wF _) rfl (fun hG => by have q0 := gN hG; subst q0; exact Light.quiet (opLoadR rfl aggA_3 rfl rfl)) ?_
        refine ASL.g (v := (.int .i64 (W (p0.letters - 1)))) (.bool c43) false rfl (wF _) rfl (fun hG => by have q0 := gN hG; subst q0; exact Light.quiet (opInt rfl rfl rfl rfl)) ?_
        refine ASL.g (v := (.bool (impl_inRange a25.letter 0 ((W (p0.letters - 1)))))) (.bool c43) false rfl (wF _) rfl (fun hG => by have q0 := gN hG; subst q0; exact (qCall rfl rfl call_43 (impl_inRange_ok a25.letter 0 ((W (p0.letters - 1)))) rfl)) ?_
        refine ASL.g (v := (.bool (!(impl_inRange a25.letter 0 ((W (p0.letters - 1))))))) (.bool c43) false rfl (wF _) rfl (fun hG => by have q0 := gN hG; subst q0; exact Light.quiet (opNot rfl rfl)) ?_
        refine ASL.q (v := (.bool (c43 || (!(impl_inRange a25.letter 0 ((W (p0.letters - 1)))))))) rfl rfl (Light.quiet (opPick (b := c43) rfl rfl (by cases c43 <;> rfl))) ?_
        refine ASL.done ?_
        refine AWP.ifB hF rfl (fun hc13 hF => ?_) (fun hc13 hF => ?_)
        · skip
          refine AWP.seqR rfl ?_
          refine ASL.q (v := (.bool false)) rfl rfl (Light.quiet (opAssign rfl rfl)) ?_
          refine ASL.done ?_
          refine AWP.ret ?_
          refine QThen.rt ?_
          refine QBlock.ret ?_
          refine QThen.rt ?_
          refine QThen.rt ?_
          refine QBlock.ret ?_
          refine QThen.rt ?_
          obtain rfl := (hx4 _ (someE hF).symm)
          have hF := hR7
          have hF := sumR hF
          obtain rfl := someE hF
          exact QRet.sole (v := (.bool false)) ⟨rfl, trivial⟩ rfl
        · skip
          refine AWP.skip ?_
          refine QThen.nrm ?_
          refine AWP.seqD [(0, false), (1, false), (2, false), (3, false), (4, false), (5, false), (6, false), (7, false), (8, false), (9, false), (10, false), (11, false), (12, false)] mixed (by kernel_rfl) rfl ?_
          refine ARL.q0 (v := (.int .i64 x22_l0)) rfl rfl (Light.quiet (opMove rfl rfl)) ?_
          refine ARL.q0 (v := (.bool (decide (x22_l0 > 0)))) rfl rfl (Light.quiet (opInt rfl rfl rfl rfl)) ?_
          obtain ⟨c54, hc54, hF⟩ := bndE hF
          refine ARL.q0 (v := (.bool c54)) rfl rfl ((Quiet.cast (Light.quiet (opMove rfl rfl)) (congrArg AV.bool hc54.symm))) ?_
          refine ARL.g (v := (.rptr [(.list 4 (List.map TEdge.av p0.edges))])) (.bool c54) true rfl (wT _) rfl noneAlive (fun hG => by have q0 := hG; subst q0; exact Light.quiet (opFieldAddrR rfl fieldA_33_3 rfl rfl)) ?_
          refine ARL.g (v := (.list 4 (List.map TEdge.av p0.edges))) (.bool c54) true rfl (wT _) rfl noneAlive (fun hG => by have q0 := hG; subst q0; exact Light.quiet (opLoadR rfl aggA_31 rfl rfl)) ?_
          refine ARL.g (v := (.int .i64 x22_l0)) (.bool c54) true rfl (wT _) rfl noneAlive (fun hG => by have q0 := hG; subst q0; exact Light.quiet (opMove rfl rfl)) ?_
          refine ARL.g (v := (.int .i64 (W (x22_l0 - 1)))) (.bool c54) true rfl (wT _) rfl noneAlive (fun hG => by have q0 := hG; subst q0; exact Light.quiet (opInt rfl rfl rfl rfl)) ?_
          obtain ⟨a59, ha59, hF⟩ := bindE hF
          refine ARL.g (v := (.rptr [(.int .i64 a59.from_), (.int .i64 a59.letter), (.int .i64 a59.to_), (.bool a59.good)])) (.bool c54) true rfl (wT _) rfl noneAlive (fun hG => by have q0 := hG; subst q0; exact Light.quiet (kIx (f := TEdge.av) (whenE ha59) rfl rfl rfl elemA_31 sizeA_73 rfl)) ?_
          refine ARL.g (v := (TEdge.av a59)) (.bool c54) true rfl (wT _) rfl noneAlive (fun hG => by have q0 := hG; subst q0; exact Light.quiet (opLoadRA rfl aggA_73 sizeA_73 rfl (nlt rfl) rfl)) ?_
          refine ARL.g (v := (TEdge.av a25)) (.bool c54) true rfl (wT _) rfl (hS.aliveC (k := 0) rfl) (fun hG => by have q0 := hG; subst q0; exact Light.quiet (kAtA hS (j := 0) rfl rfl aggA_73 sizeA_73 rfl (nlt rfl) rfl)) ?_
          obtain ⟨a62, ha62, hF⟩ := bindE hF
          refine ARL.g (v := (.int .i64 a62)) (.bool c54) true rfl (wT _) rfl noneAlive (fun hG => by have q0 := hG; subst q0; exact (qCall rfl rfl call_73 (impl_compareEdges_ok (whenE ha62)) rfl)) ?_
          refine ARL.g (v := (.bool (decide (a62 ≥ 0)))) (.bool c54) true rfl (wT _) rfl noneAlive (fun hG => by have q0 := hG; subst q0; exact Light.quiet (opInt rfl rfl rfl rfl)) ?_
          refine ARL.q0 (v := (.bool (c54 && (decide (a62 ≥ 0))))) rfl rfl (Light.quiet (opPick (b := c54) rfl rfl (by cases c54 <;> rfl))) ?_
          refine ARL.done ?_
          refine AWP.ifB hF rfl (fun hc14 hF => ?_) (fun hc14 hF => ?_)
          · skip
            refine AWP.seqR rfl ?_
            refine ASL.q (v := (.bool false)) rfl rfl (Light.quiet (opAssign rfl rfl)) ?_
            refine ASL.done ?_
            refine AWP.ret ?_
            refine QBlock.ret ?_
            refine QThen.rt ?_
            refine QThen.rt ?_
            refine QBlock.ret ?_
            refine QThen.rt ?_
            obtain rfl := (hx4 _ (someE hF).symm)
            have hF := hR7
            have hF := sumR hF
            obtain rfl := someE hF
            exact QRet.sole (v := (.bool false)) ⟨rfl, trivial⟩ rfl
          · skip
            refine AWP.skip ?_
            refine QBlock.nrm ?_
            refine QThen.nrm ?_
            refine AWP.lastR rfl ?_
            refine ASL.q (v := (.int .i64 (W (x22_l0 + 1)))) rfl rfl (Light.quiet (opInt rfl rfl rfl rfl)) ?_
            refine ASL.q (v := (.int .i64 (W (x22_l0 + 1)))) rfl rfl (Light.quiet (opMove rfl rfl)) ?_
            refine ASL.done ?_
            refine QThen.nrm ?_
            exact ⟨(W (x22_l0 + 1)), (), (someE hF).symm, ⟨rfl, rfl, rfl, rfl, trivial⟩, (hS.pick [] rfl rfl)⟩
      · skip
        refine AWP.exit ?_
        refine QThen.ext ?_
        refine QThen.ext ?_
        refine QBlock.hit ?_
        obtain rfl := (hx4 _ (someE hF).symm)
        have hF := hR7
        have hF := sumL hF
        refine QThen.nrm ?_
        exact ⟨trivial, (hS.pick [] rfl rfl), hF⟩

set_option maxRecDepth 10000 in
theorem impl_isRanked_ok {p0 : TAuto} {r : Bool} (hF : impl_isRanked p0 = some r) : PC Try.prog 32 [(TAuto.av p0)] fun v => v = (.bool r) := by
  refine PC.enter Try.func32 rfl Try.ntmps32 (by simp) ?_
  have hS := Sep.void; unfold impl_isRanked at hF
  refine AWP.seqR rfl ?_
  refine ASL.q (v := (.rptr [(.int .i64 p0.letters), (.int .i64 p0.states), (.int .i64 p0.start), (.list 4 (List.map TEdge.av p0.edges))])) rfl rfl ((qBoxI (v := (TAuto.av p0)) rfl rfl rfl rfl)) ?_
  refine ASL.q (v := (.bool false)) rfl rfl (Light.quiet (opAssign rfl rfl)) ?_
  refine ASL.done ?_
  refine AWP.seqR rfl ?_
  refine ASL.q (v := (TAuto.av p0)) rfl rfl (Light.quiet (opLoadRA rfl aggA_33 sizeA_33 rfl (nlt rfl) rfl)) ?_
  obtain ⟨a4, ha4, hF⟩ := bindE hF
  refine ASL.q (v := (.bool a4)) rfl rfl ((qCall rfl rfl call_56 (impl_AutoOk_ok ha4) rfl)) ?_
  refine ASL.q (v := (.bool a4)) rfl rfl (Light.quiet (opMove rfl rfl)) ?_
  refine ASL.g (v := (.rptr [(.int .i64 p0.states), (.int .i64 p0.start), (.list 4 (List.map TEdge.av p0.edges))])) (.bool a4) true rfl (wT _) rfl (fun hG => by have q0 := hG; subst q0; exact Light.quiet (opFieldAddrR rfl fieldA_33_1 rfl rfl)) ?_
  refine ASL.g (v := (.int .i64 p0.states)) (.bool a4) true rfl (wT _) rfl (fun hG => by have q0 := hG; subst q0; exact Light.quiet (opLoadR rfl aggA_3 rfl rfl)) ?_
  refine ASL.g (v := (.bool (decide (p0.states ≤ 2)))) (.bool a4) true rfl (wT _) rfl (fun hG => by have q0 := hG; subst q0; exact Light.quiet (opInt rfl rfl rfl rfl)) ?_
  refine ASL.q (v := (.bool (a4 && (decide (p0.states ≤ 2))))) rfl rfl (Light.quiet (opPick (b := a4) rfl rfl (by cases a4 <;> rfl))) ?_
  refine ASL.q (v := (.bool (a4 && (decide (p0.states ≤ 2))))) rfl rfl (Light.quiet (opAssign rfl rfl)) ?_
  refine ASL.done ?_
  refine AWP.ret ?_
  obtain rfl := someE hF
  exact QRet.sole (v := (.bool (a4 && (decide (p0.states ≤ 2))))) ⟨rfl, trivial⟩ rfl

set_option maxRecDepth 10000 in
theorem impl_has_ok (p0 : Int) (p1 : Int) : PC Try.prog 50 [(.int .i64 p0), (.int .i64 p1)] fun v => v = (.bool (impl_has p0 p1)) := by
  generalize hF : impl_has p0 p1 = r
  refine PC.enter Try.func50 rfl Try.ntmps50 (by simp) ?_
  have hS := Sep.void; unfold impl_has at hF
  refine AWP.seqR rfl ?_
  refine ASL.q (v := (.bool false)) rfl rfl (Light.quiet (opAssign rfl rfl)) ?_
  refine ASL.done ?_
  refine AWP.seqR rfl ?_
  refine ASL.q (v := (.int .i64 p0)) rfl rfl (Light.quiet (opMove rfl rfl)) ?_
  refine ASL.q (v := (.int .i64 p1)) rfl rfl (Light.quiet (opMove rfl rfl)) ?_
  refine ASL.q (v := (.int .u64 (IntKind.u64.wrap p1))) rfl rfl (Light.quiet (opConv rfl rfl und_3 und_88 rfl)) ?_
  refine ASL.q (v := (.int .i64 (shr .i64 p0 ((IntKind.u64.wrap p1))))) rfl rfl (Light.quiet (opShr rfl rfl rfl (wrapU_nn rfl _) rfl)) ?_
  refine ASL.q (v := (.int .i64 (bAnd .i64 ((shr .i64 p0 ((IntKind.u64.wrap p1)))) 1))) rfl rfl (Light.quiet (opInt rfl rfl rfl rfl)) ?_
  refine ASL.q (v := (.bool (decide (((bAnd .i64 ((shr .i64 p0 ((IntKind.u64.wrap p1)))) 1)) = 1)))) rfl rfl (Light.quiet (opInt rfl rfl rfl rfl)) ?_
  refine ASL.q (v := (.bool (decide (((bAnd .i64 ((shr .i64 p0 ((IntKind.u64.wrap p1)))) 1)) = 1)))) rfl rfl (Light.quiet (opAssign rfl rfl)) ?_
  refine ASL.done ?_
  refine AWP.ret ?_
  obtain rfl := hF
  exact QRet.sole (v := (.bool (decide (((bAnd .i64 ((shr .i64 p0 ((IntKind.u64.wrap p1)))) 1)) = 1)))) ⟨rfl, trivial⟩ rfl

set_option maxRecDepth 10000 in
theorem impl_rankStart_ok {p0 : TAuto} {r : TRankState} (hF : impl_rankStart p0 = some r) : HS Try.prog 33 [(TAuto.av p0)] [] fun v L' => ∃ o0_Ranks : AV, v = (.agg [o0_Ranks, (.int .i64 r.owing)]) ∧ L' = [.row 1 o0_Ranks (List.map (AV.int .i64) r.ranks)] := by
  intro H S hS
  refine HC.enter Try.func33 rfl Try.ntmps33 (by simp) ?_
  simp only [List.cons_append, List.nil_append] at hS
  unfold impl_rankStart at hF
  refine AWP.seqR rfl ?_
  refine ASL.q (v := (.rptr [(.int .i64 p0.letters), (.int .i64 p0.states), (.int .i64 p0.start), (.list 4 (List.map TEdge.av p0.edges))])) rfl rfl ((qBoxI (v := (TAuto.av p0)) rfl rfl rfl rfl)) ?_
  have hS := hNil (s := 1) (f := (AV.int .i64)) hS
  refine ASL.x rfl rfl (hNewZ hS [.nil, (.int .i64 0)] rfl zeroA_28 ⟨.inl rfl, .inl rfl, trivial⟩ ?_); rintro b2 G1 hK hS
  refine ASL.done ?_
  refine AWP.seqR rfl ?_
  have hS := hNil (s := 1) (f := (AV.int .i64)) hS
  refine ASL.x rfl rfl (hNewZ hS [.nil, (.int .i64 0)] rfl zeroA_28 ⟨.inl rfl, .inl rfl, trivial⟩ ?_); rintro b3 G4 hK hS
  refine ASL.done ?_
  refine AWP.seqM (fun e H => ∃ y7 : (List Int), ∃ y10 : Int, ∃ w8 : AV, E.Told e [(2, (.ptr b2 0)), (3, (.ptr b3 0))] ∧ E.Sep H [.row 1 .nil (List.map (AV.int .i64) ([])), .cell b2 [.nil, (.int .i64 0)], .row 1 w8 (List.map (AV.int .i64) y7), .cell b3 [w8, (.int .i64 y10)], .snap S] ∧ impl_rankStart.k0 y7 y10 = some r) ?_ ?_
  · rintro e0 G12 ⟨y7, y10, w8, hT, hS, hF⟩; refine AWP.only _ hT ?_; unfold impl_rankStart.k0 at hF
    refine AWP.seqR rfl ?_
    refine ASL.q (v := (.agg [w8, (.int .i64 y10)])) rfl rfl (Light.quiet (kAtA hS (j := 3) rfl rfl aggA_28 sizeA_28 rfl (nlt rfl) rfl)) ?_
    refine ASL.n rfl rfl (hPutA hS (j := 1) rfl rfl sizeA_28 rfl rfl rfl rfl (allC (hS.one (k := 2) rfl) (allC rfl rfl)) (nlt rfl) ?_); rintro G11 hS
    refine ASL.done ?_
    refine AWP.ret ?_
    obtain rfl := someE hF
    exact QRet.sole (v := (.agg [w8, (.int .i64 y10)])) ⟨resOne.at hS (k := 1) rfl rfl aggA_28 sizeA_28, trivial⟩ ⟨_, ⟨w8, rfl, rfl⟩, hS.pick [2, 4] rfl rfl⟩
  · skip
    refine AWP.seqR rfl ?_
    refine ASL.q (v := (.rptr [(.int .i64 p0.states), (.int .i64 p0.start), (.list 4 (List.map TEdge.av p0.edges))])) rfl rfl (Light.quiet (opFieldAddrR rfl fieldA_33_1 rfl rfl)) ?_
    refine ASL.q (v := (.int .i64 p0.states)) rfl rfl (Light.quiet (opLoadR rfl aggA_3 rfl rfl)) ?_
    refine ASL.q (v := (.int .i64 0)) rfl rfl (Light.quiet (opMove rfl rfl)) ?_
    refine ASL.done ?_
    refine AWP.block ?_
    obtain ⟨o20, hL19, hR21⟩ := bindE hF
    refine AWP.loopF (ω := AV) hL19 (fun s w => [(1, (.rptr [(.int .i64 p0.letters), (.int .i64 p0.states), (.int .i64 p0.start), (.list 4 (List.map TEdge.av p0.edges))])), (2, (.ptr b2 0)), (3, (.ptr b3 0)), (7, (.int .i64 p0.states)), (8, (.int .i64 s.2.2))]) (fun s w => [.row 1 .nil (List.map (AV.int .i64) ([])), .cell b2 [.nil, (.int .i64 0)], .row 1 w (List.map (AV.int .i64) s.1), .cell b3 [w, (.int .i64 s.2.1)], .snap S]) .nil ⟨rfl, rfl, rfl, rfl, rfl, trivial⟩ (hS.pick [3, 2, 1, 0, 4] rfl rfl) ?_
    rintro ⟨y13, y16, x8_l0⟩ w14 G22 hS x17 hF hx18
    try dsimp only at hS ⊢
    have hF : impl_rankStart.b0 p0 y13 y16 x8_l0 = some x17 := hF; unfold impl_rankStart.b0 at hF
    refine AWP.seqR rfl ?_
    refine ASL.q (v := (.bool (decide (x8_l0 < p0.states)))) rfl rfl (Light.quiet (opInt rfl rfl rfl rfl)) ?_
    refine ASL.done ?_
    refine AWP.seq ?_
    refine AWP.ifP hF rfl (fun hc23 hF => ?_) (fun hc23 hF => ?_)
    · skip
      refine AWP.skip ?_
      refine QThen.nrm ?_
      refine AWP.seq ?_
      refine AWP.block ?_
      refine AWP.seqR rfl ?_
      refine ASL.q (v := (.int .i64 x8_l0)) rfl rfl (Light.quiet (opMove rfl rfl)) ?_
      refine ASL.q (v := (.int .i64 x8_l0)) rfl rfl (Light.quiet (opAssign rfl rfl)) ?_
      refine ASL.done ?_
      refine AWP.seqR rfl ?_
      refine ASL.q (v := (.int .i64 (-1))) rfl rfl (Light.quiet (opAssign rfl rfl)) ?_
      refine ASL.done ?_
      refine AWP.seqM (fun e H => ∃ x5_2 : Int, E.Told e [(1, (.rptr [(.int .i64 p0.letters), (.int .i64 p0.states), (.int .i64 p0.start), (.list 4 (List.map TEdge.av p0.edges))])), (2, (.ptr b2 0)), (3, (.ptr b3 0)), (5, (.int .i64 x5_2)), (7, (.int .i64 p0.states)), (8, (.int .i64 x8_l0))] ∧ E.Sep H [.row 1 .nil (List.map (AV.int .i64) ([])), .cell b2 [.nil, (.int .i64 0)], .row 1 w14 (List.map (AV.int .i64) y13), .cell b3 [w14, (.int .i64 y16)], .snap S] ∧ impl_rankStart.k1 y13 y16 x8_l0 x5_2 = some x17) ?_ ?_
      · rintro e0 G27 ⟨x5_2, hT, hS, hF⟩; refine AWP.only _ hT ?_; unfold impl_rankStart.k1 at hF
        refine AWP.lastR rfl ?_
        refine ASL.q (v := (.ptr b3 0)) rfl rfl (Light.quiet (opFieldAddr rfl fieldA_28_0 rfl rfl)) ?_
        refine ASL.q (v := w14) rfl rfl (Light.quiet (kAt hS (j := 3) rfl rfl aggA_26 rfl rfl)) ?_
        refine ASL.q (v := (.int .i64 x5_2)) rfl rfl (Light.quiet (opMove rfl rfl)) ?_
        refine ASL.q (v := (.list 1 (List.map (AV.int .i64) [x5_2]))) rfl rfl ((qLit (xs := [(.int .i64 x5_2)]) rfl elemA_26 sizeA_3 zeroA_3 rfl rfl rfl rfl (by simp [cells]) (nlt rfl))) ?_
        obtain ⟨z22, hz22, hF⟩ := bindE hF
        refine ASL.x rfl rfl (hApp (f := (AV.int .i64)) (ws := [x5_2]) hS (j := 2) rfl hz22 rfl elemA_26 rfl sizeA_3 bytesA_3 zeroA_3 rfl rfl rfl (fun _ => rfl) ?_); rintro v22 G24 hS
        refine ASL.q (v := (.ptr b3 0)) rfl rfl (Light.quiet (opFieldAddr rfl fieldA_28_0 rfl rfl)) ?_
        refine ASL.n rfl rfl (hPut hS (j := 3) rfl rfl sizeA_26 rfl rfl (hS.one (k := 2) rfl) (nlt rfl) ?_); rintro G26 hS
        refine ASL.done ?_
        refine QBlock.nrm ?_
        refine QThen.nrm ?_
        refine AWP.lastR rfl ?_
        refine ASL.q (v := (.int .i64 (W (x8_l0 + 1)))) rfl rfl (Light.quiet (opInt rfl rfl rfl rfl)) ?_
        refine ASL.q (v := (.int .i64 (W (x8_l0 + 1)))) rfl rfl (Light.quiet (opMove rfl rfl)) ?_
        refine ASL.done ?_
        refine QThen.nrm ?_
        exact ⟨(z22, y16, (W (x8_l0 + 1))), v22, (someE hF).symm, ⟨rfl, rfl, rfl, rfl, rfl, trivial⟩, (hS.pick [0, 1, 2, 3, 4] rfl rfl)⟩
      · skip
        refine AWP.seqR rfl ?_
        refine ASL.q (v := (.rptr [(.int .i64 p0.start), (.list 4 (List.map TEdge.av p0.edges))])) rfl rfl (Light.quiet (opFieldAddrR rfl fieldA_33_2 rfl rfl)) ?_
        refine ASL.q (v := (.int .i64 p0.start)) rfl rfl (Light.quiet (opLoadR rfl aggA_3 rfl rfl)) ?_
        refine ASL.q (v := (.int .i64 x8_l0)) rfl rfl (Light.quiet (opMove rfl rfl)) ?_
        refine ASL.q (v := (.bool (impl_has p0.start x8_l0))) rfl rfl ((qCall rfl rfl call_50 (impl_has_ok p0.start x8_l0) rfl)) ?_
        refine ASL.done ?_
        refine AWP.ifB hF rfl (fun hc28 hF => ?_) (fun hc28 hF => ?_)
        · skip
          refine AWP.lastR rfl ?_
          refine ASL.q (v := (.rptr [(.int .i64 p0.states), (.int .i64 p0.start), (.list 4 (List.map TEdge.av p0.edges))])) rfl rfl (Light.quiet (opFieldAddrR rfl fieldA_33_1 rfl rfl)) ?_
          refine ASL.q (v := (.int .i64 p0.states)) rfl rfl (Light.quiet (opLoadR rfl aggA_3 rfl rfl)) ?_
          refine ASL.q (v := (.int .i64 (W (2 * p0.states)))) rfl rfl (Light.quiet (opInt rfl rfl rfl rfl)) ?_
          refine ASL.q (v := (.int .i64 (W (2 * p0.states)))) rfl rfl (Light.quiet (opAssign rfl rfl)) ?_
          refine ASL.done ?_
          refine QThen.nrm ?_
          exact ⟨(W (2 * p0.states)), ⟨rfl, rfl, rfl, rfl, rfl, rfl, trivial⟩, (hS.pick [0, 1, 2, 3, 4] rfl rfl), hF⟩
        · skip
          refine AWP.skip ?_
          refine QThen.nrm ?_
          exact ⟨(-1), ⟨rfl, rfl, rfl, rfl, rfl, rfl, trivial⟩, (hS.pick [0, 1, 2, 3, 4] rfl rfl), hF⟩
    · skip
      refine AWP.exit ?_
      refine QThen.ext ?_
      refine QThen.ext ?_
      refine QBlock.hit ?_
      obtain rfl := (hx18 _ (someE hF).symm)
      have hF := hR21
      refine QThen.nrm ?_
      exact ⟨y13, y16, w14, ⟨rfl, rfl, trivial⟩, (hS.pick [0, 1, 2, 3, 4] rfl rfl), hF⟩

set_option maxRecDepth 10000 in
theorem impl_RankStart_ok {p0 : TAuto} {r : (TRankState × Bool)} (hF : impl_RankStart p0 = some r) : HS Try.prog 9 [(TAuto.av p0)] [] fun v L' => ∃ o0_Ranks : AV, v = .tup [(.agg [o0_Ranks, (.int .i64 r.1.owing)]), (.bool r.2)] ∧ L' = [.row 1 o0_Ranks (List.map (AV.int .i64) r.1.ranks)] := by
  intro H S hS
  refine HC.enter Try.func9 rfl Try.ntmps9 (by simp) ?_
  simp only [List.cons_append, List.nil_append] at hS
  unfold impl_RankStart at hF
  refine AWP.seqR rfl ?_
  refine ASL.q (v := (.rptr [(.int .i64 p0.letters), (.int .i64 p0.states), (.int .i64 p0.start), (.list 4 (List.map TEdge.av p0.edges))])) rfl rfl ((qBoxI (v := (TAuto.av p0)) rfl rfl rfl rfl)) ?_
  have hS := hNil (s := 1) (f := (AV.int .i64)) hS
  refine ASL.x rfl rfl (hNewZ hS [.nil, (.int .i64 0)] rfl zeroA_28 ⟨.inl rfl, .inl rfl, trivial⟩ ?_); rintro b2 G1 hK hS
  refine ASL.q (v := (.bool false)) rfl rfl (Light.quiet (opAssign rfl rfl)) ?_
  refine ASL.done ?_
  refine AWP.seq ?_
  refine AWP.seqR rfl ?_
  refine ASL.q (v := (TAuto.av p0)) rfl rfl (Light.quiet (opLoadRA rfl aggA_33 sizeA_33 rfl (nlt rfl) rfl)) ?_
  obtain ⟨a5, ha5, hF⟩ := bindE hF
  refine ASL.q (v := (.bool a5)) rfl rfl ((qCall rfl rfl call_32 (impl_isRanked_ok ha5) rfl)) ?_
  refine ASL.q (v := (.bool (!a5))) rfl rfl (Light.quiet (opNot rfl rfl)) ?_
  refine ASL.done ?_
  refine AWP.ifB hF rfl (fun hc4 hF => ?_) (fun hc4 hF => ?_)
  · skip
    refine AWP.seqR rfl ?_
    refine ASL.q (v := (.agg [.nil, (.int .i64 0)])) rfl rfl (Light.quiet (opBuildZ (zs := [.nil, (.int .i64 0)]) rfl plan_28 zeroA_28 ⟨.inl rfl, .inl rfl, trivial⟩ rfl)) ?_
    have hS := hNil (s := 1) (f := (AV.int .i64)) hS
    refine ASL.n rfl rfl (hPutA hS (j := 1) rfl rfl sizeA_28 rfl rfl rfl rfl (allC (hS.one (k := 0) rfl) (allC rfl rfl)) (nlt rfl) ?_); rintro G5 hS
    refine ASL.q (v := (.bool false)) rfl rfl (Light.quiet (opAssign rfl rfl)) ?_
    refine ASL.done ?_
    refine AWP.ret ?_
    refine QThen.rt ?_
    obtain rfl := someE hF
    exact QRet.many (vs := [(.agg [.nil, (.int .i64 0)]), (.bool false)]) ⟨resOne.at hS (k := 1) rfl rfl aggA_28 sizeA_28, rfl, trivial⟩ (by simp) ⟨_, ⟨.nil, rfl, rfl⟩, hS.pick [0, 3] rfl rfl⟩
  · skip
    refine AWP.skip ?_
    refine QThen.nrm ?_
    refine AWP.seqR rfl ?_
    refine ASL.q (v := (TAuto.av p0)) rfl rfl (Light.quiet (opLoadRA rfl aggA_33 sizeA_33 rfl (nlt rfl) rfl)) ?_
    obtain ⟨a9, ha9, hF⟩ := bindE hF
    refine ASL.x rfl rfl (hCallSR hS rfl rfl call_33 (impl_rankStart_ok ha9) ⟨.same _, trivial⟩ (by rintro _ _ G ⟨w7, rfl, rfl⟩ hG; exact ⟨(Scal.agg (ScalC.cons (hG.scR (k := 0) rfl) (ScalC.cons (by constructor) ScalC.nil))), ⟨(Scal.ints _ _), trivial⟩⟩) ?_); rintro _ _ G9 ⟨w7, rfl, rfl⟩ hK hS
    refine ASL.n rfl rfl (hPutA hS (j := 1) rfl rfl sizeA_28 rfl rfl rfl rfl (allC (hS.one (k := 0) rfl) (allC rfl rfl)) (nlt rfl) ?_); rintro G10 hS
    refine ASL.q (v := (.bool true)) rfl rfl (Light.quiet (opAssign rfl rfl)) ?_
    refine ASL.done ?_
    refine AWP.ret ?_
    obtain rfl := someE hF
    exact QRet.many (vs := [(.agg [w7, (.int .i64 a9.owing)]), (.bool true)]) ⟨resOne.at hS (k := 1) rfl rfl aggA_28 sizeA_28, rfl, trivial⟩ (by simp) ⟨_, ⟨w7, rfl, rfl⟩, hS.pick [0, 3] rfl rfl⟩

set_option maxRecDepth 10000 in
theorem laws_eqIntS_ok {p0 : (List Int)} {p1 : (List Int)} {r : Bool} (hF : laws_eqIntS p0 p1 = some r) : PC Try.prog 34 [(.list 1 (List.map (AV.int .i64) p0)), (.list 1 (List.map (AV.int .i64) p1))] fun v => v = (.bool r) := by
  refine PC.enter Try.func34 rfl Try.ntmps34 (by simp) ?_
  have hS := Sep.void; unfold laws_eqIntS at hF
  refine AWP.seqR rfl ?_
  refine ASL.q (v := (.bool false)) rfl rfl (Light.quiet (opAssign rfl rfl)) ?_
  refine ASL.done ?_
  refine AWP.seq ?_
  refine AWP.seqR rfl ?_
  refine ASL.q (v := (.list 1 (List.map (AV.int .i64) p0))) rfl rfl (Light.quiet (opMove rfl rfl)) ?_
  refine ASL.q (v := (.int .i64 (p0.length : Int))) rfl rfl (Light.quiet (opLenMap (f := (AV.int .i64)) rfl rfl rfl lenT_26 rfl)) ?_
  refine ASL.q (v := (.list 1 (List.map (AV.int .i64) p1))) rfl rfl (Light.quiet (opMove rfl rfl)) ?_
  refine ASL.q (v := (.int .i64 (p1.length : Int))) rfl rfl (Light.quiet (opLenMap (f := (AV.int .i64)) rfl rfl rfl lenT_26 rfl)) ?_
  refine ASL.q (v := (.bool (decide (((p0.length : Int)) ≠ ((p1.length : Int)))))) rfl rfl (Light.quiet (opInt rfl rfl rfl rfl)) ?_
  refine ASL.done ?_
  refine AWP.ifP hF rfl (fun hc1 hF => ?_) (fun hc1 hF => ?_)
  · skip
    refine AWP.seqR rfl ?_
    refine ASL.q (v := (.bool false)) rfl rfl (Light.quiet (opAssign rfl rfl)) ?_
    refine ASL.done ?_
    refine AWP.ret ?_
    refine QThen.rt ?_
    obtain rfl := someE hF
    exact QRet.sole (v := (.bool false)) ⟨rfl, trivial⟩ rfl
  · skip
    refine AWP.skip ?_
    refine QThen.nrm ?_
    refine AWP.seqM (fun e H => E.Told e [] ∧ E.Sep H [] ∧ laws_eqIntS.k0 = some r) ?_ ?_
    · rintro e0 G2 ⟨hT, hS, hF⟩; refine AWP.only _ hT ?_; unfold laws_eqIntS.k0 at hF
      refine AWP.seqR rfl ?_
      refine ASL.q (v := (.bool true)) rfl rfl (Light.quiet (opAssign rfl rfl)) ?_
      refine ASL.done ?_
      refine AWP.ret ?_
      obtain rfl := someE hF
      exact QRet.sole (v := (.bool true)) ⟨rfl, trivial⟩ rfl
    · skip
      refine AWP.seqR rfl ?_
      refine ASL.q (v := (.int .i64 0)) rfl rfl (Light.quiet (opAssign rfl rfl)) ?_
      refine ASL.done ?_
      refine AWP.block ?_
      obtain ⟨o6, hL5, hR7⟩ := bindE hF
      refine AWP.loopF (ω := Unit) hL5 (fun s w => [(0, (.list 1 (List.map (AV.int .i64) p0))), (1, (.list 1 (List.map (AV.int .i64) p1))), (5, (.int .i64 s))]) (fun s w => []) () ⟨rfl, rfl, rfl, trivial⟩ (hS.pick [] rfl rfl) ?_
      rintro x5_l0 _ G8 hS x3 hF hx4
      try dsimp only at hS ⊢
      have hF : laws_eqIntS.b0 p0 p1 x5_l0 = some x3 := hF; unfold laws_eqIntS.b0 at hF
      refine AWP.seq ?_
      refine AWP.seqR rfl ?_
      refine ASL.q (v := (.int .i64 x5_l0)) rfl rfl (Light.quiet (opMove rfl rfl)) ?_
      refine ASL.q (v := (.list 1 (List.map (AV.int .i64) p0))) rfl rfl (Light.quiet (opMove rfl rfl)) ?_
      refine ASL.q (v := (.int .i64 (p0.length : Int))) rfl rfl (Light.quiet (opLenMap (f := (AV.int .i64)) rfl rfl rfl lenT_26 rfl)) ?_
      refine ASL.q (v := (.bool (decide (x5_l0 < ((p0.length : Int)))))) rfl rfl (Light.quiet (opInt rfl rfl rfl rfl)) ?_
      refine ASL.done ?_
      refine AWP.ifP hF rfl (fun hc9 hF => ?_) (fun hc9 hF => ?_)
      · skip
        refine AWP.skip ?_
        refine QThen.nrm ?_
        refine AWP.seq ?_
        refine AWP.block ?_
        refine AWP.seqD [(0, false), (1, false), (2, false), (3, false), (4, false), (5, false), (6, false), (7, false), (8, false)] mixed (by kernel_rfl) rfl ?_
        refine ARL.q0 (v := (.list 1 (List.map (AV.int .i64) p0))) rfl rfl (Light.quiet (opMove rfl rfl)) ?_
        refine ARL.q0 (v := (.int .i64 x5_l0)) rfl rfl (Light.quiet (opMove rfl rfl)) ?_
        obtain ⟨a19, ha19, hF⟩ := bindE hF
        refine ARL.q0 (v := (.rptr [(.int .i64 a19)])) rfl rfl (Light.quiet (kIx (f := (AV.int .i64)) ha19 rfl rfl rfl elemA_26 sizeA_3 rfl)) ?_
        refine ARL.q0 (v := (.int .i64 a19)) rfl rfl (Light.quiet (opLoadR rfl aggA_3 rfl rfl)) ?_
        refine ARL.q0 (v := (.list 1 (List.map (AV.int .i64) p1))) rfl rfl (Light.quiet (opMove rfl rfl)) ?_
        refine ARL.q0 (v := (.int .i64 x5_l0)) rfl rfl (Light.quiet (opMove rfl rfl)) ?_
        obtain ⟨a23, ha23, hF⟩ := bindE hF
        refine ARL.q0 (v := (.rptr [(.int .i64 a23)])) rfl rfl (Light.quiet (kIx (f := (AV.int .i64)) ha23 rfl rfl rfl elemA_26 sizeA_3 rfl)) ?_
        refine ARL.q0 (v := (.int .i64 a23)) rfl rfl (Light.quiet (opLoadR rfl aggA_3 rfl rfl)) ?_
        refine ARL.q0 (v := (.bool (decide (a19 ≠ a23)))) rfl rfl (Light.quiet (opInt rfl rfl rfl rfl)) ?_
        refine ARL.done ?_
        refine AWP.ifP hF rfl (fun hc10 hF => ?_) (fun hc10 hF => ?_)
        · skip
          refine AWP.seqR rfl ?_
          refine ASL.q (v := (.bool false)) rfl rfl (Light.quiet (opAssign rfl rfl)) ?_
          refine ASL.done ?_
          refine AWP.ret ?_
          refine QBlock.ret ?_
          refine QThen.rt ?_
          refine QThen.rt ?_
          refine QBlock.ret ?_
          refine QThen.rt ?_
          obtain rfl := (hx4 _ (someE hF).symm)
          have hF := hR7
          have hF := sumR hF
          obtain rfl := someE hF
          exact QRet.sole (v := (.bool false)) ⟨rfl, trivial⟩ rfl
        · skip
          refine AWP.skip ?_
          refine QBlock.nrm ?_
          refine QThen.nrm ?_
          refine AWP.lastR rfl ?_
          refine ASL.q (v := (.int .i64 x5_l0)) rfl rfl (Light.quiet (opMove rfl rfl)) ?_
          refine ASL.q (v := (.int .i64 (W (x5_l0 + 1)))) rfl rfl (Light.quiet (opInt rfl rfl rfl rfl)) ?_
          refine ASL.q (v := (.int .i64 (W (x5_l0 + 1)))) rfl rfl (Light.quiet (opAssign rfl rfl)) ?_
          refine ASL.done ?_
          refine QThen.nrm ?_
          exact ⟨(W (x5_l0 + 1)), (), (someE hF).symm, ⟨rfl, rfl, rfl, trivial⟩, (hS.pick [] rfl rfl)⟩
      · skip
        refine AWP.exit ?_
        refine QThen.ext ?_
        refine QThen.ext ?_
        refine QBlock.hit ?_
        obtain rfl := (hx4 _ (someE hF).symm)
        have hF := hR7
        have hF := sumL hF
        refine QThen.nrm ?_
        exact ⟨trivial, (hS.pick [] rfl rfl), hF⟩

set_option maxRecDepth 10000 in
theorem laws_eqRankState_ok {p0 : TRankState} {p1 : TRankState} {r : Bool} (hF : laws_eqRankState p0 p1 = some r) : PC Try.prog 10 [(TRankState.av p0), (TRankState.av p1)] fun v => v = (.bool r) := by
  refine PC.enter Try.func10 rfl Try.ntmps10 (by simp) ?_
  have hS := Sep.void; unfold laws_eqRankState at hF
  refine AWP.seqR rfl ?_
  refine ASL.q (v := (.rptr [(.list 1 (List.map (AV.int .i64) p0.ranks)), (.int .i64 p0.owing)])) rfl rfl ((qBoxI (v := (TRankState.av p0)) rfl rfl rfl rfl)) ?_
  refine ASL.q (v := (.rptr [(.list 1 (List.map (AV.int .i64) p1.ranks)), (.int .i64 p1.owing)])) rfl rfl ((qBoxI (v := (TRankState.av p1)) rfl rfl rfl rfl)) ?_
  refine ASL.q (v := (.bool false)) rfl rfl (Light.quiet (opAssign rfl rfl)) ?_
  refine ASL.done ?_
  refine AWP.seq ?_
  refine AWP.seqR rfl ?_
  refine ASL.q (v := (.rptr [(.list 1 (List.map (AV.int .i64) p0.ranks)), (.int .i64 p0.owing)])) rfl rfl (Light.quiet (opFieldAddrR rfl fieldA_28_0 rfl rfl)) ?_
  refine ASL.q (v := (.list 1 (List.map (AV.int .i64) p0.ranks))) rfl rfl (Light.quiet (opLoadR rfl aggA_26 rfl rfl)) ?_
  refine ASL.q (v := (.rptr [(.list 1 (List.map (AV.int .i64) p1.ranks)), (.int .i64 p1.owing)])) rfl rfl (Light.quiet (opFieldAddrR rfl fieldA_28_0 rfl rfl)) ?_
  refine ASL.q (v := (.list 1 (List.map (AV.int .i64) p1.ranks))) rfl rfl (Light.quiet (opLoadR rfl aggA_26 rfl rfl)) ?_
  obtain ⟨a9, ha9, hF⟩ := bindE hF
  refine ASL.q (v := (.bool a9)) rfl rfl ((qCall rfl rfl call_34 (laws_eqIntS_ok ha9) rfl)) ?_
  refine ASL.q (v := (.bool (!a9))) rfl rfl (Light.quiet (opNot rfl rfl)) ?_
  refine ASL.done ?_
  refine AWP.ifB hF rfl (fun hc1 hF => ?_) (fun hc1 hF => ?_)
  · skip
    refine AWP.seqR rfl ?_
    refine ASL.q (v := (.bool false)) rfl rfl (Light.quiet (opAssign rfl rfl)) ?_
    refine ASL.done ?_
    refine AWP.ret ?_
    refine QThen.rt ?_
    obtain rfl := someE hF
    exact QRet.sole (v := (.bool false)) ⟨rfl, trivial⟩ rfl
  · skip
    refine AWP.skip ?_
    refine QThen.nrm ?_
    refine AWP.seq ?_
    refine AWP.seqR rfl ?_
    refine ASL.q (v := (.rptr [(.int .i64 p0.owing)])) rfl rfl (Light.quiet (opFieldAddrR rfl fieldA_28_1 rfl rfl)) ?_
    refine ASL.q (v := (.int .i64 p0.owing)) rfl rfl (Light.quiet (opLoadR rfl aggA_3 rfl rfl)) ?_
    refine ASL.q (v := (.rptr [(.int .i64 p1.owing)])) rfl rfl (Light.quiet (opFieldAddrR rfl fieldA_28_1 rfl rfl)) ?_
    refine ASL.q (v := (.int .i64 p1.owing)) rfl rfl (Light.quiet (opLoadR rfl aggA_3 rfl rfl)) ?_
    refine ASL.q (v := (.bool (decide (p0.owing ≠ p1.owing)))) rfl rfl (Light.quiet (opInt rfl rfl rfl rfl)) ?_
    refine ASL.done ?_
    refine AWP.ifP hF rfl (fun hc2 hF => ?_) (fun hc2 hF => ?_)
    · skip
      refine AWP.seqR rfl ?_
      refine ASL.q (v := (.bool false)) rfl rfl (Light.quiet (opAssign rfl rfl)) ?_
      refine ASL.done ?_
      refine AWP.ret ?_
      refine QThen.rt ?_
      obtain rfl := someE hF
      exact QRet.sole (v := (.bool false)) ⟨rfl, trivial⟩ rfl
    · skip
      refine AWP.skip ?_
      refine QThen.nrm ?_
      refine AWP.seqR rfl ?_
      refine ASL.q (v := (.bool true)) rfl rfl (Light.quiet (opAssign rfl rfl)) ?_
      refine ASL.done ?_
      refine AWP.ret ?_
      obtain rfl := someE hF
      exact QRet.sole (v := (.bool true)) ⟨rfl, trivial⟩ rfl

set_option maxRecDepth 10000 in
theorem laws_eqEdge_ok (p0 : TEdge) (p1 : TEdge) : PC Try.prog 57 [(TEdge.av p0), (TEdge.av p1)] fun v => v = (.bool (laws_eqEdge p0 p1)) := by
  generalize hF : laws_eqEdge p0 p1 = r
  refine PC.enter Try.func57 rfl Try.ntmps57 (by simp) ?_
  have hS := Sep.void; unfold laws_eqEdge at hF
  refine AWP.seqR rfl ?_
  refine ASL.q (v := (.rptr [(.int .i64 p0.from_), (.int .i64 p0.letter), (.int .i64 p0.to_), (.bool p0.good)])) rfl rfl ((qBoxI (v := (TEdge.av p0)) rfl rfl rfl rfl)) ?_
  refine ASL.q (v := (.rptr [(.int .i64 p1.from_), (.int .i64 p1.letter), (.int .i64 p1.to_), (.bool p1.good)])) rfl rfl ((qBoxI (v := (TEdge.av p1)) rfl rfl rfl rfl)) ?_
  refine ASL.q (v := (.bool false)) rfl rfl (Light.quiet (opAssign rfl rfl)) ?_
  refine ASL.done ?_
  refine AWP.seq ?_
  refine AWP.seqR rfl ?_
  refine ASL.q (v := (.rptr [(.int .i64 p0.from_), (.int .i64 p0.letter), (.int .i64 p0.to_), (.bool p0.good)])) rfl rfl (Light.quiet (opFieldAddrR rfl fieldA_73_0 rfl rfl)) ?_
  refine ASL.q (v := (.int .i64 p0.from_)) rfl rfl (Light.quiet (opLoadR rfl aggA_3 rfl rfl)) ?_
  refine ASL.q (v := (.rptr [(.int .i64 p1.from_), (.int .i64 p1.letter), (.int .i64 p1.to_), (.bool p1.good)])) rfl rfl (Light.quiet (opFieldAddrR rfl fieldA_73_0 rfl rfl)) ?_
  refine ASL.q (v := (.int .i64 p1.from_)) rfl rfl (Light.quiet (opLoadR rfl aggA_3 rfl rfl)) ?_
  refine ASL.q (v := (.bool (decide (p0.from_ ≠ p1.from_)))) rfl rfl (Light.quiet (opInt rfl rfl rfl rfl)) ?_
  refine ASL.done ?_
  refine AWP.ifP hF rfl (fun hc1 hF => ?_) (fun hc1 hF => ?_)
  · skip
    refine AWP.seqR rfl ?_
    refine ASL.q (v := (.bool false)) rfl rfl (Light.quiet (opAssign rfl rfl)) ?_
    refine ASL.done ?_
    refine AWP.ret ?_
    refine QThen.rt ?_
    obtain rfl := hF
    exact QRet.sole (v := (.bool false)) ⟨rfl, trivial⟩ rfl
  · skip
    refine AWP.skip ?_
    refine QThen.nrm ?_
    refine AWP.seq ?_
    refine AWP.seqR rfl ?_
    refine ASL.q (v := (.rptr [(.int .i64 p0.letter), (.int .i64 p0.to_), (.bool p0.good)])) rfl rfl (Light.quiet (opFieldAddrR rfl fieldA_73_1 rfl rfl)) ?_
    refine ASL.q (v := (.int .i64 p0.letter)) rfl rfl (Light.quiet (opLoadR rfl aggA_3 rfl rfl)) ?_
    refine ASL.q (v := (.rptr [(.int .i64 p1.letter), (.int .i64 p1.to_), (.bool p1.good)])) rfl rfl (Light.quiet (opFieldAddrR rfl fieldA_73_1 rfl rfl)) ?_
    refine ASL.q (v := (.int .i64 p1.letter)) rfl rfl (Light.quiet (opLoadR rfl aggA_3 rfl rfl)) ?_
    refine ASL.q (v := (.bool (decide (p0.letter ≠ p1.letter)))) rfl rfl (Light.quiet (opInt rfl rfl rfl rfl)) ?_
    refine ASL.done ?_
    refine AWP.ifP hF rfl (fun hc2 hF => ?_) (fun hc2 hF => ?_)
    · skip
      refine AWP.seqR rfl ?_
      refine ASL.q (v := (.bool false)) rfl rfl (Light.quiet (opAssign rfl rfl)) ?_
      refine ASL.done ?_
      refine AWP.ret ?_
      refine QThen.rt ?_
      obtain rfl := hF
      exact QRet.sole (v := (.bool false)) ⟨rfl, trivial⟩ rfl
    · skip
      refine AWP.skip ?_
      refine QThen.nrm ?_
      refine AWP.seq ?_
      refine AWP.seqR rfl ?_
      refine ASL.q (v := (.rptr [(.int .i64 p0.to_), (.bool p0.good)])) rfl rfl (Light.quiet (opFieldAddrR rfl fieldA_73_2 rfl rfl)) ?_
      refine ASL.q (v := (.int .i64 p0.to_)) rfl rfl (Light.quiet (opLoadR rfl aggA_3 rfl rfl)) ?_
      refine ASL.q (v := (.rptr [(.int .i64 p1.to_), (.bool p1.good)])) rfl rfl (Light.quiet (opFieldAddrR rfl fieldA_73_2 rfl rfl)) ?_
      refine ASL.q (v := (.int .i64 p1.to_)) rfl rfl (Light.quiet (opLoadR rfl aggA_3 rfl rfl)) ?_
      refine ASL.q (v := (.bool (decide (p0.to_ ≠ p1.to_)))) rfl rfl (Light.quiet (opInt rfl rfl rfl rfl)) ?_
      refine ASL.done ?_
      refine AWP.ifP hF rfl (fun hc3 hF => ?_) (fun hc3 hF => ?_)
      · skip
        refine AWP.seqR rfl ?_
        refine ASL.q (v := (.bool false)) rfl rfl (Light.quiet (opAssign rfl rfl)) ?_
        refine ASL.done ?_
        refine AWP.ret ?_
        refine QThen.rt ?_
        obtain rfl := hF
        exact QRet.sole (v := (.bool false)) ⟨rfl, trivial⟩ rfl
      · skip
        refine AWP.skip ?_
        refine QThen.nrm ?_
        refine AWP.seq ?_
        refine AWP.seqR rfl ?_
        refine ASL.q (v := (.rptr [(.bool p0.good)])) rfl rfl (Light.quiet (opFieldAddrR rfl fieldA_73_3 rfl rfl)) ?_
        refine ASL.q (v := (.bool p0.good)) rfl rfl (Light.quiet (opLoadR rfl aggA_4 rfl rfl)) ?_
        refine ASL.q (v := (.rptr [(.bool p1.good)])) rfl rfl (Light.quiet (opFieldAddrR rfl fieldA_73_3 rfl rfl)) ?_
        refine ASL.q (v := (.bool p1.good)) rfl rfl (Light.quiet (opLoadR rfl aggA_4 rfl rfl)) ?_
        refine ASL.q (v := (.bool (!(p0.good == p1.good)))) rfl rfl (Light.quiet (opBoolEq rfl rfl rfl und_4 rfl)) ?_
        refine ASL.done ?_
        refine AWP.ifB hF rfl (fun hc4 hF => ?_) (fun hc4 hF => ?_)
        · skip
          refine AWP.seqR rfl ?_
          refine ASL.q (v := (.bool false)) rfl rfl (Light.quiet (opAssign rfl rfl)) ?_
          refine ASL.done ?_
          refine AWP.ret ?_
          refine QThen.rt ?_
          obtain rfl := hF
          exact QRet.sole (v := (.bool false)) ⟨rfl, trivial⟩ rfl
        · skip
          refine AWP.skip ?_
          refine QThen.nrm ?_
          refine AWP.seqR rfl ?_
          refine ASL.q (v := (.bool true)) rfl rfl (Light.quiet (opAssign rfl rfl)) ?_
          refine ASL.done ?_
          refine AWP.ret ?_
          obtain rfl := hF
          exact QRet.sole (v := (.bool true)) ⟨rfl, trivial⟩ rfl

set_option maxRecDepth 10000 in
theorem laws_eqEdgeS_ok {p0 : (List TEdge)} {p1 : (List TEdge)} {r : Bool} (hF : laws_eqEdgeS p0 p1 = some r) : PC Try.prog 35 [(.list 4 (List.map TEdge.av p0)), (.list 4 (List.map TEdge.av p1))] fun v => v = (.bool r) := by
  refine PC.enter Try.func35 rfl Try.ntmps35 (by simp) ?_
  have hS := Sep.void; unfold laws_eqEdgeS at hF
  refine AWP.seqR rfl ?_
  refine ASL.q (v := (.bool false)) rfl rfl (Light.quiet (opAssign rfl rfl)) ?_
  refine ASL.done ?_
  refine AWP.seq ?_
  refine AWP.seqR rfl ?_
  refine ASL.q (v := (.list 4 (List.map TEdge.av p0))) rfl rfl (Light.quiet (opMove rfl rfl)) ?_
  refine ASL.q (v := (.int .i64 (p0.length : Int))) rfl rfl (Light.quiet (opLenMap (f := TEdge.av) rfl rfl rfl lenT_31 rfl)) ?_
  refine ASL.q (v := (.list 4 (List.map TEdge.av p1))) rfl rfl (Light.quiet (opMove rfl rfl)) ?_
  refine ASL.q (v := (.int .i64 (p1.length : Int))) rfl rfl (Light.quiet (opLenMap (f := TEdge.av) rfl rfl rfl lenT_31 rfl)) ?_
  refine ASL.q (v := (.bool (decide (((p0.length : Int)) ≠ ((p1.length : Int)))))) rfl rfl (Light.quiet (opInt rfl rfl rfl rfl)) ?_
  refine ASL.done ?_
  refine AWP.ifP hF rfl (fun hc1 hF => ?_) (fun hc1 hF => ?_)
  · skip
    refine AWP.seqR rfl ?_
    refine ASL.q (v := (.bool false)) rfl rfl (Light.quiet (opAssign rfl rfl)) ?_
    refine ASL.done ?_
    refine AWP.ret ?_
    refine QThen.rt ?_
    obtain rfl := someE hF
    exact QRet.sole (v := (.bool false)) ⟨rfl, trivial⟩ rfl
  · skip
    refine AWP.skip ?_
    refine QThen.nrm ?_
    refine AWP.seqM (fun e H => E.Told e [] ∧ E.Sep H [] ∧ laws_eqEdgeS.k0 = some r) ?_ ?_
    · rintro e0 G2 ⟨hT, hS, hF⟩; refine AWP.only _ hT ?_; unfold laws_eqEdgeS.k0 at hF
      refine AWP.seqR rfl ?_
      refine ASL.q (v := (.bool true)) rfl rfl (Light.quiet (opAssign rfl rfl)) ?_
      refine ASL.done ?_
      refine AWP.ret ?_
      obtain rfl := someE hF
      exact QRet.sole (v := (.bool true)) ⟨rfl, trivial⟩ rfl
    · skip
      refine AWP.seqR rfl ?_
      refine ASL.q (v := (.int .i64 0)) rfl rfl (Light.quiet (opAssign rfl rfl)) ?_
      refine ASL.done ?_
      refine AWP.block ?_
      obtain ⟨o6, hL5, hR7⟩ := bindE hF
      refine AWP.loopF (ω := Unit) hL5 (fun s w => [(0, (.list 4 (List.map TEdge.av p0))), (1, (.list 4 (List.map TEdge.av p1))), (5, (.int .i64 s))]) (fun s w => []) () ⟨rfl, rfl, rfl, trivial⟩ (hS.pick [] rfl rfl) ?_
      rintro x5_l0 _ G8 hS x3 hF hx4
      try dsimp only at hS ⊢
      have hF : laws_eqEdgeS.b0 p0 p1 x5_l0 = some x3 := hF; unfold laws_eqEdgeS.b0 at hF
      refine AWP.seq ?_
      refine AWP.seqR rfl ?_
      refine ASL.q (v := (.int .i64 x5_l0)) rfl rfl (Light.quiet (opMove rfl rfl)) ?_
      refine ASL.q (v := (.list 4 (List.map TEdge.av p0))) rfl rfl (Light.quiet (opMove rfl rfl)) ?_
      refine ASL.q (v := (.int .i64 (p0.length : Int))) rfl rfl (Light.quiet (opLenMap (f := TEdge.av) rfl rfl rfl lenT_31 rfl)) ?_
      refine ASL.q (v := (.bool (decide (x5_l0 < ((p0.length : Int)))))) rfl rfl (Light.quiet (opInt rfl rfl rfl rfl)) ?_
      refine ASL.done ?_
      refine AWP.ifP hF rfl (fun hc9 hF => ?_) (fun hc9 hF => ?_)
      · skip
        refine AWP.skip ?_
        refine QThen.nrm ?_
        refine AWP.seq ?_
        refine AWP.block ?_
        refine AWP.seqD [(0, false), (1, false), (2, false), (3, false), (4, false), (5, false), (6, false), (7, false), (8, false), (9, false)] mixed (by kernel_rfl) rfl ?_
        refine ARL.q0 (v := (.list 4 (List.map TEdge.av p0))) rfl rfl (Light.quiet (opMove rfl rfl)) ?_
        refine ARL.q0 (v := (.int .i64 x5_l0)) rfl rfl (Light.quiet (opMove rfl rfl)) ?_
        obtain ⟨a19, ha19, hF⟩ := bindE hF
        refine ARL.q0 (v := (.rptr [(.int .i64 a19.from_), (.int .i64 a19.letter), (.int .i64 a19.to_), (.bool a19.good)])) rfl rfl (Light.quiet (kIx (f := TEdge.av) ha19 rfl rfl rfl elemA_31 sizeA_73 rfl)) ?_
        refine ARL.q0 (v := (TEdge.av a19)) rfl rfl (Light.quiet (opLoadRA rfl aggA_73 sizeA_73 rfl (nlt rfl) rfl)) ?_
        refine ARL.q0 (v := (.list 4 (List.map TEdge.av p1))) rfl rfl (Light.quiet (opMove rfl rfl)) ?_
        refine ARL.q0 (v := (.int .i64 x5_l0)) rfl rfl (Light.quiet (opMove rfl rfl)) ?_
        obtain ⟨a23, ha23, hF⟩ := bindE hF
        refine ARL.q0 (v := (.rptr [(.int .i64 a23.from_), (.int .i64 a23.letter), (.int .i64 a23.to_), (.bool a23.good)])) rfl rfl (Light.quiet (kIx (f := TEdge.av) ha23 rfl rfl rfl elemA_31 sizeA_73 rfl)) ?_
        refine ARL.q0 (v := (TEdge.av a23)) rfl rfl (Light.quiet (opLoadRA rfl aggA_73 sizeA_73 rfl (nlt rfl) rfl)) ?_
        refine ARL.q0 (v := (.bool (laws_eqEdge a19 a23))) rfl rfl ((qCall rfl rfl call_57 (laws_eqEdge_ok a19 a23) rfl)) ?_
        refine ARL.q0 (v := (.bool (!(laws_eqEdge a19 a23)))) rfl rfl (Light.quiet (opNot rfl rfl)) ?_
        refine ARL.done ?_
        refine AWP.ifB hF rfl (fun hc10 hF => ?_) (fun hc10 hF => ?_)
        · skip
          refine AWP.seqR rfl ?_
          refine ASL.q (v := (.bool false)) rfl rfl (Light.quiet (opAssign rfl rfl)) ?_
          refine ASL.done ?_
          refine AWP.ret ?_
          refine QBlock.ret ?_
          refine QThen.rt ?_
          refine QThen.rt ?_
          refine QBlock.ret ?_
          refine QThen.rt ?_
          obtain rfl := (hx4 _ (someE hF).symm)
          have hF := hR7
          have hF := sumR hF
          obtain rfl := someE hF
          exact QRet.sole (v := (.bool false)) ⟨rfl, trivial⟩ rfl
        · skip
          refine AWP.skip ?_
          refine QBlock.nrm ?_
          refine QThen.nrm ?_
          refine AWP.lastR rfl ?_
          refine ASL.q (v := (.int .i64 x5_l0)) rfl rfl (Light.quiet (opMove rfl rfl)) ?_
          refine ASL.q (v := (.int .i64 (W (x5_l0 + 1)))) rfl rfl (Light.quiet (opInt rfl rfl rfl rfl)) ?_
          refine ASL.q (v := (.int .i64 (W (x5_l0 + 1)))) rfl rfl (Light.quiet (opAssign rfl rfl)) ?_
          refine ASL.done ?_
          refine QThen.nrm ?_
          exact ⟨(W (x5_l0 + 1)), (), (someE hF).symm, ⟨rfl, rfl, rfl, trivial⟩, (hS.pick [] rfl rfl)⟩
      · skip
        refine AWP.exit ?_
        refine QThen.ext ?_
        refine QThen.ext ?_
        refine QBlock.hit ?_
        obtain rfl := (hx4 _ (someE hF).symm)
        have hF := hR7
        have hF := sumL hF
        refine QThen.nrm ?_
        exact ⟨trivial, (hS.pick [] rfl rfl), hF⟩

set_option maxRecDepth 10000 in
theorem laws_eqAuto_ok {p0 : TAuto} {p1 : TAuto} {r : Bool} (hF : laws_eqAuto p0 p1 = some r) : PC Try.prog 11 [(TAuto.av p0), (TAuto.av p1)] fun v => v = (.bool r) := by
  refine PC.enter Try.func11 rfl Try.ntmps11 (by simp) ?_
  have hS := Sep.void; unfold laws_eqAuto at hF
  refine AWP.seqR rfl ?_
  refine ASL.q (v := (.rptr [(.int .i64 p0.letters), (.int .i64 p0.states), (.int .i64 p0.start), (.list 4 (List.map TEdge.av p0.edges))])) rfl rfl ((qBoxI (v := (TAuto.av p0)) rfl rfl rfl rfl)) ?_
  refine ASL.q (v := (.rptr [(.int .i64 p1.letters), (.int .i64 p1.states), (.int .i64 p1.start), (.list 4 (List.map TEdge.av p1.edges))])) rfl rfl ((qBoxI (v := (TAuto.av p1)) rfl rfl rfl rfl)) ?_
  refine ASL.q (v := (.bool false)) rfl rfl (Light.quiet (opAssign rfl rfl)) ?_
  refine ASL.done ?_
  refine AWP.seq ?_
  refine AWP.seqR rfl ?_
  refine ASL.q (v := (.rptr [(.int .i64 p0.letters), (.int .i64 p0.states), (.int .i64 p0.start), (.list 4 (List.map TEdge.av p0.edges))])) rfl rfl (Light.quiet (opFieldAddrR rfl fieldA_33_0 rfl rfl)) ?_
  refine ASL.q (v := (.int .i64 p0.letters)) rfl rfl (Light.quiet (opLoadR rfl aggA_3 rfl rfl)) ?_
  refine ASL.q (v := (.rptr [(.int .i64 p1.letters), (.int .i64 p1.states), (.int .i64 p1.start), (.list 4 (List.map TEdge.av p1.edges))])) rfl rfl (Light.quiet (opFieldAddrR rfl fieldA_33_0 rfl rfl)) ?_
  refine ASL.q (v := (.int .i64 p1.letters)) rfl rfl (Light.quiet (opLoadR rfl aggA_3 rfl rfl)) ?_
  refine ASL.q (v := (.bool (decide (p0.letters ≠ p1.letters)))) rfl rfl (Light.quiet (opInt rfl rfl rfl rfl)) ?_
  refine ASL.done ?_
  refine AWP.ifP hF rfl (fun hc1 hF => ?_) (fun hc1 hF => ?_)
  · skip
    refine AWP.seqR rfl ?_
    refine ASL.q (v := (.bool false)) rfl rfl (Light.quiet (opAssign rfl rfl)) ?_
    refine ASL.done ?_
    refine AWP.ret ?_
    refine QThen.rt ?_
    obtain rfl := someE hF
    exact QRet.sole (v := (.bool false)) ⟨rfl, trivial⟩ rfl
  · skip
    refine AWP.skip ?_
    refine QThen.nrm ?_
    refine AWP.seq ?_
    refine AWP.seqR rfl ?_
    refine ASL.q (v := (.rptr [(.int .i64 p0.states), (.int .i64 p0.start), (.list 4 (List.map TEdge.av p0.edges))])) rfl rfl (Light.quiet (opFieldAddrR rfl fieldA_33_1 rfl rfl)) ?_
    refine ASL.q (v := (.int .i64 p0.states)) rfl rfl (Light.quiet (opLoadR rfl aggA_3 rfl rfl)) ?_
    refine ASL.q (v := (.rptr [(.int .i64 p1.states), (.int .i64 p1.start), (.list 4 (List.map TEdge.av p1.edges))])) rfl rfl (Light.quiet (opFieldAddrR rfl fieldA_33_1 rfl rfl)) ?_
    refine ASL.q (v := (.int .i64 p1.states)) rfl rfl (Light.quiet (opLoadR rfl aggA_3 rfl rfl)) ?_
    refine ASL.q (v := (.bool (decide (p0.states ≠ p1.states)))) rfl rfl (Light.quiet (opInt rfl rfl rfl rfl)) ?_
    refine ASL.done ?_
    refine AWP.ifP hF rfl (fun hc2 hF => ?_) (fun hc2 hF => ?_)
    · skip
      refine AWP.seqR rfl ?_
      refine ASL.q (v := (.bool false)) rfl rfl (Light.quiet (opAssign rfl rfl)) ?_
      refine ASL.done ?_
      refine AWP.ret ?_
      refine QThen.rt ?_
      obtain rfl := someE hF
      exact QRet.sole (v := (.bool false)) ⟨rfl, trivial⟩ rfl
    · skip
      refine AWP.skip ?_
      refine QThen.nrm ?_
      refine AWP.seq ?_
      refine AWP.seqR rfl ?_
      refine ASL.q (v := (.rptr [(.int .i64 p0.start), (.list 4 (List.map TEdge.av p0.edges))])) rfl rfl (Light.quiet (opFieldAddrR rfl fieldA_33_2 rfl rfl)) ?_
      refine ASL.q (v := (.int .i64 p0.start)) rfl rfl (Light.quiet (opLoadR rfl aggA_3 rfl rfl)) ?_
      refine ASL.q (v := (.rptr [(.int .i64 p1.start), (.list 4 (List.map TEdge.av p1.edges))])) rfl rfl (Light.quiet (opFieldAddrR rfl fieldA_33_2 rfl rfl)) ?_
      refine ASL.q (v := (.int .i64 p1.start)) rfl rfl (Light.quiet (opLoadR rfl aggA_3 rfl rfl)) ?_
      refine ASL.q (v := (.bool (decide (p0.start ≠ p1.start)))) rfl rfl (Light.quiet (opInt rfl rfl rfl rfl)) ?_
      refine ASL.done ?_
      refine AWP.ifP hF rfl (fun hc3 hF => ?_) (fun hc3 hF => ?_)
      · skip
        refine AWP.seqR rfl ?_
        refine ASL.q (v := (.bool false)) rfl rfl (Light.quiet (opAssign rfl rfl)) ?_
        refine ASL.done ?_
        refine AWP.ret ?_
        refine QThen.rt ?_
        obtain rfl := someE hF
        exact QRet.sole (v := (.bool false)) ⟨rfl, trivial⟩ rfl
      · skip
        refine AWP.skip ?_
        refine QThen.nrm ?_
        refine AWP.seq ?_
        refine AWP.seqR rfl ?_
        refine ASL.q (v := (.rptr [(.list 4 (List.map TEdge.av p0.edges))])) rfl rfl (Light.quiet (opFieldAddrR rfl fieldA_33_3 rfl rfl)) ?_
        refine ASL.q (v := (.list 4 (List.map TEdge.av p0.edges))) rfl rfl (Light.quiet (opLoadR rfl aggA_31 rfl rfl)) ?_
        refine ASL.q (v := (.rptr [(.list 4 (List.map TEdge.av p1.edges))])) rfl rfl (Light.quiet (opFieldAddrR rfl fieldA_33_3 rfl rfl)) ?_
        refine ASL.q (v := (.list 4 (List.map TEdge.av p1.edges))) rfl rfl (Light.quiet (opLoadR rfl aggA_31 rfl rfl)) ?_
        obtain ⟨a24, ha24, hF⟩ := bindE hF
        refine ASL.q (v := (.bool a24)) rfl rfl ((qCall rfl rfl call_35 (laws_eqEdgeS_ok ha24) rfl)) ?_
        refine ASL.q (v := (.bool (!a24))) rfl rfl (Light.quiet (opNot rfl rfl)) ?_
        refine ASL.done ?_
        refine AWP.ifB hF rfl (fun hc4 hF => ?_) (fun hc4 hF => ?_)
        · skip
          refine AWP.seqR rfl ?_
          refine ASL.q (v := (.bool false)) rfl rfl (Light.quiet (opAssign rfl rfl)) ?_
          refine ASL.done ?_
          refine AWP.ret ?_
          refine QThen.rt ?_
          obtain rfl := someE hF
          exact QRet.sole (v := (.bool false)) ⟨rfl, trivial⟩ rfl
        · skip
          refine AWP.skip ?_
          refine QThen.nrm ?_
          refine AWP.seqR rfl ?_
          refine ASL.q (v := (.bool true)) rfl rfl (Light.quiet (opAssign rfl rfl)) ?_
          refine ASL.done ?_
          refine AWP.ret ?_
          obtain rfl := someE hF
          exact QRet.sole (v := (.bool true)) ⟨rfl, trivial⟩ rfl

set_option maxRecDepth 10000 in
theorem laws_markEdgeS_ok {p0 : (List TEdge)} {p1 : Int} {r : (Int × (List TEdge))} {vp0 : AV} (hF : laws_markEdgeS p0 p1 = some r) : HS Try.prog 36 [vp0, (.int .i64 p1)] [.row 4 vp0 (List.map TEdge.av p0)] fun v L' => v = (.int .i64 r.1) ∧ L' = [.row 4 vp0 (List.map TEdge.av r.2)] := by
  intro H S hS
  refine HC.enter Try.func36 rfl Try.ntmps36 (by simp) ?_
  simp only [List.cons_append, List.nil_append] at hS
  unfold laws_markEdgeS at hF
  refine AWP.seqR rfl ?_
  refine ASL.q (v := (.int .i64 0)) rfl rfl (Light.quiet (opAssign rfl rfl)) ?_
  refine ASL.done ?_
  refine AWP.seqM (fun e H => ∃ x1_1 : Int, ∃ y2 : (List TEdge), E.Told e [(1, (.int .i64 x1_1))] ∧ E.Sep H [.row 4 vp0 (List.map TEdge.av y2), .snap S] ∧ laws_markEdgeS.k0 x1_1 y2 = some r) ?_ ?_
  · rintro e0 G3 ⟨x1_1, y2, hT, hS, hF⟩; refine AWP.only _ hT ?_; unfold laws_markEdgeS.k0 at hF
    refine AWP.seqR rfl ?_
    refine ASL.q (v := (.int .i64 x1_1)) rfl rfl (Light.quiet (opMove rfl rfl)) ?_
    refine ASL.q (v := (.int .i64 x1_1)) rfl rfl (Light.quiet (opAssign rfl rfl)) ?_
    refine ASL.done ?_
    refine AWP.ret ?_
    obtain rfl := someE hF
    exact QRet.sole (v := (.int .i64 x1_1)) ⟨rfl, trivial⟩ ⟨_, ⟨rfl, rfl⟩, hS.pick [0, 1] rfl rfl⟩
  · skip
    refine AWP.seqR rfl ?_
    refine ASL.q (v := (.int .i64 0)) rfl rfl (Light.quiet (opAssign rfl rfl)) ?_
    refine ASL.done ?_
    refine AWP.block ?_
    obtain ⟨o8, hL7, hR9⟩ := bindE hF
    refine AWP.loopF (ω := Unit) hL7 (fun s w => [(0, vp0), (1, (.int .i64 s.2.1)), (5, (.int .i64 s.2.2))]) (fun s w => [.row 4 vp0 (List.map TEdge.av s.1), .snap S]) () ⟨rfl, rfl, rfl, trivial⟩ (hS.pick [0, 1] rfl rfl) ?_
    rintro ⟨y4, x1_l0, x5_l0⟩ _ G10 hS x5 hF hx6
    try dsimp only at hS ⊢
    have hF : laws_markEdgeS.b0 y4 x1_l0 x5_l0 = some x5 := hF; unfold laws_markEdgeS.b0 at hF
    refine AWP.seq ?_
    refine AWP.seqR rfl ?_
    refine ASL.q (v := (.int .i64 x5_l0)) rfl rfl (Light.quiet (opMove rfl rfl)) ?_
    refine ASL.q (v := vp0) rfl rfl (Light.quiet (opMove rfl rfl)) ?_
    refine ASL.q (v := (.int .i64 (y4.length : Int))) rfl rfl (Light.quiet (kLen hS (j := 0) rfl rfl rfl rfl lenT_31 rfl)) ?_
    refine ASL.q (v := (.bool (decide (x5_l0 < ((y4.length : Int)))))) rfl rfl (Light.quiet (opInt rfl rfl rfl rfl)) ?_
    refine ASL.done ?_
    refine AWP.ifP hF rfl (fun hc11 hF => ?_) (fun hc11 hF => ?_)
    · skip
      refine AWP.skip ?_
      refine QThen.nrm ?_
      refine AWP.seq ?_
      refine AWP.block ?_
      refine AWP.seqR rfl ?_
      refine ASL.q (v := vp0) rfl rfl (Light.quiet (opMove rfl rfl)) ?_
      refine ASL.q (v := (.int .i64 x5_l0)) rfl rfl (Light.quiet (opMove rfl rfl)) ?_
      refine ASL.q (v := (.int .i64 x1_l0)) rfl rfl (Light.quiet (opMove rfl rfl)) ?_
      obtain ⟨m15, hm15, hF⟩ := bindE hF
      refine ASL.q (v := (ptrTo vp0 m15 4)) rfl rfl (Light.quiet (kIxO hS (j := 0) rfl hm15 rfl rfl rfl elemA_31 sizeA_73)) ?_
      refine ASL.q (v := (ptrOff vp0 m15 4 0)) rfl rfl (Light.quiet (kFldC (p := 0) hS (j := 0) rfl hm15 rfl fieldA_73_0 rfl)) ?_
      refine ASL.n rfl rfl (hStF (f := TEdge.av) (g := (fun q : TEdge => { q with from_ := x1_l0 })) (p := 0) hS (j := 0) rfl hm15 rfl sizeA_3 rfl rfl (fun _ => ⟨_, rfl, nlt rfl, rfl⟩) rfl ?_); rintro G12 hS
      refine ASL.done ?_
      refine AWP.seqR rfl ?_
      refine ASL.q (v := (.int .i64 x1_l0)) rfl rfl (Light.quiet (opMove rfl rfl)) ?_
      refine ASL.q (v := (.int .i64 (W (x1_l0 + 1)))) rfl rfl (Light.quiet (opInt rfl rfl rfl rfl)) ?_
      refine ASL.q (v := (.int .i64 (W (x1_l0 + 1)))) rfl rfl (Light.quiet (opAssign rfl rfl)) ?_
      refine ASL.done ?_
      refine AWP.seqR rfl ?_
      refine ASL.q (v := vp0) rfl rfl (Light.quiet (opMove rfl rfl)) ?_
      refine ASL.q (v := (.int .i64 x5_l0)) rfl rfl (Light.quiet (opMove rfl rfl)) ?_
      refine ASL.q (v := (.int .i64 (W (x1_l0 + 1)))) rfl rfl (Light.quiet (opMove rfl rfl)) ?_
      obtain ⟨m22, hm22, hF⟩ := bindE hF
      refine ASL.q (v := (ptrTo vp0 m22 4)) rfl rfl (Light.quiet (kIxO hS (j := 0) rfl hm22 rfl rfl rfl elemA_31 sizeA_73)) ?_
      refine ASL.q (v := (ptrOff vp0 m22 4 1)) rfl rfl (Light.quiet (kFldC (p := 1) hS (j := 0) rfl hm22 rfl fieldA_73_1 rfl)) ?_
      refine ASL.n rfl rfl (hStF (f := TEdge.av) (g := (fun q : TEdge => { q with letter := (W (x1_l0 + 1)) })) (p := 1) hS (j := 0) rfl hm22 rfl sizeA_3 rfl rfl (fun _ => ⟨_, rfl, nlt rfl, rfl⟩) rfl ?_); rintro G13 hS
      refine ASL.done ?_
      refine AWP.seqR rfl ?_
      refine ASL.q (v := (.int .i64 (W (x1_l0 + 1)))) rfl rfl (Light.quiet (opMove rfl rfl)) ?_
      refine ASL.q (v := (.int .i64 (W (((W (x1_l0 + 1))) + 1)))) rfl rfl (Light.quiet (opInt rfl rfl rfl rfl)) ?_
      refine ASL.q (v := (.int .i64 (W (((W (x1_l0 + 1))) + 1)))) rfl rfl (Light.quiet (opAssign rfl rfl)) ?_
      refine ASL.done ?_
      refine AWP.seqR rfl ?_
      refine ASL.q (v := vp0) rfl rfl (Light.quiet (opMove rfl rfl)) ?_
      refine ASL.q (v := (.int .i64 x5_l0)) rfl rfl (Light.quiet (opMove rfl rfl)) ?_
      refine ASL.q (v := (.int .i64 (W (((W (x1_l0 + 1))) + 1)))) rfl rfl (Light.quiet (opMove rfl rfl)) ?_
      obtain ⟨m29, hm29, hF⟩ := bindE hF
      refine ASL.q (v := (ptrTo vp0 m29 4)) rfl rfl (Light.quiet (kIxO hS (j := 0) rfl hm29 rfl rfl rfl elemA_31 sizeA_73)) ?_
      refine ASL.q (v := (ptrOff vp0 m29 4 2)) rfl rfl (Light.quiet (kFldC (p := 2) hS (j := 0) rfl hm29 rfl fieldA_73_2 rfl)) ?_
      refine ASL.n rfl rfl (hStF (f := TEdge.av) (g := (fun q : TEdge => { q with to_ := (W (((W (x1_l0 + 1))) + 1)) })) (p := 2) hS (j := 0) rfl hm29 rfl sizeA_3 rfl rfl (fun _ => ⟨_, rfl, nlt rfl, rfl⟩) rfl ?_); rintro G14 hS
      refine ASL.done ?_
      refine AWP.seqR rfl ?_
      refine ASL.q (v := (.int .i64 (W (((W (x1_l0 + 1))) + 1)))) rfl rfl (Light.quiet (opMove rfl rfl)) ?_
      refine ASL.q (v := (.int .i64 (W (((W (((W (x1_l0 + 1))) + 1))) + 1)))) rfl rfl (Light.quiet (opInt rfl rfl rfl rfl)) ?_
      refine ASL.q (v := (.int .i64 (W (((W (((W (x1_l0 + 1))) + 1))) + 1)))) rfl rfl (Light.quiet (opAssign rfl rfl)) ?_
      refine ASL.done ?_
      refine AWP.seqR rfl ?_
      refine ASL.q (v := vp0) rfl rfl (Light.quiet (opMove rfl rfl)) ?_
      refine ASL.q (v := (.int .i64 x5_l0)) rfl rfl (Light.quiet (opMove rfl rfl)) ?_
      refine ASL.q (v := (.int .i64 (W (((W (((W (x1_l0 + 1))) + 1))) + 1)))) rfl rfl (Light.quiet (opMove rfl rfl)) ?_
      refine ASL.q (v := (.int .i64 (Int.tmod ((W (((W (((W (x1_l0 + 1))) + 1))) + 1))) 3))) rfl rfl (Light.quiet (opRem rfl rfl rfl (by decide) rfl)) ?_
      refine ASL.q (v := (.bool (decide (((Int.tmod ((W (((W (((W (x1_l0 + 1))) + 1))) + 1))) 3)) = 0)))) rfl rfl (Light.quiet (opInt rfl rfl rfl rfl)) ?_
      obtain ⟨m38, hm38, hF⟩ := bindE hF
      refine ASL.q (v := (ptrTo vp0 m38 4)) rfl rfl (Light.quiet (kIxO hS (j := 0) rfl hm38 rfl rfl rfl elemA_31 sizeA_73)) ?_
      refine ASL.q (v := (ptrOff vp0 m38 4 3)) rfl rfl (Light.quiet (kFldC (p := 3) hS (j := 0) rfl hm38 rfl fieldA_73_3 rfl)) ?_
      refine ASL.n rfl rfl (hStF (f := TEdge.av) (g := (fun q : TEdge => { q with good := (decide (((Int.tmod ((W (((W (((W (x1_l0 + 1))) + 1))) + 1))) 3)) = 0)) })) (p := 3) hS (j := 0) rfl hm38 rfl sizeA_4 rfl rfl (fun _ => ⟨_, rfl, nlt rfl, rfl⟩) rfl ?_); rintro G15 hS
      refine ASL.done ?_
      refine AWP.lastR rfl ?_
      refine ASL.q (v := (.int .i64 (W (((W (((W (x1_l0 + 1))) + 1))) + 1)))) rfl rfl (Light.quiet (opMove rfl rfl)) ?_
      refine ASL.q (v := (.int .i64 (W (((W (((W (((W (x1_l0 + 1))) + 1))) + 1))) + 1)))) rfl rfl (Light.quiet (opInt rfl rfl rfl rfl)) ?_
      refine ASL.q (v := (.int .i64 (W (((W (((W (((W (x1_l0 + 1))) + 1))) + 1))) + 1)))) rfl rfl (Light.quiet (opAssign rfl rfl)) ?_
      refine ASL.done ?_
      refine QBlock.nrm ?_
      refine QThen.nrm ?_
      refine AWP.lastR rfl ?_
      refine ASL.q (v := (.int .i64 x5_l0)) rfl rfl (Light.quiet (opMove rfl rfl)) ?_
      refine ASL.q (v := (.int .i64 (W (x5_l0 + 1)))) rfl rfl (Light.quiet (opInt rfl rfl rfl rfl)) ?_
      refine ASL.q (v := (.int .i64 (W (x5_l0 + 1)))) rfl rfl (Light.quiet (opAssign rfl rfl)) ?_
      refine ASL.done ?_
      refine QThen.nrm ?_
      exact ⟨((((((((y4.set m15 ((fun q : TEdge => { q with from_ := x1_l0 }) (y4.getD m15 default)))).set m22 ((fun q : TEdge => { q with letter := (W (x1_l0 + 1)) }) (((y4.set m15 ((fun q : TEdge => { q with from_ := x1_l0 }) (y4.getD m15 default)))).getD m22 default)))).set m29 ((fun q : TEdge => { q with to_ := (W (((W (x1_l0 + 1))) + 1)) }) (((((y4.set m15 ((fun q : TEdge => { q with from_ := x1_l0 }) (y4.getD m15 default)))).set m22 ((fun q : TEdge => { q with letter := (W (x1_l0 + 1)) }) (((y4.set m15 ((fun q : TEdge => { q with from_ := x1_l0 }) (y4.getD m15 default)))).getD m22 default)))).getD m29 default)))).set m38 ((fun q : TEdge => { q with good := (decide (((Int.tmod ((W (((W (((W (x1_l0 + 1))) + 1))) + 1))) 3)) = 0)) }) (((((((y4.set m15 ((fun q : TEdge => { q with from_ := x1_l0 }) (y4.getD m15 default)))).set m22 ((fun q : TEdge => { q with letter := (W (x1_l0 + 1)) }) (((y4.set m15 ((fun q : TEdge => { q with from_ := x1_l0 }) (y4.getD m15 default)))).getD m22 default)))).set m29 ((fun q : TEdge => { q with to_ := (W (((W (x1_l0 + 1))) + 1)) }) (((((y4.set m15 ((fun q : TEdge => { q with from_ := x1_l0 }) (y4.getD m15 default)))).set m22 ((fun q : TEdge => { q with letter := (W (x1_l0 + 1)) }) (((y4.set m15 ((fun q : TEdge => { q with from_ := x1_l0 }) (y4.getD m15 default)))).getD m22 default)))).getD m29 default)))).getD m38 default))), (W (((W (((W (((W (x1_l0 + 1))) + 1))) + 1))) + 1)), (W (x5_l0 + 1))), (), (someE hF).symm, ⟨rfl, rfl, rfl, trivial⟩, (hS.pick [0, 1] rfl rfl)⟩
    · skip
      refine AWP.exit ?_
      refine QThen.ext ?_
      refine QThen.ext ?_
      refine QBlock.hit ?_
      obtain rfl := (hx6 _ (someE hF).symm)
      have hF := hR9
      refine QThen.nrm ?_
      exact ⟨x1_l0, y4, ⟨rfl, trivial⟩, (hS.pick [0, 1] rfl rfl), hF⟩

set_option maxRecDepth 10000 in
theorem laws_markAuto_ok {p0 : TAuto} {p1 : Int} {r : (Int × TAuto)} {vp0_Edges : AV} (hF : laws_markAuto p0 p1 = some r) : HS Try.prog 12 [(.agg [(.int .i64 p0.letters), (.int .i64 p0.states), (.int .i64 p0.start), vp0_Edges]), (.int .i64 p1)] [.row 4 vp0_Edges (List.map TEdge.av p0.edges)] fun v L' => v = (.int .i64 r.1) ∧ L' = [.row 4 vp0_Edges (List.map TEdge.av r.2.edges)] := by
  intro H S hS
  refine HC.enter Try.func12 rfl Try.ntmps12 (by simp) ?_
  simp only [List.cons_append, List.nil_append] at hS
  unfold laws_markAuto at hF
  refine AWP.seqR rfl ?_
  refine ASL.x rfl rfl (hBox hS rfl rfl rfl ?_); rintro b2 G2 hK hS
  refine ASL.q (v := (.int .i64 0)) rfl rfl (Light.quiet (opAssign rfl rfl)) ?_
  refine ASL.done ?_
  refine AWP.seqR rfl ?_
  refine ASL.q (v := (.ptr b2 3)) rfl rfl (Light.quiet (opFieldAddr rfl fieldA_33_3 rfl rfl)) ?_
  refine ASL.q (v := vp0_Edges) rfl rfl (Light.quiet (kAt hS (j := 0) rfl rfl aggA_31 rfl rfl)) ?_
  refine ASL.q (v := (.int .i64 p1)) rfl rfl (Light.quiet (opMove rfl rfl)) ?_
  obtain ⟨a8, ha8, hF⟩ := bindE hF
  refine ASL.x rfl rfl (hCallS hS [1, 0, 2] (F := [.cell b2 [(.int .i64 p0.letters), (.int .i64 p0.states), (.int .i64 p0.start), vp0_Edges], .snap S]) rfl rfl rfl call_36 (laws_markEdgeS_ok ha8) rfl rfl ?_); rintro _ _ G4 ⟨rfl, rfl⟩ hS
  refine ASL.q (v := (.int .i64 a8.1)) rfl rfl (Light.quiet (opAssign rfl rfl)) ?_
  refine ASL.done ?_
  refine AWP.seqR rfl ?_
  refine ASL.q (v := (.int .i64 a8.1)) rfl rfl (Light.quiet (opMove rfl rfl)) ?_
  refine ASL.q (v := (.int .i64 a8.1)) rfl rfl (Light.quiet (opAssign rfl rfl)) ?_
  refine ASL.done ?_
  refine AWP.ret ?_
  obtain rfl := someE hF
  exact QRet.sole (v := (.int .i64 a8.1)) ⟨rfl, trivial⟩ ⟨_, ⟨rfl, rfl⟩, hS.pick [0, 2] rfl rfl⟩

set_option maxRecDepth 10000 in
theorem laws_markIntS_ok {p0 : (List Int)} {p1 : Int} {r : (Int × (List Int))} {vp0 : AV} (hF : laws_markIntS p0 p1 = some r) : HS Try.prog 37 [vp0, (.int .i64 p1)] [.row 1 vp0 (List.map (AV.int .i64) p0)] fun v L' => v = (.int .i64 r.1) ∧ L' = [.row 1 vp0 (List.map (AV.int .i64) r.2)] := by
  intro H S hS
  refine HC.enter Try.func37 rfl Try.ntmps37 (by simp) ?_
  simp only [List.cons_append, List.nil_append] at hS
  unfold laws_markIntS at hF
  refine AWP.seqR rfl ?_
  refine ASL.q (v := (.int .i64 0)) rfl rfl (Light.quiet (opAssign rfl rfl)) ?_
  refine ASL.done ?_
  refine AWP.seqM (fun e H => ∃ x1_1 : Int, ∃ y2 : (List Int), E.Told e [(1, (.int .i64 x1_1))] ∧ E.Sep H [.row 1 vp0 (List.map (AV.int .i64) y2), .snap S] ∧ laws_markIntS.k0 x1_1 y2 = some r) ?_ ?_
  · rintro e0 G3 ⟨x1_1, y2, hT, hS, hF⟩; refine AWP.only _ hT ?_; unfold laws_markIntS.k0 at hF
    refine AWP.seqR rfl ?_
    refine ASL.q (v := (.int .i64 x1_1)) rfl rfl (Light.quiet (opMove rfl rfl)) ?_
    refine ASL.q (v := (.int .i64 x1_1)) rfl rfl (Light.quiet (opAssign rfl rfl)) ?_
    refine ASL.done ?_
    refine AWP.ret ?_
    obtain rfl := someE hF
    exact QRet.sole (v := (.int .i64 x1_1)) ⟨rfl, trivial⟩ ⟨_, ⟨rfl, rfl⟩, hS.pick [0, 1] rfl rfl⟩
  · skip
    refine AWP.seqR rfl ?_
    refine ASL.q (v := (.int .i64 0)) rfl rfl (Light.quiet (opAssign rfl rfl)) ?_
    refine ASL.done ?_
    refine AWP.block ?_
    obtain ⟨o8, hL7, hR9⟩ := bindE hF
    refine AWP.loopF (ω := Unit) hL7 (fun s w => [(0, vp0), (1, (.int .i64 s.2.1)), (5, (.int .i64 s.2.2))]) (fun s w => [.row 1 vp0 (List.map (AV.int .i64) s.1), .snap S]) () ⟨rfl, rfl, rfl, trivial⟩ (hS.pick [0, 1] rfl rfl) ?_
    rintro ⟨y4, x1_l0, x5_l0⟩ _ G10 hS x5 hF hx6
    try dsimp only at hS ⊢
    have hF : laws_markIntS.b0 y4 x1_l0 x5_l0 = some x5 := hF; unfold laws_markIntS.b0 at hF
    refine AWP.seq ?_
    refine AWP.seqR rfl ?_
    refine ASL.q (v := (.int .i64 x5_l0)) rfl rfl (Light.quiet (opMove rfl rfl)) ?_
    refine ASL.q (v := vp0) rfl rfl (Light.quiet (opMove rfl rfl)) ?_
    refine ASL.q (v := (.int .i64 (y4.length : Int))) rfl rfl (Light.quiet (kLen hS (j := 0) rfl rfl rfl rfl lenT_26 rfl)) ?_
    refine ASL.q (v := (.bool (decide (x5_l0 < ((y4.length : Int)))))) rfl rfl (Light.quiet (opInt rfl rfl rfl rfl)) ?_
    refine ASL.done ?_
    refine AWP.ifP hF rfl (fun hc11 hF => ?_) (fun hc11 hF => ?_)
    · skip
      refine AWP.skip ?_
      refine QThen.nrm ?_
      refine AWP.seq ?_
      refine AWP.block ?_
      refine AWP.seqR rfl ?_
      refine ASL.q (v := vp0) rfl rfl (Light.quiet (opMove rfl rfl)) ?_
      refine ASL.q (v := (.int .i64 x5_l0)) rfl rfl (Light.quiet (opMove rfl rfl)) ?_
      refine ASL.q (v := (.int .i64 x1_l0)) rfl rfl (Light.quiet (opMove rfl rfl)) ?_
      obtain ⟨m15, hm15, hF⟩ := bindE hF
      refine ASL.q (v := (ptrTo vp0 m15 1)) rfl rfl (Light.quiet (kIxO hS (j := 0) rfl hm15 rfl rfl rfl elemA_26 sizeA_3)) ?_
      refine ASL.n rfl rfl (hSt (f := (AV.int .i64)) (a := x1_l0) hS (j := 0) rfl hm15 rfl sizeA_3 rfl rfl ⟨rfl, rfl, rfl⟩ ?_); rintro G12 hS
      refine ASL.done ?_
      refine AWP.lastR rfl ?_
      refine ASL.q (v := (.int .i64 x1_l0)) rfl rfl (Light.quiet (opMove rfl rfl)) ?_
      refine ASL.q (v := (.int .i64 (W (x1_l0 + 1)))) rfl rfl (Light.quiet (opInt rfl rfl rfl rfl)) ?_
      refine ASL.q (v := (.int .i64 (W (x1_l0 + 1)))) rfl rfl (Light.quiet (opAssign rfl rfl)) ?_
      refine ASL.done ?_
      refine QBlock.nrm ?_
      refine QThen.nrm ?_
      refine AWP.lastR rfl ?_
      refine ASL.q (v := (.int .i64 x5_l0)) rfl rfl (Light.quiet (opMove rfl rfl)) ?_
      refine ASL.q (v := (.int .i64 (W (x5_l0 + 1)))) rfl rfl (Light.quiet (opInt rfl rfl rfl rfl)) ?_
      refine ASL.q (v := (.int .i64 (W (x5_l0 + 1)))) rfl rfl (Light.quiet (opAssign rfl rfl)) ?_
      refine ASL.done ?_
      refine QThen.nrm ?_
      exact ⟨((y4.set m15 x1_l0), (W (x1_l0 + 1)), (W (x5_l0 + 1))), (), (someE hF).symm, ⟨rfl, rfl, rfl, trivial⟩, (hS.pick [0, 1] rfl rfl)⟩
    · skip
      refine AWP.exit ?_
      refine QThen.ext ?_
      refine QThen.ext ?_
      refine QBlock.hit ?_
      obtain rfl := (hx6 _ (someE hF).symm)
      have hF := hR9
      refine QThen.nrm ?_
      exact ⟨x1_l0, y4, ⟨rfl, trivial⟩, (hS.pick [0, 1] rfl rfl), hF⟩

set_option maxRecDepth 10000 in
theorem laws_markRankState_ok {p0 : TRankState} {p1 : Int} {r : (Int × TRankState)} {vp0_Ranks : AV} (hF : laws_markRankState p0 p1 = some r) : HS Try.prog 13 [(.agg [vp0_Ranks, (.int .i64 p0.owing)]), (.int .i64 p1)] [.row 1 vp0_Ranks (List.map (AV.int .i64) p0.ranks)] fun v L' => v = (.int .i64 r.1) ∧ L' = [.row 1 vp0_Ranks (List.map (AV.int .i64) r.2.ranks)] := by
  intro H S hS
  refine HC.enter Try.func13 rfl Try.ntmps13 (by simp) ?_
  simp only [List.cons_append, List.nil_append] at hS
  unfold laws_markRankState at hF
  refine AWP.seqR rfl ?_
  refine ASL.x rfl rfl (hBox hS rfl rfl rfl ?_); rintro b2 G2 hK hS
  refine ASL.q (v := (.int .i64 0)) rfl rfl (Light.quiet (opAssign rfl rfl)) ?_
  refine ASL.done ?_
  refine AWP.seqR rfl ?_
  refine ASL.q (v := (.ptr b2 0)) rfl rfl (Light.quiet (opFieldAddr rfl fieldA_28_0 rfl rfl)) ?_
  refine ASL.q (v := vp0_Ranks) rfl rfl (Light.quiet (kAt hS (j := 0) rfl rfl aggA_26 rfl rfl)) ?_
  refine ASL.q (v := (.int .i64 p1)) rfl rfl (Light.quiet (opMove rfl rfl)) ?_
  obtain ⟨a8, ha8, hF⟩ := bindE hF
  refine ASL.x rfl rfl (hCallS hS [1, 0, 2] (F := [.cell b2 [vp0_Ranks, (.int .i64 p0.owing)], .snap S]) rfl rfl rfl call_37 (laws_markIntS_ok ha8) rfl rfl ?_); rintro _ _ G4 ⟨rfl, rfl⟩ hS
  refine ASL.q (v := (.int .i64 a8.1)) rfl rfl (Light.quiet (opAssign rfl rfl)) ?_
  refine ASL.done ?_
  refine AWP.seqR rfl ?_
  refine ASL.q (v := (.int .i64 a8.1)) rfl rfl (Light.quiet (opMove rfl rfl)) ?_
  refine ASL.q (v := (.int .i64 a8.1)) rfl rfl (Light.quiet (opAssign rfl rfl)) ?_
  refine ASL.done ?_
  refine AWP.ret ?_
  obtain rfl := someE hF
  exact QRet.sole (v := (.int .i64 a8.1)) ⟨rfl, trivial⟩ ⟨_, ⟨rfl, rfl⟩, hS.pick [0, 2] rfl rfl⟩

set_option maxRecDepth 10000 in
theorem laws_heldIntS_ok {p0 : (List Int)} {p1 : Int} {r : Int} (hF : laws_heldIntS p0 p1 = some r) : PC Try.prog 38 [(.list 1 (List.map (AV.int .i64) p0)), (.int .i64 p1)] fun v => v = (.int .i64 r) := by
  refine PC.enter Try.func38 rfl Try.ntmps38 (by simp) ?_
  have hS := Sep.void; unfold laws_heldIntS at hF
  refine AWP.seqR rfl ?_
  refine ASL.q (v := (.int .i64 0)) rfl rfl (Light.quiet (opAssign rfl rfl)) ?_
  refine ASL.done ?_
  refine AWP.seqM (fun e H => ∃ x1_1 : Int, E.Told e [(1, (.int .i64 x1_1))] ∧ E.Sep H [] ∧ laws_heldIntS.k0 x1_1 = some r) ?_ ?_
  · rintro e0 G1 ⟨x1_1, hT, hS, hF⟩; refine AWP.only _ hT ?_; unfold laws_heldIntS.k0 at hF
    refine AWP.seqR rfl ?_
    refine ASL.q (v := (.int .i64 x1_1)) rfl rfl (Light.quiet (opMove rfl rfl)) ?_
    refine ASL.q (v := (.int .i64 x1_1)) rfl rfl (Light.quiet (opAssign rfl rfl)) ?_
    refine ASL.done ?_
    refine AWP.ret ?_
    obtain rfl := someE hF
    exact QRet.sole (v := (.int .i64 x1_1)) ⟨rfl, trivial⟩ rfl
  · skip
    refine AWP.seqR rfl ?_
    refine ASL.q (v := (.int .i64 0)) rfl rfl (Light.quiet (opAssign rfl rfl)) ?_
    refine ASL.done ?_
    refine AWP.block ?_
    obtain ⟨o5, hL4, hR6⟩ := bindE hF
    refine AWP.loopF (ω := Unit) hL4 (fun s w => [(0, (.list 1 (List.map (AV.int .i64) p0))), (1, (.int .i64 s.1)), (5, (.int .i64 s.2))]) (fun s w => []) () ⟨rfl, rfl, rfl, trivial⟩ (hS.pick [] rfl rfl) ?_
    rintro ⟨x1_l0, x5_l0⟩ _ G7 hS x2 hF hx3
    try dsimp only at hS ⊢
    have hF : laws_heldIntS.b0 p0 x1_l0 x5_l0 = some x2 := hF; unfold laws_heldIntS.b0 at hF
    refine AWP.seq ?_
    refine AWP.seqR rfl ?_
    refine ASL.q (v := (.int .i64 x5_l0)) rfl rfl (Light.quiet (opMove rfl rfl)) ?_
    refine ASL.q (v := (.list 1 (List.map (AV.int .i64) p0))) rfl rfl (Light.quiet (opMove rfl rfl)) ?_
    refine ASL.q (v := (.int .i64 (p0.length : Int))) rfl rfl (Light.quiet (opLenMap (f := (AV.int .i64)) rfl rfl rfl lenT_26 rfl)) ?_
    refine ASL.q (v := (.bool (decide (x5_l0 < ((p0.length : Int)))))) rfl rfl (Light.quiet (opInt rfl rfl rfl rfl)) ?_
    refine ASL.done ?_
    refine AWP.ifP hF rfl (fun hc8 hF => ?_) (fun hc8 hF => ?_)
    · skip
      refine AWP.skip ?_
      refine QThen.nrm ?_
      refine AWP.seq ?_
      refine AWP.block ?_
      refine AWP.seq ?_
      refine AWP.seqR rfl ?_
      refine ASL.q (v := (.list 1 (List.map (AV.int .i64) p0))) rfl rfl (Light.quiet (opMove rfl rfl)) ?_
      refine ASL.q (v := (.int .i64 x5_l0)) rfl rfl (Light.quiet (opMove rfl rfl)) ?_
      obtain ⟨a14, ha14, hF⟩ := bindE hF
      refine ASL.q (v := (.rptr [(.int .i64 a14)])) rfl rfl (Light.quiet (kIx (f := (AV.int .i64)) ha14 rfl rfl rfl elemA_26 sizeA_3 rfl)) ?_
      refine ASL.q (v := (.int .i64 a14)) rfl rfl (Light.quiet (opLoadR rfl aggA_3 rfl rfl)) ?_
      refine ASL.q (v := (.int .i64 x1_l0)) rfl rfl (Light.quiet (opMove rfl rfl)) ?_
      refine ASL.q (v := (.bool (decide (a14 ≠ x1_l0)))) rfl rfl (Light.quiet (opInt rfl rfl rfl rfl)) ?_
      refine ASL.done ?_
      refine AWP.ifP hF rfl (fun hc9 hF => ?_) (fun hc9 hF => ?_)
      · skip
        refine AWP.seqR rfl ?_
        refine ASL.q (v := (.int .i64 (-1))) rfl rfl (Light.quiet (opAssign rfl rfl)) ?_
        refine ASL.done ?_
        refine AWP.ret ?_
        refine QThen.rt ?_
        refine QBlock.ret ?_
        refine QThen.rt ?_
        refine QThen.rt ?_
        refine QBlock.ret ?_
        refine QThen.rt ?_
        obtain rfl := (hx3 _ (someE hF).symm)
        have hF := hR6
        have hF := sumR hF
        obtain rfl := someE hF
        exact QRet.sole (v := (.int .i64 (-1))) ⟨rfl, trivial⟩ rfl
      · skip
        refine AWP.skip ?_
        refine QThen.nrm ?_
        refine AWP.lastR rfl ?_
        refine ASL.q (v := (.int .i64 x1_l0)) rfl rfl (Light.quiet (opMove rfl rfl)) ?_
        refine ASL.q (v := (.int .i64 (W (x1_l0 + 1)))) rfl rfl (Light.quiet (opInt rfl rfl rfl rfl)) ?_
        refine ASL.q (v := (.int .i64 (W (x1_l0 + 1)))) rfl rfl (Light.quiet (opAssign rfl rfl)) ?_
        refine ASL.done ?_
        refine QBlock.nrm ?_
        refine QThen.nrm ?_
        refine AWP.lastR rfl ?_
        refine ASL.q (v := (.int .i64 x5_l0)) rfl rfl (Light.quiet (opMove rfl rfl)) ?_
        refine ASL.q (v := (.int .i64 (W (x5_l0 + 1)))) rfl rfl (Light.quiet (opInt rfl rfl rfl rfl)) ?_
        refine ASL.q (v := (.int .i64 (W (x5_l0 + 1)))) rfl rfl (Light.quiet (opAssign rfl rfl)) ?_
        refine ASL.done ?_
        refine QThen.nrm ?_
        exact ⟨((W (x1_l0 + 1)), (W (x5_l0 + 1))), (), (someE hF).symm, ⟨rfl, rfl, rfl, trivial⟩, (hS.pick [] rfl rfl)⟩
    · skip
      refine AWP.exit ?_
      refine QThen.ext ?_
      refine QThen.ext ?_
      refine QBlock.hit ?_
      obtain rfl := (hx3 _ (someE hF).symm)
      have hF := hR6
      have hF := sumL hF
      refine QThen.nrm ?_
      exact ⟨x1_l0, ⟨rfl, trivial⟩, (hS.pick [] rfl rfl), hF⟩

set_option maxRecDepth 10000 in
theorem laws_heldRankState_ok {p0 : TRankState} {p1 : Int} {r : Int} (hF : laws_heldRankState p0 p1 = some r) : PC Try.prog 14 [(TRankState.av p0), (.int .i64 p1)] fun v => v = (.int .i64 r) := by
  refine PC.enter Try.func14 rfl Try.ntmps14 (by simp) ?_
  have hS := Sep.void; unfold laws_heldRankState at hF
  refine AWP.seqR rfl ?_
  refine ASL.q (v := (.rptr [(.list 1 (List.map (AV.int .i64) p0.ranks)), (.int .i64 p0.owing)])) rfl rfl ((qBoxI (v := (TRankState.av p0)) rfl rfl rfl rfl)) ?_
  refine ASL.q (v := (.int .i64 0)) rfl rfl (Light.quiet (opAssign rfl rfl)) ?_
  refine ASL.done ?_
  refine AWP.seqR rfl ?_
  refine ASL.q (v := (.rptr [(.list 1 (List.map (AV.int .i64) p0.ranks)), (.int .i64 p0.owing)])) rfl rfl (Light.quiet (opFieldAddrR rfl fieldA_28_0 rfl rfl)) ?_
  refine ASL.q (v := (.list 1 (List.map (AV.int .i64) p0.ranks))) rfl rfl (Light.quiet (opLoadR rfl aggA_26 rfl rfl)) ?_
  refine ASL.q (v := (.int .i64 p1)) rfl rfl (Light.quiet (opMove rfl rfl)) ?_
  obtain ⟨a8, ha8, hF⟩ := bindE hF
  refine ASL.q (v := (.int .i64 a8)) rfl rfl ((qCall rfl rfl call_38 (laws_heldIntS_ok ha8) rfl)) ?_
  refine ASL.q (v := (.int .i64 a8)) rfl rfl (Light.quiet (opAssign rfl rfl)) ?_
  refine ASL.done ?_
  refine AWP.seq ?_
  refine AWP.seqR rfl ?_
  refine ASL.q (v := (.int .i64 a8)) rfl rfl (Light.quiet (opMove rfl rfl)) ?_
  refine ASL.q (v := (.bool (decide (a8 < 0)))) rfl rfl (Light.quiet (opInt rfl rfl rfl rfl)) ?_
  refine ASL.done ?_
  refine AWP.ifP hF rfl (fun hc1 hF => ?_) (fun hc1 hF => ?_)
  · skip
    refine AWP.seqR rfl ?_
    refine ASL.q (v := (.int .i64 (-1))) rfl rfl (Light.quiet (opAssign rfl rfl)) ?_
    refine ASL.done ?_
    refine AWP.ret ?_
    refine QThen.rt ?_
    obtain rfl := someE hF
    exact QRet.sole (v := (.int .i64 (-1))) ⟨rfl, trivial⟩ rfl
  · skip
    refine AWP.skip ?_
    refine QThen.nrm ?_
    refine AWP.seqR rfl ?_
    refine ASL.q (v := (.int .i64 a8)) rfl rfl (Light.quiet (opMove rfl rfl)) ?_
    refine ASL.q (v := (.int .i64 a8)) rfl rfl (Light.quiet (opAssign rfl rfl)) ?_
    refine ASL.done ?_
    refine AWP.ret ?_
    obtain rfl := someE hF
    exact QRet.sole (v := (.int .i64 a8)) ⟨rfl, trivial⟩ rfl

set_option maxRecDepth 10000 in
theorem laws_FnExactRankStart_ok {p0 : TAuto} {r : Bool} (hF : laws_FnExactRankStart p0 = some r) : PC Try.prog 3 [(TAuto.av p0)] fun v => v = (.bool r) := by
  refine PC.enter Try.func3 rfl Try.ntmps3 (by simp) ?_
  have hS := Sep.void; unfold laws_FnExactRankStart at hF
  refine AWP.seqR rfl ?_
  refine ASL.q (v := (.rptr [(.int .i64 p0.letters), (.int .i64 p0.states), (.int .i64 p0.start), (.list 4 (List.map TEdge.av p0.edges))])) rfl rfl ((qBoxI (v := (TAuto.av p0)) rfl rfl rfl rfl)) ?_
  refine ASL.q (v := (.bool false)) rfl rfl (Light.quiet (opAssign rfl rfl)) ?_
  refine ASL.done ?_
  refine AWP.seqR rfl ?_
  refine ASL.q (v := (.int .i64 1048576)) rfl rfl (Light.quiet (opAssign rfl rfl)) ?_
  refine ASL.done ?_
  refine AWP.seqR rfl ?_
  refine ASL.q (v := (TAuto.av p0)) rfl rfl (Light.quiet (opLoadRA rfl aggA_24 sizeA_24 rfl (nlt rfl) rfl)) ?_
  refine ASL.q (v := (.int .i64 1048576)) rfl rfl (Light.quiet (opMove rfl rfl)) ?_
  refine ASL.q (v := (.int .i64 (laws_szAuto p0 1048576))) rfl rfl ((qCall rfl rfl call_6 (laws_szAuto_ok p0 1048576) rfl)) ?_
  refine ASL.q (v := (.int .i64 (laws_szAuto p0 1048576))) rfl rfl (Light.quiet (opAssign rfl rfl)) ?_
  refine ASL.done ?_
  refine AWP.seq ?_
  refine AWP.seqR rfl ?_
  refine ASL.q (v := (.int .i64 (laws_szAuto p0 1048576))) rfl rfl (Light.quiet (opMove rfl rfl)) ?_
  refine ASL.q (v := (.bool (decide (((laws_szAuto p0 1048576)) < 0)))) rfl rfl (Light.quiet (opInt rfl rfl rfl rfl)) ?_
  refine ASL.done ?_
  refine AWP.ifP hF rfl (fun hc1 hF => ?_) (fun hc1 hF => ?_)
  · skip
    refine AWP.seqR rfl ?_
    refine ASL.q (v := (.bool true)) rfl rfl (Light.quiet (opAssign rfl rfl)) ?_
    refine ASL.done ?_
    refine AWP.ret ?_
    refine QThen.rt ?_
    obtain rfl := someE hF
    exact QRet.sole (v := (.bool true)) ⟨rfl, trivial⟩ rfl
  · skip
    refine AWP.skip ?_
    refine QThen.nrm ?_
    refine AWP.seqR rfl ?_
    refine ASL.q (v := (TAuto.av p0)) rfl rfl (Light.quiet (opLoadRA rfl aggA_24 sizeA_24 rfl (nlt rfl) rfl)) ?_
    obtain ⟨a21, ha21, hF⟩ := bindE hF
    refine ASL.x rfl rfl (hCallSR hS rfl rfl call_8 (laws_toAuto_ok ha21) ⟨.same _, trivial⟩ (by rintro _ _ G ⟨w2, rfl, rfl⟩ hG; exact ⟨(Scal.agg (ScalC.cons (by constructor) (ScalC.cons (by constructor) (ScalC.cons (by constructor) (ScalC.cons (hG.scR (k := 0) rfl) ScalC.nil))))), ⟨(Scal.row (fun _ => by simp only [TEdge.av, cells, List.mem_cons, List.not_mem_nil, or_false]; rintro c hc; rcases hc with rfl | rfl | rfl | rfl <;> constructor)), trivial⟩⟩) ?_); rintro _ _ G4 ⟨w2, rfl, rfl⟩ hK hS
    obtain ⟨a22, ha22, hF⟩ := bindE hF
    refine ASL.x rfl rfl (hCallSR hS rfl rfl call_7 (spec_RankStart_ok ha22) ⟨.aggL ⟨.same _, .same _, .same _, .row (k := 0) rfl, trivial⟩, trivial⟩ (by rintro _ _ G ⟨w5, rfl, rfl⟩ hG; exact ⟨(Scal.tup (ScalC.cons (Scal.agg (ScalC.cons (hG.scR (k := 0) rfl) (ScalC.cons (by constructor) ScalC.nil))) (ScalC.cons (by constructor) ScalC.nil))), ⟨(Scal.ints _ _), trivial⟩⟩) ?_); rintro _ _ G7 ⟨w5, rfl, rfl⟩ hK hS
    refine ASL.q (v := (.tup [(.agg [w5, (.int .i64 a22.1.owing)]), (.bool a22.2)])) rfl rfl (Light.quiet (opMove rfl rfl)) ?_
    refine ASL.q (v := (.agg [w5, (.int .i64 a22.1.owing)])) rfl rfl (Light.quiet (opExtract rfl rfl rfl)) ?_
    refine ASL.q (v := (.bool a22.2)) rfl rfl (Light.quiet (opExtract rfl rfl rfl)) ?_
    refine ASL.x rfl rfl (hNewZ hS [(.list 1 (List.map (AV.int .i64) [])), (.int .i64 0)] rfl zeroA_28 ⟨.inr ⟨_, rfl, rfl⟩, .inl rfl, trivial⟩ ?_); rintro b4 G8 hK hS
    refine ASL.n rfl rfl (hPutA hS (j := 0) rfl rfl sizeA_28 rfl rfl rfl rfl (allC (hS.one (k := 1) rfl) (allC rfl rfl)) (nlt rfl) ?_); rintro G10 hS
    refine ASL.q (v := (.bool a22.2)) rfl rfl (Light.quiet (opAssign rfl rfl)) ?_
    refine ASL.done ?_
    refine AWP.seqR rfl ?_
    refine ASL.q (v := (TAuto.av p0)) rfl rfl (Light.quiet (opLoadRA rfl aggA_24 sizeA_24 rfl (nlt rfl) rfl)) ?_
    obtain ⟨a26, ha26, hF⟩ := bindE hF
    refine ASL.x rfl rfl (hCallSR hS rfl rfl call_8 (laws_toAuto_ok ha26) ⟨.same _, trivial⟩ (by rintro _ _ G ⟨w11, rfl, rfl⟩ hG; exact ⟨(Scal.agg (ScalC.cons (by constructor) (ScalC.cons (by constructor) (ScalC.cons (by constructor) (ScalC.cons (hG.scR (k := 0) rfl) ScalC.nil))))), ⟨(Scal.row (fun _ => by simp only [TEdge.av, cells, List.mem_cons, List.not_mem_nil, or_false]; rintro c hc; rcases hc with rfl | rfl | rfl | rfl <;> constructor)), trivial⟩⟩) ?_); rintro _ _ G13 ⟨w11, rfl, rfl⟩ hK hS
    have hS := hNil (s := 4) (f := TEdge.av) hS
    refine ASL.x rfl rfl (hNewZ hS [(.int .i64 0), (.int .i64 0), (.int .i64 0), .nil] rfl zeroA_33 ⟨.inl rfl, .inl rfl, .inl rfl, .inl rfl, trivial⟩ ?_); rintro b6 G14 hK hS
    refine ASL.n rfl rfl (hPutA hS (j := 0) rfl rfl sizeA_33 rfl rfl rfl rfl (allC rfl (allC rfl (allC rfl (allC (hS.one (k := 2) rfl) rfl)))) (nlt rfl) ?_); rintro G17 hS
    refine ASL.done ?_
    refine AWP.seqR rfl ?_
    refine ASL.q (v := (.agg [(.int .i64 a26.letters), (.int .i64 a26.states), (.int .i64 a26.start), w11])) rfl rfl (Light.quiet (kAtA hS (j := 0) rfl rfl aggA_33 sizeA_33 rfl (nlt rfl) rfl)) ?_
    obtain ⟨a29, ha29, hF⟩ := bindE hF
    refine ASL.x rfl rfl (hCallSR hS rfl rfl call_9 (impl_RankStart_ok ha29) ⟨.aggL ⟨.same _, .same _, .same _, .row (k := 2) rfl, trivial⟩, trivial⟩ (by rintro _ _ G ⟨w18, rfl, rfl⟩ hG; exact ⟨(Scal.tup (ScalC.cons (Scal.agg (ScalC.cons (hG.scR (k := 0) rfl) (ScalC.cons (by constructor) ScalC.nil))) (ScalC.cons (by constructor) ScalC.nil))), ⟨(Scal.ints _ _), trivial⟩⟩) ?_); rintro _ _ G20 ⟨w18, rfl, rfl⟩ hK hS
    refine ASL.q (v := (.tup [(.agg [w18, (.int .i64 a29.1.owing)]), (.bool a29.2)])) rfl rfl (Light.quiet (opMove rfl rfl)) ?_
    refine ASL.q (v := (.agg [w18, (.int .i64 a29.1.owing)])) rfl rfl (Light.quiet (opExtract rfl rfl rfl)) ?_
    refine ASL.q (v := (.bool a29.2)) rfl rfl (Light.quiet (opExtract rfl rfl rfl)) ?_
    have hS := hNil (s := 1) (f := (AV.int .i64)) hS
    refine ASL.x rfl rfl (hNewZ hS [.nil, (.int .i64 0)] rfl zeroA_28 ⟨.inl rfl, .inl rfl, trivial⟩ ?_); rintro b7 G21 hK hS
    refine ASL.n rfl rfl (hPutA hS (j := 0) rfl rfl sizeA_28 rfl rfl rfl rfl (allC (hS.one (k := 2) rfl) (allC rfl rfl)) (nlt rfl) ?_); rintro G24 hS
    refine ASL.q (v := (.bool a29.2)) rfl rfl (Light.quiet (opAssign rfl rfl)) ?_
    refine ASL.done ?_
    refine AWP.seq ?_
    refine AWP.seqR rfl ?_
    refine ASL.q (v := (.agg [w18, (.int .i64 a29.1.owing)])) rfl rfl (Light.quiet (kAtA hS (j := 0) rfl rfl aggA_28 sizeA_28 rfl (nlt rfl) rfl)) ?_
    refine ASL.q (v := (.agg [w5, (.int .i64 a22.1.owing)])) rfl rfl (Light.quiet (kAtA hS (j := 6) rfl rfl aggA_28 sizeA_28 rfl (nlt rfl) rfl)) ?_
    obtain ⟨a34, ha34, hF⟩ := bindE hF
    refine ASL.q (v := (.bool a34)) rfl rfl ((qCallR hS rfl rfl call_10 (laws_eqRankState_ok ha34) ⟨.aggL ⟨.row (k := 2) rfl, .same _, trivial⟩, .aggL ⟨.row (k := 7) rfl, .same _, trivial⟩, trivial⟩ (by constructor))) ?_
    refine ASL.q (v := (.bool (!a34))) rfl rfl (Light.quiet (opNot rfl rfl)) ?_
    obtain ⟨c36, hc36, hF⟩ := bndE hF
    refine ASL.q (v := (.bool c36)) rfl rfl ((Quiet.cast (Light.quiet (opMove rfl rfl)) (congrArg AV.bool hc36.symm))) ?_
    refine ASL.g (v := (.bool a29.2)) (.bool c36) false rfl (wF _) rfl (fun hG => by have q0 := gN hG; subst q0; exact Light.quiet (opMove rfl rfl)) ?_
    refine ASL.g (v := (.bool a22.2)) (.bool c36) false rfl (wF _) rfl (fun hG => by have q0 := gN hG; subst q0; exact Light.quiet (opMove rfl rfl)) ?_
    refine ASL.g (v := (.bool (!(a29.2 == a22.2)))) (.bool c36) false rfl (wF _) rfl (fun hG => by have q0 := gN hG; subst q0; exact Light.quiet (opBoolEq rfl rfl rfl und_4 rfl)) ?_
    refine ASL.q (v := (.bool (c36 || (!(a29.2 == a22.2))))) rfl rfl (Light.quiet (opPick (b := c36) rfl rfl (by cases c36 <;> rfl))) ?_
    refine ASL.done ?_
    refine AWP.ifB hF rfl (fun hc25 hF => ?_) (fun hc25 hF => ?_)
    · skip
      refine AWP.seqR rfl ?_
      refine ASL.q (v := (.bool false)) rfl rfl (Light.quiet (opAssign rfl rfl)) ?_
      refine ASL.done ?_
      refine AWP.ret ?_
      refine QThen.rt ?_
      obtain rfl := someE hF
      exact QRet.sole (v := (.bool false)) ⟨rfl, trivial⟩ rfl
    · skip
      refine AWP.skip ?_
      refine QThen.nrm ?_
      refine AWP.seq ?_
      refine AWP.seqD [(0, false), (1, false), (2, true), (3, false), (4, false)] mixed (by kernel_rfl) rfl ?_
      refine ARL.q (v := (.agg [(.int .i64 a26.letters), (.int .i64 a26.states), (.int .i64 a26.start), w11])) rfl rfl (hS.aliveC (k := 3) rfl) (Light.quiet (kAtA hS (j := 3) rfl rfl aggA_33 sizeA_33 rfl (nlt rfl) rfl)) ?_
      refine ARL.q0 (v := (TAuto.av p0)) rfl rfl (Light.quiet (opLoadRA rfl aggA_24 sizeA_24 rfl (nlt rfl) rfl)) ?_
      obtain ⟨a43, ha43, hF⟩ := bindE hF
      refine ARL.x rfl rfl rfl (hCallSR hS rfl rfl call_8 (laws_toAuto_ok ha43) ⟨.same _, trivial⟩ (by rintro _ _ G ⟨w26, rfl, rfl⟩ hG; exact ⟨(Scal.agg (ScalC.cons (by constructor) (ScalC.cons (by constructor) (ScalC.cons (by constructor) (ScalC.cons (hG.scR (k := 0) rfl) ScalC.nil))))), ⟨(Scal.row (fun _ => by simp only [TEdge.av, cells, List.mem_cons, List.not_mem_nil, or_false]; rintro c hc; rcases hc with rfl | rfl | rfl | rfl <;> constructor)), trivial⟩⟩) ?_); rintro _ _ G28 ⟨w26, rfl, rfl⟩ hK hS; refine ⟨hK, ?_⟩
      obtain ⟨a44, ha44, hF⟩ := bindE hF
      refine ARL.q (v := (.bool a44)) rfl rfl (hS.aliveAll) ((qCallR hS rfl rfl call_11 (laws_eqAuto_ok ha44) ⟨.aggL ⟨.same _, .same _, .same _, .row (k := 6) rfl, trivial⟩, .aggL ⟨.same _, .same _, .same _, .row (k := 0) rfl, trivial⟩, trivial⟩ (by constructor))) ?_
      refine ARL.q0 (v := (.bool (!a44))) rfl rfl (Light.quiet (opNot rfl rfl)) ?_
      refine ARL.done ?_
      refine AWP.ifB hF rfl (fun hc29 hF => ?_) (fun hc29 hF => ?_)
      · skip
        refine AWP.seqR rfl ?_
        refine ASL.q (v := (.bool false)) rfl rfl (Light.quiet (opAssign rfl rfl)) ?_
        refine ASL.done ?_
        refine AWP.ret ?_
        refine QThen.rt ?_
        obtain rfl := someE hF
        exact QRet.sole (v := (.bool false)) ⟨rfl, trivial⟩ rfl
      · skip
        refine AWP.skip ?_
        refine QThen.nrm ?_
        refine AWP.seqR rfl ?_
        refine ASL.q (v := (.int .i64 1)) rfl rfl (Light.quiet (opAssign rfl rfl)) ?_
        refine ASL.done ?_
        refine AWP.seqR rfl ?_
        refine ASL.q (v := (.agg [(.int .i64 a26.letters), (.int .i64 a26.states), (.int .i64 a26.start), w11])) rfl rfl (Light.quiet (kAtA hS (j := 4) rfl rfl aggA_33 sizeA_33 rfl (nlt rfl) rfl)) ?_
        refine ASL.q (v := (.int .i64 1)) rfl rfl (Light.quiet (opMove rfl rfl)) ?_
        obtain ⟨a48, ha48, hF⟩ := bindE hF
        refine ASL.x rfl rfl (hCallS hS [6, 0, 1, 2, 3, 4, 5, 7, 8, 9] (F := [.row 4 w26 (List.map TEdge.av a43.edges), .cell b7 [w18, (.int .i64 a29.1.owing)], .row 1 .nil (List.map (AV.int .i64) ([])), .row 1 w18 (List.map (AV.int .i64) a29.1.ranks), .cell b6 [(.int .i64 a26.letters), (.int .i64 a26.states), (.int .i64 a26.start), w11], .row 4 .nil (List.map TEdge.av ([])), .cell b4 [w5, (.int .i64 a22.1.owing)], .row 1 w5 (List.map (AV.int .i64) a22.1.ranks), .row 4 w2 (List.map TEdge.av a21.edges)]) rfl rfl rfl call_12 (laws_markAuto_ok ha48) rfl rfl ?_); rintro _ _ G30 ⟨rfl, rfl⟩ hS
        refine ASL.q (v := (.int .i64 a48.1)) rfl rfl (Light.quiet (opAssign rfl rfl)) ?_
        refine ASL.done ?_
        refine AWP.seq ?_
        refine AWP.seqR rfl ?_
        refine ASL.q (v := (.int .i64 a48.1)) rfl rfl (Light.quiet (opMove rfl rfl)) ?_
        refine ASL.q (v := (.bool (decide (a48.1 < 0)))) rfl rfl (Light.quiet (opInt rfl rfl rfl rfl)) ?_
        obtain ⟨c51, hc51, hF⟩ := bndE hF
        refine ASL.q (v := (.bool c51)) rfl rfl ((Quiet.cast (Light.quiet (opMove rfl rfl)) (congrArg AV.bool hc51.symm))) ?_
        refine ASL.g (v := (.agg [w18, (.int .i64 a29.1.owing)])) (.bool c51) false rfl (wF _) rfl (fun hG => by have q0 := gN hG; subst q0; exact Light.quiet (kAtA hS (j := 2) rfl rfl aggA_28 sizeA_28 rfl (nlt rfl) rfl)) ?_
        refine ASL.g (v := (.agg [w5, (.int .i64 a22.1.owing)])) (.bool c51) false rfl (wF _) rfl (fun hG => by have q0 := gN hG; subst q0; exact Light.quiet (kAtA hS (j := 7) rfl rfl aggA_28 sizeA_28 rfl (nlt rfl) rfl)) ?_
        obtain ⟨a54, ha54, hF⟩ := bindE hF
        refine ASL.g (v := (.bool a54)) (.bool c51) false rfl (wF _) rfl (fun hG => by have q0 := gN hG; subst q0; exact (qCallR hS rfl rfl call_10 (laws_eqRankState_ok (whenE ha54)) ⟨.aggL ⟨.row (k := 4) rfl, .same _, trivial⟩, .aggL ⟨.row (k := 8) rfl, .same _, trivial⟩, trivial⟩ (by constructor))) ?_
        refine ASL.g (v := (.bool (!a54))) (.bool c51) false rfl (wF _) rfl (fun hG => by have q0 := gN hG; subst q0; exact Light.quiet (opNot rfl rfl)) ?_
        refine ASL.q (v := (.bool (c51 || (!a54)))) rfl rfl (Light.quiet (opPick (b := c51) rfl rfl (by cases c51 <;> rfl))) ?_
        obtain ⟨c57, hc57, hF⟩ := bndE hF
        refine ASL.q (v := (.bool c57)) rfl rfl ((Quiet.cast (Light.quiet (opMove rfl rfl)) (congrArg AV.bool hc57.symm))) ?_
        refine ASL.g (v := (.bool a29.2)) (.bool c57) false rfl (wF _) rfl (fun hG => by have q0 := gN hG; subst q0; exact Light.quiet (opMove rfl rfl)) ?_
        refine ASL.g (v := (.bool a22.2)) (.bool c57) false rfl (wF _) rfl (fun hG => by have q0 := gN hG; subst q0; exact Light.quiet (opMove rfl rfl)) ?_
        refine ASL.g (v := (.bool (!(a29.2 == a22.2)))) (.bool c57) false rfl (wF _) rfl (fun hG => by have q0 := gN hG; subst q0; exact Light.quiet (opBoolEq rfl rfl rfl und_4 rfl)) ?_
        refine ASL.q (v := (.bool (c57 || (!(a29.2 == a22.2))))) rfl rfl (Light.quiet (opPick (b := c57) rfl rfl (by cases c57 <;> rfl))) ?_
        refine ASL.done ?_
        refine AWP.ifB hF rfl (fun hc31 hF => ?_) (fun hc31 hF => ?_)
        · skip
          refine AWP.seqR rfl ?_
          refine ASL.q (v := (.bool false)) rfl rfl (Light.quiet (opAssign rfl rfl)) ?_
          refine ASL.done ?_
          refine AWP.ret ?_
          refine QThen.rt ?_
          obtain rfl := someE hF
          exact QRet.sole (v := (.bool false)) ⟨rfl, trivial⟩ rfl
        · skip
          refine AWP.skip ?_
          refine QThen.nrm ?_
          refine AWP.seqR rfl ?_
          refine ASL.q (v := (.int .i64 1)) rfl rfl (Light.quiet (opAssign rfl rfl)) ?_
          refine ASL.done ?_
          refine AWP.seqR rfl ?_
          refine ASL.q (v := (.agg [w18, (.int .i64 a29.1.owing)])) rfl rfl (Light.quiet (kAtA hS (j := 2) rfl rfl aggA_28 sizeA_28 rfl (nlt rfl) rfl)) ?_
          refine ASL.q (v := (.int .i64 1)) rfl rfl (Light.quiet (opMove rfl rfl)) ?_
          obtain ⟨a64, ha64, hF⟩ := bindE hF
          refine ASL.x rfl rfl (hCallS hS [4, 0, 1, 2, 3, 5, 6, 7, 8, 9] (F := [.row 4 w11 (List.map TEdge.av a48.2.edges), .row 4 w26 (List.map TEdge.av a43.edges), .cell b7 [w18, (.int .i64 a29.1.owing)], .row 1 .nil (List.map (AV.int .i64) ([])), .cell b6 [(.int .i64 a26.letters), (.int .i64 a26.states), (.int .i64 a26.start), w11], .row 4 .nil (List.map TEdge.av ([])), .cell b4 [w5, (.int .i64 a22.1.owing)], .row 1 w5 (List.map (AV.int .i64) a22.1.ranks), .row 4 w2 (List.map TEdge.av a21.edges)]) rfl rfl rfl call_13 (laws_markRankState_ok ha64) rfl rfl ?_); rintro _ _ G32 ⟨rfl, rfl⟩ hS
          refine ASL.q (v := (.int .i64 a64.1)) rfl rfl (Light.quiet (opAssign rfl rfl)) ?_
          refine ASL.done ?_
          refine AWP.seqR rfl ?_
          refine ASL.q (v := (.int .i64 1)) rfl rfl (Light.quiet (opAssign rfl rfl)) ?_
          refine ASL.done ?_
          refine AWP.seqR rfl ?_
          refine ASL.q (v := (.agg [w18, (.int .i64 a29.1.owing)])) rfl rfl (Light.quiet (kAtA hS (j := 3) rfl rfl aggA_28 sizeA_28 rfl (nlt rfl) rfl)) ?_
          refine ASL.q (v := (.int .i64 1)) rfl rfl (Light.quiet (opMove rfl rfl)) ?_
          obtain ⟨a67, ha67, hF⟩ := bindE hF
          refine ASL.q (v := (.int .i64 a67)) rfl rfl ((qCallR hS rfl rfl call_14 (laws_heldRankState_ok ha67) ⟨.aggL ⟨.row (k := 0) rfl, .same _, trivial⟩, .same _, trivial⟩ (by constructor))) ?_
          refine ASL.q (v := (.int .i64 a67)) rfl rfl (Light.quiet (opAssign rfl rfl)) ?_
          refine ASL.done ?_
          refine AWP.seq ?_
          refine AWP.seqR rfl ?_
          refine ASL.q (v := (.int .i64 a67)) rfl rfl (Light.quiet (opMove rfl rfl)) ?_
          refine ASL.q (v := (.bool (decide (a67 < 0)))) rfl rfl (Light.quiet (opInt rfl rfl rfl rfl)) ?_
          refine ASL.done ?_
          refine AWP.ifP hF rfl (fun hc33 hF => ?_) (fun hc33 hF => ?_)
          · skip
            refine AWP.seqR rfl ?_
            refine ASL.q (v := (.bool false)) rfl rfl (Light.quiet (opAssign rfl rfl)) ?_
            refine ASL.done ?_
            refine AWP.ret ?_
            refine QThen.rt ?_
            obtain rfl := someE hF
            exact QRet.sole (v := (.bool false)) ⟨rfl, trivial⟩ rfl
          · skip
            refine AWP.skip ?_
            refine QThen.nrm ?_
            refine AWP.seq ?_
            refine AWP.seqR rfl ?_
            refine ASL.q (v := (.int .i64 a67)) rfl rfl (Light.quiet (opMove rfl rfl)) ?_
            refine ASL.q (v := (.int .i64 a64.1)) rfl rfl (Light.quiet (opMove rfl rfl)) ?_
            refine ASL.q (v := (.bool (decide (a67 ≠ a64.1)))) rfl rfl (Light.quiet (opInt rfl rfl rfl rfl)) ?_
            refine ASL.done ?_
            refine AWP.ifP hF rfl (fun hc34 hF => ?_) (fun hc34 hF => ?_)
            · skip
              refine AWP.seqR rfl ?_
              refine ASL.q (v := (.bool false)) rfl rfl (Light.quiet (opAssign rfl rfl)) ?_
              refine ASL.done ?_
              refine AWP.ret ?_
              refine QThen.rt ?_
              obtain rfl := someE hF
              exact QRet.sole (v := (.bool false)) ⟨rfl, trivial⟩ rfl
            · skip
              refine AWP.skip ?_
              refine QThen.nrm ?_
              refine AWP.seqR rfl ?_
              refine ASL.q (v := (TAuto.av p0)) rfl rfl (Light.quiet (opLoadRA rfl aggA_24 sizeA_24 rfl (nlt rfl) rfl)) ?_
              obtain ⟨a75, ha75, hF⟩ := bindE hF
              refine ASL.x rfl rfl (hCallSR hS rfl rfl call_8 (laws_toAuto_ok ha75) ⟨.same _, trivial⟩ (by rintro _ _ G ⟨w35, rfl, rfl⟩ hG; exact ⟨(Scal.agg (ScalC.cons (by constructor) (ScalC.cons (by constructor) (ScalC.cons (by constructor) (ScalC.cons (hG.scR (k := 0) rfl) ScalC.nil))))), ⟨(Scal.row (fun _ => by simp only [TEdge.av, cells, List.mem_cons, List.not_mem_nil, or_false]; rintro c hc; rcases hc with rfl | rfl | rfl | rfl <;> constructor)), trivial⟩⟩) ?_); rintro _ _ G37 ⟨w35, rfl, rfl⟩ hK hS
              obtain ⟨a76, ha76, hF⟩ := bindE hF
              refine ASL.x rfl rfl (hCallSR hS rfl rfl call_9 (impl_RankStart_ok ha76) ⟨.aggL ⟨.same _, .same _, .same _, .row (k := 0) rfl, trivial⟩, trivial⟩ (by rintro _ _ G ⟨w38, rfl, rfl⟩ hG; exact ⟨(Scal.tup (ScalC.cons (Scal.agg (ScalC.cons (hG.scR (k := 0) rfl) (ScalC.cons (by constructor) ScalC.nil))) (ScalC.cons (by constructor) ScalC.nil))), ⟨(Scal.ints _ _), trivial⟩⟩) ?_); rintro _ _ G40 ⟨w38, rfl, rfl⟩ hK hS
              refine ASL.q (v := (.tup [(.agg [w38, (.int .i64 a76.1.owing)]), (.bool a76.2)])) rfl rfl (Light.quiet (opMove rfl rfl)) ?_
              refine ASL.q (v := (.agg [w38, (.int .i64 a76.1.owing)])) rfl rfl (Light.quiet (opExtract rfl rfl rfl)) ?_
              refine ASL.q (v := (.bool a76.2)) rfl rfl (Light.quiet (opExtract rfl rfl rfl)) ?_
              refine ASL.x rfl rfl (hNewZ hS [(.list 1 (List.map (AV.int .i64) [])), (.int .i64 0)] rfl zeroA_28 ⟨.inr ⟨_, rfl, rfl⟩, .inl rfl, trivial⟩ ?_); rintro b12 G41 hK hS
              refine ASL.n rfl rfl (hPutA hS (j := 0) rfl rfl sizeA_28 rfl rfl rfl rfl (allC (hS.one (k := 1) rfl) (allC rfl rfl)) (nlt rfl) ?_); rintro G43 hS
              refine ASL.q (v := (.bool a76.2)) rfl rfl (Light.quiet (opAssign rfl rfl)) ?_
              refine ASL.done ?_
              refine AWP.seq ?_
              refine AWP.seqR rfl ?_
              refine ASL.q (v := (.agg [w38, (.int .i64 a76.1.owing)])) rfl rfl (Light.quiet (kAtA hS (j := 0) rfl rfl aggA_28 sizeA_28 rfl (nlt rfl) rfl)) ?_
              refine ASL.q (v := (.agg [w5, (.int .i64 a22.1.owing)])) rfl rfl (Light.quiet (kAtA hS (j := 10) rfl rfl aggA_28 sizeA_28 rfl (nlt rfl) rfl)) ?_
              obtain ⟨a81, ha81, hF⟩ := bindE hF
              refine ASL.q (v := (.bool a81)) rfl rfl ((qCallR hS rfl rfl call_10 (laws_eqRankState_ok ha81) ⟨.aggL ⟨.row (k := 1) rfl, .same _, trivial⟩, .aggL ⟨.row (k := 11) rfl, .same _, trivial⟩, trivial⟩ (by constructor))) ?_
              refine ASL.q (v := (.bool (!a81))) rfl rfl (Light.quiet (opNot rfl rfl)) ?_
              obtain ⟨c83, hc83, hF⟩ := bndE hF
              refine ASL.q (v := (.bool c83)) rfl rfl ((Quiet.cast (Light.quiet (opMove rfl rfl)) (congrArg AV.bool hc83.symm))) ?_
              refine ASL.g (v := (.bool a76.2)) (.bool c83) false rfl (wF _) rfl (fun hG => by have q0 := gN hG; subst q0; exact Light.quiet (opMove rfl rfl)) ?_
              refine ASL.g (v := (.bool a22.2)) (.bool c83) false rfl (wF _) rfl (fun hG => by have q0 := gN hG; subst q0; exact Light.quiet (opMove rfl rfl)) ?_
              refine ASL.g (v := (.bool (!(a76.2 == a22.2)))) (.bool c83) false rfl (wF _) rfl (fun hG => by have q0 := gN hG; subst q0; exact Light.quiet (opBoolEq rfl rfl rfl und_4 rfl)) ?_
              refine ASL.q (v := (.bool (c83 || (!(a76.2 == a22.2))))) rfl rfl (Light.quiet (opPick (b := c83) rfl rfl (by cases c83 <;> rfl))) ?_
              refine ASL.done ?_
              refine AWP.ifB hF rfl (fun hc44 hF => ?_) (fun hc44 hF => ?_)
              · skip
                refine AWP.seqR rfl ?_
                refine ASL.q (v := (.bool false)) rfl rfl (Light.quiet (opAssign rfl rfl)) ?_
                refine ASL.done ?_
                refine AWP.ret ?_
                refine QThen.rt ?_
                obtain rfl := someE hF
                exact QRet.sole (v := (.bool false)) ⟨rfl, trivial⟩ rfl
              · skip
                refine AWP.skip ?_
                refine QThen.nrm ?_
                refine AWP.seqR rfl ?_
                refine ASL.q (v := (.int .i64 1)) rfl rfl (Light.quiet (opAssign rfl rfl)) ?_
                refine ASL.done ?_
                refine AWP.seqR rfl ?_
                refine ASL.q (v := (.agg [w18, (.int .i64 a29.1.owing)])) rfl rfl (Light.quiet (kAtA hS (j := 6) rfl rfl aggA_28 sizeA_28 rfl (nlt rfl) rfl)) ?_
                refine ASL.q (v := (.int .i64 1)) rfl rfl (Light.quiet (opMove rfl rfl)) ?_
                obtain ⟨a90, ha90, hF⟩ := bindE hF
                refine ASL.q (v := (.int .i64 a90)) rfl rfl ((qCallR hS rfl rfl call_14 (laws_heldRankState_ok ha90) ⟨.aggL ⟨.row (k := 3) rfl, .same _, trivial⟩, .same _, trivial⟩ (by constructor))) ?_
                refine ASL.q (v := (.int .i64 a90)) rfl rfl (Light.quiet (opAssign rfl rfl)) ?_
                refine ASL.done ?_
                refine AWP.seq ?_
                refine AWP.seqR rfl ?_
                refine ASL.q (v := (.int .i64 a90)) rfl rfl (Light.quiet (opMove rfl rfl)) ?_
                refine ASL.q (v := (.bool (decide (a90 < 0)))) rfl rfl (Light.quiet (opInt rfl rfl rfl rfl)) ?_
                refine ASL.done ?_
                refine AWP.ifP hF rfl (fun hc45 hF => ?_) (fun hc45 hF => ?_)
                · skip
                  refine AWP.seqR rfl ?_
                  refine ASL.q (v := (.bool false)) rfl rfl (Light.quiet (opAssign rfl rfl)) ?_
                  refine ASL.done ?_
                  refine AWP.ret ?_
                  refine QThen.rt ?_
                  obtain rfl := someE hF
                  exact QRet.sole (v := (.bool false)) ⟨rfl, trivial⟩ rfl
                · skip
                  refine AWP.skip ?_
                  refine QThen.nrm ?_
                  refine AWP.seq ?_
                  refine AWP.seqR rfl ?_
                  refine ASL.q (v := (.int .i64 a90)) rfl rfl (Light.quiet (opMove rfl rfl)) ?_
                  refine ASL.q (v := (.int .i64 a64.1)) rfl rfl (Light.quiet (opMove rfl rfl)) ?_
                  refine ASL.q (v := (.bool (decide (a90 ≠ a64.1)))) rfl rfl (Light.quiet (opInt rfl rfl rfl rfl)) ?_
                  refine ASL.done ?_
                  refine AWP.ifP hF rfl (fun hc46 hF => ?_) (fun hc46 hF => ?_)
                  · skip
                    refine AWP.seqR rfl ?_
                    refine ASL.q (v := (.bool false)) rfl rfl (Light.quiet (opAssign rfl rfl)) ?_
                    refine ASL.done ?_
                    refine AWP.ret ?_
                    refine QThen.rt ?_
                    obtain rfl := someE hF
                    exact QRet.sole (v := (.bool false)) ⟨rfl, trivial⟩ rfl
                  · skip
                    refine AWP.skip ?_
                    refine QThen.nrm ?_
                    refine AWP.seqR rfl ?_
                    refine ASL.q (v := (.bool true)) rfl rfl (Light.quiet (opAssign rfl rfl)) ?_
                    refine ASL.done ?_
                    refine AWP.ret ?_
                    obtain rfl := someE hF
                    exact QRet.sole (v := (.bool true)) ⟨rfl, trivial⟩ rfl

end Go.Proofs.Ytllpbgcajgbfbaa
