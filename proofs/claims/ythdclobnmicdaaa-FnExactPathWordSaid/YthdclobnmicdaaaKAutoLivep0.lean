/- Each of these functions of the program comes to just what its plain function says: FnExactAutoLive. -/
import Derived.Test.YthdclobnmicdaaaDAutoLive
import Derived.Test.YthdclobnmicdaaaFa
namespace Go.Proofs.Ythdclobnmicdaaa
open Go Go.RowKit E
set_option linter.unusedVariables false
set_option maxRecDepth 10000 in
theorem laws_szEdgeS_ok (p0 : (List TEdge)) (p1 : Int) : PC Try.prog 40 [(.list 4 (List.map TEdge.av p0)), (.int .i64 p1)] fun v => v = (.int .i64 (laws_szEdgeS p0 p1)) := by
  generalize hF : laws_szEdgeS p0 p1 = r
  refine PC.enter Try.func40 rfl Try.ntmps40 (by simp) ?_
  have hS := Sep.void; unfold laws_szEdgeS at hF
  refine AWP.seqR rfl ?_
  refine ASL.q (v := (.int .i64 0)) rfl rfl (Light.quiet (opAssign rfl rfl)) ?_
  refine ASL.done ?_
  refine AWP.seqR rfl ?_
  refine ASL.q (v := (.int .i64 p1)) rfl rfl (Light.quiet (opMove rfl rfl)) ?_
  refine ASL.q (v := (.list 4 (List.map TEdge.av p0))) rfl rfl (Light.quiet (opMove rfl rfl)) ?_
  refine ASL.q (v := (.int .i64 (p0.length : Int))) rfl rfl (Light.quiet (opLenMap (f := TEdge.av) rfl rfl rfl lenT_22 rfl)) ?_
  refine ASL.q (v := (.int .i64 (W (p1 - ((p0.length : Int)))))) rfl rfl (Light.quiet (opInt rfl rfl rfl rfl)) ?_
  refine ASL.q (v := (.int .i64 (W (p1 - ((p0.length : Int)))))) rfl rfl (Light.quiet (opAssign rfl rfl)) ?_
  refine ASL.done ?_
  refine AWP.seq ?_
  refine AWP.seqR rfl ?_
  refine ASL.q (v := (.int .i64 (W (p1 - ((p0.length : Int)))))) rfl rfl (Light.quiet (opMove rfl rfl)) ?_
  refine ASL.q (v := (.bool (decide (((W (p1 - ((p0.length : Int))))) < 0)))) rfl rfl (Light.quiet (opInt rfl rfl rfl rfl)) ?_
  refine ASL.done ?_
  refine AWP.ifP hF rfl (fun hc1 hF => ?_) (fun hc1 hF => ?_)
  · skip
    refine AWP.seqR rfl ?_
    refine ASL.q (v := (.int .i64 (-1))) rfl rfl (Light.quiet (opAssign rfl rfl)) ?_
    refine ASL.done ?_
    refine AWP.ret ?_
    refine QThen.rt ?_
    obtain rfl := hF
    exact QRet.sole (v := (.int .i64 (-1))) ⟨rfl, trivial⟩ rfl
  · skip
    refine AWP.skip ?_
    refine QThen.nrm ?_
    refine AWP.seqR rfl ?_
    refine ASL.q (v := (.int .i64 (W (p1 - ((p0.length : Int)))))) rfl rfl (Light.quiet (opMove rfl rfl)) ?_
    refine ASL.q (v := (.int .i64 (W (p1 - ((p0.length : Int)))))) rfl rfl (Light.quiet (opAssign rfl rfl)) ?_
    refine ASL.done ?_
    refine AWP.ret ?_
    obtain rfl := hF
    exact QRet.sole (v := (.int .i64 (W (p1 - ((p0.length : Int)))))) ⟨rfl, trivial⟩ rfl

set_option maxRecDepth 10000 in
theorem laws_szAuto_ok (p0 : TAuto) (p1 : Int) : PC Try.prog 10 [(TAuto.av p0), (.int .i64 p1)] fun v => v = (.int .i64 (laws_szAuto p0 p1)) := by
  generalize hF : laws_szAuto p0 p1 = r
  refine PC.enter Try.func10 rfl Try.ntmps10 (by simp) ?_
  have hS := Sep.void; unfold laws_szAuto at hF
  refine AWP.seqR rfl ?_
  refine ASL.q (v := (.rptr [(.int .i64 p0.letters), (.int .i64 p0.states), (.int .i64 p0.start), (.list 4 (List.map TEdge.av p0.edges))])) rfl rfl ((qBoxI (v := (TAuto.av p0)) rfl rfl rfl rfl)) ?_
  refine ASL.q (v := (.int .i64 0)) rfl rfl (Light.quiet (opAssign rfl rfl)) ?_
  refine ASL.done ?_
  refine AWP.seqR rfl ?_
  refine ASL.q (v := (.rptr [(.list 4 (List.map TEdge.av p0.edges))])) rfl rfl (Light.quiet (opFieldAddrR rfl fieldA_24_3 rfl rfl)) ?_
  refine ASL.q (v := (.list 4 (List.map TEdge.av p0.edges))) rfl rfl (Light.quiet (opLoadR rfl aggA_22 rfl rfl)) ?_
  refine ASL.q (v := (.int .i64 p1)) rfl rfl (Light.quiet (opMove rfl rfl)) ?_
  refine ASL.q (v := (.int .i64 (laws_szEdgeS p0.edges p1))) rfl rfl ((qCall rfl rfl call_40 (laws_szEdgeS_ok p0.edges p1) rfl)) ?_
  refine ASL.q (v := (.int .i64 (laws_szEdgeS p0.edges p1))) rfl rfl (Light.quiet (opAssign rfl rfl)) ?_
  refine ASL.done ?_
  refine AWP.seq ?_
  refine AWP.seqR rfl ?_
  refine ASL.q (v := (.int .i64 (laws_szEdgeS p0.edges p1))) rfl rfl (Light.quiet (opMove rfl rfl)) ?_
  refine ASL.q (v := (.bool (decide (((laws_szEdgeS p0.edges p1)) < 0)))) rfl rfl (Light.quiet (opInt rfl rfl rfl rfl)) ?_
  refine ASL.done ?_
  refine AWP.ifP hF rfl (fun hc1 hF => ?_) (fun hc1 hF => ?_)
  · skip
    refine AWP.seqR rfl ?_
    refine ASL.q (v := (.int .i64 (-1))) rfl rfl (Light.quiet (opAssign rfl rfl)) ?_
    refine ASL.done ?_
    refine AWP.ret ?_
    refine QThen.rt ?_
    obtain rfl := hF
    exact QRet.sole (v := (.int .i64 (-1))) ⟨rfl, trivial⟩ rfl
  · skip
    refine AWP.skip ?_
    refine QThen.nrm ?_
    refine AWP.seqR rfl ?_
    refine ASL.q (v := (.int .i64 (laws_szEdgeS p0.edges p1))) rfl rfl (Light.quiet (opMove rfl rfl)) ?_
    refine ASL.q (v := (.int .i64 (laws_szEdgeS p0.edges p1))) rfl rfl (Light.quiet (opAssign rfl rfl)) ?_
    refine ASL.done ?_
    refine AWP.ret ?_
    obtain rfl := hF
    exact QRet.sole (v := (.int .i64 (laws_szEdgeS p0.edges p1))) ⟨rfl, trivial⟩ rfl

set_option maxRecDepth 10000 in
theorem laws_toEdge_ok (p0 : TEdge) : PC Try.prog 91 [(TEdge.av p0)] fun v => v = (TEdge.av (laws_toEdge p0)) := by
  generalize hF : laws_toEdge p0 = r
  refine PC.enter Try.func91 rfl Try.ntmps91 (by simp) ?_
  have hS := Sep.void; unfold laws_toEdge at hF
  refine AWP.seqR rfl ?_
  refine ASL.q (v := (.rptr [(.int .i64 p0.from_), (.int .i64 p0.letter), (.int .i64 p0.to_), (.bool p0.good)])) rfl rfl ((qBoxI (v := (TEdge.av p0)) rfl rfl rfl rfl)) ?_
  refine ASL.x rfl rfl (hNewZ hS [(.int .i64 0), (.int .i64 0), (.int .i64 0), (.bool false)] rfl zeroA_73 ⟨.inl rfl, .inl rfl, .inl rfl, .inl rfl, trivial⟩ ?_); rintro b2 G1 hK hS
  refine ASL.done ?_
  refine AWP.seqR rfl ?_
  refine ASL.x rfl rfl (hNewZ hS [(.int .i64 0), (.int .i64 0), (.int .i64 0), (.bool false)] rfl zeroA_73 ⟨.inl rfl, .inl rfl, .inl rfl, .inl rfl, trivial⟩ ?_); rintro b3 G3 hK hS
  refine ASL.done ?_
  refine AWP.seqR rfl ?_
  refine ASL.q (v := (.rptr [(.int .i64 p0.from_), (.int .i64 p0.letter), (.int .i64 p0.to_), (.bool p0.good)])) rfl rfl (Light.quiet (opFieldAddrR rfl fieldA_109_0 rfl rfl)) ?_
  refine ASL.q (v := (.int .i64 p0.from_)) rfl rfl (Light.quiet (opLoadR rfl aggA_3 rfl rfl)) ?_
  refine ASL.q (v := (.ptr b3 0)) rfl rfl (Light.quiet (opFieldAddr rfl fieldA_73_0 rfl rfl)) ?_
  refine ASL.n rfl rfl (hPut hS (j := 0) rfl rfl sizeA_3 rfl rfl rfl (nlt rfl) ?_); rintro G5 hS
  refine ASL.done ?_
  refine AWP.seqR rfl ?_
  refine ASL.q (v := (.rptr [(.int .i64 p0.letter), (.int .i64 p0.to_), (.bool p0.good)])) rfl rfl (Light.quiet (opFieldAddrR rfl fieldA_109_1 rfl rfl)) ?_
  refine ASL.q (v := (.int .i64 p0.letter)) rfl rfl (Light.quiet (opLoadR rfl aggA_3 rfl rfl)) ?_
  refine ASL.q (v := (.ptr b3 1)) rfl rfl (Light.quiet (opFieldAddr rfl fieldA_73_1 rfl rfl)) ?_
  refine ASL.n rfl rfl (hPut hS (j := 0) rfl rfl sizeA_3 rfl rfl rfl (nlt rfl) ?_); rintro G6 hS
  refine ASL.done ?_
  refine AWP.seqR rfl ?_
  refine ASL.q (v := (.rptr [(.int .i64 p0.to_), (.bool p0.good)])) rfl rfl (Light.quiet (opFieldAddrR rfl fieldA_109_2 rfl rfl)) ?_
  refine ASL.q (v := (.int .i64 p0.to_)) rfl rfl (Light.quiet (opLoadR rfl aggA_3 rfl rfl)) ?_
  refine ASL.q (v := (.ptr b3 2)) rfl rfl (Light.quiet (opFieldAddr rfl fieldA_73_2 rfl rfl)) ?_
  refine ASL.n rfl rfl (hPut hS (j := 0) rfl rfl sizeA_3 rfl rfl rfl (nlt rfl) ?_); rintro G7 hS
  refine ASL.done ?_
  refine AWP.seqR rfl ?_
  refine ASL.q (v := (.rptr [(.bool p0.good)])) rfl rfl (Light.quiet (opFieldAddrR rfl fieldA_109_3 rfl rfl)) ?_
  refine ASL.q (v := (.bool p0.good)) rfl rfl (Light.quiet (opLoadR rfl aggA_4 rfl rfl)) ?_
  refine ASL.q (v := (.ptr b3 3)) rfl rfl (Light.quiet (opFieldAddr rfl fieldA_73_3 rfl rfl)) ?_
  refine ASL.n rfl rfl (hPut hS (j := 0) rfl rfl sizeA_4 rfl rfl rfl (nlt rfl) ?_); rintro G8 hS
  refine ASL.done ?_
  refine AWP.seqR rfl ?_
  refine ASL.q (v := (TEdge.av p0)) rfl rfl (Light.quiet (kAtA hS (j := 0) rfl rfl aggA_73 sizeA_73 rfl (nlt rfl) rfl)) ?_
  refine ASL.n rfl rfl (hPutA hS (j := 1) rfl rfl sizeA_73 rfl rfl rfl rfl rfl (nlt rfl) ?_); rintro G9 hS
  refine ASL.done ?_
  refine AWP.ret ?_
  obtain rfl := hF
  exact QRet.sole (v := (TEdge.av p0)) ⟨resOne.at hS (k := 1) rfl rfl aggA_73 sizeA_73, trivial⟩ rfl

set_option maxRecDepth 10000 in
theorem laws_toEdgeS_ok {p0 : (List TEdge)} {r : (List TEdge)} (hF : laws_toEdgeS p0 = some r) : PO Try.prog 42 [(.list 4 (List.map TEdge.av p0))] 4 (List.map TEdge.av r) := by
  refine HC.enter Try.func42 rfl Try.ntmps42 (by simp) ?_
  have hS := Sep.void; unfold laws_toEdgeS at hF
  refine AWP.seqR rfl ?_
  have hS := hNil (s := 4) (f := TEdge.av) hS
  refine ASL.q (v := .nil) rfl rfl (Light.quiet (opAssign rfl rfl)) ?_
  refine ASL.done ?_
  refine AWP.seqR rfl ?_
  refine ASL.q (v := (.list 4 (List.map TEdge.av p0))) rfl rfl (Light.quiet (opMove rfl rfl)) ?_
  refine ASL.q (v := (.int .i64 (p0.length : Int))) rfl rfl (Light.quiet (opLenMap (f := TEdge.av) rfl rfl rfl lenT_22 rfl)) ?_
  obtain ⟨z7, hz7, hF⟩ := bindE hF
  refine ASL.x rfl rfl (hMk (f := TEdge.av) hS hz7 (by decide) rfl elemA_27 sizeA_73 bytesA_73 zeroA_73 rfl rfl (by decide) rfl rfl ?_); rintro v7 G2 hK hS
  refine ASL.q (v := v7) rfl rfl (Light.quiet (opAssign rfl rfl)) ?_
  refine ASL.done ?_
  refine AWP.seqM (fun e H => ∃ y4 : (List TEdge), E.Told e [(3, v7)] ∧ E.Sep H [.row 4 v7 (List.map TEdge.av y4)] ∧ laws_toEdgeS.k0 y4 = some r) ?_ ?_
  · rintro e0 G5 ⟨y4, hT, hS, hF⟩; refine AWP.only _ hT ?_; unfold laws_toEdgeS.k0 at hF
    refine AWP.seqR rfl ?_
    refine ASL.q (v := v7) rfl rfl (Light.quiet (opMove rfl rfl)) ?_
    refine ASL.q (v := v7) rfl rfl (Light.quiet (opAssign rfl rfl)) ?_
    refine ASL.done ?_
    refine AWP.ret ?_
    obtain rfl := someE hF
    exact QRet.sole (v := v7) ⟨rfl, trivial⟩ (hS.get (k := 0) rfl)
  · skip
    refine AWP.seqR rfl ?_
    refine ASL.q (v := (.int .i64 0)) rfl rfl (Light.quiet (opAssign rfl rfl)) ?_
    refine ASL.done ?_
    refine AWP.block ?_
    obtain ⟨o10, hL9, hR11⟩ := bindE hF
    refine AWP.loopF (ω := Unit) hL9 (fun s w => [(0, (.list 4 (List.map TEdge.av p0))), (3, v7), (4, (.int .i64 s.2))]) (fun s w => [.row 4 v7 (List.map TEdge.av s.1)]) () ⟨rfl, rfl, rfl, trivial⟩ (hS.pick [0] rfl rfl) ?_
    rintro ⟨y6, x4_l0⟩ _ G12 hS x7 hF hx8
    try dsimp only at hS ⊢
    have hF : laws_toEdgeS.b0 p0 y6 x4_l0 = some x7 := hF; unfold laws_toEdgeS.b0 at hF
    refine AWP.seq ?_
    refine AWP.seqR rfl ?_
    refine ASL.q (v := (.int .i64 x4_l0)) rfl rfl (Light.quiet (opMove rfl rfl)) ?_
    refine ASL.q (v := (.list 4 (List.map TEdge.av p0))) rfl rfl (Light.quiet (opMove rfl rfl)) ?_
    refine ASL.q (v := (.int .i64 (p0.length : Int))) rfl rfl (Light.quiet (opLenMap (f := TEdge.av) rfl rfl rfl lenT_22 rfl)) ?_
    refine ASL.q (v := (.bool (decide (x4_l0 < ((p0.length : Int)))))) rfl rfl (Light.quiet (opInt rfl rfl rfl rfl)) ?_
    refine ASL.done ?_
    refine AWP.ifP hF rfl (fun hc13 hF => ?_) (fun hc13 hF => ?_)
    · skip
      refine AWP.skip ?_
      refine QThen.nrm ?_
      refine AWP.seq ?_
      refine AWP.block ?_
      refine AWP.lastR rfl ?_
      refine ASL.q (v := v7) rfl rfl (Light.quiet (opMove rfl rfl)) ?_
      refine ASL.q (v := (.int .i64 x4_l0)) rfl rfl (Light.quiet (opMove rfl rfl)) ?_
      refine ASL.q (v := (.list 4 (List.map TEdge.av p0))) rfl rfl (Light.quiet (opMove rfl rfl)) ?_
      refine ASL.q (v := (.int .i64 x4_l0)) rfl rfl (Light.quiet (opMove rfl rfl)) ?_
      obtain ⟨a18, ha18, hF⟩ := bindE hF
      refine ASL.q (v := (.rptr [(.int .i64 a18.from_), (.int .i64 a18.letter), (.int .i64 a18.to_), (.bool a18.good)])) rfl rfl (Light.quiet (kIx (f := TEdge.av) ha18 rfl rfl rfl elemA_22 sizeA_109 rfl)) ?_
      refine ASL.q (v := (TEdge.av a18)) rfl rfl (Light.quiet (opLoadRA rfl aggA_109 sizeA_109 rfl (nlt rfl) rfl)) ?_
      refine ASL.q (v := (TEdge.av (laws_toEdge a18))) rfl rfl ((qCall rfl rfl call_91 (laws_toEdge_ok a18) rfl)) ?_
      obtain ⟨m21, hm21, hF⟩ := bindE hF
      refine ASL.q (v := (ptrTo v7 m21 4)) rfl rfl (Light.quiet (kIxO hS (j := 0) rfl hm21 rfl rfl rfl elemA_27 sizeA_73)) ?_
      refine ASL.n rfl rfl (hSt (f := TEdge.av) (a := (laws_toEdge a18)) hS (j := 0) rfl hm21 rfl sizeA_73 rfl rfl ⟨rfl, rfl, rfl⟩ ?_); rintro G14 hS
      refine ASL.done ?_
      refine QBlock.nrm ?_
      refine QThen.nrm ?_
      refine AWP.lastR rfl ?_
      refine ASL.q (v := (.int .i64 x4_l0)) rfl rfl (Light.quiet (opMove rfl rfl)) ?_
      refine ASL.q (v := (.int .i64 (W (x4_l0 + 1)))) rfl rfl (Light.quiet (opInt rfl rfl rfl rfl)) ?_
      refine ASL.q (v := (.int .i64 (W (x4_l0 + 1)))) rfl rfl (Light.quiet (opAssign rfl rfl)) ?_
      refine ASL.done ?_
      refine QThen.nrm ?_
      exact ⟨((y6.set m21 ((laws_toEdge a18))), (W (x4_l0 + 1))), (), (someE hF).symm, ⟨rfl, rfl, rfl, trivial⟩, (hS.pick [0] rfl rfl)⟩
    · skip
      refine AWP.exit ?_
      refine QThen.ext ?_
      refine QThen.ext ?_
      refine QBlock.hit ?_
      obtain rfl := (hx8 _ (someE hF).symm)
      have hF := hR11
      refine QThen.nrm ?_
      exact ⟨y6, ⟨rfl, trivial⟩, (hS.pick [0] rfl rfl), hF⟩

set_option maxRecDepth 10000 in
theorem laws_toAuto_ok {p0 : TAuto} {r : TAuto} (hF : laws_toAuto p0 = some r) : HS Try.prog 12 [(TAuto.av p0)] [] fun v L' => ∃ o0_Edges : AV, v = (.agg [(.int .i64 r.letters), (.int .i64 r.states), (.int .i64 r.start), o0_Edges]) ∧ L' = [.row 4 o0_Edges (List.map TEdge.av r.edges)] := by
  intro H S hS
  refine HC.enter Try.func12 rfl Try.ntmps12 (by simp) ?_
  simp only [List.cons_append, List.nil_append] at hS
  unfold laws_toAuto at hF
  refine AWP.seqR rfl ?_
  refine ASL.q (v := (.rptr [(.int .i64 p0.letters), (.int .i64 p0.states), (.int .i64 p0.start), (.list 4 (List.map TEdge.av p0.edges))])) rfl rfl ((qBoxI (v := (TAuto.av p0)) rfl rfl rfl rfl)) ?_
  have hS := hNil (s := 4) (f := TEdge.av) hS
  refine ASL.x rfl rfl (hNewZ hS [(.int .i64 0), (.int .i64 0), (.int .i64 0), .nil] rfl zeroA_29 ⟨.inl rfl, .inl rfl, .inl rfl, .inl rfl, trivial⟩ ?_); rintro b2 G1 hK hS
  refine ASL.done ?_
  refine AWP.seqR rfl ?_
  have hS := hNil (s := 4) (f := TEdge.av) hS
  refine ASL.x rfl rfl (hNewZ hS [(.int .i64 0), (.int .i64 0), (.int .i64 0), .nil] rfl zeroA_29 ⟨.inl rfl, .inl rfl, .inl rfl, .inl rfl, trivial⟩ ?_); rintro b3 G4 hK hS
  refine ASL.done ?_
  refine AWP.seqR rfl ?_
  refine ASL.q (v := (.rptr [(.int .i64 p0.letters), (.int .i64 p0.states), (.int .i64 p0.start), (.list 4 (List.map TEdge.av p0.edges))])) rfl rfl (Light.quiet (opFieldAddrR rfl fieldA_24_0 rfl rfl)) ?_
  refine ASL.q (v := (.int .i64 p0.letters)) rfl rfl (Light.quiet (opLoadR rfl aggA_3 rfl rfl)) ?_
  refine ASL.q (v := (.ptr b3 0)) rfl rfl (Light.quiet (opFieldAddr rfl fieldA_29_0 rfl rfl)) ?_
  refine ASL.n rfl rfl (hPut hS (j := 0) rfl rfl sizeA_3 rfl rfl rfl (nlt rfl) ?_); rintro G7 hS
  refine ASL.done ?_
  refine AWP.seqR rfl ?_
  refine ASL.q (v := (.rptr [(.int .i64 p0.states), (.int .i64 p0.start), (.list 4 (List.map TEdge.av p0.edges))])) rfl rfl (Light.quiet (opFieldAddrR rfl fieldA_24_1 rfl rfl)) ?_
  refine ASL.q (v := (.int .i64 p0.states)) rfl rfl (Light.quiet (opLoadR rfl aggA_3 rfl rfl)) ?_
  refine ASL.q (v := (.ptr b3 1)) rfl rfl (Light.quiet (opFieldAddr rfl fieldA_29_1 rfl rfl)) ?_
  refine ASL.n rfl rfl (hPut hS (j := 0) rfl rfl sizeA_3 rfl rfl rfl (nlt rfl) ?_); rintro G8 hS
  refine ASL.done ?_
  refine AWP.seqR rfl ?_
  refine ASL.q (v := (.rptr [(.int .i64 p0.start), (.list 4 (List.map TEdge.av p0.edges))])) rfl rfl (Light.quiet (opFieldAddrR rfl fieldA_24_2 rfl rfl)) ?_
  refine ASL.q (v := (.int .i64 p0.start)) rfl rfl (Light.quiet (opLoadR rfl aggA_3 rfl rfl)) ?_
  refine ASL.q (v := (.ptr b3 2)) rfl rfl (Light.quiet (opFieldAddr rfl fieldA_29_2 rfl rfl)) ?_
  refine ASL.n rfl rfl (hPut hS (j := 0) rfl rfl sizeA_3 rfl rfl rfl (nlt rfl) ?_); rintro G9 hS
  refine ASL.done ?_
  refine AWP.seqR rfl ?_
  refine ASL.q (v := (.rptr [(.list 4 (List.map TEdge.av p0.edges))])) rfl rfl (Light.quiet (opFieldAddrR rfl fieldA_24_3 rfl rfl)) ?_
  refine ASL.q (v := (.list 4 (List.map TEdge.av p0.edges))) rfl rfl (Light.quiet (opLoadR rfl aggA_22 rfl rfl)) ?_
  obtain ⟨a15, ha15, hF⟩ := bindE hF
  refine ASL.x rfl rfl (hCallO hS rfl rfl call_42 (laws_toEdgeS_ok ha15) rfl ?_); rintro v15 G10 hK hS
  refine ASL.q (v := (.ptr b3 3)) rfl rfl (Light.quiet (opFieldAddr rfl fieldA_29_3 rfl rfl)) ?_
  refine ASL.n rfl rfl (hPut hS (j := 1) rfl rfl sizeA_27 rfl rfl (hS.one (k := 0) rfl) (nlt rfl) ?_); rintro G12 hS
  refine ASL.done ?_
  refine AWP.seqR rfl ?_
  refine ASL.q (v := (.agg [(.int .i64 p0.letters), (.int .i64 p0.states), (.int .i64 p0.start), v15])) rfl rfl (Light.quiet (kAtA hS (j := 1) rfl rfl aggA_29 sizeA_29 rfl (nlt rfl) rfl)) ?_
  refine ASL.n rfl rfl (hPutA hS (j := 3) rfl rfl sizeA_29 rfl rfl rfl rfl (allC rfl (allC rfl (allC rfl (allC (hS.one (k := 0) rfl) rfl)))) (nlt rfl) ?_); rintro G13 hS
  refine ASL.done ?_
  refine AWP.ret ?_
  obtain rfl := someE hF
  exact QRet.sole (v := (.agg [(.int .i64 p0.letters), (.int .i64 p0.states), (.int .i64 p0.start), v15])) ⟨resOne.at hS (k := 3) rfl rfl aggA_29 sizeA_29, trivial⟩ ⟨_, ⟨v15, rfl, rfl⟩, hS.pick [0, 5] rfl rfl⟩

set_option maxRecDepth 10000 in
theorem spec_l1In_ok (p0 : Int) (p1 : Int) (p2 : Int) : PC Try.prog 89 [(.int .i64 p0), (.int .i64 p1), (.int .i64 p2)] fun v => v = (.bool (spec_l1In p0 p1 p2)) := by
  generalize hF : spec_l1In p0 p1 p2 = r
  refine PC.enter Try.func89 rfl Try.ntmps89 (by simp) ?_
  have hS := Sep.void; unfold spec_l1In at hF
  refine AWP.seqR rfl ?_
  refine ASL.q (v := (.bool false)) rfl rfl (Light.quiet (opAssign rfl rfl)) ?_
  refine ASL.done ?_
  refine AWP.seqR rfl ?_
  refine ASL.q (v := (.int .i64 p0)) rfl rfl (Light.quiet (opMove rfl rfl)) ?_
  refine ASL.q (v := (.int .i64 p1)) rfl rfl (Light.quiet (opMove rfl rfl)) ?_
  refine ASL.q (v := (.bool (decide (p0 ≥ p1)))) rfl rfl (Light.quiet (opInt rfl rfl rfl rfl)) ?_
  obtain ⟨c10, hc10, hF⟩ := bndE hF
  refine ASL.q (v := (.bool c10)) rfl rfl ((Quiet.cast (Light.quiet (opMove rfl rfl)) (congrArg AV.bool hc10.symm))) ?_
  refine ASL.g (v := (.int .i64 p0)) (.bool c10) true rfl (wT _) rfl (fun hG => by have q0 := hG; subst q0; exact Light.quiet (opMove rfl rfl)) ?_
  refine ASL.g (v := (.int .i64 p2)) (.bool c10) true rfl (wT _) rfl (fun hG => by have q0 := hG; subst q0; exact Light.quiet (opMove rfl rfl)) ?_
  refine ASL.g (v := (.bool (decide (p0 ≤ p2)))) (.bool c10) true rfl (wT _) rfl (fun hG => by have q0 := hG; subst q0; exact Light.quiet (opInt rfl rfl rfl rfl)) ?_
  refine ASL.q (v := (.bool (c10 && (decide (p0 ≤ p2))))) rfl rfl (Light.quiet (opPick (b := c10) rfl rfl (by cases c10 <;> rfl))) ?_
  refine ASL.q (v := (.bool (c10 && (decide (p0 ≤ p2))))) rfl rfl (Light.quiet (opAssign rfl rfl)) ?_
  refine ASL.done ?_
  refine AWP.ret ?_
  obtain rfl := hF
  exact QRet.sole (v := (.bool (c10 && (decide (p0 ≤ p2))))) ⟨rfl, trivial⟩ rfl

set_option maxRecDepth 10000 in
theorem spec_SetOk_ok (p0 : Int) : PC Try.prog 105 [(.int .i64 p0)] fun v => v = (.bool (spec_SetOk p0)) := by
  generalize hF : spec_SetOk p0 = r
  refine PC.enter Try.func105 rfl Try.ntmps105 (by simp) ?_
  have hS := Sep.void; unfold spec_SetOk at hF
  refine AWP.seqR rfl ?_
  refine ASL.q (v := (.bool false)) rfl rfl (Light.quiet (opAssign rfl rfl)) ?_
  refine ASL.done ?_
  refine AWP.seqR rfl ?_
  refine ASL.q (v := (.int .i64 p0)) rfl rfl (Light.quiet (opMove rfl rfl)) ?_
  refine ASL.q (v := (.bool (spec_l1In p0 0 2147483647))) rfl rfl ((qCall rfl rfl call_89 (spec_l1In_ok p0 0 2147483647) rfl)) ?_
  refine ASL.q (v := (.bool (spec_l1In p0 0 2147483647))) rfl rfl (Light.quiet (opAssign rfl rfl)) ?_
  refine ASL.done ?_
  refine AWP.ret ?_
  obtain rfl := hF
  exact QRet.sole (v := (.bool (spec_l1In p0 0 2147483647))) ⟨rfl, trivial⟩ rfl

set_option maxRecDepth 10000 in
theorem spec_SetIn_ok (p0 : Int) (p1 : Int) : PC Try.prog 61 [(.int .i64 p0), (.int .i64 p1)] fun v => v = (.bool (spec_SetIn p0 p1)) := by
  generalize hF : spec_SetIn p0 p1 = r
  refine PC.enter Try.func61 rfl Try.ntmps61 (by simp) ?_
  have hS := Sep.void; unfold spec_SetIn at hF
  refine AWP.seqR rfl ?_
  refine ASL.q (v := (.bool false)) rfl rfl (Light.quiet (opAssign rfl rfl)) ?_
  refine ASL.done ?_
  refine AWP.seqR rfl ?_
  refine ASL.q (v := (.int .i64 p0)) rfl rfl (Light.quiet (opMove rfl rfl)) ?_
  refine ASL.q (v := (.bool (spec_SetOk p0))) rfl rfl ((qCall rfl rfl call_105 (spec_SetOk_ok p0) rfl)) ?_
  obtain ⟨c7, hc7, hF⟩ := bndE hF
  refine ASL.q (v := (.bool c7)) rfl rfl ((Quiet.cast (Light.quiet (opMove rfl rfl)) (congrArg AV.bool hc7.symm))) ?_
  refine ASL.g (v := (.int .i64 p1)) (.bool c7) true rfl (wT _) rfl (fun hG => by have q0 := hG; subst q0; exact Light.quiet (opMove rfl rfl)) ?_
  refine ASL.g (v := (.bool (spec_SetOk p1))) (.bool c7) true rfl (wT _) rfl (fun hG => by have q0 := hG; subst q0; exact (qCall rfl rfl call_105 (spec_SetOk_ok p1) rfl)) ?_
  refine ASL.q (v := (.bool (c7 && (spec_SetOk p1)))) rfl rfl (Light.quiet (opPick (b := c7) rfl rfl (by cases c7 <;> rfl))) ?_
  obtain ⟨c11, hc11, hF⟩ := bndE hF
  refine ASL.q (v := (.bool c11)) rfl rfl ((Quiet.cast (Light.quiet (opMove rfl rfl)) (congrArg AV.bool hc11.symm))) ?_
  refine ASL.g (v := (.int .i64 p0)) (.bool c11) true rfl (wT _) rfl (fun hG => by have q0 := hG; subst q0; exact Light.quiet (opMove rfl rfl)) ?_
  refine ASL.g (v := (.int .i64 p1)) (.bool c11) true rfl (wT _) rfl (fun hG => by have q0 := hG; subst q0; exact Light.quiet (opMove rfl rfl)) ?_
  refine ASL.g (v := (.int .i64 (bAnd .i64 p0 p1))) (.bool c11) true rfl (wT _) rfl (fun hG => by have q0 := hG; subst q0; exact Light.quiet (opInt rfl rfl rfl rfl)) ?_
  refine ASL.g (v := (.int .i64 p0)) (.bool c11) true rfl (wT _) rfl (fun hG => by have q0 := hG; subst q0; exact Light.quiet (opMove rfl rfl)) ?_
  refine ASL.g (v := (.bool (decide (((bAnd .i64 p0 p1)) = p0)))) (.bool c11) true rfl (wT _) rfl (fun hG => by have q0 := hG; subst q0; exact Light.quiet (opInt rfl rfl rfl rfl)) ?_
  refine ASL.q (v := (.bool (c11 && (decide (((bAnd .i64 p0 p1)) = p0))))) rfl rfl (Light.quiet (opPick (b := c11) rfl rfl (by cases c11 <;> rfl))) ?_
  refine ASL.q (v := (.bool (c11 && (decide (((bAnd .i64 p0 p1)) = p0))))) rfl rfl (Light.quiet (opAssign rfl rfl)) ?_
  refine ASL.done ?_
  refine AWP.ret ?_
  obtain rfl := hF
  exact QRet.sole (v := (.bool (c11 && (decide (((bAnd .i64 p0 p1)) = p0))))) ⟨rfl, trivial⟩ rfl

set_option maxRecDepth 10000 in
theorem spec_l4State_ok (p0 : Int) (p1 : Int) : PC Try.prog 62 [(.int .i64 p0), (.int .i64 p1)] fun v => v = (.bool (spec_l4State p0 p1)) := by
  generalize hF : spec_l4State p0 p1 = r
  refine PC.enter Try.func62 rfl Try.ntmps62 (by simp) ?_
  have hS := Sep.void; unfold spec_l4State at hF
  refine AWP.seqR rfl ?_
  refine ASL.q (v := (.bool false)) rfl rfl (Light.quiet (opAssign rfl rfl)) ?_
  refine ASL.done ?_
  refine AWP.seqR rfl ?_
  refine ASL.q (v := (.int .i64 p0)) rfl rfl (Light.quiet (opMove rfl rfl)) ?_
  refine ASL.q (v := (.int .i64 p1)) rfl rfl (Light.quiet (opMove rfl rfl)) ?_
  refine ASL.q (v := (.int .i64 (W (p1 - 1)))) rfl rfl (Light.quiet (opInt rfl rfl rfl rfl)) ?_
  refine ASL.q (v := (.bool (spec_l1In p0 0 ((W (p1 - 1)))))) rfl rfl ((qCall rfl rfl call_89 (spec_l1In_ok p0 0 ((W (p1 - 1)))) rfl)) ?_
  refine ASL.q (v := (.bool (spec_l1In p0 0 ((W (p1 - 1)))))) rfl rfl (Light.quiet (opAssign rfl rfl)) ?_
  refine ASL.done ?_
  refine AWP.ret ?_
  obtain rfl := hF
  exact QRet.sole (v := (.bool (spec_l1In p0 0 ((W (p1 - 1)))))) ⟨rfl, trivial⟩ rfl

set_option maxRecDepth 10000 in
theorem spec_l4Less_ok (p0 : TEdge) (p1 : TEdge) : PC Try.prog 90 [(TEdge.av p0), (TEdge.av p1)] fun v => v = (.bool (spec_l4Less p0 p1)) := by
  generalize hF : spec_l4Less p0 p1 = r
  refine PC.enter Try.func90 rfl Try.ntmps90 (by simp) ?_
  have hS := Sep.void; unfold spec_l4Less at hF
  refine AWP.seqR rfl ?_
  refine ASL.q (v := (.rptr [(.int .i64 p0.from_), (.int .i64 p0.letter), (.int .i64 p0.to_), (.bool p0.good)])) rfl rfl ((qBoxI (v := (TEdge.av p0)) rfl rfl rfl rfl)) ?_
  refine ASL.q (v := (.rptr [(.int .i64 p1.from_), (.int .i64 p1.letter), (.int .i64 p1.to_), (.bool p1.good)])) rfl rfl ((qBoxI (v := (TEdge.av p1)) rfl rfl rfl rfl)) ?_
  refine ASL.q (v := (.bool false)) rfl rfl (Light.quiet (opAssign rfl rfl)) ?_
  refine ASL.done ?_
  refine AWP.seq ?_
  refine AWP.seqR rfl ?_
  refine ASL.q (v := (.rptr [(.int .i64 p0.from_), (.int .i64 p0.letter), (.int .i64 p0.to_), (.bool p0.good)])) rfl rfl (Light.quiet (opFieldAddrR rfl fieldA_73_0 rfl rfl)) ?_
  refine ASL.q (v := (.int .i64 p0.from_)) rfl rfl (Light.quiet (opLoadR rfl aggA_3 rfl rfl)) ?_
  refine ASL.q (v := (.rptr [(.int .i64 p1.from_), (.int .i64 p1.letter), (.int .i64 p1.to_), (.bool p1.good)])) rfl rfl (Light.quiet (opFieldAddrR rfl fieldA_73_0 rfl rfl)) ?_
  refine ASL.q (v := (.int .i64 p1.from_)) rfl rfl (Light.quiet (opLoadR rfl aggA_3 rfl rfl)) ?_
  refine ASL.q (v := (.bool (decide (p0.from_ ≠ p1.from_)))) rfl rfl (Light.quiet (opInt rfl rfl rfl rfl)) ?_
  refine ASL.done ?_
  refine AWP.ifP hF rfl (fun hc1 hF => ?_) (fun hc1 hF => ?_)
  · skip
    refine AWP.seqR rfl ?_
    refine ASL.q (v := (.rptr [(.int .i64 p0.from_), (.int .i64 p0.letter), (.int .i64 p0.to_), (.bool p0.good)])) rfl rfl (Light.quiet (opFieldAddrR rfl fieldA_73_0 rfl rfl)) ?_
    refine ASL.q (v := (.int .i64 p0.from_)) rfl rfl (Light.quiet (opLoadR rfl aggA_3 rfl rfl)) ?_
    refine ASL.q (v := (.rptr [(.int .i64 p1.from_), (.int .i64 p1.letter), (.int .i64 p1.to_), (.bool p1.good)])) rfl rfl (Light.quiet (opFieldAddrR rfl fieldA_73_0 rfl rfl)) ?_
    refine ASL.q (v := (.int .i64 p1.from_)) rfl rfl (Light.quiet (opLoadR rfl aggA_3 rfl rfl)) ?_
    refine ASL.q (v := (.bool (decide (p0.from_ < p1.from_)))) rfl rfl (Light.quiet (opInt rfl rfl rfl rfl)) ?_
    refine ASL.q (v := (.bool (decide (p0.from_ < p1.from_)))) rfl rfl (Light.quiet (opAssign rfl rfl)) ?_
    refine ASL.done ?_
    refine AWP.ret ?_
    refine QThen.rt ?_
    obtain rfl := hF
    exact QRet.sole (v := (.bool (decide (p0.from_ < p1.from_)))) ⟨rfl, trivial⟩ rfl
  · skip
    refine AWP.skip ?_
    refine QThen.nrm ?_
    refine AWP.seq ?_
    refine AWP.seqR rfl ?_
    refine ASL.q (v := (.rptr [(.int .i64 p0.letter), (.int .i64 p0.to_), (.bool p0.good)])) rfl rfl (Light.quiet (opFieldAddrR rfl fieldA_73_1 rfl rfl)) ?_
    refine ASL.q (v := (.int .i64 p0.letter)) rfl rfl (Light.quiet (opLoadR rfl aggA_3 rfl rfl)) ?_
    refine ASL.q (v := (.rptr [(.int .i64 p1.letter), (.int .i64 p1.to_), (.bool p1.good)])) rfl rfl (Light.quiet (opFieldAddrR rfl fieldA_73_1 rfl rfl)) ?_
    refine ASL.q (v := (.int .i64 p1.letter)) rfl rfl (Light.quiet (opLoadR rfl aggA_3 rfl rfl)) ?_
    refine ASL.q (v := (.bool (decide (p0.letter ≠ p1.letter)))) rfl rfl (Light.quiet (opInt rfl rfl rfl rfl)) ?_
    refine ASL.done ?_
    refine AWP.ifP hF rfl (fun hc2 hF => ?_) (fun hc2 hF => ?_)
    · skip
      refine AWP.seqR rfl ?_
      refine ASL.q (v := (.rptr [(.int .i64 p0.letter), (.int .i64 p0.to_), (.bool p0.good)])) rfl rfl (Light.quiet (opFieldAddrR rfl fieldA_73_1 rfl rfl)) ?_
      refine ASL.q (v := (.int .i64 p0.letter)) rfl rfl (Light.quiet (opLoadR rfl aggA_3 rfl rfl)) ?_
      refine ASL.q (v := (.rptr [(.int .i64 p1.letter), (.int .i64 p1.to_), (.bool p1.good)])) rfl rfl (Light.quiet (opFieldAddrR rfl fieldA_73_1 rfl rfl)) ?_
      refine ASL.q (v := (.int .i64 p1.letter)) rfl rfl (Light.quiet (opLoadR rfl aggA_3 rfl rfl)) ?_
      refine ASL.q (v := (.bool (decide (p0.letter < p1.letter)))) rfl rfl (Light.quiet (opInt rfl rfl rfl rfl)) ?_
      refine ASL.q (v := (.bool (decide (p0.letter < p1.letter)))) rfl rfl (Light.quiet (opAssign rfl rfl)) ?_
      refine ASL.done ?_
      refine AWP.ret ?_
      refine QThen.rt ?_
      obtain rfl := hF
      exact QRet.sole (v := (.bool (decide (p0.letter < p1.letter)))) ⟨rfl, trivial⟩ rfl
    · skip
      refine AWP.skip ?_
      refine QThen.nrm ?_
      refine AWP.seqR rfl ?_
      refine ASL.q (v := (.rptr [(.int .i64 p0.to_), (.bool p0.good)])) rfl rfl (Light.quiet (opFieldAddrR rfl fieldA_73_2 rfl rfl)) ?_
      refine ASL.q (v := (.int .i64 p0.to_)) rfl rfl (Light.quiet (opLoadR rfl aggA_3 rfl rfl)) ?_
      refine ASL.q (v := (.rptr [(.int .i64 p1.to_), (.bool p1.good)])) rfl rfl (Light.quiet (opFieldAddrR rfl fieldA_73_2 rfl rfl)) ?_
      refine ASL.q (v := (.int .i64 p1.to_)) rfl rfl (Light.quiet (opLoadR rfl aggA_3 rfl rfl)) ?_
      refine ASL.q (v := (.bool (decide (p0.to_ < p1.to_)))) rfl rfl (Light.quiet (opInt rfl rfl rfl rfl)) ?_
      refine ASL.q (v := (.bool (decide (p0.to_ < p1.to_)))) rfl rfl (Light.quiet (opAssign rfl rfl)) ?_
      refine ASL.done ?_
      refine AWP.ret ?_
      obtain rfl := hF
      exact QRet.sole (v := (.bool (decide (p0.to_ < p1.to_)))) ⟨rfl, trivial⟩ rfl

set_option maxRecDepth 10000 in
theorem spec_AutoOk_ok {p0 : TAuto} {r : Bool} (hF : spec_AutoOk p0 = some r) : PC Try.prog 41 [(TAuto.av p0)] fun v => v = (.bool r) := by
  refine PC.enter Try.func41 rfl Try.ntmps41 (by simp) ?_
  have hS := Sep.void; unfold spec_AutoOk at hF
  refine AWP.seqR rfl ?_
  refine ASL.q (v := (.rptr [(.int .i64 p0.letters), (.int .i64 p0.states), (.int .i64 p0.start), (.list 4 (List.map TEdge.av p0.edges))])) rfl rfl ((qBoxI (v := (TAuto.av p0)) rfl rfl rfl rfl)) ?_
  refine ASL.q (v := (.bool false)) rfl rfl (Light.quiet (opAssign rfl rfl)) ?_
  refine ASL.done ?_
  refine AWP.seq ?_
  refine AWP.seqD [(0, false), (1, false), (2, false), (3, false), (4, false), (5, false), (6, false), (7, false), (8, false), (9, false), (10, false), (11, false), (12, false), (13, false), (14, false), (15, false), (16, false), (17, false), (18, false), (19, false), (20, false), (21, false), (22, false), (23, false), (24, false), (25, false)] mixed (by kernel_rfl) rfl ?_
  refine ARL.q0 (v := (.rptr [(.int .i64 p0.letters), (.int .i64 p0.states), (.int .i64 p0.start), (.list 4 (List.map TEdge.av p0.edges))])) rfl rfl (Light.quiet (opFieldAddrR rfl fieldA_29_0 rfl rfl)) ?_
  refine ARL.q0 (v := (.int .i64 p0.letters)) rfl rfl (Light.quiet (opLoadR rfl aggA_3 rfl rfl)) ?_
  refine ARL.q0 (v := (.bool (spec_l1In p0.letters 1 8))) rfl rfl ((qCall rfl rfl call_89 (spec_l1In_ok p0.letters 1 8) rfl)) ?_
  refine ARL.q0 (v := (.bool (!(spec_l1In p0.letters 1 8)))) rfl rfl (Light.quiet (opNot rfl rfl)) ?_
  obtain ⟨c9, hc9, hF⟩ := bndE hF
  refine ARL.q0 (v := (.bool c9)) rfl rfl ((Quiet.cast (Light.quiet (opMove rfl rfl)) (congrArg AV.bool hc9.symm))) ?_
  refine ARL.g (v := (.rptr [(.int .i64 p0.states), (.int .i64 p0.start), (.list 4 (List.map TEdge.av p0.edges))])) (.bool c9) false rfl (wF _) rfl noneAlive (fun hG => by have q0 := gN hG; subst q0; exact Light.quiet (opFieldAddrR rfl fieldA_29_1 rfl rfl)) ?_
  refine ARL.g (v := (.int .i64 p0.states)) (.bool c9) false rfl (wF _) rfl noneAlive (fun hG => by have q0 := gN hG; subst q0; exact Light.quiet (opLoadR rfl aggA_3 rfl rfl)) ?_
  refine ARL.g (v := (.bool (spec_l1In p0.states 0 31))) (.bool c9) false rfl (wF _) rfl noneAlive (fun hG => by have q0 := gN hG; subst q0; exact (qCall rfl rfl call_89 (spec_l1In_ok p0.states 0 31) rfl)) ?_
  refine ARL.g (v := (.bool (!(spec_l1In p0.states 0 31)))) (.bool c9) false rfl (wF _) rfl noneAlive (fun hG => by have q0 := gN hG; subst q0; exact Light.quiet (opNot rfl rfl)) ?_
  refine ARL.q0 (v := (.bool (c9 || (!(spec_l1In p0.states 0 31))))) rfl rfl (Light.quiet (opPick (b := c9) rfl rfl (by cases c9 <;> rfl))) ?_
  obtain ⟨c15, hc15, hF⟩ := bndE hF
  refine ARL.q0 (v := (.bool c15)) rfl rfl ((Quiet.cast (Light.quiet (opMove rfl rfl)) (congrArg AV.bool hc15.symm))) ?_
  refine ARL.g (v := (.rptr [(.int .i64 p0.start), (.list 4 (List.map TEdge.av p0.edges))])) (.bool c15) false rfl (wF _) rfl noneAlive (fun hG => by have q0 := gN hG; subst q0; exact Light.quiet (opFieldAddrR rfl fieldA_29_2 rfl rfl)) ?_
  refine ARL.g (v := (.int .i64 p0.start)) (.bool c15) false rfl (wF _) rfl noneAlive (fun hG => by have q0 := gN hG; subst q0; exact Light.quiet (opLoadR rfl aggA_3 rfl rfl)) ?_
  refine ARL.g (v := (.rptr [(.int .i64 p0.states), (.int .i64 p0.start), (.list 4 (List.map TEdge.av p0.edges))])) (.bool c15) false rfl (wF _) rfl noneAlive (fun hG => by have q0 := gN hG; subst q0; exact Light.quiet (opFieldAddrR rfl fieldA_29_1 rfl rfl)) ?_
  refine ARL.g (v := (.int .i64 p0.states)) (.bool c15) false rfl (wF _) rfl noneAlive (fun hG => by have q0 := gN hG; subst q0; exact Light.quiet (opLoadR rfl aggA_3 rfl rfl)) ?_
  obtain ⟨u1, hu1, hF⟩ := bindE hF
  refine ARL.g (v := (.int .i64 (shl .i64 1 p0.states))) (.bool c15) false rfl (wF _) rfl noneAlive (fun hG => by have q0 := gN hG; subst q0; exact Light.quiet (opShl rfl rfl rfl (of_decide_eq_true (chkE (whenE hu1))) rfl)) ?_
  refine ARL.g (v := (.int .i64 (W (((shl .i64 1 p0.states)) - 1)))) (.bool c15) false rfl (wF _) rfl noneAlive (fun hG => by have q0 := gN hG; subst q0; exact Light.quiet (opInt rfl rfl rfl rfl)) ?_
  refine ARL.g (v := (.bool (spec_SetIn p0.start ((W (((shl .i64 1 p0.states)) - 1)))))) (.bool c15) false rfl (wF _) rfl noneAlive (fun hG => by have q0 := gN hG; subst q0; exact (qCall rfl rfl call_61 (spec_SetIn_ok p0.start ((W (((shl .i64 1 p0.states)) - 1)))) rfl)) ?_
  refine ARL.g (v := (.bool (!(spec_SetIn p0.start ((W (((shl .i64 1 p0.states)) - 1))))))) (.bool c15) false rfl (wF _) rfl noneAlive (fun hG => by have q0 := gN hG; subst q0; exact Light.quiet (opNot rfl rfl)) ?_
  refine ARL.q0 (v := (.bool (c15 || (!(spec_SetIn p0.start ((W (((shl .i64 1 p0.states)) - 1)))))))) rfl rfl (Light.quiet (opPick (b := c15) rfl rfl (by cases c15 <;> rfl))) ?_
  obtain ⟨c25, hc25, hF⟩ := bndE hF
  refine ARL.q0 (v := (.bool c25)) rfl rfl ((Quiet.cast (Light.quiet (opMove rfl rfl)) (congrArg AV.bool hc25.symm))) ?_
  refine ARL.g (v := (.rptr [(.list 4 (List.map TEdge.av p0.edges))])) (.bool c25) false rfl (wF _) rfl noneAlive (fun hG => by have q0 := gN hG; subst q0; exact Light.quiet (opFieldAddrR rfl fieldA_29_3 rfl rfl)) ?_
  refine ARL.g (v := (.list 4 (List.map TEdge.av p0.edges))) (.bool c25) false rfl (wF _) rfl noneAlive (fun hG => by have q0 := gN hG; subst q0; exact Light.quiet (opLoadR rfl aggA_27 rfl rfl)) ?_
  refine ARL.g (v := (.int .i64 (p0.edges.length : Int))) (.bool c25) false rfl (wF _) rfl noneAlive (fun hG => by have q0 := gN hG; subst q0; exact Light.quiet (opLenMap (f := TEdge.av) rfl rfl rfl lenT_27 rfl)) ?_
  refine ARL.g (v := (.bool (decide (((p0.edges.length : Int)) > 2000)))) (.bool c25) false rfl (wF _) rfl noneAlive (fun hG => by have q0 := gN hG; subst q0; exact Light.quiet (opInt rfl rfl rfl rfl)) ?_
  refine ARL.q0 (v := (.bool (c25 || (decide (((p0.edges.length : Int)) > 2000))))) rfl rfl (Light.quiet (opPick (b := c25) rfl rfl (by cases c25 <;> rfl))) ?_
  refine ARL.done ?_
  refine AWP.ifB hF rfl (fun hc2 hF => ?_) (fun hc2 hF => ?_)
  · skip
    refine AWP.seqR rfl ?_
    refine ASL.q (v := (.bool false)) rfl rfl (Light.quiet (opAssign rfl rfl)) ?_
    refine ASL.done ?_
    refine AWP.ret ?_
    refine QThen.rt ?_
    obtain rfl := someE hF
    exact QRet.sole (v := (.bool false)) ⟨rfl, trivial⟩ rfl
  · skip
    refine AWP.skip ?_
    refine QThen.nrm ?_
    refine AWP.seqM (fun e H => E.Told e [] ∧ E.Sep H [] ∧ spec_AutoOk.k0 = some r) ?_ ?_
    · rintro e0 G3 ⟨hT, hS, hF⟩; refine AWP.only _ hT ?_; unfold spec_AutoOk.k0 at hF
      refine AWP.seqR rfl ?_
      refine ASL.q (v := (.bool true)) rfl rfl (Light.quiet (opAssign rfl rfl)) ?_
      refine ASL.done ?_
      refine AWP.ret ?_
      obtain rfl := someE hF
      exact QRet.sole (v := (.bool true)) ⟨rfl, trivial⟩ rfl
    · skip
      refine AWP.seqR rfl ?_
      refine ASL.q (v := (.int .i64 0)) rfl rfl (Light.quiet (opAssign rfl rfl)) ?_
      refine ASL.done ?_
      refine AWP.block ?_
      obtain ⟨o7, hL6, hR8⟩ := bindE hF
      refine AWP.loopF (ω := Unit) hL6 (fun s w => [(1, (.rptr [(.int .i64 p0.letters), (.int .i64 p0.states), (.int .i64 p0.start), (.list 4 (List.map TEdge.av p0.edges))])), (3, (.int .i64 s))]) (fun s w => []) () ⟨rfl, rfl, trivial⟩ (hS.pick [] rfl rfl) ?_
      rintro x3_l0 _ G9 hS x4 hF hx5
      try dsimp only at hS ⊢
      have hF : spec_AutoOk.b0 p0 x3_l0 = some x4 := hF; unfold spec_AutoOk.b0 at hF
      refine AWP.seq ?_
      refine AWP.seqR rfl ?_
      refine ASL.q (v := (.int .i64 x3_l0)) rfl rfl (Light.quiet (opMove rfl rfl)) ?_
      refine ASL.q (v := (.rptr [(.list 4 (List.map TEdge.av p0.edges))])) rfl rfl (Light.quiet (opFieldAddrR rfl fieldA_29_3 rfl rfl)) ?_
      refine ASL.q (v := (.list 4 (List.map TEdge.av p0.edges))) rfl rfl (Light.quiet (opLoadR rfl aggA_27 rfl rfl)) ?_
      refine ASL.q (v := (.int .i64 (p0.edges.length : Int))) rfl rfl (Light.quiet (opLenMap (f := TEdge.av) rfl rfl rfl lenT_27 rfl)) ?_
      refine ASL.q (v := (.bool (decide (x3_l0 < ((p0.edges.length : Int)))))) rfl rfl (Light.quiet (opInt rfl rfl rfl rfl)) ?_
      refine ASL.done ?_
      refine AWP.ifP hF rfl (fun hc10 hF => ?_) (fun hc10 hF => ?_)
      · skip
        refine AWP.skip ?_
        refine QThen.nrm ?_
        refine AWP.seq ?_
        refine AWP.block ?_
        refine AWP.seqR rfl ?_
        refine ASL.q (v := (.rptr [(.list 4 (List.map TEdge.av p0.edges))])) rfl rfl (Light.quiet (opFieldAddrR rfl fieldA_29_3 rfl rfl)) ?_
        refine ASL.q (v := (.list 4 (List.map TEdge.av p0.edges))) rfl rfl (Light.quiet (opLoadR rfl aggA_27 rfl rfl)) ?_
        refine ASL.q (v := (.int .i64 x3_l0)) rfl rfl (Light.quiet (opMove rfl rfl)) ?_
        obtain ⟨a41, ha41, hF⟩ := bindE hF
        refine ASL.q (v := (.rptr [(.int .i64 a41.from_), (.int .i64 a41.letter), (.int .i64 a41.to_), (.bool a41.good)])) rfl rfl (Light.quiet (kIx (f := TEdge.av) ha41 rfl rfl rfl elemA_27 sizeA_73 rfl)) ?_
        refine ASL.q (v := (TEdge.av a41)) rfl rfl (Light.quiet (opLoadRA rfl aggA_73 sizeA_73 rfl (nlt rfl) rfl)) ?_
        refine ASL.x rfl rfl (hNewZ hS [(.int .i64 0), (.int .i64 0), (.int .i64 0), (.bool false)] rfl zeroA_73 ⟨.inl rfl, .inl rfl, .inl rfl, .inl rfl, trivial⟩ ?_); rintro b4 G11 hK hS
        refine ASL.n rfl rfl (hPutA hS (j := 0) rfl rfl sizeA_73 rfl rfl rfl rfl rfl (nlt rfl) ?_); rintro G13 hS
        refine ASL.done ?_
        refine AWP.seqD [(0, false), (1, false), (2, false), (3, false), (4, false), (5, false), (6, false), (7, false), (8, false), (9, false), (10, false), (11, false), (12, false), (13, false), (14, false), (15, false), (16, false), (17, false), (18, false), (19, false), (20, false), (21, false), (22, false), (23, false), (24, false), (25, false), (26, false), (27, false), (28, false), (29, false), (30, false), (31, false), (32, false), (33, false), (34, false), (35, false), (36, false), (37, false)] mixed (by kernel_rfl) rfl ?_
        refine ARL.q0 (v := (.ptr b4 0)) rfl rfl (Light.quiet (opFieldAddr rfl fieldA_73_0 rfl rfl)) ?_
        refine ARL.q (v := (.int .i64 a41.from_)) rfl rfl (hS.aliveC (k := 0) rfl) (Light.quiet (kAt hS (j := 0) rfl rfl aggA_3 rfl rfl)) ?_
        refine ARL.q0 (v := (.rptr [(.int .i64 p0.states), (.int .i64 p0.start), (.list 4 (List.map TEdge.av p0.edges))])) rfl rfl (Light.quiet (opFieldAddrR rfl fieldA_29_1 rfl rfl)) ?_
        refine ARL.q0 (v := (.int .i64 p0.states)) rfl rfl (Light.quiet (opLoadR rfl aggA_3 rfl rfl)) ?_
        refine ARL.q0 (v := (.bool (spec_l4State a41.from_ p0.states))) rfl rfl ((qCall rfl rfl call_62 (spec_l4State_ok a41.from_ p0.states) rfl)) ?_
        refine ARL.q0 (v := (.bool (!(spec_l4State a41.from_ p0.states)))) rfl rfl (Light.quiet (opNot rfl rfl)) ?_
        obtain ⟨c49, hc49, hF⟩ := bndE hF
        refine ARL.q0 (v := (.bool c49)) rfl rfl ((Quiet.cast (Light.quiet (opMove rfl rfl)) (congrArg AV.bool hc49.symm))) ?_
        refine ARL.g (v := (.ptr b4 2)) (.bool c49) false rfl (wF _) rfl noneAlive (fun hG => by have q0 := gN hG; subst q0; exact Light.quiet (opFieldAddr rfl fieldA_73_2 rfl rfl)) ?_
        refine ARL.g (v := (.int .i64 a41.to_)) (.bool c49) false rfl (wF _) rfl (hS.aliveC (k := 0) rfl) (fun hG => by have q0 := gN hG; subst q0; exact Light.quiet (kAt hS (j := 0) rfl rfl aggA_3 rfl rfl)) ?_
        refine ARL.g (v := (.rptr [(.int .i64 p0.states), (.int .i64 p0.start), (.list 4 (List.map TEdge.av p0.edges))])) (.bool c49) false rfl (wF _) rfl noneAlive (fun hG => by have q0 := gN hG; subst q0; exact Light.quiet (opFieldAddrR rfl fieldA_29_1 rfl rfl)) ?_
        refine ARL.g (v := (.int .i64 p0.states)) (.bool c49) false rfl (wF _) rfl noneAlive (fun hG => by have q0 := gN hG; subst q0; exact Light.quiet (opLoadR rfl aggA_3 rfl rfl)) ?_
        refine ARL.g (v := (.bool (spec_l4State a41.to_ p0.states))) (.bool c49) false rfl (wF _) rfl noneAlive (fun hG => by have q0 := gN hG; subst q0; exact (qCall rfl rfl call_62 (spec_l4State_ok a41.to_ p0.states) rfl)) ?_
        refine ARL.g (v := (.bool (!(spec_l4State a41.to_ p0.states)))) (.bool c49) false rfl (wF _) rfl noneAlive (fun hG => by have q0 := gN hG; subst q0; exact Light.quiet (opNot rfl rfl)) ?_
        refine ARL.q0 (v := (.bool (c49 || (!(spec_l4State a41.to_ p0.states))))) rfl rfl (Light.quiet (opPick (b := c49) rfl rfl (by cases c49 <;> rfl))) ?_
        obtain ⟨c57, hc57, hF⟩ := bndE hF
        refine ARL.q0 (v := (.bool c57)) rfl rfl ((Quiet.cast (Light.quiet (opMove rfl rfl)) (congrArg AV.bool hc57.symm))) ?_
        refine ARL.g (v := (.ptr b4 1)) (.bool c57) false rfl (wF _) rfl noneAlive (fun hG => by have q0 := gN hG; subst q0; exact Light.quiet (opFieldAddr rfl fieldA_73_1 rfl rfl)) ?_
        refine ARL.g (v := (.int .i64 a41.letter)) (.bool c57) false rfl (wF _) rfl (hS.aliveC (k := 0) rfl) (fun hG => by have q0 := gN hG; subst q0; exact Light.quiet (kAt hS (j := 0) rfl rfl aggA_3 rfl rfl)) ?_
        refine ARL.g (v := (.rptr [(.int .i64 p0.letters), (.int .i64 p0.states), (.int .i64 p0.start), (.list 4 (List.map TEdge.av p0.edges))])) (.bool c57) false rfl (wF _) rfl noneAlive (fun hG => by have q0 := gN hG; subst q0; exact Light.quiet (opFieldAddrR rfl fieldA_29_0 rfl rfl)) ?_
        refine ARL.g (v := (.int .i64 p0.letters)) (.bool c57) false rfl (wF _) rfl noneAlive (fun hG => by have q0 := gN hG; subst q0; exact Light.quiet (opLoadR rfl aggA_3 rfl rfl)) ?_
        refine ARL.g (v := (.int .i64 (W (p0.letters - 1)))) (.bool c57) false rfl (wF _) rfl noneAlive (fun hG => by have q0 := gN hG; subst q0; exact Light.quiet (opInt rfl rfl rfl rfl)) ?_
        refine ARL.g (v := (.bool (spec_l1In a41.letter 0 ((W (p0.letters - 1)))))) (.bool c57) false rfl (wF _) rfl noneAlive (fun hG => by have q0 := gN hG; subst q0; exact (qCall rfl rfl call_89 (spec_l1In_ok a41.letter 0 ((W (p0.letters - 1)))) rfl)) ?_
        refine ARL.g (v := (.bool (!(spec_l1In a41.letter 0 ((W (p0.letters - 1))))))) (.bool c57) false rfl (wF _) rfl noneAlive (fun hG => by have q0 := gN hG; subst q0; exact Light.quiet (opNot rfl rfl)) ?_
        refine ARL.q0 (v := (.bool (c57 || (!(spec_l1In a41.letter 0 ((W (p0.letters - 1)))))))) rfl rfl (Light.quiet (opPick (b := c57) rfl rfl (by cases c57 <;> rfl))) ?_
        obtain ⟨c66, hc66, hF⟩ := bndE hF
        refine ARL.q0 (v := (.bool c66)) rfl rfl ((Quiet.cast (Light.quiet (opMove rfl rfl)) (congrArg AV.bool hc66.symm))) ?_
        refine ARL.g (v := (.int .i64 x3_l0)) (.bool c66) false rfl (wF _) rfl noneAlive (fun hG => by have q0 := gN hG; subst q0; exact Light.quiet (opMove rfl rfl)) ?_
        refine ARL.g (v := (.bool (decide (x3_l0 > 0)))) (.bool c66) false rfl (wF _) rfl noneAlive (fun hG => by have q0 := gN hG; subst q0; exact Light.quiet (opInt rfl rfl rfl rfl)) ?_
        obtain ⟨c69, hc69, hF⟩ := bndE hF
        refine ARL.g (v := (.bool c69)) (.bool c66) false rfl (wF _) rfl noneAlive (fun hG => by have q0 := gN hG; subst q0; exact (Quiet.cast (Light.quiet (opMove rfl rfl)) (congrArg AV.bool hc69.symm))) ?_
        refine ARL.g (v := (.rptr [(.list 4 (List.map TEdge.av p0.edges))])) (bif (!c66) then (.bool c69) else .tup []) true rfl (wGT _ _) rfl noneAlive (fun hG => by have q0 := gN (gA1 hG); have q1 := gA2 hG; subst q0; subst q1; exact Light.quiet (opFieldAddrR rfl fieldA_29_3 rfl rfl)) ?_
        refine ARL.g (v := (.list 4 (List.map TEdge.av p0.edges))) (bif (!c66) then (.bool c69) else .tup []) true rfl (wGT _ _) rfl noneAlive (fun hG => by have q0 := gN (gA1 hG); have q1 := gA2 hG; subst q0; subst q1; exact Light.quiet (opLoadR rfl aggA_27 rfl rfl)) ?_
        refine ARL.g (v := (.int .i64 x3_l0)) (bif (!c66) then (.bool c69) else .tup []) true rfl (wGT _ _) rfl noneAlive (fun hG => by have q0 := gN (gA1 hG); have q1 := gA2 hG; subst q0; subst q1; exact Light.quiet (opMove rfl rfl)) ?_
        refine ARL.g (v := (.int .i64 (W (x3_l0 - 1)))) (bif (!c66) then (.bool c69) else .tup []) true rfl (wGT _ _) rfl noneAlive (fun hG => by have q0 := gN (gA1 hG); have q1 := gA2 hG; subst q0; subst q1; exact Light.quiet (opInt rfl rfl rfl rfl)) ?_
        obtain ⟨a74, ha74, hF⟩ := bindE hF
        refine ARL.g (v := (.rptr [(.int .i64 a74.from_), (.int .i64 a74.letter), (.int .i64 a74.to_), (.bool a74.good)])) (bif (!c66) then (.bool c69) else .tup []) true rfl (wGT _ _) rfl noneAlive (fun hG => by have q0 := gN (gA1 hG); have q1 := gA2 hG; subst q0; subst q1; exact Light.quiet (kIx (f := TEdge.av) (whenE ha74) rfl rfl rfl elemA_27 sizeA_73 rfl)) ?_
        refine ARL.g (v := (TEdge.av a74)) (bif (!c66) then (.bool c69) else .tup []) true rfl (wGT _ _) rfl noneAlive (fun hG => by have q0 := gN (gA1 hG); have q1 := gA2 hG; subst q0; subst q1; exact Light.quiet (opLoadRA rfl aggA_73 sizeA_73 rfl (nlt rfl) rfl)) ?_
        refine ARL.g (v := (TEdge.av a41)) (bif (!c66) then (.bool c69) else .tup []) true rfl (wGT _ _) rfl (hS.aliveC (k := 0) rfl) (fun hG => by have q0 := gN (gA1 hG); have q1 := gA2 hG; subst q0; subst q1; exact Light.quiet (kAtA hS (j := 0) rfl rfl aggA_73 sizeA_73 rfl (nlt rfl) rfl)) ?_
        refine ARL.g (v := (.bool (spec_l4Less a74 a41))) (bif (!c66) then (.bool c69) else .tup []) true rfl (wGT _ _) rfl noneAlive (fun hG => by have q0 := gN (gA1 hG); have q1 := gA2 hG; subst q0; subst q1; exact (qCall rfl rfl call_90 (spec_l4Less_ok a74 a41) rfl)) ?_
        refine ARL.g (v := (.bool (!(spec_l4Less a74 a41)))) (bif (!c66) then (.bool c69) else .tup []) true rfl (wGT _ _) rfl noneAlive (fun hG => by have q0 := gN (gA1 hG); have q1 := gA2 hG; subst q0; subst q1; exact Light.quiet (opNot rfl rfl)) ?_
        refine ARL.g (v := (.bool (c69 && (!(spec_l4Less a74 a41))))) (.bool c66) false rfl (wF _) rfl noneAlive (fun hG => by have q0 := gN hG; subst q0; exact Light.quiet (opPick (b := c69) rfl rfl (by cases c69 <;> rfl))) ?_
        refine ARL.q0 (v := (.bool (c66 || (c69 && (!(spec_l4Less a74 a41)))))) rfl rfl (Light.quiet (opPick (b := c66) rfl rfl (by cases c66 <;> rfl))) ?_
        refine ARL.done ?_
        refine AWP.ifB hF rfl (fun hc14 hF => ?_) (fun hc14 hF => ?_)
        · skip
          refine AWP.seqR rfl ?_
          refine ASL.q (v := (.bool false)) rfl rfl (Light.quiet (opAssign rfl rfl)) ?_
          refine ASL.done ?_
          refine AWP.ret ?_
          refine QBlock.ret ?_
          refine QThen.rt ?_
          refine QThen.rt ?_
          refine QBlock.ret ?_
          refine QThen.rt ?_
          obtain rfl := (hx5 _ (someE hF).symm)
          have hF := hR8
          have hF := sumR hF
          obtain rfl := someE hF
          exact QRet.sole (v := (.bool false)) ⟨rfl, trivial⟩ rfl
        · skip
          refine AWP.skip ?_
          refine QBlock.nrm ?_
          refine QThen.nrm ?_
          refine AWP.lastR rfl ?_
          refine ASL.q (v := (.int .i64 x3_l0)) rfl rfl (Light.quiet (opMove rfl rfl)) ?_
          refine ASL.q (v := (.int .i64 (W (x3_l0 + 1)))) rfl rfl (Light.quiet (opInt rfl rfl rfl rfl)) ?_
          refine ASL.q (v := (.int .i64 (W (x3_l0 + 1)))) rfl rfl (Light.quiet (opAssign rfl rfl)) ?_
          refine ASL.done ?_
          refine QThen.nrm ?_
          exact ⟨(W (x3_l0 + 1)), (), (someE hF).symm, ⟨rfl, rfl, trivial⟩, (hS.pick [] rfl rfl)⟩
      · skip
        refine AWP.exit ?_
        refine QThen.ext ?_
        refine QThen.ext ?_
        refine QBlock.hit ?_
        obtain rfl := (hx5 _ (someE hF).symm)
        have hF := hR8
        have hF := sumL hF
        refine QThen.nrm ?_
        exact ⟨trivial, (hS.pick [] rfl rfl), hF⟩

set_option maxRecDepth 10000 in
theorem spec_l1Bit_ok {p0 : Int} {r : Int} (hF : spec_l1Bit p0 = some r) : PC Try.prog 47 [(.int .i64 p0)] fun v => v = (.int .i64 r) := by
  refine PC.enter Try.func47 rfl Try.ntmps47 (by simp) ?_
  have hS := Sep.void; unfold spec_l1Bit at hF
  refine AWP.seqR rfl ?_
  refine ASL.q (v := (.int .i64 0)) rfl rfl (Light.quiet (opAssign rfl rfl)) ?_
  refine ASL.done ?_
  refine AWP.seqR rfl ?_
  refine ASL.q (v := (.int .i64 p0)) rfl rfl (Light.quiet (opMove rfl rfl)) ?_
  refine ASL.q (v := (.int .i64 (bAnd .i64 p0 31))) rfl rfl (Light.quiet (opInt rfl rfl rfl rfl)) ?_
  obtain ⟨u1, hu1, hF⟩ := bindE hF
  refine ASL.q (v := (.int .i64 (shl .i64 1 ((bAnd .i64 p0 31))))) rfl rfl (Light.quiet (opShl rfl rfl rfl (of_decide_eq_true (chkE hu1)) rfl)) ?_
  refine ASL.q (v := (.int .i64 (shl .i64 1 ((bAnd .i64 p0 31))))) rfl rfl (Light.quiet (opAssign rfl rfl)) ?_
  refine ASL.done ?_
  refine AWP.ret ?_
  obtain rfl := someE hF
  exact QRet.sole (v := (.int .i64 (shl .i64 1 ((bAnd .i64 p0 31))))) ⟨rfl, trivial⟩ rfl

set_option maxRecDepth 10000 in
theorem spec_l1Has_ok {p0 : Int} {p1 : Int} {r : Bool} (hF : spec_l1Has p0 p1 = some r) : PC Try.prog 48 [(.int .i64 p0), (.int .i64 p1)] fun v => v = (.bool r) := by
  refine PC.enter Try.func48 rfl Try.ntmps48 (by simp) ?_
  have hS := Sep.void; unfold spec_l1Has at hF
  refine AWP.seqR rfl ?_
  refine ASL.q (v := (.bool false)) rfl rfl (Light.quiet (opAssign rfl rfl)) ?_
  refine ASL.done ?_
  refine AWP.seqR rfl ?_
  refine ASL.q (v := (.int .i64 p1)) rfl rfl (Light.quiet (opMove rfl rfl)) ?_
  refine ASL.q (v := (.bool (spec_l1In p1 0 30))) rfl rfl ((qCall rfl rfl call_89 (spec_l1In_ok p1 0 30) rfl)) ?_
  obtain ⟨c7, hc7, hF⟩ := bndE hF
  refine ASL.q (v := (.bool c7)) rfl rfl ((Quiet.cast (Light.quiet (opMove rfl rfl)) (congrArg AV.bool hc7.symm))) ?_
  refine ASL.g (v := (.int .i64 p0)) (.bool c7) true rfl (wT _) rfl (fun hG => by have q0 := hG; subst q0; exact Light.quiet (opMove rfl rfl)) ?_
  refine ASL.g (v := (.int .i64 p1)) (.bool c7) true rfl (wT _) rfl (fun hG => by have q0 := hG; subst q0; exact Light.quiet (opMove rfl rfl)) ?_
  obtain ⟨a10, ha10, hF⟩ := bindE hF
  refine ASL.g (v := (.int .i64 a10)) (.bool c7) true rfl (wT _) rfl (fun hG => by have q0 := hG; subst q0; exact (qCall rfl rfl call_47 (spec_l1Bit_ok (whenE ha10)) rfl)) ?_
  refine ASL.g (v := (.int .i64 (bAnd .i64 p0 a10))) (.bool c7) true rfl (wT _) rfl (fun hG => by have q0 := hG; subst q0; exact Light.quiet (opInt rfl rfl rfl rfl)) ?_
  refine ASL.g (v := (.bool (decide (((bAnd .i64 p0 a10)) ≠ 0)))) (.bool c7) true rfl (wT _) rfl (fun hG => by have q0 := hG; subst q0; exact Light.quiet (opInt rfl rfl rfl rfl)) ?_
  refine ASL.q (v := (.bool (c7 && (decide (((bAnd .i64 p0 a10)) ≠ 0))))) rfl rfl (Light.quiet (opPick (b := c7) rfl rfl (by cases c7 <;> rfl))) ?_
  refine ASL.q (v := (.bool (c7 && (decide (((bAnd .i64 p0 a10)) ≠ 0))))) rfl rfl (Light.quiet (opAssign rfl rfl)) ?_
  refine ASL.done ?_
  refine AWP.ret ?_
  obtain rfl := someE hF
  exact QRet.sole (v := (.bool (c7 && (decide (((bAnd .i64 p0 a10)) ≠ 0))))) ⟨rfl, trivial⟩ rfl

set_option maxRecDepth 10000 in
theorem spec_l4Reach_ok {p0 : TAuto} {p1 : Int} {r : Int} (hF : spec_l4Reach p0 p1 = some r) : PC Try.prog 46 [(TAuto.av p0), (.int .i64 p1)] fun v => v = (.int .i64 r) := by
  refine PC.enter Try.func46 rfl Try.ntmps46 (by simp) ?_
  have hS := Sep.void; unfold spec_l4Reach at hF
  refine AWP.seqR rfl ?_
  refine ASL.q (v := (.rptr [(.int .i64 p0.letters), (.int .i64 p0.states), (.int .i64 p0.start), (.list 4 (List.map TEdge.av p0.edges))])) rfl rfl ((qBoxI (v := (TAuto.av p0)) rfl rfl rfl rfl)) ?_
  refine ASL.q (v := (.int .i64 0)) rfl rfl (Light.quiet (opAssign rfl rfl)) ?_
  refine ASL.done ?_
  refine AWP.seqM (fun e H => ∃ x1_1 : Int, E.Told e [(1, (.int .i64 x1_1))] ∧ E.Sep H [] ∧ spec_l4Reach.k0 x1_1 = some r) ?_ ?_
  · rintro e0 G1 ⟨x1_1, hT, hS, hF⟩; refine AWP.only _ hT ?_; unfold spec_l4Reach.k0 at hF
    refine AWP.seqR rfl ?_
    refine ASL.q (v := (.int .i64 x1_1)) rfl rfl (Light.quiet (opMove rfl rfl)) ?_
    refine ASL.q (v := (.int .i64 x1_1)) rfl rfl (Light.quiet (opAssign rfl rfl)) ?_
    refine ASL.done ?_
    refine AWP.ret ?_
    obtain rfl := someE hF
    exact QRet.sole (v := (.int .i64 x1_1)) ⟨rfl, trivial⟩ rfl
  · skip
    refine AWP.seqR rfl ?_
    refine ASL.q (v := (.int .i64 0)) rfl rfl (Light.quiet (opAssign rfl rfl)) ?_
    refine ASL.done ?_
    refine AWP.block ?_
    obtain ⟨o5, hL4, hR6⟩ := bindE hF
    refine AWP.loopF (ω := Unit) hL4 (fun s w => [(1, (.int .i64 s.1)), (2, (.rptr [(.int .i64 p0.letters), (.int .i64 p0.states), (.int .i64 p0.start), (.list 4 (List.map TEdge.av p0.edges))])), (5, (.int .i64 s.2))]) (fun s w => []) () ⟨rfl, rfl, rfl, trivial⟩ (hS.pick [] rfl rfl) ?_
    rintro ⟨x1_l0, x5_l0⟩ _ G7 hS x2 hF hx3
    try dsimp only at hS ⊢
    have hF : spec_l4Reach.b0 p0 x1_l0 x5_l0 = some x2 := hF; unfold spec_l4Reach.b0 at hF
    refine AWP.seq ?_
    refine AWP.seqR rfl ?_
    refine ASL.q (v := (.int .i64 x5_l0)) rfl rfl (Light.quiet (opMove rfl rfl)) ?_
    refine ASL.q (v := (.rptr [(.int .i64 p0.states), (.int .i64 p0.start), (.list 4 (List.map TEdge.av p0.edges))])) rfl rfl (Light.quiet (opFieldAddrR rfl fieldA_29_1 rfl rfl)) ?_
    refine ASL.q (v := (.int .i64 p0.states)) rfl rfl (Light.quiet (opLoadR rfl aggA_3 rfl rfl)) ?_
    refine ASL.q (v := (.bool (decide (x5_l0 ≤ p0.states)))) rfl rfl (Light.quiet (opInt rfl rfl rfl rfl)) ?_
    refine ASL.done ?_
    refine AWP.ifP hF rfl (fun hc8 hF => ?_) (fun hc8 hF => ?_)
    · skip
      refine AWP.skip ?_
      refine QThen.nrm ?_
      refine AWP.seqM (fun e H => ∃ x1_2 : Int, E.Told e [(1, (.int .i64 x1_2)), (2, (.rptr [(.int .i64 p0.letters), (.int .i64 p0.states), (.int .i64 p0.start), (.list 4 (List.map TEdge.av p0.edges))])), (5, (.int .i64 x5_l0))] ∧ E.Sep H [] ∧ spec_l4Reach.k1 x5_l0 x1_2 = some x2) ?_ ?_
      · rintro e0 G9 ⟨x1_2, hT, hS, hF⟩; refine AWP.only _ hT ?_; unfold spec_l4Reach.k1 at hF
        refine AWP.lastR rfl ?_
        refine ASL.q (v := (.int .i64 x5_l0)) rfl rfl (Light.quiet (opMove rfl rfl)) ?_
        refine ASL.q (v := (.int .i64 (W (x5_l0 + 1)))) rfl rfl (Light.quiet (opInt rfl rfl rfl rfl)) ?_
        refine ASL.q (v := (.int .i64 (W (x5_l0 + 1)))) rfl rfl (Light.quiet (opAssign rfl rfl)) ?_
        refine ASL.done ?_
        refine QThen.nrm ?_
        exact ⟨(x1_2, (W (x5_l0 + 1))), (), (someE hF).symm, ⟨rfl, rfl, rfl, trivial⟩, (hS.pick [] rfl rfl)⟩
      · skip
        refine AWP.block ?_
        refine AWP.seqR rfl ?_
        refine ASL.q (v := (.int .i64 0)) rfl rfl (Light.quiet (opAssign rfl rfl)) ?_
        refine ASL.done ?_
        refine AWP.block ?_
        obtain ⟨o13, hL12, hR14⟩ := bindE hF
        refine AWP.loopF (ω := Unit) hL12 (fun s w => [(1, (.int .i64 s.1)), (2, (.rptr [(.int .i64 p0.letters), (.int .i64 p0.states), (.int .i64 p0.start), (.list 4 (List.map TEdge.av p0.edges))])), (5, (.int .i64 x5_l0)), (6, (.int .i64 s.2))]) (fun s w => []) () ⟨rfl, rfl, rfl, rfl, trivial⟩ (hS.pick [] rfl rfl) ?_
        rintro ⟨x1_l1, x6_l1⟩ _ G15 hS x10 hF hx11
        try dsimp only at hS ⊢
        have hF : spec_l4Reach.b1 p0 x1_l1 x6_l1 = some x10 := hF; unfold spec_l4Reach.b1 at hF
        refine AWP.seq ?_
        refine AWP.seqR rfl ?_
        refine ASL.q (v := (.int .i64 x6_l1)) rfl rfl (Light.quiet (opMove rfl rfl)) ?_
        refine ASL.q (v := (.rptr [(.list 4 (List.map TEdge.av p0.edges))])) rfl rfl (Light.quiet (opFieldAddrR rfl fieldA_29_3 rfl rfl)) ?_
        refine ASL.q (v := (.list 4 (List.map TEdge.av p0.edges))) rfl rfl (Light.quiet (opLoadR rfl aggA_27 rfl rfl)) ?_
        refine ASL.q (v := (.int .i64 (p0.edges.length : Int))) rfl rfl (Light.quiet (opLenMap (f := TEdge.av) rfl rfl rfl lenT_27 rfl)) ?_
        refine ASL.q (v := (.bool (decide (x6_l1 < ((p0.edges.length : Int)))))) rfl rfl (Light.quiet (opInt rfl rfl rfl rfl)) ?_
        refine ASL.done ?_
        refine AWP.ifP hF rfl (fun hc16 hF => ?_) (fun hc16 hF => ?_)
        · skip
          refine AWP.skip ?_
          refine QThen.nrm ?_
          refine AWP.seq ?_
          refine AWP.block ?_
          refine AWP.seqR rfl ?_
          refine ASL.q (v := (.int .i64 x1_l1)) rfl rfl (Light.quiet (opMove rfl rfl)) ?_
          refine ASL.q (v := (.rptr [(.list 4 (List.map TEdge.av p0.edges))])) rfl rfl (Light.quiet (opFieldAddrR rfl fieldA_29_3 rfl rfl)) ?_
          refine ASL.q (v := (.list 4 (List.map TEdge.av p0.edges))) rfl rfl (Light.quiet (opLoadR rfl aggA_27 rfl rfl)) ?_
          refine ASL.q (v := (.int .i64 x6_l1)) rfl rfl (Light.quiet (opMove rfl rfl)) ?_
          obtain ⟨a24, ha24, hF⟩ := bindE hF
          refine ASL.q (v := (.rptr [(.int .i64 a24.from_), (.int .i64 a24.letter), (.int .i64 a24.to_), (.bool a24.good)])) rfl rfl (Light.quiet (kIx (f := TEdge.av) ha24 rfl rfl rfl elemA_27 sizeA_73 rfl)) ?_
          refine ASL.q (v := (.rptr [(.int .i64 a24.from_), (.int .i64 a24.letter), (.int .i64 a24.to_), (.bool a24.good)])) rfl rfl (Light.quiet (opFieldAddrR rfl fieldA_73_0 rfl rfl)) ?_
          refine ASL.q (v := (.int .i64 a24.from_)) rfl rfl (Light.quiet (opLoadR rfl aggA_3 rfl rfl)) ?_
          obtain ⟨a27, ha27, hF⟩ := bindE hF
          refine ASL.q (v := (.bool a27)) rfl rfl ((qCall rfl rfl call_48 (spec_l1Has_ok ha27) rfl)) ?_
          refine ASL.done ?_
          refine AWP.ifB hF rfl (fun hc17 hF => ?_) (fun hc17 hF => ?_)
          · skip
            refine AWP.lastR rfl ?_
            refine ASL.q (v := (.int .i64 x1_l1)) rfl rfl (Light.quiet (opMove rfl rfl)) ?_
            refine ASL.q (v := (.rptr [(.list 4 (List.map TEdge.av p0.edges))])) rfl rfl (Light.quiet (opFieldAddrR rfl fieldA_29_3 rfl rfl)) ?_
            refine ASL.q (v := (.list 4 (List.map TEdge.av p0.edges))) rfl rfl (Light.quiet (opLoadR rfl aggA_27 rfl rfl)) ?_
            refine ASL.q (v := (.int .i64 x6_l1)) rfl rfl (Light.quiet (opMove rfl rfl)) ?_
            obtain ⟨a32, ha32, hF⟩ := bindE hF
            refine ASL.q (v := (.rptr [(.int .i64 a32.from_), (.int .i64 a32.letter), (.int .i64 a32.to_), (.bool a32.good)])) rfl rfl (Light.quiet (kIx (f := TEdge.av) ha32 rfl rfl rfl elemA_27 sizeA_73 rfl)) ?_
            refine ASL.q (v := (.rptr [(.int .i64 a32.to_), (.bool a32.good)])) rfl rfl (Light.quiet (opFieldAddrR rfl fieldA_73_2 rfl rfl)) ?_
            refine ASL.q (v := (.int .i64 a32.to_)) rfl rfl (Light.quiet (opLoadR rfl aggA_3 rfl rfl)) ?_
            obtain ⟨a35, ha35, hF⟩ := bindE hF
            refine ASL.q (v := (.int .i64 a35)) rfl rfl ((qCall rfl rfl call_47 (spec_l1Bit_ok ha35) rfl)) ?_
            refine ASL.q (v := (.int .i64 (bOr .i64 x1_l1 a35))) rfl rfl (Light.quiet (opInt rfl rfl rfl rfl)) ?_
            refine ASL.q (v := (.int .i64 (bOr .i64 x1_l1 a35))) rfl rfl (Light.quiet (opAssign rfl rfl)) ?_
            refine ASL.done ?_
            refine QBlock.nrm ?_
            refine QThen.nrm ?_
            refine AWP.lastR rfl ?_
            refine ASL.q (v := (.int .i64 x6_l1)) rfl rfl (Light.quiet (opMove rfl rfl)) ?_
            refine ASL.q (v := (.int .i64 (W (x6_l1 + 1)))) rfl rfl (Light.quiet (opInt rfl rfl rfl rfl)) ?_
            refine ASL.q (v := (.int .i64 (W (x6_l1 + 1)))) rfl rfl (Light.quiet (opAssign rfl rfl)) ?_
            refine ASL.done ?_
            refine QThen.nrm ?_
            exact ⟨((bOr .i64 x1_l1 a35), (W (x6_l1 + 1))), (), (someE hF).symm, ⟨rfl, rfl, rfl, rfl, trivial⟩, (hS.pick [] rfl rfl)⟩
          · skip
            refine AWP.skip ?_
            refine QBlock.nrm ?_
            refine QThen.nrm ?_
            refine AWP.lastR rfl ?_
            refine ASL.q (v := (.int .i64 x6_l1)) rfl rfl (Light.quiet (opMove rfl rfl)) ?_
            refine ASL.q (v := (.int .i64 (W (x6_l1 + 1)))) rfl rfl (Light.quiet (opInt rfl rfl rfl rfl)) ?_
            refine ASL.q (v := (.int .i64 (W (x6_l1 + 1)))) rfl rfl (Light.quiet (opAssign rfl rfl)) ?_
            refine ASL.done ?_
            refine QThen.nrm ?_
            exact ⟨(x1_l1, (W (x6_l1 + 1))), (), (someE hF).symm, ⟨rfl, rfl, rfl, rfl, trivial⟩, (hS.pick [] rfl rfl)⟩
        · skip
          refine AWP.exit ?_
          refine QThen.ext ?_
          refine QThen.ext ?_
          refine QBlock.hit ?_
          obtain rfl := (hx11 _ (someE hF).symm)
          have hF := hR14
          refine QBlock.nrm ?_
          refine QThen.nrm ?_
          exact ⟨x1_l1, ⟨rfl, rfl, rfl, trivial⟩, (hS.pick [] rfl rfl), hF⟩
    · skip
      refine AWP.exit ?_
      refine QThen.ext ?_
      refine QThen.ext ?_
      refine QBlock.hit ?_
      obtain rfl := (hx3 _ (someE hF).symm)
      have hF := hR6
      refine QThen.nrm ?_
      exact ⟨x1_l0, ⟨rfl, trivial⟩, (hS.pick [] rfl rfl), hF⟩

set_option maxRecDepth 10000 in
theorem spec_AutoLive_ok {p0 : TAuto} {r : Int} (hF : spec_AutoLive p0 = some r) : PC Try.prog 15 [(TAuto.av p0)] fun v => v = (.int .i64 r) := by
  refine PC.enter Try.func15 rfl Try.ntmps15 (by simp) ?_
  have hS := Sep.void; unfold spec_AutoLive at hF
  refine AWP.seqR rfl ?_
  refine ASL.q (v := (.rptr [(.int .i64 p0.letters), (.int .i64 p0.states), (.int .i64 p0.start), (.list 4 (List.map TEdge.av p0.edges))])) rfl rfl ((qBoxI (v := (TAuto.av p0)) rfl rfl rfl rfl)) ?_
  refine ASL.q (v := (.int .i64 0)) rfl rfl (Light.quiet (opAssign rfl rfl)) ?_
  refine ASL.done ?_
  refine AWP.seq ?_
  refine AWP.seqR rfl ?_
  refine ASL.q (v := (TAuto.av p0)) rfl rfl (Light.quiet (opLoadRA rfl aggA_29 sizeA_29 rfl (nlt rfl) rfl)) ?_
  obtain ⟨a11, ha11, hF⟩ := bindE hF
  refine ASL.q (v := (.bool a11)) rfl rfl ((qCall rfl rfl call_41 (spec_AutoOk_ok ha11) rfl)) ?_
  refine ASL.q (v := (.bool (!a11))) rfl rfl (Light.quiet (opNot rfl rfl)) ?_
  refine ASL.done ?_
  refine AWP.ifB hF rfl (fun hc1 hF => ?_) (fun hc1 hF => ?_)
  · skip
    refine AWP.seqR rfl ?_
    refine ASL.q (v := (.int .i64 0)) rfl rfl (Light.quiet (opAssign rfl rfl)) ?_
    refine ASL.done ?_
    refine AWP.ret ?_
    refine QThen.rt ?_
    obtain rfl := someE hF
    exact QRet.sole (v := (.int .i64 0)) ⟨rfl, trivial⟩ rfl
  · skip
    refine AWP.skip ?_
    refine QThen.nrm ?_
    refine AWP.seqR rfl ?_
    refine ASL.x rfl rfl (hLit (f := (AV.int .i64)) (zs := []) hS rfl rfl elemA_34 sizeA_3 zeroA_3 rfl rfl rfl rfl (by simp [cells]) (nlt rfl) ?_); rintro v13 G2 hK hS
    refine ASL.q (v := v13) rfl rfl (Light.quiet (opAssign rfl rfl)) ?_
    refine ASL.done ?_
    refine AWP.seqM (fun e H => ∃ y4 : (List Int), ∃ w5 : AV, E.Told e [(1, (.rptr [(.int .i64 p0.letters), (.int .i64 p0.states), (.int .i64 p0.start), (.list 4 (List.map TEdge.av p0.edges))])), (3, w5)] ∧ E.Sep H [.row 1 w5 (List.map (AV.int .i64) y4)] ∧ spec_AutoLive.k0 p0 y4 = some r) ?_ ?_
    · rintro e0 G28 ⟨y4, w5, hT, hS, hF⟩; refine AWP.only _ hT ?_; unfold spec_AutoLive.k0 at hF
      refine AWP.seqR rfl ?_
      refine ASL.q (v := (.int .i64 0)) rfl rfl (Light.quiet (opAssign rfl rfl)) ?_
      refine ASL.done ?_
      refine AWP.seqM (fun e H => ∃ x5_2 : Int, E.Told e [(1, (.rptr [(.int .i64 p0.letters), (.int .i64 p0.states), (.int .i64 p0.start), (.list 4 (List.map TEdge.av p0.edges))])), (3, w5), (5, (.int .i64 x5_2))] ∧ E.Sep H [.row 1 w5 (List.map (AV.int .i64) y4)] ∧ spec_AutoLive.k1 p0 y4 x5_2 = some r) ?_ ?_
      · rintro e0 G16 ⟨x5_2, hT, hS, hF⟩; refine AWP.only _ hT ?_; unfold spec_AutoLive.k1 at hF
        refine AWP.seqR rfl ?_
        refine ASL.q (v := (.int .i64 0)) rfl rfl (Light.quiet (opAssign rfl rfl)) ?_
        refine ASL.done ?_
        refine AWP.seqM (fun e H => ∃ x8_3 : Int, E.Told e [(8, (.int .i64 x8_3))] ∧ E.Sep H [] ∧ spec_AutoLive.k2 x8_3 = some r) ?_ ?_
        · rintro e0 G7 ⟨x8_3, hT, hS, hF⟩; refine AWP.only _ hT ?_; unfold spec_AutoLive.k2 at hF
          refine AWP.seqR rfl ?_
          refine ASL.q (v := (.int .i64 x8_3)) rfl rfl (Light.quiet (opMove rfl rfl)) ?_
          refine ASL.q (v := (.int .i64 x8_3)) rfl rfl (Light.quiet (opAssign rfl rfl)) ?_
          refine ASL.done ?_
          refine AWP.ret ?_
          obtain rfl := someE hF
          exact QRet.sole (v := (.int .i64 x8_3)) ⟨rfl, trivial⟩ rfl
        · skip
          refine AWP.seqR rfl ?_
          refine ASL.q (v := (.int .i64 0)) rfl rfl (Light.quiet (opAssign rfl rfl)) ?_
          refine ASL.done ?_
          refine AWP.block ?_
          obtain ⟨o11, hL10, hR12⟩ := bindE hF
          refine AWP.loopF (ω := Unit) hL10 (fun s w => [(1, (.rptr [(.int .i64 p0.letters), (.int .i64 p0.states), (.int .i64 p0.start), (.list 4 (List.map TEdge.av p0.edges))])), (3, w5), (5, (.int .i64 x5_2)), (8, (.int .i64 s.1)), (9, (.int .i64 s.2))]) (fun s w => [.row 1 w5 (List.map (AV.int .i64) y4)]) () ⟨rfl, rfl, rfl, rfl, rfl, trivial⟩ (hS.pick [0] rfl rfl) ?_
          rintro ⟨x8_l0, x9_l0⟩ _ G13 hS x8 hF hx9
          try dsimp only at hS ⊢
          have hF : spec_AutoLive.b0 p0 y4 x5_2 x8_l0 x9_l0 = some x8 := hF; unfold spec_AutoLive.b0 at hF
          refine AWP.seq ?_
          refine AWP.seqR rfl ?_
          refine ASL.q (v := (.int .i64 x9_l0)) rfl rfl (Light.quiet (opMove rfl rfl)) ?_
          refine ASL.q (v := (.rptr [(.int .i64 p0.states), (.int .i64 p0.start), (.list 4 (List.map TEdge.av p0.edges))])) rfl rfl (Light.quiet (opFieldAddrR rfl fieldA_29_1 rfl rfl)) ?_
          refine ASL.q (v := (.int .i64 p0.states)) rfl rfl (Light.quiet (opLoadR rfl aggA_3 rfl rfl)) ?_
          refine ASL.q (v := (.bool (decide (x9_l0 < p0.states)))) rfl rfl (Light.quiet (opInt rfl rfl rfl rfl)) ?_
          refine ASL.done ?_
          refine AWP.ifP hF rfl (fun hc14 hF => ?_) (fun hc14 hF => ?_)
          · skip
            refine AWP.skip ?_
            refine QThen.nrm ?_
            refine AWP.seq ?_
            refine AWP.block ?_
            refine AWP.seqR rfl ?_
            refine ASL.q (v := w5) rfl rfl (Light.quiet (opMove rfl rfl)) ?_
            refine ASL.q (v := (.int .i64 x9_l0)) rfl rfl (Light.quiet (opMove rfl rfl)) ?_
            obtain ⟨a64, ha64, hF⟩ := bindE hF
            refine ASL.q (v := (ptrTo w5 x9_l0.toNat 1)) rfl rfl (Light.quiet (kIxOx hS (j := 0) rfl ha64 rfl rfl rfl elemA_34 sizeA_3)) ?_
            refine ASL.q (v := (.int .i64 a64)) rfl rfl (Light.quiet (kLd (f := (AV.int .i64)) hS (j := 0) rfl ha64 rfl aggA_3 rfl (fun _ => rfl))) ?_
            refine ASL.q (v := (.int .i64 x5_2)) rfl rfl (Light.quiet (opMove rfl rfl)) ?_
            refine ASL.q (v := (.int .i64 (bAnd .i64 a64 x5_2))) rfl rfl (Light.quiet (opInt rfl rfl rfl rfl)) ?_
            refine ASL.q (v := (.bool (decide (((bAnd .i64 a64 x5_2)) ≠ 0)))) rfl rfl (Light.quiet (opInt rfl rfl rfl rfl)) ?_
            refine ASL.done ?_
            refine AWP.ifP hF rfl (fun hc15 hF => ?_) (fun hc15 hF => ?_)
            · skip
              refine AWP.lastR rfl ?_
              refine ASL.q (v := (.int .i64 x8_l0)) rfl rfl (Light.quiet (opMove rfl rfl)) ?_
              refine ASL.q (v := (.int .i64 x9_l0)) rfl rfl (Light.quiet (opMove rfl rfl)) ?_
              obtain ⟨a71, ha71, hF⟩ := bindE hF
              refine ASL.q (v := (.int .i64 a71)) rfl rfl ((qCall rfl rfl call_47 (spec_l1Bit_ok ha71) rfl)) ?_
              refine ASL.q (v := (.int .i64 (bOr .i64 x8_l0 a71))) rfl rfl (Light.quiet (opInt rfl rfl rfl rfl)) ?_
              refine ASL.q (v := (.int .i64 (bOr .i64 x8_l0 a71))) rfl rfl (Light.quiet (opAssign rfl rfl)) ?_
              refine ASL.done ?_
              refine QBlock.nrm ?_
              refine QThen.nrm ?_
              refine AWP.lastR rfl ?_
              refine ASL.q (v := (.int .i64 x9_l0)) rfl rfl (Light.quiet (opMove rfl rfl)) ?_
              refine ASL.q (v := (.int .i64 (W (x9_l0 + 1)))) rfl rfl (Light.quiet (opInt rfl rfl rfl rfl)) ?_
              refine ASL.q (v := (.int .i64 (W (x9_l0 + 1)))) rfl rfl (Light.quiet (opAssign rfl rfl)) ?_
              refine ASL.done ?_
              refine QThen.nrm ?_
              exact ⟨((bOr .i64 x8_l0 a71), (W (x9_l0 + 1))), (), (someE hF).symm, ⟨rfl, rfl, rfl, rfl, rfl, trivial⟩, (hS.pick [0] rfl rfl)⟩
            · skip
              refine AWP.skip ?_
              refine QBlock.nrm ?_
              refine QThen.nrm ?_
              refine AWP.lastR rfl ?_
              refine ASL.q (v := (.int .i64 x9_l0)) rfl rfl (Light.quiet (opMove rfl rfl)) ?_
              refine ASL.q (v := (.int .i64 (W (x9_l0 + 1)))) rfl rfl (Light.quiet (opInt rfl rfl rfl rfl)) ?_
              refine ASL.q (v := (.int .i64 (W (x9_l0 + 1)))) rfl rfl (Light.quiet (opAssign rfl rfl)) ?_
              refine ASL.done ?_
              refine QThen.nrm ?_
              exact ⟨(x8_l0, (W (x9_l0 + 1))), (), (someE hF).symm, ⟨rfl, rfl, rfl, rfl, rfl, trivial⟩, (hS.pick [0] rfl rfl)⟩
          · skip
            refine AWP.exit ?_
            refine QThen.ext ?_
            refine QThen.ext ?_
            refine QBlock.hit ?_
            obtain rfl := (hx9 _ (someE hF).symm)
            have hF := hR12
            refine QThen.nrm ?_
            exact ⟨x8_l0, ⟨rfl, trivial⟩, (hS.pick [] rfl rfl), hF⟩
      · skip
        refine AWP.seqR rfl ?_
        refine ASL.q (v := (.int .i64 0)) rfl rfl (Light.quiet (opAssign rfl rfl)) ?_
        refine ASL.done ?_
        refine AWP.block ?_
        obtain ⟨o20, hL19, hR21⟩ := bindE hF
        refine AWP.loopF (ω := Unit) hL19 (fun s w => [(1, (.rptr [(.int .i64 p0.letters), (.int .i64 p0.states), (.int .i64 p0.start), (.list 4 (List.map TEdge.av p0.edges))])), (3, w5), (5, (.int .i64 s.1)), (6, (.int .i64 s.2))]) (fun s w => [.row 1 w5 (List.map (AV.int .i64) y4)]) () ⟨rfl, rfl, rfl, rfl, trivial⟩ (hS.pick [0] rfl rfl) ?_
        rintro ⟨x5_l1, x6_l1⟩ _ G22 hS x17 hF hx18
        try dsimp only at hS ⊢
        have hF : spec_AutoLive.b1 p0 y4 x5_l1 x6_l1 = some x17 := hF; unfold spec_AutoLive.b1 at hF
        refine AWP.seq ?_
        refine AWP.seqR rfl ?_
        refine ASL.q (v := (.int .i64 x6_l1)) rfl rfl (Light.quiet (opMove rfl rfl)) ?_
        refine ASL.q (v := (.rptr [(.list 4 (List.map TEdge.av p0.edges))])) rfl rfl (Light.quiet (opFieldAddrR rfl fieldA_29_3 rfl rfl)) ?_
        refine ASL.q (v := (.list 4 (List.map TEdge.av p0.edges))) rfl rfl (Light.quiet (opLoadR rfl aggA_27 rfl rfl)) ?_
        refine ASL.q (v := (.int .i64 (p0.edges.length : Int))) rfl rfl (Light.quiet (opLenMap (f := TEdge.av) rfl rfl rfl lenT_27 rfl)) ?_
        refine ASL.q (v := (.bool (decide (x6_l1 < ((p0.edges.length : Int)))))) rfl rfl (Light.quiet (opInt rfl rfl rfl rfl)) ?_
        refine ASL.done ?_
        refine AWP.ifP hF rfl (fun hc23 hF => ?_) (fun hc23 hF => ?_)
        · skip
          refine AWP.skip ?_
          refine QThen.nrm ?_
          refine AWP.seq ?_
          refine AWP.block ?_
          refine AWP.seqR rfl ?_
          refine ASL.q (v := (.rptr [(.list 4 (List.map TEdge.av p0.edges))])) rfl rfl (Light.quiet (opFieldAddrR rfl fieldA_29_3 rfl rfl)) ?_
          refine ASL.q (v := (.list 4 (List.map TEdge.av p0.edges))) rfl rfl (Light.quiet (opLoadR rfl aggA_27 rfl rfl)) ?_
          refine ASL.q (v := (.int .i64 x6_l1)) rfl rfl (Light.quiet (opMove rfl rfl)) ?_
          obtain ⟨a37, ha37, hF⟩ := bindE hF
          refine ASL.q (v := (.rptr [(.int .i64 a37.from_), (.int .i64 a37.letter), (.int .i64 a37.to_), (.bool a37.good)])) rfl rfl (Light.quiet (kIx (f := TEdge.av) ha37 rfl rfl rfl elemA_27 sizeA_73 rfl)) ?_
          refine ASL.q (v := (TEdge.av a37)) rfl rfl (Light.quiet (opLoadRA rfl aggA_73 sizeA_73 rfl (nlt rfl) rfl)) ?_
          refine ASL.x rfl rfl (hNewZ hS [(.int .i64 0), (.int .i64 0), (.int .i64 0), (.bool false)] rfl zeroA_73 ⟨.inl rfl, .inl rfl, .inl rfl, .inl rfl, trivial⟩ ?_); rintro b7 G24 hK hS
          refine ASL.n rfl rfl (hPutA hS (j := 0) rfl rfl sizeA_73 rfl rfl rfl rfl rfl (nlt rfl) ?_); rintro G26 hS
          refine ASL.done ?_
          refine AWP.seqD [(0, false), (1, false), (2, false), (3, false), (4, false), (5, false), (6, false), (7, false), (8, false), (9, false), (10, false), (11, false)] mixed (by kernel_rfl) rfl ?_
          refine ARL.q0 (v := (.ptr b7 3)) rfl rfl (Light.quiet (opFieldAddr rfl fieldA_73_3 rfl rfl)) ?_
          refine ARL.q (v := (.bool a37.good)) rfl rfl (hS.aliveC (k := 0) rfl) (Light.quiet (kAt hS (j := 0) rfl rfl aggA_4 rfl rfl)) ?_
          obtain ⟨c41, hc41, hF⟩ := bndE hF
          refine ARL.q0 (v := (.bool c41)) rfl rfl ((Quiet.cast (Light.quiet (opMove rfl rfl)) (congrArg AV.bool hc41.symm))) ?_
          refine ARL.g (v := w5) (.bool c41) true rfl (wT _) rfl noneAlive (fun hG => by have q0 := hG; subst q0; exact Light.quiet (opMove rfl rfl)) ?_
          refine ARL.g (v := (.ptr b7 2)) (.bool c41) true rfl (wT _) rfl noneAlive (fun hG => by have q0 := hG; subst q0; exact Light.quiet (opFieldAddr rfl fieldA_73_2 rfl rfl)) ?_
          refine ARL.g (v := (.int .i64 a37.to_)) (.bool c41) true rfl (wT _) rfl (hS.aliveC (k := 0) rfl) (fun hG => by have q0 := hG; subst q0; exact Light.quiet (kAt hS (j := 0) rfl rfl aggA_3 rfl rfl)) ?_
          obtain ⟨a45, ha45, hF⟩ := bindE hF
          refine ARL.g (v := (ptrTo w5 a37.to_.toNat 1)) (.bool c41) true rfl (wT _) rfl noneAlive (fun hG => by have q0 := hG; subst q0; exact Light.quiet (kIxOx hS (j := 1) rfl (whenE ha45) rfl rfl rfl elemA_34 sizeA_3)) ?_
          refine ARL.g (v := (.int .i64 a45)) (.bool c41) true rfl (wT _) rfl (hS.aliveR (k := 1) rfl) (fun hG => by have q0 := hG; subst q0; exact Light.quiet (kLd (f := (AV.int .i64)) hS (j := 1) rfl (whenE ha45) rfl aggA_3 rfl (fun _ => rfl))) ?_
          refine ARL.g (v := (.ptr b7 0)) (.bool c41) true rfl (wT _) rfl noneAlive (fun hG => by have q0 := hG; subst q0; exact Light.quiet (opFieldAddr rfl fieldA_73_0 rfl rfl)) ?_
          refine ARL.g (v := (.int .i64 a37.from_)) (.bool c41) true rfl (wT _) rfl (hS.aliveC (k := 0) rfl) (fun hG => by have q0 := hG; subst q0; exact Light.quiet (kAt hS (j := 0) rfl rfl aggA_3 rfl rfl)) ?_
          obtain ⟨a49, ha49, hF⟩ := bindE hF
          refine ARL.g (v := (.bool a49)) (.bool c41) true rfl (wT _) rfl noneAlive (fun hG => by have q0 := hG; subst q0; exact (qCall rfl rfl call_48 (spec_l1Has_ok (whenE ha49)) rfl)) ?_
          refine ARL.q0 (v := (.bool (c41 && a49))) rfl rfl (Light.quiet (opPick (b := c41) rfl rfl (by cases c41 <;> rfl))) ?_
          refine ARL.done ?_
          refine AWP.ifB hF rfl (fun hc27 hF => ?_) (fun hc27 hF => ?_)
          · skip
            refine AWP.lastR rfl ?_
            refine ASL.q (v := (.int .i64 x5_l1)) rfl rfl (Light.quiet (opMove rfl rfl)) ?_
            refine ASL.q (v := (.ptr b7 0)) rfl rfl (Light.quiet (opFieldAddr rfl fieldA_73_0 rfl rfl)) ?_
            refine ASL.q (v := (.int .i64 a37.from_)) rfl rfl (Light.quiet (kAt hS (j := 0) rfl rfl aggA_3 rfl rfl)) ?_
            obtain ⟨a54, ha54, hF⟩ := bindE hF
            refine ASL.q (v := (.int .i64 a54)) rfl rfl ((qCall rfl rfl call_47 (spec_l1Bit_ok ha54) rfl)) ?_
            refine ASL.q (v := (.int .i64 (bOr .i64 x5_l1 a54))) rfl rfl (Light.quiet (opInt rfl rfl rfl rfl)) ?_
            refine ASL.q (v := (.int .i64 (bOr .i64 x5_l1 a54))) rfl rfl (Light.quiet (opAssign rfl rfl)) ?_
            refine ASL.done ?_
            refine QBlock.nrm ?_
            refine QThen.nrm ?_
            refine AWP.lastR rfl ?_
            refine ASL.q (v := (.int .i64 x6_l1)) rfl rfl (Light.quiet (opMove rfl rfl)) ?_
            refine ASL.q (v := (.int .i64 (W (x6_l1 + 1)))) rfl rfl (Light.quiet (opInt rfl rfl rfl rfl)) ?_
            refine ASL.q (v := (.int .i64 (W (x6_l1 + 1)))) rfl rfl (Light.quiet (opAssign rfl rfl)) ?_
            refine ASL.done ?_
            refine QThen.nrm ?_
            exact ⟨((bOr .i64 x5_l1 a54), (W (x6_l1 + 1))), (), (someE hF).symm, ⟨rfl, rfl, rfl, rfl, trivial⟩, (hS.pick [1] rfl rfl)⟩
          · skip
            refine AWP.skip ?_
            refine QBlock.nrm ?_
            refine QThen.nrm ?_
            refine AWP.lastR rfl ?_
            refine ASL.q (v := (.int .i64 x6_l1)) rfl rfl (Light.quiet (opMove rfl rfl)) ?_
            refine ASL.q (v := (.int .i64 (W (x6_l1 + 1)))) rfl rfl (Light.quiet (opInt rfl rfl rfl rfl)) ?_
            refine ASL.q (v := (.int .i64 (W (x6_l1 + 1)))) rfl rfl (Light.quiet (opAssign rfl rfl)) ?_
            refine ASL.done ?_
            refine QThen.nrm ?_
            exact ⟨(x5_l1, (W (x6_l1 + 1))), (), (someE hF).symm, ⟨rfl, rfl, rfl, rfl, trivial⟩, (hS.pick [1] rfl rfl)⟩
        · skip
          refine AWP.exit ?_
          refine QThen.ext ?_
          refine QThen.ext ?_
          refine QBlock.hit ?_
          obtain rfl := (hx18 _ (someE hF).symm)
          have hF := hR21
          refine QThen.nrm ?_
          exact ⟨x5_l1, ⟨rfl, rfl, rfl, trivial⟩, (hS.pick [0] rfl rfl), hF⟩
    · skip
      refine AWP.seqR rfl ?_
      refine ASL.q (v := (.int .i64 0)) rfl rfl (Light.quiet (opAssign rfl rfl)) ?_
      refine ASL.done ?_
      refine AWP.block ?_
      obtain ⟨o35, hL34, hR36⟩ := bindE hF
      refine AWP.loopF (ω := AV) hL34 (fun s w => [(1, (.rptr [(.int .i64 p0.letters), (.int .i64 p0.states), (.int .i64 p0.start), (.list 4 (List.map TEdge.av p0.edges))])), (3, w), (4, (.int .i64 s.2))]) (fun s w => [.row 1 w (List.map (AV.int .i64) s.1)]) v13 ⟨rfl, rfl, rfl, trivial⟩ (hS.pick [0] rfl rfl) ?_
      rintro ⟨y29, x4_l2⟩ w30 G37 hS x32 hF hx33
      try dsimp only at hS ⊢
      have hF : spec_AutoLive.b2 p0 y29 x4_l2 = some x32 := hF; unfold spec_AutoLive.b2 at hF
      refine AWP.seq ?_
      refine AWP.seqR rfl ?_
      refine ASL.q (v := (.int .i64 x4_l2)) rfl rfl (Light.quiet (opMove rfl rfl)) ?_
      refine ASL.q (v := (.rptr [(.int .i64 p0.states), (.int .i64 p0.start), (.list 4 (List.map TEdge.av p0.edges))])) rfl rfl (Light.quiet (opFieldAddrR rfl fieldA_29_1 rfl rfl)) ?_
      refine ASL.q (v := (.int .i64 p0.states)) rfl rfl (Light.quiet (opLoadR rfl aggA_3 rfl rfl)) ?_
      refine ASL.q (v := (.bool (decide (x4_l2 < p0.states)))) rfl rfl (Light.quiet (opInt rfl rfl rfl rfl)) ?_
      refine ASL.done ?_
      refine AWP.ifP hF rfl (fun hc38 hF => ?_) (fun hc38 hF => ?_)
      · skip
        refine AWP.skip ?_
        refine QThen.nrm ?_
        refine AWP.seq ?_
        refine AWP.block ?_
        refine AWP.lastD [(0, false), (1, false), (2, false), (3, false), (4, false), (5, false), (6, true), (7, false)] mixed (by kernel_rfl) rfl ?_
        refine ARL.q0 (v := w30) rfl rfl (Light.quiet (opMove rfl rfl)) ?_
        refine ARL.q0 (v := (TAuto.av p0)) rfl rfl (Light.quiet (opLoadRA rfl aggA_29 sizeA_29 rfl (nlt rfl) rfl)) ?_
        refine ARL.q0 (v := (.int .i64 x4_l2)) rfl rfl (Light.quiet (opMove rfl rfl)) ?_
        obtain ⟨a23, ha23, hF⟩ := bindE hF
        refine ARL.q0 (v := (.int .i64 a23)) rfl rfl ((qCall rfl rfl call_47 (spec_l1Bit_ok ha23) rfl)) ?_
        obtain ⟨a24, ha24, hF⟩ := bindE hF
        refine ARL.q0 (v := (.int .i64 a24)) rfl rfl ((qCall rfl rfl call_46 (spec_l4Reach_ok ha24) rfl)) ?_
        refine ARL.q0 (v := (.list 1 (List.map (AV.int .i64) [a24]))) rfl rfl ((qLit (xs := [(.int .i64 a24)]) rfl elemA_34 sizeA_3 zeroA_3 rfl rfl rfl rfl (by simp [cells]) (nlt rfl))) ?_
        obtain ⟨z26, hz26, hF⟩ := bindE hF
        refine ARL.y rfl rfl rfl rfl (hApp (f := (AV.int .i64)) (ws := [a24]) hS (j := 0) rfl hz26 rfl elemA_34 rfl sizeA_3 bytesA_3 zeroA_3 rfl rfl rfl (fun _ => rfl) ?_); rintro v26 G39 hS
        refine ARL.q0 (v := v26) rfl rfl (Light.quiet (opAssign rfl rfl)) ?_
        refine ARL.done ?_
        refine QBlock.nrm ?_
        refine QThen.nrm ?_
        refine AWP.lastR rfl ?_
        refine ASL.q (v := (.int .i64 x4_l2)) rfl rfl (Light.quiet (opMove rfl rfl)) ?_
        refine ASL.q (v := (.int .i64 (W (x4_l2 + 1)))) rfl rfl (Light.quiet (opInt rfl rfl rfl rfl)) ?_
        refine ASL.q (v := (.int .i64 (W (x4_l2 + 1)))) rfl rfl (Light.quiet (opAssign rfl rfl)) ?_
        refine ASL.done ?_
        refine QThen.nrm ?_
        exact ⟨(z26, (W (x4_l2 + 1))), v26, (someE hF).symm, ⟨rfl, rfl, rfl, trivial⟩, (hS.pick [0] rfl rfl)⟩
      · skip
        refine AWP.exit ?_
        refine QThen.ext ?_
        refine QThen.ext ?_
        refine QBlock.hit ?_
        obtain rfl := (hx33 _ (someE hF).symm)
        have hF := hR36
        refine QThen.nrm ?_
        exact ⟨y29, w30, ⟨rfl, rfl, trivial⟩, (hS.pick [0] rfl rfl), hF⟩

set_option maxRecDepth 10000 in
theorem impl_inRange_ok (p0 : Int) (p1 : Int) (p2 : Int) : PC Try.prog 59 [(.int .i64 p0), (.int .i64 p1), (.int .i64 p2)] fun v => v = (.bool (impl_inRange p0 p1 p2)) := by
  generalize hF : impl_inRange p0 p1 p2 = r
  refine PC.enter Try.func59 rfl Try.ntmps59 (by simp) ?_
  have hS := Sep.void; unfold impl_inRange at hF
  refine AWP.seqR rfl ?_
  refine ASL.q (v := (.bool false)) rfl rfl (Light.quiet (opAssign rfl rfl)) ?_
  refine ASL.done ?_
  refine AWP.seqR rfl ?_
  refine ASL.q (v := (.int .i64 p0)) rfl rfl (Light.quiet (opMove rfl rfl)) ?_
  refine ASL.q (v := (.int .i64 p1)) rfl rfl (Light.quiet (opMove rfl rfl)) ?_
  refine ASL.q (v := (.bool (decide (p0 ≥ p1)))) rfl rfl (Light.quiet (opInt rfl rfl rfl rfl)) ?_
  obtain ⟨c10, hc10, hF⟩ := bndE hF
  refine ASL.q (v := (.bool c10)) rfl rfl ((Quiet.cast (Light.quiet (opMove rfl rfl)) (congrArg AV.bool hc10.symm))) ?_
  refine ASL.g (v := (.int .i64 p0)) (.bool c10) true rfl (wT _) rfl (fun hG => by have q0 := hG; subst q0; exact Light.quiet (opMove rfl rfl)) ?_
  refine ASL.g (v := (.int .i64 p2)) (.bool c10) true rfl (wT _) rfl (fun hG => by have q0 := hG; subst q0; exact Light.quiet (opMove rfl rfl)) ?_
  refine ASL.g (v := (.bool (decide (p0 ≤ p2)))) (.bool c10) true rfl (wT _) rfl (fun hG => by have q0 := hG; subst q0; exact Light.quiet (opInt rfl rfl rfl rfl)) ?_
  refine ASL.q (v := (.bool (c10 && (decide (p0 ≤ p2))))) rfl rfl (Light.quiet (opPick (b := c10) rfl rfl (by cases c10 <;> rfl))) ?_
  refine ASL.q (v := (.bool (c10 && (decide (p0 ≤ p2))))) rfl rfl (Light.quiet (opAssign rfl rfl)) ?_
  refine ASL.done ?_
  refine AWP.ret ?_
  obtain rfl := hF
  exact QRet.sole (v := (.bool (c10 && (decide (p0 ≤ p2))))) ⟨rfl, trivial⟩ rfl

set_option maxRecDepth 10000 in
theorem impl_isLetters_ok (p0 : Int) : PC Try.prog 112 [(.int .i64 p0)] fun v => v = (.bool (impl_isLetters p0)) := by
  generalize hF : impl_isLetters p0 = r
  refine PC.enter Try.func112 rfl Try.ntmps112 (by simp) ?_
  have hS := Sep.void; unfold impl_isLetters at hF
  refine AWP.seqR rfl ?_
  refine ASL.q (v := (.bool false)) rfl rfl (Light.quiet (opAssign rfl rfl)) ?_
  refine ASL.done ?_
  refine AWP.seqR rfl ?_
  refine ASL.q (v := (.int .i64 p0)) rfl rfl (Light.quiet (opMove rfl rfl)) ?_
  refine ASL.q (v := (.bool (impl_inRange p0 1 8))) rfl rfl ((qCall rfl rfl call_59 (impl_inRange_ok p0 1 8) rfl)) ?_
  refine ASL.q (v := (.bool (impl_inRange p0 1 8))) rfl rfl (Light.quiet (opAssign rfl rfl)) ?_
  refine ASL.done ?_
  refine AWP.ret ?_
  obtain rfl := hF
  exact QRet.sole (v := (.bool (impl_inRange p0 1 8))) ⟨rfl, trivial⟩ rfl

set_option maxRecDepth 10000 in
theorem impl_SetOk_ok (p0 : Int) : PC Try.prog 57 [(.int .i64 p0)] fun v => v = (.bool (impl_SetOk p0)) := by
  generalize hF : impl_SetOk p0 = r
  refine PC.enter Try.func57 rfl Try.ntmps57 (by simp) ?_
  have hS := Sep.void; unfold impl_SetOk at hF
  refine AWP.seqR rfl ?_
  refine ASL.q (v := (.bool false)) rfl rfl (Light.quiet (opAssign rfl rfl)) ?_
  refine ASL.done ?_
  refine AWP.seqR rfl ?_
  refine ASL.q (v := (.int .i64 p0)) rfl rfl (Light.quiet (opMove rfl rfl)) ?_
  refine ASL.q (v := (.bool (impl_inRange p0 0 2147483647))) rfl rfl ((qCall rfl rfl call_59 (impl_inRange_ok p0 0 2147483647) rfl)) ?_
  refine ASL.q (v := (.bool (impl_inRange p0 0 2147483647))) rfl rfl (Light.quiet (opAssign rfl rfl)) ?_
  refine ASL.done ?_
  refine AWP.ret ?_
  obtain rfl := hF
  exact QRet.sole (v := (.bool (impl_inRange p0 0 2147483647))) ⟨rfl, trivial⟩ rfl

set_option maxRecDepth 10000 in
theorem impl_only_ok (p0 : Int) : PC Try.prog 58 [(.int .i64 p0)] fun v => v = (.int .i64 (impl_only p0)) := by
  generalize hF : impl_only p0 = r
  refine PC.enter Try.func58 rfl Try.ntmps58 (by simp) ?_
  have hS := Sep.void; unfold impl_only at hF
  refine AWP.seqR rfl ?_
  refine ASL.q (v := (.int .i64 0)) rfl rfl (Light.quiet (opAssign rfl rfl)) ?_
  refine ASL.done ?_
  refine AWP.seqR rfl ?_
  refine ASL.q (v := (.int .i64 p0)) rfl rfl (Light.quiet (opMove rfl rfl)) ?_
  refine ASL.q (v := (.int .u64 (IntKind.u64.wrap p0))) rfl rfl (Light.quiet (opConv rfl rfl und_3 und_126 rfl)) ?_
  refine ASL.q (v := (.int .i64 (shl .i64 1 ((IntKind.u64.wrap p0))))) rfl rfl (Light.quiet (opShl rfl rfl rfl (wrapU_nn rfl _) rfl)) ?_
  refine ASL.q (v := (.int .i64 (shl .i64 1 ((IntKind.u64.wrap p0))))) rfl rfl (Light.quiet (opAssign rfl rfl)) ?_
  refine ASL.done ?_
  refine AWP.ret ?_
  obtain rfl := hF
  exact QRet.sole (v := (.int .i64 (shl .i64 1 ((IntKind.u64.wrap p0))))) ⟨rfl, trivial⟩ rfl

set_option maxRecDepth 10000 in
theorem impl_headOk_ok (p0 : Int) (p1 : Int) (p2 : Int) : PC Try.prog 92 [(.int .i64 p0), (.int .i64 p1), (.int .i64 p2)] fun v => v = (.bool (impl_headOk p0 p1 p2)) := by
  generalize hF : impl_headOk p0 p1 p2 = r
  refine PC.enter Try.func92 rfl Try.ntmps92 (by simp) ?_
  have hS := Sep.void; unfold impl_headOk at hF
  refine AWP.seqR rfl ?_
  refine ASL.q (v := (.bool false)) rfl rfl (Light.quiet (opAssign rfl rfl)) ?_
  refine ASL.done ?_
  refine AWP.seqR rfl ?_
  refine ASL.q (v := (.int .i64 p0)) rfl rfl (Light.quiet (opMove rfl rfl)) ?_
  refine ASL.q (v := (.bool (impl_isLetters p0))) rfl rfl ((qCall rfl rfl call_112 (impl_isLetters_ok p0) rfl)) ?_
  obtain ⟨c9, hc9, hF⟩ := bndE hF
  refine ASL.q (v := (.bool c9)) rfl rfl ((Quiet.cast (Light.quiet (opMove rfl rfl)) (congrArg AV.bool hc9.symm))) ?_
  refine ASL.g (v := (.int .i64 p1)) (.bool c9) true rfl (wT _) rfl (fun hG => by have q0 := hG; subst q0; exact Light.quiet (opMove rfl rfl)) ?_
  refine ASL.g (v := (.bool (impl_inRange p1 0 31))) (.bool c9) true rfl (wT _) rfl (fun hG => by have q0 := hG; subst q0; exact (qCall rfl rfl call_59 (impl_inRange_ok p1 0 31) rfl)) ?_
  refine ASL.q (v := (.bool (c9 && (impl_inRange p1 0 31)))) rfl rfl (Light.quiet (opPick (b := c9) rfl rfl (by cases c9 <;> rfl))) ?_
  obtain ⟨c13, hc13, hF⟩ := bndE hF
  refine ASL.q (v := (.bool c13)) rfl rfl ((Quiet.cast (Light.quiet (opMove rfl rfl)) (congrArg AV.bool hc13.symm))) ?_
  refine ASL.g (v := (.int .i64 p2)) (.bool c13) true rfl (wT _) rfl (fun hG => by have q0 := hG; subst q0; exact Light.quiet (opMove rfl rfl)) ?_
  refine ASL.g (v := (.bool (impl_SetOk p2))) (.bool c13) true rfl (wT _) rfl (fun hG => by have q0 := hG; subst q0; exact (qCall rfl rfl call_57 (impl_SetOk_ok p2) rfl)) ?_
  refine ASL.q (v := (.bool (c13 && (impl_SetOk p2)))) rfl rfl (Light.quiet (opPick (b := c13) rfl rfl (by cases c13 <;> rfl))) ?_
  obtain ⟨c17, hc17, hF⟩ := bndE hF
  refine ASL.q (v := (.bool c17)) rfl rfl ((Quiet.cast (Light.quiet (opMove rfl rfl)) (congrArg AV.bool hc17.symm))) ?_
  refine ASL.g (v := (.int .i64 p2)) (.bool c17) true rfl (wT _) rfl (fun hG => by have q0 := hG; subst q0; exact Light.quiet (opMove rfl rfl)) ?_
  refine ASL.g (v := (.int .i64 p1)) (.bool c17) true rfl (wT _) rfl (fun hG => by have q0 := hG; subst q0; exact Light.quiet (opMove rfl rfl)) ?_
  refine ASL.g (v := (.int .i64 (impl_only p1))) (.bool c17) true rfl (wT _) rfl (fun hG => by have q0 := hG; subst q0; exact (qCall rfl rfl call_58 (impl_only_ok p1) rfl)) ?_
  refine ASL.g (v := (.bool (decide (p2 < ((impl_only p1)))))) (.bool c17) true rfl (wT _) rfl (fun hG => by have q0 := hG; subst q0; exact Light.quiet (opInt rfl rfl rfl rfl)) ?_
  refine ASL.q (v := (.bool (c17 && (decide (p2 < ((impl_only p1))))))) rfl rfl (Light.quiet (opPick (b := c17) rfl rfl (by cases c17 <;> rfl))) ?_
  refine ASL.q (v := (.bool (c17 && (decide (p2 < ((impl_only p1))))))) rfl rfl (Light.quiet (opAssign rfl rfl)) ?_
  refine ASL.done ?_
  refine AWP.ret ?_
  obtain rfl := hF
  exact QRet.sole (v := (.bool (c17 && (decide (p2 < ((impl_only p1))))))) ⟨rfl, trivial⟩ rfl

set_option maxRecDepth 10000 in
theorem cmp_isNaN_int_ok (p0 : Int) : PC Try.prog 124 [(.int .i64 p0)] fun v => v = (.bool (cmp_isNaN_int p0)) := by
  generalize hF : cmp_isNaN_int p0 = r
  refine PC.enter Try.func124 rfl Try.ntmps124 (by simp) ?_
  have hS := Sep.void; unfold cmp_isNaN_int at hF
  refine AWP.seqR rfl ?_
  refine ASL.q (v := (.bool false)) rfl rfl (Light.quiet (opAssign rfl rfl)) ?_
  refine ASL.done ?_
  refine AWP.seqR rfl ?_
  refine ASL.q (v := (.int .i64 p0)) rfl rfl (Light.quiet (opMove rfl rfl)) ?_
  refine ASL.q (v := (.int .i64 p0)) rfl rfl (Light.quiet (opMove rfl rfl)) ?_
  refine ASL.q (v := (.bool (decide (p0 ≠ p0)))) rfl rfl (Light.quiet (opInt rfl rfl rfl rfl)) ?_
  refine ASL.q (v := (.bool (decide (p0 ≠ p0)))) rfl rfl (Light.quiet (opAssign rfl rfl)) ?_
  refine ASL.done ?_
  refine AWP.ret ?_
  obtain rfl := hF
  exact QRet.sole (v := (.bool (decide (p0 ≠ p0)))) ⟨rfl, trivial⟩ rfl

set_option maxRecDepth 10000 in
theorem cmp_Compare_int_ok (p0 : Int) (p1 : Int) : PC Try.prog 120 [(.int .i64 p0), (.int .i64 p1)] fun v => v = (.int .i64 (cmp_Compare_int p0 p1)) := by
  generalize hF : cmp_Compare_int p0 p1 = r
  refine PC.enter Try.func120 rfl Try.ntmps120 (by simp) ?_
  have hS := Sep.void; unfold cmp_Compare_int at hF
  refine AWP.seqR rfl ?_
  refine ASL.q (v := (.int .i64 0)) rfl rfl (Light.quiet (opAssign rfl rfl)) ?_
  refine ASL.done ?_
  refine AWP.seqR rfl ?_
  refine ASL.q (v := (.int .i64 p0)) rfl rfl (Light.quiet (opMove rfl rfl)) ?_
  refine ASL.q (v := (.bool (cmp_isNaN_int p0))) rfl rfl ((qCall rfl rfl call_124 (cmp_isNaN_int_ok p0) rfl)) ?_
  refine ASL.q (v := (.bool (cmp_isNaN_int p0))) rfl rfl (Light.quiet (opAssign rfl rfl)) ?_
  refine ASL.done ?_
  refine AWP.seqR rfl ?_
  refine ASL.q (v := (.int .i64 p1)) rfl rfl (Light.quiet (opMove rfl rfl)) ?_
  refine ASL.q (v := (.bool (cmp_isNaN_int p1))) rfl rfl ((qCall rfl rfl call_124 (cmp_isNaN_int_ok p1) rfl)) ?_
  refine ASL.q (v := (.bool (cmp_isNaN_int p1))) rfl rfl (Light.quiet (opAssign rfl rfl)) ?_
  refine ASL.done ?_
  refine AWP.seq ?_
  refine AWP.seqR rfl ?_
  refine ASL.q (v := (.bool (cmp_isNaN_int p0))) rfl rfl (Light.quiet (opMove rfl rfl)) ?_
  refine ASL.done ?_
  refine AWP.ifB hF rfl (fun hc1 hF => ?_) (fun hc1 hF => ?_)
  · skip
    refine AWP.seq ?_
    refine AWP.seqR rfl ?_
    refine ASL.q (v := (.bool (cmp_isNaN_int p1))) rfl rfl (Light.quiet (opMove rfl rfl)) ?_
    refine ASL.done ?_
    refine AWP.ifB hF rfl (fun hc2 hF => ?_) (fun hc2 hF => ?_)
    · skip
      refine AWP.seqR rfl ?_
      refine ASL.q (v := (.int .i64 0)) rfl rfl (Light.quiet (opAssign rfl rfl)) ?_
      refine ASL.done ?_
      refine AWP.ret ?_
      refine QThen.rt ?_
      refine QThen.rt ?_
      obtain rfl := hF
      exact QRet.sole (v := (.int .i64 0)) ⟨rfl, trivial⟩ rfl
    · skip
      refine AWP.skip ?_
      refine QThen.nrm ?_
      refine AWP.seqR rfl ?_
      refine ASL.q (v := (.int .i64 (-1))) rfl rfl (Light.quiet (opAssign rfl rfl)) ?_
      refine ASL.done ?_
      refine AWP.ret ?_
      refine QThen.rt ?_
      obtain rfl := hF
      exact QRet.sole (v := (.int .i64 (-1))) ⟨rfl, trivial⟩ rfl
  · skip
    refine AWP.skip ?_
    refine QThen.nrm ?_
    refine AWP.seq ?_
    refine AWP.seqR rfl ?_
    refine ASL.q (v := (.bool (cmp_isNaN_int p1))) rfl rfl (Light.quiet (opMove rfl rfl)) ?_
    refine ASL.done ?_
    refine AWP.ifB hF rfl (fun hc3 hF => ?_) (fun hc3 hF => ?_)
    · skip
      refine AWP.seqR rfl ?_
      refine ASL.q (v := (.int .i64 1)) rfl rfl (Light.quiet (opAssign rfl rfl)) ?_
      refine ASL.done ?_
      refine AWP.ret ?_
      refine QThen.rt ?_
      obtain rfl := hF
      exact QRet.sole (v := (.int .i64 1)) ⟨rfl, trivial⟩ rfl
    · skip
      refine AWP.skip ?_
      refine QThen.nrm ?_
      refine AWP.seq ?_
      refine AWP.seqR rfl ?_
      refine ASL.q (v := (.int .i64 p0)) rfl rfl (Light.quiet (opMove rfl rfl)) ?_
      refine ASL.q (v := (.int .i64 p1)) rfl rfl (Light.quiet (opMove rfl rfl)) ?_
      refine ASL.q (v := (.bool (decide (p0 < p1)))) rfl rfl (Light.quiet (opInt rfl rfl rfl rfl)) ?_
      refine ASL.done ?_
      refine AWP.ifP hF rfl (fun hc4 hF => ?_) (fun hc4 hF => ?_)
      · skip
        refine AWP.seqR rfl ?_
        refine ASL.q (v := (.int .i64 (-1))) rfl rfl (Light.quiet (opAssign rfl rfl)) ?_
        refine ASL.done ?_
        refine AWP.ret ?_
        refine QThen.rt ?_
        obtain rfl := hF
        exact QRet.sole (v := (.int .i64 (-1))) ⟨rfl, trivial⟩ rfl
      · skip
        refine AWP.skip ?_
        refine QThen.nrm ?_
        refine AWP.seq ?_
        refine AWP.seqR rfl ?_
        refine ASL.q (v := (.int .i64 p0)) rfl rfl (Light.quiet (opMove rfl rfl)) ?_
        refine ASL.q (v := (.int .i64 p1)) rfl rfl (Light.quiet (opMove rfl rfl)) ?_
        refine ASL.q (v := (.bool (decide (p0 > p1)))) rfl rfl (Light.quiet (opInt rfl rfl rfl rfl)) ?_
        refine ASL.done ?_
        refine AWP.ifP hF rfl (fun hc5 hF => ?_) (fun hc5 hF => ?_)
        · skip
          refine AWP.seqR rfl ?_
          refine ASL.q (v := (.int .i64 1)) rfl rfl (Light.quiet (opAssign rfl rfl)) ?_
          refine ASL.done ?_
          refine AWP.ret ?_
          refine QThen.rt ?_
          obtain rfl := hF
          exact QRet.sole (v := (.int .i64 1)) ⟨rfl, trivial⟩ rfl
        · skip
          refine AWP.skip ?_
          refine QThen.nrm ?_
          refine AWP.seqR rfl ?_
          refine ASL.q (v := (.int .i64 0)) rfl rfl (Light.quiet (opAssign rfl rfl)) ?_
          refine ASL.done ?_
          refine AWP.ret ?_
          obtain rfl := hF
          exact QRet.sole (v := (.int .i64 0)) ⟨rfl, trivial⟩ rfl

set_option maxRecDepth 10000 in
theorem cmp_Or_int_ok {p0 : (List Int)} {r : Int} (hF : cmp_Or_int p0 = some r) : PC Try.prog 119 [(.list 1 (List.map (AV.int .i64) p0))] fun v => v = (.int .i64 r) := by
  refine PC.enter Try.func119 rfl Try.ntmps119 (by simp) ?_
  have hS := Sep.void; unfold cmp_Or_int at hF
  refine AWP.seqR rfl ?_
  refine ASL.q (v := (.int .i64 0)) rfl rfl (Light.quiet (opAssign rfl rfl)) ?_
  refine ASL.done ?_
  refine AWP.seqR rfl ?_
  refine ASL.q (v := (.int .i64 0)) rfl rfl (Light.quiet (opAssign rfl rfl)) ?_
  refine ASL.done ?_
  refine AWP.seqM (fun e H => E.Told e [(3, (.int .i64 0))] ∧ E.Sep H [] ∧ cmp_Or_int.k0 = some r) ?_ ?_
  · rintro e0 G1 ⟨hT, hS, hF⟩; refine AWP.only _ hT ?_; unfold cmp_Or_int.k0 at hF
    refine AWP.seqR rfl ?_
    refine ASL.q (v := (.int .i64 0)) rfl rfl (Light.quiet (opMove rfl rfl)) ?_
    refine ASL.q (v := (.int .i64 0)) rfl rfl (Light.quiet (opAssign rfl rfl)) ?_
    refine ASL.done ?_
    refine AWP.ret ?_
    obtain rfl := someE hF
    exact QRet.sole (v := (.int .i64 0)) ⟨rfl, trivial⟩ rfl
  · skip
    refine AWP.seqR rfl ?_
    refine ASL.q (v := (.list 1 (List.map (AV.int .i64) p0))) rfl rfl (Light.quiet (opMove rfl rfl)) ?_
    refine ASL.q (v := (.int .i64 (p0.length : Int))) rfl rfl (Light.quiet (opLenMap (f := (AV.int .i64)) rfl rfl rfl lenT_34 rfl)) ?_
    refine ASL.q (v := (.int .i64 0)) rfl rfl (Light.quiet (opMove rfl rfl)) ?_
    refine ASL.done ?_
    refine AWP.block ?_
    obtain ⟨o5, hL4, hR6⟩ := bindE hF
    refine AWP.loopF (ω := Unit) hL4 (fun s w => [(3, (.int .i64 0)), (6, (.list 1 (List.map (AV.int .i64) p0))), (7, (.int .i64 (p0.length : Int))), (8, (.int .i64 s))]) (fun s w => []) () ⟨rfl, rfl, rfl, rfl, trivial⟩ (hS.pick [] rfl rfl) ?_
    rintro x8_l0 _ G7 hS x2 hF hx3
    try dsimp only at hS ⊢
    have hF : cmp_Or_int.b0 p0 x8_l0 = some x2 := hF; unfold cmp_Or_int.b0 at hF
    refine AWP.seqR rfl ?_
    refine ASL.q (v := (.bool (decide (x8_l0 < ((p0.length : Int)))))) rfl rfl (Light.quiet (opInt rfl rfl rfl rfl)) ?_
    refine ASL.done ?_
    refine AWP.seq ?_
    refine AWP.ifP hF rfl (fun hc8 hF => ?_) (fun hc8 hF => ?_)
    · skip
      refine AWP.skip ?_
      refine QThen.nrm ?_
      refine AWP.seq ?_
      refine AWP.block ?_
      refine AWP.seqR rfl ?_
      obtain ⟨a10, ha10, hF⟩ := bindE hF
      refine ASL.q (v := (.rptr [(.int .i64 a10)])) rfl rfl (Light.quiet (kIx (f := (AV.int .i64)) ha10 rfl rfl rfl elemA_34 sizeA_3 rfl)) ?_
      refine ASL.q (v := (.int .i64 a10)) rfl rfl (Light.quiet (opLoadR rfl aggA_3 rfl rfl)) ?_
      refine ASL.q (v := (.int .i64 a10)) rfl rfl (Light.quiet (opAssign rfl rfl)) ?_
      refine ASL.done ?_
      refine AWP.seqR rfl ?_
      refine ASL.q (v := (.int .i64 a10)) rfl rfl (Light.quiet (opMove rfl rfl)) ?_
      refine ASL.q (v := (.int .i64 0)) rfl rfl (Light.quiet (opMove rfl rfl)) ?_
      refine ASL.q (v := (.bool (decide (a10 ≠ 0)))) rfl rfl (Light.quiet (opInt rfl rfl rfl rfl)) ?_
      refine ASL.done ?_
      refine AWP.ifP hF rfl (fun hc9 hF => ?_) (fun hc9 hF => ?_)
      · skip
        refine AWP.seqR rfl ?_
        refine ASL.q (v := (.int .i64 a10)) rfl rfl (Light.quiet (opMove rfl rfl)) ?_
        refine ASL.q (v := (.int .i64 a10)) rfl rfl (Light.quiet (opAssign rfl rfl)) ?_
        refine ASL.done ?_
        refine AWP.ret ?_
        refine QBlock.ret ?_
        refine QThen.rt ?_
        refine QThen.rt ?_
        refine QBlock.ret ?_
        refine QThen.rt ?_
        obtain rfl := (hx3 _ (someE hF).symm)
        have hF := hR6
        have hF := sumR hF
        obtain rfl := someE hF
        exact QRet.sole (v := (.int .i64 a10)) ⟨rfl, trivial⟩ rfl
      · skip
        refine AWP.skip ?_
        refine QBlock.nrm ?_
        refine QThen.nrm ?_
        refine AWP.lastR rfl ?_
        refine ASL.q (v := (.int .i64 (W (x8_l0 + 1)))) rfl rfl (Light.quiet (opInt rfl rfl rfl rfl)) ?_
        refine ASL.q (v := (.int .i64 (W (x8_l0 + 1)))) rfl rfl (Light.quiet (opMove rfl rfl)) ?_
        refine ASL.done ?_
        refine QThen.nrm ?_
        exact ⟨(W (x8_l0 + 1)), (), (someE hF).symm, ⟨rfl, rfl, rfl, rfl, trivial⟩, (hS.pick [] rfl rfl)⟩
    · skip
      refine AWP.exit ?_
      refine QThen.ext ?_
      refine QThen.ext ?_
      refine QBlock.hit ?_
      obtain rfl := (hx3 _ (someE hF).symm)
      have hF := hR6
      have hF := sumL hF
      refine QThen.nrm ?_
      exact ⟨⟨rfl, trivial⟩, (hS.pick [] rfl rfl), hF⟩

set_option maxRecDepth 10000 in
theorem impl_compareEdges_ok {p0 : TEdge} {p1 : TEdge} {r : Int} (hF : impl_compareEdges p0 p1 = some r) : PC Try.prog 93 [(TEdge.av p0), (TEdge.av p1)] fun v => v = (.int .i64 r) := by
  refine PC.enter Try.func93 rfl Try.ntmps93 (by simp) ?_
  have hS := Sep.void; unfold impl_compareEdges at hF
  refine AWP.seqR rfl ?_
  refine ASL.q (v := (.rptr [(.int .i64 p0.from_), (.int .i64 p0.letter), (.int .i64 p0.to_), (.bool p0.good)])) rfl rfl ((qBoxI (v := (TEdge.av p0)) rfl rfl rfl rfl)) ?_
  refine ASL.q (v := (.rptr [(.int .i64 p1.from_), (.int .i64 p1.letter), (.int .i64 p1.to_), (.bool p1.good)])) rfl rfl ((qBoxI (v := (TEdge.av p1)) rfl rfl rfl rfl)) ?_
  refine ASL.q (v := (.int .i64 0)) rfl rfl (Light.quiet (opAssign rfl rfl)) ?_
  refine ASL.done ?_
  refine AWP.seqD [(0, false), (1, false), (2, false), (3, false), (4, false), (5, false), (6, false), (7, false), (8, false), (9, false), (10, false), (11, false), (12, false), (13, false), (14, false), (15, false), (16, false), (17, false)] mixed (by kernel_rfl) rfl ?_
  refine ARL.q0 (v := (.rptr [(.int .i64 p0.from_), (.int .i64 p0.letter), (.int .i64 p0.to_), (.bool p0.good)])) rfl rfl (Light.quiet (opFieldAddrR rfl fieldA_73_0 rfl rfl)) ?_
  refine ARL.q0 (v := (.int .i64 p0.from_)) rfl rfl (Light.quiet (opLoadR rfl aggA_3 rfl rfl)) ?_
  refine ARL.q0 (v := (.rptr [(.int .i64 p1.from_), (.int .i64 p1.letter), (.int .i64 p1.to_), (.bool p1.good)])) rfl rfl (Light.quiet (opFieldAddrR rfl fieldA_73_0 rfl rfl)) ?_
  refine ARL.q0 (v := (.int .i64 p1.from_)) rfl rfl (Light.quiet (opLoadR rfl aggA_3 rfl rfl)) ?_
  refine ARL.q0 (v := (.int .i64 (cmp_Compare_int p0.from_ p1.from_))) rfl rfl ((qCall rfl rfl call_120 (cmp_Compare_int_ok p0.from_ p1.from_) rfl)) ?_
  refine ARL.q0 (v := (.rptr [(.int .i64 p0.letter), (.int .i64 p0.to_), (.bool p0.good)])) rfl rfl (Light.quiet (opFieldAddrR rfl fieldA_73_1 rfl rfl)) ?_
  refine ARL.q0 (v := (.int .i64 p0.letter)) rfl rfl (Light.quiet (opLoadR rfl aggA_3 rfl rfl)) ?_
  refine ARL.q0 (v := (.rptr [(.int .i64 p1.letter), (.int .i64 p1.to_), (.bool p1.good)])) rfl rfl (Light.quiet (opFieldAddrR rfl fieldA_73_1 rfl rfl)) ?_
  refine ARL.q0 (v := (.int .i64 p1.letter)) rfl rfl (Light.quiet (opLoadR rfl aggA_3 rfl rfl)) ?_
  refine ARL.q0 (v := (.int .i64 (cmp_Compare_int p0.letter p1.letter))) rfl rfl ((qCall rfl rfl call_120 (cmp_Compare_int_ok p0.letter p1.letter) rfl)) ?_
  refine ARL.q0 (v := (.rptr [(.int .i64 p0.to_), (.bool p0.good)])) rfl rfl (Light.quiet (opFieldAddrR rfl fieldA_73_2 rfl rfl)) ?_
  refine ARL.q0 (v := (.int .i64 p0.to_)) rfl rfl (Light.quiet (opLoadR rfl aggA_3 rfl rfl)) ?_
  refine ARL.q0 (v := (.rptr [(.int .i64 p1.to_), (.bool p1.good)])) rfl rfl (Light.quiet (opFieldAddrR rfl fieldA_73_2 rfl rfl)) ?_
  refine ARL.q0 (v := (.int .i64 p1.to_)) rfl rfl (Light.quiet (opLoadR rfl aggA_3 rfl rfl)) ?_
  refine ARL.q0 (v := (.int .i64 (cmp_Compare_int p0.to_ p1.to_))) rfl rfl ((qCall rfl rfl call_120 (cmp_Compare_int_ok p0.to_ p1.to_) rfl)) ?_
  refine ARL.q0 (v := (.list 1 (List.map (AV.int .i64) [(cmp_Compare_int p0.from_ p1.from_), (cmp_Compare_int p0.letter p1.letter), (cmp_Compare_int p0.to_ p1.to_)]))) rfl rfl ((qLit (xs := [(.int .i64 (cmp_Compare_int p0.from_ p1.from_)), (.int .i64 (cmp_Compare_int p0.letter p1.letter)), (.int .i64 (cmp_Compare_int p0.to_ p1.to_))]) rfl elemA_34 sizeA_3 zeroA_3 rfl rfl rfl rfl (by simp [cells]) (nlt rfl))) ?_
  obtain ⟨a21, ha21, hF⟩ := bindE hF
  refine ARL.q0 (v := (.int .i64 a21)) rfl rfl ((qCall rfl rfl call_119 (cmp_Or_int_ok ha21) rfl)) ?_
  refine ARL.q0 (v := (.int .i64 a21)) rfl rfl (Light.quiet (opAssign rfl rfl)) ?_
  refine ARL.done ?_
  refine AWP.ret ?_
  obtain rfl := someE hF
  exact QRet.sole (v := (.int .i64 a21)) ⟨rfl, trivial⟩ rfl

set_option maxRecDepth 10000 in
theorem impl_AutoOk_ok {p0 : TAuto} {r : Bool} (hF : impl_AutoOk p0 = some r) : PC Try.prog 43 [(TAuto.av p0)] fun v => v = (.bool r) := by
  refine PC.enter Try.func43 rfl Try.ntmps43 (by simp) ?_
  have hS := Sep.void; unfold impl_AutoOk at hF
  refine AWP.seqR rfl ?_
  refine ASL.q (v := (.rptr [(.int .i64 p0.letters), (.int .i64 p0.states), (.int .i64 p0.start), (.list 4 (List.map TEdge.av p0.edges))])) rfl rfl ((qBoxI (v := (TAuto.av p0)) rfl rfl rfl rfl)) ?_
  refine ASL.q (v := (.bool false)) rfl rfl (Light.quiet (opAssign rfl rfl)) ?_
  refine ASL.done ?_
  refine AWP.seq ?_
  refine AWP.seqR rfl ?_
  refine ASL.q (v := (.rptr [(.int .i64 p0.letters), (.int .i64 p0.states), (.int .i64 p0.start), (.list 4 (List.map TEdge.av p0.edges))])) rfl rfl (Light.quiet (opFieldAddrR rfl fieldA_29_0 rfl rfl)) ?_
  refine ASL.q (v := (.int .i64 p0.letters)) rfl rfl (Light.quiet (opLoadR rfl aggA_3 rfl rfl)) ?_
  refine ASL.q (v := (.rptr [(.int .i64 p0.states), (.int .i64 p0.start), (.list 4 (List.map TEdge.av p0.edges))])) rfl rfl (Light.quiet (opFieldAddrR rfl fieldA_29_1 rfl rfl)) ?_
  refine ASL.q (v := (.int .i64 p0.states)) rfl rfl (Light.quiet (opLoadR rfl aggA_3 rfl rfl)) ?_
  refine ASL.q (v := (.rptr [(.int .i64 p0.start), (.list 4 (List.map TEdge.av p0.edges))])) rfl rfl (Light.quiet (opFieldAddrR rfl fieldA_29_2 rfl rfl)) ?_
  refine ASL.q (v := (.int .i64 p0.start)) rfl rfl (Light.quiet (opLoadR rfl aggA_3 rfl rfl)) ?_
  refine ASL.q (v := (.bool (impl_headOk p0.letters p0.states p0.start))) rfl rfl ((qCall rfl rfl call_92 (impl_headOk_ok p0.letters p0.states p0.start) rfl)) ?_
  refine ASL.q (v := (.bool (!(impl_headOk p0.letters p0.states p0.start)))) rfl rfl (Light.quiet (opNot rfl rfl)) ?_
  obtain ⟨c13, hc13, hF⟩ := bndE hF
  refine ASL.q (v := (.bool c13)) rfl rfl ((Quiet.cast (Light.quiet (opMove rfl rfl)) (congrArg AV.bool hc13.symm))) ?_
  refine ASL.g (v := (.rptr [(.list 4 (List.map TEdge.av p0.edges))])) (.bool c13) false rfl (wF _) rfl (fun hG => by have q0 := gN hG; subst q0; exact Light.quiet (opFieldAddrR rfl fieldA_29_3 rfl rfl)) ?_
  refine ASL.g (v := (.list 4 (List.map TEdge.av p0.edges))) (.bool c13) false rfl (wF _) rfl (fun hG => by have q0 := gN hG; subst q0; exact Light.quiet (opLoadR rfl aggA_27 rfl rfl)) ?_
  refine ASL.g (v := (.int .i64 (p0.edges.length : Int))) (.bool c13) false rfl (wF _) rfl (fun hG => by have q0 := gN hG; subst q0; exact Light.quiet (opLenMap (f := TEdge.av) rfl rfl rfl lenT_27 rfl)) ?_
  refine ASL.g (v := (.bool (decide (((p0.edges.length : Int)) > 2000)))) (.bool c13) false rfl (wF _) rfl (fun hG => by have q0 := gN hG; subst q0; exact Light.quiet (opInt rfl rfl rfl rfl)) ?_
  refine ASL.q (v := (.bool (c13 || (decide (((p0.edges.length : Int)) > 2000))))) rfl rfl (Light.quiet (opPick (b := c13) rfl rfl (by cases c13 <;> rfl))) ?_
  refine ASL.done ?_
  refine AWP.ifB hF rfl (fun hc1 hF => ?_) (fun hc1 hF => ?_)
  · skip
    refine AWP.seqR rfl ?_
    refine ASL.q (v := (.bool false)) rfl rfl (Light.quiet (opAssign rfl rfl)) ?_
    refine ASL.done ?_
    refine AWP.ret ?_
    refine QThen.rt ?_
    obtain rfl := someE hF
    exact QRet.sole (v := (.bool false)) ⟨rfl, trivial⟩ rfl
  · skip
    refine AWP.skip ?_
    refine QThen.nrm ?_
    refine AWP.seqM (fun e H => E.Told e [] ∧ E.Sep H [] ∧ impl_AutoOk.k0 = some r) ?_ ?_
    · rintro e0 G2 ⟨hT, hS, hF⟩; refine AWP.only _ hT ?_; unfold impl_AutoOk.k0 at hF
      refine AWP.seqR rfl ?_
      refine ASL.q (v := (.bool true)) rfl rfl (Light.quiet (opAssign rfl rfl)) ?_
      refine ASL.done ?_
      refine AWP.ret ?_
      obtain rfl := someE hF
      exact QRet.sole (v := (.bool true)) ⟨rfl, trivial⟩ rfl
    · skip
      refine AWP.seqR rfl ?_
      refine ASL.q (v := (.rptr [(.list 4 (List.map TEdge.av p0.edges))])) rfl rfl (Light.quiet (opFieldAddrR rfl fieldA_29_3 rfl rfl)) ?_
      refine ASL.q (v := (.list 4 (List.map TEdge.av p0.edges))) rfl rfl (Light.quiet (opLoadR rfl aggA_27 rfl rfl)) ?_
      refine ASL.q (v := (.int .i64 (p0.edges.length : Int))) rfl rfl (Light.quiet (opLenMap (f := TEdge.av) rfl rfl rfl lenT_27 rfl)) ?_
      refine ASL.q (v := (.int .i64 0)) rfl rfl (Light.quiet (opMove rfl rfl)) ?_
      refine ASL.done ?_
      refine AWP.block ?_
      obtain ⟨o6, hL5, hR7⟩ := bindE hF
      refine AWP.loopF (ω := Unit) hL5 (fun s w => [(1, (.rptr [(.int .i64 p0.letters), (.int .i64 p0.states), (.int .i64 p0.start), (.list 4 (List.map TEdge.av p0.edges))])), (20, (.list 4 (List.map TEdge.av p0.edges))), (21, (.int .i64 (p0.edges.length : Int))), (22, (.int .i64 s))]) (fun s w => []) () ⟨rfl, rfl, rfl, rfl, trivial⟩ (hS.pick [] rfl rfl) ?_
      rintro x22_l0 _ G8 hS x3 hF hx4
      try dsimp only at hS ⊢
      have hF : impl_AutoOk.b0 p0 x22_l0 = some x3 := hF; unfold impl_AutoOk.b0 at hF
      refine AWP.seqR rfl ?_
      refine ASL.q (v := (.bool (decide (x22_l0 < ((p0.edges.length : Int)))))) rfl rfl (Light.quiet (opInt rfl rfl rfl rfl)) ?_
      refine ASL.done ?_
      refine AWP.seq ?_
      refine AWP.ifP hF rfl (fun hc9 hF => ?_) (fun hc9 hF => ?_)
      · skip
        refine AWP.skip ?_
        refine QThen.nrm ?_
        refine AWP.seq ?_
        refine AWP.block ?_
        refine AWP.seqR rfl ?_
        refine ASL.q (v := (.int .i64 x22_l0)) rfl rfl (Light.quiet (opMove rfl rfl)) ?_
        obtain ⟨a25, ha25, hF⟩ := bindE hF
        refine ASL.q (v := (.rptr [(.int .i64 a25.from_), (.int .i64 a25.letter), (.int .i64 a25.to_), (.bool a25.good)])) rfl rfl (Light.quiet (kIx (f := TEdge.av) ha25 rfl rfl rfl elemA_27 sizeA_73 rfl)) ?_
        refine ASL.q (v := (TEdge.av a25)) rfl rfl (Light.quiet (opLoadRA rfl aggA_73 sizeA_73 rfl (nlt rfl) rfl)) ?_
        refine ASL.x rfl rfl (hNewZ hS [(.int .i64 0), (.int .i64 0), (.int .i64 0), (.bool false)] rfl zeroA_73 ⟨.inl rfl, .inl rfl, .inl rfl, .inl rfl, trivial⟩ ?_); rintro b4 G10 hK hS
        refine ASL.q (v := (.int .i64 x22_l0)) rfl rfl (Light.quiet (opAssign rfl rfl)) ?_
        refine ASL.n rfl rfl (hPutA hS (j := 0) rfl rfl sizeA_73 rfl rfl rfl rfl rfl (nlt rfl) ?_); rintro G12 hS
        refine ASL.done ?_
        refine AWP.seq ?_
        refine AWP.seqR rfl ?_
        refine ASL.q (v := (.ptr b4 0)) rfl rfl (Light.quiet (opFieldAddr rfl fieldA_73_0 rfl rfl)) ?_
        refine ASL.q (v := (.int .i64 a25.from_)) rfl rfl (Light.quiet (kAt hS (j := 0) rfl rfl aggA_3 rfl rfl)) ?_
        refine ASL.q (v := (.rptr [(.int .i64 p0.states), (.int .i64 p0.start), (.list 4 (List.map TEdge.av p0.edges))])) rfl rfl (Light.quiet (opFieldAddrR rfl fieldA_29_1 rfl rfl)) ?_
        refine ASL.q (v := (.int .i64 p0.states)) rfl rfl (Light.quiet (opLoadR rfl aggA_3 rfl rfl)) ?_
        refine ASL.q (v := (.int .i64 (W (p0.states - 1)))) rfl rfl (Light.quiet (opInt rfl rfl rfl rfl)) ?_
        refine ASL.q (v := (.bool (impl_inRange a25.from_ 0 ((W (p0.states - 1)))))) rfl rfl ((qCall rfl rfl call_59 (impl_inRange_ok a25.from_ 0 ((W (p0.states - 1)))) rfl)) ?_
        refine ASL.q (v := (.bool (!(impl_inRange a25.from_ 0 ((W (p0.states - 1))))))) rfl rfl (Light.quiet (opNot rfl rfl)) ?_
        obtain ⟨c34, hc34, hF⟩ := bndE hF
        refine ASL.q (v := (.bool c34)) rfl rfl ((Quiet.cast (Light.quiet (opMove rfl rfl)) (congrArg AV.bool hc34.symm))) ?_
        refine ASL.g (v := (.ptr b4 2)) (.bool c34) false rfl (wF _) rfl (fun hG => by have q0 := gN hG; subst q0; exact Light.quiet (opFieldAddr rfl fieldA_73_2 rfl rfl)) ?_
        refine ASL.g (v := (.int .i64 a25.to_)) (.bool c34) false rfl (wF _) rfl (fun hG => by have q0 := gN hG; subst q0; exact Light.quiet (kAt hS (j := 0) rfl rfl aggA_3 rfl rfl)) ?_
        refine ASL.g (v := (.rptr [(.int .i64 p0.states), (.int .i64 p0.start), (.list 4 (List.map TEdge.av p0.edges))])) (.bool c34) false rfl (wF _) rfl (fun hG => by have q0 := gN hG; subst q0; exact Light.quiet (opFieldAddrR rfl fieldA_29_1 rfl rfl)) ?_
        refine ASL.g (v := (.int .i64 p0.states)) (.bool c34) false rfl (wF _) rfl (fun hG => by have q0 := gN hG; subst q0; exact Light.quiet (opLoadR rfl aggA_3 rfl rfl)) ?_
        refine ASL.g (v := (.int .i64 (W (p0.states - 1)))) (.bool c34) false rfl (wF _) rfl (fun hG => by have q0 := gN hG; subst q0; exact Light.quiet (opInt rfl rfl rfl rfl)) ?_
        refine ASL.g (v := (.bool (impl_inRange a25.to_ 0 ((W (p0.states - 1)))))) (.bool c34) false rfl (wF _) rfl (fun hG => by have q0 := gN hG; subst q0; exact (qCall rfl rfl call_59 (impl_inRange_ok a25.to_ 0 ((W (p0.states - 1)))) rfl)) ?_
        refine ASL.g (v := (.bool (!(impl_inRange a25.to_ 0 ((W (p0.states - 1))))))) (.bool c34) false rfl (wF _) rfl (fun hG => by have q0 := gN hG; subst q0; exact Light.quiet (opNot rfl rfl)) ?_
        refine ASL.q (v := (.bool (c34 || (!(impl_inRange a25.to_ 0 ((W (p0.states - 1)))))))) rfl rfl (Light.quiet (opPick (b := c34) rfl rfl (by cases c34 <;> rfl))) ?_
        obtain ⟨c43, hc43, hF⟩ := bndE hF
        refine ASL.q (v := (.bool c43)) rfl rfl ((Quiet.cast (Light.quiet (opMove rfl rfl)) (congrArg AV.bool hc43.symm))) ?_
        refine ASL.g (v := (.ptr b4 1)) (.bool c43) false rfl (wF _) rfl (fun hG => by have q0 := gN hG; subst q0; exact Light.quiet (opFieldAddr rfl fieldA_73_1 rfl rfl)) ?_
        refine ASL.g (v := (.int .i64 a25.letter)) (.bool c43) false rfl (wF _) rfl (fun hG => by have q0 := gN hG; subst q0; exact Light.quiet (kAt hS (j := 0) rfl rfl aggA_3 rfl rfl)) ?_
        refine ASL.g (v := (.rptr [(.int .i64 p0.letters), (.int .i64 p0.states), (.int .i64 p0.start), (.list 4 (List.map TEdge.av p0.edges))])) (.bool c43) false rfl (wF _) rfl (fun hG => by have q0 := gN hG; subst q0; exact Light.quiet (opFieldAddrR rfl fieldA_29_0 rfl rfl)) ?_
        refine ASL.g (v := (.int .i64 p0.letters)) (.bool c43) false rfl (wF _) rfl (fun hG => by have q0 := gN hG; subst q0; exact Light.quiet (opLoadR rfl aggA_3 rfl rfl)) ?_
        refine ASL.g (v := (.int .i64 (W (p0.letters - 1)))) (.bool c43) false rfl (wF _) rfl (fun hG => by have q0 := gN hG; subst q0; exact Light.quiet (opInt rfl rfl rfl rfl)) ?_
        refine ASL.g (v := (.bool (impl_inRange a25.letter 0 ((W (p0.letters - 1)))))) (.bool c43) false rfl (wF _) rfl (fun hG => by have q0 := gN hG; subst q0; exact (qCall rfl rfl call_59 (impl_inRange_ok a25.letter 0 ((W (p0.letters - 1)))) rfl)) ?_
        refine ASL.g (v := (.bool (!(impl_inRange a25.letter 0 ((W (p0.letters - 1))))))) (.bool c43) false rfl (wF _) rfl (fun hG => by have q0 := gN hG; subst q0; exact Light.quiet (opNot rfl rfl)) ?_
        refine ASL.q (v := (.bool (c43 || (!(impl_inRange a25.letter 0 ((W (p0.letters - 1)))))))) rfl rfl (Light.quiet (opPick (b := c43) rfl rfl (by cases c43 <;> rfl))) ?_
        refine ASL.done ?_
        refine AWP.ifB hF rfl (fun hc13 hF => ?_) (fun hc13 hF => ?_)
        · skip
          refine AWP.seqR rfl ?_
          refine ASL.q (v := (.bool false)) rfl rfl (Light.quiet (opAssign rfl rfl)) ?_
          refine ASL.done ?_
          refine AWP.ret ?_
          refine QThen.rt ?_
          refine QBlock.ret ?_
          refine QThen.rt ?_
          refine QThen.rt ?_
          refine QBlock.ret ?_
          refine QThen.rt ?_
          obtain rfl := (hx4 _ (someE hF).symm)
          have hF := hR7
          have hF := sumR hF
          obtain rfl := someE hF
          exact QRet.sole (v := (.bool false)) ⟨rfl, trivial⟩ rfl
        · skip
          refine AWP.skip ?_
          refine QThen.nrm ?_
          refine AWP.seqD [(0, false), (1, false), (2, false), (3, false), (4, false), (5, false), (6, false), (7, false), (8, false), (9, false), (10, false), (11, false), (12, false)] mixed (by kernel_rfl) rfl ?_
          refine ARL.q0 (v := (.int .i64 x22_l0)) rfl rfl (Light.quiet (opMove rfl rfl)) ?_
          refine ARL.q0 (v := (.bool (decide (x22_l0 > 0)))) rfl rfl (Light.quiet (opInt rfl rfl rfl rfl)) ?_
          obtain ⟨c54, hc54, hF⟩ := bndE hF
          refine ARL.q0 (v := (.bool c54)) rfl rfl ((Quiet.cast (Light.quiet (opMove rfl rfl)) (congrArg AV.bool hc54.symm))) ?_
          refine ARL.g (v := (.rptr [(.list 4 (List.map TEdge.av p0.edges))])) (.bool c54) true rfl (wT _) rfl noneAlive (fun hG => by have q0 := hG; subst q0; exact Light.quiet (opFieldAddrR rfl fieldA_29_3 rfl rfl)) ?_
          refine ARL.g (v := (.list 4 (List.map TEdge.av p0.edges))) (.bool c54) true rfl (wT _) rfl noneAlive (fun hG => by have q0 := hG; subst q0; exact Light.quiet (opLoadR rfl aggA_27 rfl rfl)) ?_
          refine ARL.g (v := (.int .i64 x22_l0)) (.bool c54) true rfl (wT _) rfl noneAlive (fun hG => by have q0 := hG; subst q0; exact Light.quiet (opMove rfl rfl)) ?_
          refine ARL.g (v := (.int .i64 (W (x22_l0 - 1)))) (.bool c54) true rfl (wT _) rfl noneAlive (fun hG => by have q0 := hG; subst q0; exact Light.quiet (opInt rfl rfl rfl rfl)) ?_
          obtain ⟨a59, ha59, hF⟩ := bindE hF
          refine ARL.g (v := (.rptr [(.int .i64 a59.from_), (.int .i64 a59.letter), (.int .i64 a59.to_), (.bool a59.good)])) (.bool c54) true rfl (wT _) rfl noneAlive (fun hG => by have q0 := hG; subst q0; exact Light.quiet (kIx (f := TEdge.av) (whenE ha59) rfl rfl rfl elemA_27 sizeA_73 rfl)) ?_
          refine ARL.g (v := (TEdge.av a59)) (.bool c54) true rfl (wT _) rfl noneAlive (fun hG => by have q0 := hG; subst q0; exact Light.quiet (opLoadRA rfl aggA_73 sizeA_73 rfl (nlt rfl) rfl)) ?_
          refine ARL.g (v := (TEdge.av a25)) (.bool c54) true rfl (wT _) rfl (hS.aliveC (k := 0) rfl) (fun hG => by have q0 := hG; subst q0; exact Light.quiet (kAtA hS (j := 0) rfl rfl aggA_73 sizeA_73 rfl (nlt rfl) rfl)) ?_
          obtain ⟨a62, ha62, hF⟩ := bindE hF
          refine ARL.g (v := (.int .i64 a62)) (.bool c54) true rfl (wT _) rfl noneAlive (fun hG => by have q0 := hG; subst q0; exact (qCall rfl rfl call_93 (impl_compareEdges_ok (whenE ha62)) rfl)) ?_
          refine ARL.g (v := (.bool (decide (a62 ≥ 0)))) (.bool c54) true rfl (wT _) rfl noneAlive (fun hG => by have q0 := hG; subst q0; exact Light.quiet (opInt rfl rfl rfl rfl)) ?_
          refine ARL.q0 (v := (.bool (c54 && (decide (a62 ≥ 0))))) rfl rfl (Light.quiet (opPick (b := c54) rfl rfl (by cases c54 <;> rfl))) ?_
          refine ARL.done ?_
          refine AWP.ifB hF rfl (fun hc14 hF => ?_) (fun hc14 hF => ?_)
          · skip
            refine AWP.seqR rfl ?_
            refine ASL.q (v := (.bool false)) rfl rfl (Light.quiet (opAssign rfl rfl)) ?_
            refine ASL.done ?_
            refine AWP.ret ?_
            refine QBlock.ret ?_
            refine QThen.rt ?_
            refine QThen.rt ?_
            refine QBlock.ret ?_
            refine QThen.rt ?_
            obtain rfl := (hx4 _ (someE hF).symm)
            have hF := hR7
            have hF := sumR hF
            obtain rfl := someE hF
            exact QRet.sole (v := (.bool false)) ⟨rfl, trivial⟩ rfl
          · skip
            refine AWP.skip ?_
            refine QBlock.nrm ?_
            refine QThen.nrm ?_
            refine AWP.lastR rfl ?_
            refine ASL.q (v := (.int .i64 (W (x22_l0 + 1)))) rfl rfl (Light.quiet (opInt rfl rfl rfl rfl)) ?_
            refine ASL.q (v := (.int .i64 (W (x22_l0 + 1)))) rfl rfl (Light.quiet (opMove rfl rfl)) ?_
            refine ASL.done ?_
            refine QThen.nrm ?_
            exact ⟨(W (x22_l0 + 1)), (), (someE hF).symm, ⟨rfl, rfl, rfl, rfl, trivial⟩, (hS.pick [] rfl rfl)⟩
      · skip
        refine AWP.exit ?_
        refine QThen.ext ?_
        refine QThen.ext ?_
        refine QBlock.hit ?_
        obtain rfl := (hx4 _ (someE hF).symm)
        have hF := hR7
        have hF := sumL hF
        refine QThen.nrm ?_
        exact ⟨trivial, (hS.pick [] rfl rfl), hF⟩

set_option maxRecDepth 10000 in
theorem impl_graphOf_ok {p0 : Int} {r : Tgraph} (hF : impl_graphOf p0 = some r) : HS Try.prog 97 [(.int .i64 p0)] [] fun v L' => ∃ o0 : Nat, ∃ wo0_next : AV, ∃ wo0_next_s : List AV, v = (.ptr o0 0) ∧ L' = [.cell o0 [wo0_next], .rows 2 wo0_next wo0_next_s (List.map (List.map Tstep.av) r.next_) none] := by
  intro H S hS
  refine HC.enter Try.func97 rfl Try.ntmps97 (by simp) ?_
  simp only [List.cons_append, List.nil_append] at hS
  unfold impl_graphOf at hF
  refine AWP.seqR rfl ?_
  refine ASL.q (v := .nilptr) rfl rfl (Light.quiet (opAssign rfl rfl)) ?_
  refine ASL.done ?_
  refine AWP.seqR rfl ?_
  refine ASL.q (v := (.int .i64 p0)) rfl rfl (Light.quiet (opMove rfl rfl)) ?_
  obtain ⟨z4, hz4, hF⟩ := bindE hF
  refine ASL.x rfl rfl (hMkRows (f := Tstep.av) (s := 2) hS hz4 (by decide) rfl elemA_114 sizeA_118 bytesA_118 zeroA_118 rfl rfl ?_); rintro v4 ws4 G1 hK hS
  refine ASL.q (v := (.agg [v4])) rfl rfl (Light.quiet (opBuildZ (zs := [(.list 1 (List.map (fun xs : (List Tstep) => AV.list 2 (List.map Tstep.av xs)) []))]) rfl plan_116 zeroA_116 ⟨.inr ⟨_, rfl, rfl⟩, trivial⟩ (putO (hS.oneRs (k := 0) rfl) rfl rfl rfl))) ?_
  refine ASL.x rfl rfl (hBox hS rfl rfl rfl ?_); rintro b6 G3 hK hS
  refine ASL.q (v := (.ptr b6 0)) rfl rfl (Light.quiet (opAssign rfl rfl)) ?_
  refine ASL.done ?_
  refine AWP.ret ?_
  obtain rfl := someE hF
  exact QRet.sole (v := (.ptr b6 0)) ⟨rfl, trivial⟩ ⟨_, ⟨b6, v4, ws4, rfl, rfl⟩, hS.pick [0, 1, 2] rfl rfl⟩

set_option maxRecDepth 10000 in
theorem impl_graph_add_ok {p0 : Tgraph} {p1 : Int} {p2 : Int} {p3 : Int} {r : Tgraph} {bp0 : Nat} {wp0_next : AV} {wp0_next_s : List AV} (hF : impl_graph_add p0 p1 p2 p3 = some r) : HS Try.prog 98 [(.ptr bp0 0), (.int .i64 p1), (.int .i64 p2), (.int .i64 p3)] [.cell bp0 [wp0_next], .rows 2 wp0_next wp0_next_s (List.map (List.map Tstep.av) p0.next_) none] fun v L' => ∃ up0_next : AV, ∃ up0_next_s : List AV, v = .tup [] ∧ L' = [.cell bp0 [up0_next], .rows 2 up0_next up0_next_s (List.map (List.map Tstep.av) r.next_) none] := by
  intro H S hS
  refine HC.enter Try.func98 rfl Try.ntmps98 (by simp) ?_
  simp only [List.cons_append, List.nil_append] at hS
  unfold impl_graph_add at hF
  refine AWP.lastD [(0, false), (1, false), (2, false), (3, false), (4, false), (5, false), (6, false), (7, false), (8, false), (9, false), (10, false), (11, false), (12, false), (13, false), (14, false), (15, false), (16, true), (17, false), (18, true)] mixed (by kernel_rfl) rfl ?_
  refine ARL.q0 (v := (.ptr bp0 0)) rfl rfl (Light.quiet (opMove rfl rfl)) ?_
  refine ARL.q0 (v := (.ptr bp0 0)) rfl rfl (Light.quiet (opNil rfl rfl rfl)) ?_
  refine ARL.q0 (v := (.ptr bp0 0)) rfl rfl (Light.quiet (opFieldAddr rfl fieldA_116_0 rfl rfl)) ?_
  refine ARL.q (v := wp0_next) rfl rfl (hS.aliveC (k := 0) rfl) (Light.quiet (kAt hS (j := 0) rfl rfl aggA_114 rfl rfl)) ?_
  refine ARL.q0 (v := (.int .i64 p1)) rfl rfl (Light.quiet (opMove rfl rfl)) ?_
  refine ARL.q0 (v := (.ptr bp0 0)) rfl rfl (Light.quiet (opMove rfl rfl)) ?_
  refine ARL.q0 (v := (.ptr bp0 0)) rfl rfl (Light.quiet (opNil rfl rfl rfl)) ?_
  refine ARL.q0 (v := (.ptr bp0 0)) rfl rfl (Light.quiet (opFieldAddr rfl fieldA_116_0 rfl rfl)) ?_
  refine ARL.q (v := wp0_next) rfl rfl (hS.aliveC (k := 0) rfl) (Light.quiet (kAt hS (j := 0) rfl rfl aggA_114 rfl rfl)) ?_
  refine ARL.q0 (v := (.int .i64 p1)) rfl rfl (Light.quiet (opMove rfl rfl)) ?_
  obtain ⟨m18, hm18, hF⟩ := bindE hF
  refine ARL.q0 (v := (ptrTo wp0_next m18 1)) rfl rfl (Light.quiet (kIxRows hS (j := 1) rfl hm18 rfl rfl rfl elemA_114 sizeA_118)) ?_
  refine ARL.q (v := (wp0_next_s.getD m18 .undef)) rfl rfl (hS.aliveRs (k := 1) rfl) (Light.quiet (kLdRows hS (j := 1) rfl hm18 rfl aggA_118 rfl)) ?_
  have hS := hS.lend (k := 1) rfl hm18
  refine ARL.q0 (v := (.int .i64 p2)) rfl rfl (Light.quiet (opMove rfl rfl)) ?_
  refine ARL.q0 (v := (.int .i64 p3)) rfl rfl (Light.quiet (opMove rfl rfl)) ?_
  refine ARL.q0 (v := (.agg [(.int .i64 p2), (.int .i64 p3)])) rfl rfl (Light.quiet (opBuildZ (zs := [(.int .i64 0), (.int .i64 0)]) rfl plan_120 zeroA_120 ⟨.inl rfl, .inl rfl, trivial⟩ rfl)) ?_
  refine ARL.q0 (v := (.list 2 (List.map Tstep.av [(Tstep.mk p2 p3)]))) rfl rfl ((qLit (xs := [(.agg [(.int .i64 p2), (.int .i64 p3)])]) rfl elemA_118 sizeA_120 zeroA_120 rfl rfl rfl rfl (by simp [cells, Tstep.av]) (nlt rfl))) ?_
  obtain ⟨z24, hz24, hF⟩ := bindE hF
  refine ARL.yB rfl rfl rfl ⟨.inr (Sep.apN _), .inr (Sep.apN _), .inr (Sep.apN _), .inr (Sep.apN _), .inl rfl, .inr (Sep.apN _), .inr (Sep.apN _), .inl rfl, .inr (Sep.apN _), .inr (Sep.apN _), .inr (Sep.apN _), .inr (Sep.apN _), .inr (hS.apC (j := 1) (k := 0) rfl rfl rfl), .inr (Sep.apN _), .inr (Sep.apN _), .inr (Sep.apN _), trivial⟩ (hAppB (f := Tstep.av) (ws := [(Tstep.mk p2 p3)]) hS (j := 0) rfl hz24 rfl elemA_118 rfl sizeA_120 bytesA_120 zeroA_120 rfl rfl rfl (fun _ => rfl) ?_); rintro v24 G4 hB hS; refine ⟨hB, ?_⟩
  obtain ⟨m25, hm25, hF⟩ := bindE hF
  refine ARL.q0 (v := (ptrTo wp0_next m25 1)) rfl rfl (Light.quiet (kIxRows hS (j := 2) rfl hm25 rfl rfl rfl elemA_114 sizeA_118)) ?_
  refine ARL.n rfl rfl rfl rfl (hStRows (hS.pick (L' := [.row 2 v24 (List.map Tstep.av z24), .rows 2 wp0_next wp0_next_s (List.map (List.map Tstep.av) p0.next_) (some m18), .cell bp0 [wp0_next], .snap S]) [0, 2, 1, 3] rfl rfl) hm18 hm25 rfl sizeA_118 rfl rfl ?_); rintro G6 hS
  refine ARL.done ?_
  refine QRet.end ?_
  obtain rfl := someE hF
  exact QRet.many (vs := []) trivial (by simp) ⟨_, ⟨wp0_next, (wp0_next_s.set m18 v24), rfl, rfl⟩, hS.pick [1, 0, 2] rfl rfl⟩

set_option maxRecDepth 10000 in
theorem impl_Auto_graph_ok {p0 : TAuto} {r : Tgraph} (hF : impl_Auto_graph p0 = some r) : PC Try.prog 49 [(.rptr [(.int .i64 p0.letters), (.int .i64 p0.states), (.int .i64 p0.start), (.list 4 (List.map TEdge.av p0.edges))])] fun v => v = (.rptr [(.list 1 (List.map (fun xs : (List Tstep) => AV.list 2 (List.map Tstep.av xs)) r.next_))]) := by
  refine PC.enter Try.func49 rfl Try.ntmps49 (by simp) ?_
  have hS := Sep.void; unfold impl_Auto_graph at hF
  refine AWP.seqR rfl ?_
  refine ASL.q (v := .nilptr) rfl rfl (Light.quiet (opAssign rfl rfl)) ?_
  refine ASL.done ?_
  refine AWP.seqR rfl ?_
  refine ASL.q (v := (.rptr [(.int .i64 p0.letters), (.int .i64 p0.states), (.int .i64 p0.start), (.list 4 (List.map TEdge.av p0.edges))])) rfl rfl (Light.quiet (opMove rfl rfl)) ?_
  refine ASL.q (v := (.rptr [(.int .i64 p0.letters), (.int .i64 p0.states), (.int .i64 p0.start), (.list 4 (List.map TEdge.av p0.edges))])) rfl rfl (Light.quiet (opNil rfl rfl rfl)) ?_
  refine ASL.q (v := (.rptr [(.int .i64 p0.states), (.int .i64 p0.start), (.list 4 (List.map TEdge.av p0.edges))])) rfl rfl (Light.quiet (opFieldAddrR rfl fieldA_29_1 rfl rfl)) ?_
  refine ASL.q (v := (.int .i64 p0.states)) rfl rfl (Light.quiet (opLoadR rfl aggA_3 rfl rfl)) ?_
  obtain ⟨a11, ha11, hF⟩ := bindE hF
  refine ASL.x rfl rfl (hCallS hS [] (F := []) rfl rfl rfl call_97 (impl_graphOf_ok ha11) rfl rfl ?_); rintro _ _ G6 ⟨bq1, w3, w5, rfl, rfl⟩ hS
  refine ASL.q (v := (.ptr bq1 0)) rfl rfl (Light.quiet (opAssign rfl rfl)) ?_
  refine ASL.done ?_
  refine AWP.seqM (fun e H => ∃ y7 : (List (List Tstep)), ∃ w8 : AV, ∃ w10 : List AV, E.Told e [(3, (.ptr bq1 0))] ∧ E.Sep H [.rows 2 w8 w10 (List.map (List.map Tstep.av) y7) none, .cell bq1 [w8]] ∧ impl_Auto_graph.k0 y7 = some r) ?_ ?_
  · rintro e0 G13 ⟨y7, w8, w10, hT, hS, hF⟩; refine AWP.only _ hT ?_; unfold impl_Auto_graph.k0 at hF
    refine AWP.seqR rfl ?_
    refine ASL.q (v := (.ptr bq1 0)) rfl rfl (Light.quiet (opMove rfl rfl)) ?_
    refine ASL.q (v := (.ptr bq1 0)) rfl rfl (Light.quiet (opAssign rfl rfl)) ?_
    refine ASL.done ?_
    refine AWP.frzRows (L' := [.cell bq1 [(.list 1 (List.map (fun xs : (List Tstep) => AV.list 2 (List.map Tstep.av xs)) y7))]]) hS (k := 0) rfl [(2, (.ptr bq1 0))] ⟨.inl rfl, trivial⟩ ⟨⟨_, rfl, ⟨.inr ⟨rfl, rfl⟩, trivial⟩⟩, trivial⟩ (fun G11 hS => ?_)
    refine AWP.frzCell (L' := []) hS (k := 0) rfl [(2, (.rptr [(.list 1 (List.map (fun xs : (List Tstep) => AV.list 2 (List.map Tstep.av xs)) y7))]))] ⟨.inr (.inl ⟨rfl, rfl⟩), trivial⟩ trivial (fun G12 hS => ?_)
    refine AWP.ret ?_
    obtain rfl := someE hF
    exact QRet.sole (v := (.rptr [(.list 1 (List.map (fun xs : (List Tstep) => AV.list 2 (List.map Tstep.av xs)) y7))])) ⟨rfl, trivial⟩ rfl
  · skip
    refine AWP.seqR rfl ?_
    refine ASL.q (v := (.rptr [(.int .i64 p0.letters), (.int .i64 p0.states), (.int .i64 p0.start), (.list 4 (List.map TEdge.av p0.edges))])) rfl rfl (Light.quiet (opMove rfl rfl)) ?_
    refine ASL.q (v := (.rptr [(.int .i64 p0.letters), (.int .i64 p0.states), (.int .i64 p0.start), (.list 4 (List.map TEdge.av p0.edges))])) rfl rfl (Light.quiet (opNil rfl rfl rfl)) ?_
    refine ASL.q (v := (.rptr [(.list 4 (List.map TEdge.av p0.edges))])) rfl rfl (Light.quiet (opFieldAddrR rfl fieldA_29_3 rfl rfl)) ?_
    refine ASL.q (v := (.list 4 (List.map TEdge.av p0.edges))) rfl rfl (Light.quiet (opLoadR rfl aggA_27 rfl rfl)) ?_
    refine ASL.q (v := (.int .i64 (p0.edges.length : Int))) rfl rfl (Light.quiet (opLenMap (f := TEdge.av) rfl rfl rfl lenT_27 rfl)) ?_
    refine ASL.q (v := (.int .i64 0)) rfl rfl (Light.quiet (opMove rfl rfl)) ?_
    refine ASL.done ?_
    refine AWP.block ?_
    obtain ⟨o21, hL20, hR22⟩ := bindE hF
    refine AWP.loopF (ω := (AV × (List AV))) hL20 (fun s w => [(3, (.ptr bq1 0)), (15, (.list 4 (List.map TEdge.av p0.edges))), (16, (.int .i64 (p0.edges.length : Int))), (17, (.int .i64 s.2))]) (fun s w => [.rows 2 w.1 w.2 (List.map (List.map Tstep.av) s.1) none, .cell bq1 [w.1]]) (w3, w5) ⟨rfl, rfl, rfl, rfl, trivial⟩ (hS.pick [1, 0] rfl rfl) ?_
    rintro ⟨y14, x17_l0⟩ ⟨w15, w17⟩ G23 hS x18 hF hx19
    try dsimp only at hS ⊢
    have hF : impl_Auto_graph.b0 p0 y14 x17_l0 = some x18 := hF; unfold impl_Auto_graph.b0 at hF
    refine AWP.seqR rfl ?_
    refine ASL.q (v := (.bool (decide (x17_l0 < ((p0.edges.length : Int)))))) rfl rfl (Light.quiet (opInt rfl rfl rfl rfl)) ?_
    refine ASL.done ?_
    refine AWP.seq ?_
    refine AWP.ifP hF rfl (fun hc24 hF => ?_) (fun hc24 hF => ?_)
    · skip
      refine AWP.skip ?_
      refine QThen.nrm ?_
      refine AWP.seq ?_
      refine AWP.block ?_
      refine AWP.seqR rfl ?_
      obtain ⟨a19, ha19, hF⟩ := bindE hF
      refine ASL.q (v := (.rptr [(.int .i64 a19.from_), (.int .i64 a19.letter), (.int .i64 a19.to_), (.bool a19.good)])) rfl rfl (Light.quiet (kIx (f := TEdge.av) ha19 rfl rfl rfl elemA_27 sizeA_73 rfl)) ?_
      refine ASL.q (v := (TEdge.av a19)) rfl rfl (Light.quiet (opLoadRA rfl aggA_73 sizeA_73 rfl (nlt rfl) rfl)) ?_
      refine ASL.x rfl rfl (hNewZ hS [(.int .i64 0), (.int .i64 0), (.int .i64 0), (.bool false)] rfl zeroA_73 ⟨.inl rfl, .inl rfl, .inl rfl, .inl rfl, trivial⟩ ?_); rintro b5 G25 hK hS
      refine ASL.n rfl rfl (hPutA hS (j := 0) rfl rfl sizeA_73 rfl rfl rfl rfl rfl (nlt rfl) ?_); rintro G27 hS
      refine ASL.done ?_
      refine AWP.seqR rfl ?_
      refine ASL.q (v := (.int .i64 0)) rfl rfl (Light.quiet (opAssign rfl rfl)) ?_
      refine ASL.done ?_
      refine AWP.seqM (fun e H => ∃ x6_2 : Int, E.Told e [(3, (.ptr bq1 0)), (5, (.ptr b5 0)), (6, (.int .i64 x6_2)), (15, (.list 4 (List.map TEdge.av p0.edges))), (16, (.int .i64 (p0.edges.length : Int))), (17, (.int .i64 x17_l0))] ∧ E.Sep H [.rows 2 w15 w17 (List.map (List.map Tstep.av) y14) none, .cell bq1 [w15], .cell b5 [(.int .i64 a19.from_), (.int .i64 a19.letter), (.int .i64 a19.to_), (.bool a19.good)]] ∧ impl_Auto_graph.k1 y14 a19 x17_l0 x6_2 = some x18) ?_ ?_
      · rintro e0 G32 ⟨x6_2, hT, hS, hF⟩; refine AWP.only _ hT ?_; unfold impl_Auto_graph.k1 at hF
        refine AWP.lastR rfl ?_
        refine ASL.q (v := (.ptr bq1 0)) rfl rfl (Light.quiet (opMove rfl rfl)) ?_
        refine ASL.q (v := (.ptr b5 0)) rfl rfl (Light.quiet (opFieldAddr rfl fieldA_73_0 rfl rfl)) ?_
        refine ASL.q (v := (.int .i64 a19.from_)) rfl rfl (Light.quiet (kAt hS (j := 2) rfl rfl aggA_3 rfl rfl)) ?_
        refine ASL.q (v := (.ptr b5 2)) rfl rfl (Light.quiet (opFieldAddr rfl fieldA_73_2 rfl rfl)) ?_
        refine ASL.q (v := (.int .i64 a19.to_)) rfl rfl (Light.quiet (kAt hS (j := 2) rfl rfl aggA_3 rfl rfl)) ?_
        refine ASL.q (v := (.int .i64 x6_2)) rfl rfl (Light.quiet (opMove rfl rfl)) ?_
        obtain ⟨a29, ha29, hF⟩ := bindE hF
        refine ASL.x rfl rfl (hCallS hS [1, 0, 2] (F := [.cell b5 [(.int .i64 a19.from_), (.int .i64 a19.letter), (.int .i64 a19.to_), (.bool a19.good)]]) rfl rfl rfl call_98 (impl_graph_add_ok ha29) rfl rfl ?_); rintro _ _ G31 ⟨w28, w30, rfl, rfl⟩ hS
        refine ASL.done ?_
        refine QBlock.nrm ?_
        refine QThen.nrm ?_
        refine AWP.lastR rfl ?_
        refine ASL.q (v := (.int .i64 (W (x17_l0 + 1)))) rfl rfl (Light.quiet (opInt rfl rfl rfl rfl)) ?_
        refine ASL.q (v := (.int .i64 (W (x17_l0 + 1)))) rfl rfl (Light.quiet (opMove rfl rfl)) ?_
        refine ASL.done ?_
        refine QThen.nrm ?_
        exact ⟨(a29.next_, (W (x17_l0 + 1))), (w28, w30), (someE hF).symm, ⟨rfl, rfl, rfl, rfl, trivial⟩, (hS.pick [1, 0] rfl rfl)⟩
      · skip
        refine AWP.seqR rfl ?_
        refine ASL.q (v := (.ptr b5 3)) rfl rfl (Light.quiet (opFieldAddr rfl fieldA_73_3 rfl rfl)) ?_
        refine ASL.q (v := (.bool a19.good)) rfl rfl (Light.quiet (kAt hS (j := 0) rfl rfl aggA_4 rfl rfl)) ?_
        refine ASL.done ?_
        refine AWP.ifB hF rfl (fun hc33 hF => ?_) (fun hc33 hF => ?_)
        · skip
          refine AWP.lastR rfl ?_
          refine ASL.q (v := (.int .i64 1)) rfl rfl (Light.quiet (opAssign rfl rfl)) ?_
          refine ASL.done ?_
          refine QThen.nrm ?_
          exact ⟨1, ⟨rfl, rfl, rfl, rfl, rfl, rfl, trivial⟩, (hS.pick [1, 2, 0] rfl rfl), hF⟩
        · skip
          refine AWP.skip ?_
          refine QThen.nrm ?_
          exact ⟨0, ⟨rfl, rfl, rfl, rfl, rfl, rfl, trivial⟩, (hS.pick [1, 2, 0] rfl rfl), hF⟩
    · skip
      refine AWP.exit ?_
      refine QThen.ext ?_
      refine QThen.ext ?_
      refine QBlock.hit ?_
      obtain rfl := (hx19 _ (someE hF).symm)
      have hF := hR22
      refine QThen.nrm ?_
      exact ⟨y14, w15, w17, ⟨rfl, trivial⟩, (hS.pick [0, 1] rfl rfl), hF⟩

set_option maxRecDepth 10000 in
theorem impl_graph_finished_ok {p0 : Tgraph} {r : (List Int)} (hF : impl_graph_finished p0 = some r) : PO Try.prog 99 [(.rptr [(.list 1 (List.map (fun xs : (List Tstep) => AV.list 2 (List.map Tstep.av xs)) p0.next_))])] 1 (List.map (AV.int .i64) r) := by
  refine HC.enter Try.func99 rfl Try.ntmps99 (by simp) ?_
  have hS := Sep.void; unfold impl_graph_finished at hF
  refine AWP.seqR rfl ?_
  have hS := hNil (s := 1) (f := (AV.int .i64)) hS
  refine ASL.q (v := .nil) rfl rfl (Light.quiet (opAssign rfl rfl)) ?_
  refine ASL.done ?_
  refine AWP.seqR rfl ?_
  have hS := hNil (s := 1) (f := (AV.int .i64)) hS
  refine ASL.q (v := .nil) rfl rfl (Light.quiet (opAssign rfl rfl)) ?_
  refine ASL.done ?_
  refine AWP.seqR rfl ?_
  refine ASL.q (v := (.rptr [(.list 1 (List.map (fun xs : (List Tstep) => AV.list 2 (List.map Tstep.av xs)) p0.next_))])) rfl rfl (Light.quiet (opMove rfl rfl)) ?_
  refine ASL.q (v := (.rptr [(.list 1 (List.map (fun xs : (List Tstep) => AV.list 2 (List.map Tstep.av xs)) p0.next_))])) rfl rfl (Light.quiet (opNil rfl rfl rfl)) ?_
  refine ASL.q (v := (.rptr [(.list 1 (List.map (fun xs : (List Tstep) => AV.list 2 (List.map Tstep.av xs)) p0.next_))])) rfl rfl (Light.quiet (opFieldAddrR rfl fieldA_116_0 rfl rfl)) ?_
  refine ASL.q (v := (.list 1 (List.map (fun xs : (List Tstep) => AV.list 2 (List.map Tstep.av xs)) p0.next_))) rfl rfl (Light.quiet (opLoadR rfl aggA_114 rfl rfl)) ?_
  refine ASL.q (v := (.int .i64 (p0.next_.length : Int))) rfl rfl (Light.quiet (opLenMap (f := (fun xs : (List Tstep) => AV.list 2 (List.map Tstep.av xs))) rfl rfl rfl lenT_114 rfl)) ?_
  obtain ⟨z14, hz14, hF⟩ := bindE hF
  refine ASL.x rfl rfl (hMk (f := AV.bool) hS hz14 (by decide) rfl elemA_96 sizeA_4 bytesA_4 zeroA_4 rfl rfl (by decide) rfl rfl ?_); rintro v14 G3 hK hS
  refine ASL.q (v := v14) rfl rfl (Light.quiet (opAssign rfl rfl)) ?_
  refine ASL.done ?_
  refine AWP.seqM (fun e H => ∃ y5 : (List Int), ∃ w6 : AV, E.Told e [(3, w6)] ∧ E.Sep H [.row 1 w6 (List.map (AV.int .i64) y5)] ∧ impl_graph_finished.k0 y5 = some r) ?_ ?_
  · rintro e0 G8 ⟨y5, w6, hT, hS, hF⟩; refine AWP.only _ hT ?_; unfold impl_graph_finished.k0 at hF
    refine AWP.seqR rfl ?_
    refine ASL.q (v := w6) rfl rfl (Light.quiet (opMove rfl rfl)) ?_
    refine ASL.q (v := w6) rfl rfl (Light.quiet (opAssign rfl rfl)) ?_
    refine ASL.done ?_
    refine AWP.ret ?_
    obtain rfl := someE hF
    exact QRet.sole (v := w6) ⟨rfl, trivial⟩ (hS.get (k := 0) rfl)
  · skip
    refine AWP.seqR rfl ?_
    refine ASL.q (v := (.rptr [(.list 1 (List.map (fun xs : (List Tstep) => AV.list 2 (List.map Tstep.av xs)) p0.next_))])) rfl rfl (Light.quiet (opMove rfl rfl)) ?_
    refine ASL.q (v := (.rptr [(.list 1 (List.map (fun xs : (List Tstep) => AV.list 2 (List.map Tstep.av xs)) p0.next_))])) rfl rfl (Light.quiet (opNil rfl rfl rfl)) ?_
    refine ASL.q (v := (.rptr [(.list 1 (List.map (fun xs : (List Tstep) => AV.list 2 (List.map Tstep.av xs)) p0.next_))])) rfl rfl (Light.quiet (opFieldAddrR rfl fieldA_116_0 rfl rfl)) ?_
    refine ASL.q (v := (.list 1 (List.map (fun xs : (List Tstep) => AV.list 2 (List.map Tstep.av xs)) p0.next_))) rfl rfl (Light.quiet (opLoadR rfl aggA_114 rfl rfl)) ?_
    refine ASL.q (v := (.int .i64 (p0.next_.length : Int))) rfl rfl (Light.quiet (opLenMap (f := (fun xs : (List Tstep) => AV.list 2 (List.map Tstep.av xs))) rfl rfl rfl lenT_114 rfl)) ?_
    refine ASL.q (v := (.int .i64 0)) rfl rfl (Light.quiet (opMove rfl rfl)) ?_
    refine ASL.done ?_
    refine AWP.block ?_
    obtain ⟨o16, hL15, hR17⟩ := bindE hF
    refine AWP.loopF (ω := AV) hL15 (fun s w => [(0, (.rptr [(.list 1 (List.map (fun xs : (List Tstep) => AV.list 2 (List.map Tstep.av xs)) p0.next_))])), (3, w), (4, v14), (19, (.int .i64 (p0.next_.length : Int))), (20, (.int .i64 s.2.2))]) (fun s w => [.row 1 w (List.map (AV.int .i64) s.1), .row 1 v14 (List.map AV.bool s.2.1)]) .nil ⟨rfl, rfl, rfl, rfl, rfl, trivial⟩ (hS.pick [1, 0] rfl rfl) ?_
    rintro ⟨y9, y12, x20_l0⟩ w10 G18 hS x13 hF hx14
    try dsimp only at hS ⊢
    have hF : impl_graph_finished.b0 p0 y9 y12 x20_l0 = some x13 := hF; unfold impl_graph_finished.b0 at hF
    refine AWP.seqR rfl ?_
    refine ASL.q (v := (.bool (decide (x20_l0 < ((p0.next_.length : Int)))))) rfl rfl (Light.quiet (opInt rfl rfl rfl rfl)) ?_
    refine ASL.done ?_
    refine AWP.seq ?_
    refine AWP.ifP hF rfl (fun hc19 hF => ?_) (fun hc19 hF => ?_)
    · skip
      refine AWP.skip ?_
      refine QThen.nrm ?_
      refine AWP.seqM (fun e H => ∃ y20 : (List Int), ∃ y23 : (List Bool), ∃ w21 : AV, E.Told e [(0, (.rptr [(.list 1 (List.map (fun xs : (List Tstep) => AV.list 2 (List.map Tstep.av xs)) p0.next_))])), (3, w21), (4, v14), (19, (.int .i64 (p0.next_.length : Int))), (20, (.int .i64 x20_l0))] ∧ E.Sep H [.row 1 w21 (List.map (AV.int .i64) y20), .row 1 v14 (List.map AV.bool y23)] ∧ impl_graph_finished.k1 x20_l0 y20 y23 = some x13) ?_ ?_
      · rintro e0 G24 ⟨y20, y23, w21, hT, hS, hF⟩; refine AWP.only _ hT ?_; unfold impl_graph_finished.k1 at hF
        refine AWP.lastR rfl ?_
        refine ASL.q (v := (.int .i64 (W (x20_l0 + 1)))) rfl rfl (Light.quiet (opInt rfl rfl rfl rfl)) ?_
        refine ASL.q (v := (.int .i64 (W (x20_l0 + 1)))) rfl rfl (Light.quiet (opMove rfl rfl)) ?_
        refine ASL.done ?_
        refine QThen.nrm ?_
        exact ⟨(y20, y23, (W (x20_l0 + 1))), w21, (someE hF).symm, ⟨rfl, rfl, rfl, rfl, rfl, trivial⟩, (hS.pick [0, 1] rfl rfl)⟩
      · skip
        refine AWP.block ?_
        refine AWP.seqR rfl ?_
        refine ASL.q (v := (.int .i64 x20_l0)) rfl rfl (Light.quiet (opMove rfl rfl)) ?_
        refine ASL.q (v := (.int .i64 x20_l0)) rfl rfl (Light.quiet (opAssign rfl rfl)) ?_
        refine ASL.done ?_
        refine AWP.seq ?_
        refine AWP.seqR rfl ?_
        refine ASL.q (v := v14) rfl rfl (Light.quiet (opMove rfl rfl)) ?_
        refine ASL.q (v := (.int .i64 x20_l0)) rfl rfl (Light.quiet (opMove rfl rfl)) ?_
        obtain ⟨a25, ha25, hF⟩ := bindE hF
        refine ASL.q (v := (ptrTo v14 x20_l0.toNat 1)) rfl rfl (Light.quiet (kIxOx hS (j := 1) rfl ha25 rfl rfl rfl elemA_96 sizeA_4)) ?_
        refine ASL.q (v := (.bool a25)) rfl rfl (Light.quiet (kLd (f := AV.bool) hS (j := 1) rfl ha25 rfl aggA_4 rfl (fun _ => rfl))) ?_
        refine ASL.done ?_
        refine AWP.ifB hF rfl (fun hc25 hF => ?_) (fun hc25 hF => ?_)
        · skip
          refine AWP.exit ?_
          refine QThen.ext ?_
          refine QBlock.hit ?_
          refine QThen.nrm ?_
          exact ⟨y9, y12, w10, ⟨rfl, rfl, rfl, rfl, rfl, trivial⟩, (hS.pick [0, 1] rfl rfl), hF⟩
        · skip
          refine AWP.skip ?_
          refine QThen.nrm ?_
          refine AWP.seqR rfl ?_
          refine ASL.q (v := v14) rfl rfl (Light.quiet (opMove rfl rfl)) ?_
          refine ASL.q (v := (.int .i64 x20_l0)) rfl rfl (Light.quiet (opMove rfl rfl)) ?_
          obtain ⟨m29, hm29, hF⟩ := bindE hF
          refine ASL.q (v := (ptrTo v14 m29 1)) rfl rfl (Light.quiet (kIxO hS (j := 1) rfl hm29 rfl rfl rfl elemA_96 sizeA_4)) ?_
          refine ASL.n rfl rfl (hSt (f := AV.bool) (a := true) hS (j := 1) rfl hm29 rfl sizeA_4 rfl rfl ⟨rfl, rfl, rfl⟩ ?_); rintro G26 hS
          refine ASL.done ?_
          refine AWP.seqR rfl ?_
          refine ASL.q (v := (.int .i64 x20_l0)) rfl rfl (Light.quiet (opMove rfl rfl)) ?_
          refine ASL.q (v := (.agg [(.int .i64 x20_l0), (.int .i64 0)])) rfl rfl (Light.quiet (opBuildZ (zs := [(.int .i64 0), (.int .i64 0)]) rfl plan_137 zeroA_137 ⟨.inl rfl, .inl rfl, trivial⟩ rfl)) ?_
          refine ASL.x rfl rfl (hLit (f := Tplace.av) (zs := [(Tplace.mk x20_l0 0)]) hS rfl rfl elemA_138 sizeA_137 zeroA_137 rfl rfl rfl rfl (by simp [cells, Tplace.av]) (nlt rfl) ?_); rintro v32 G27 hK hS
          refine ASL.q (v := v32) rfl rfl (Light.quiet (opAssign rfl rfl)) ?_
          refine ASL.done ?_
          refine AWP.block ?_
          obtain ⟨o39, hL38, hR40⟩ := bindE hF
          refine AWP.loopF (ω := (AV × AV)) hL38 (fun s w => [(0, (.rptr [(.list 1 (List.map (fun xs : (List Tstep) => AV.list 2 (List.map Tstep.av xs)) p0.next_))])), (3, w.1), (4, v14), (6, w.2), (19, (.int .i64 (p0.next_.length : Int))), (20, (.int .i64 x20_l0))]) (fun s w => [.row 1 w.1 (List.map (AV.int .i64) s.1), .row 1 v14 (List.map AV.bool s.2.1), .row 2 w.2 (List.map Tplace.av s.2.2)]) (w10, v32) ⟨rfl, rfl, rfl, rfl, rfl, rfl, trivial⟩ (hS.pick [1, 2, 0] rfl rfl) ?_
          rintro ⟨y29, y32, y33⟩ ⟨w30, w34⟩ G41 hS x36 hF hx37
          try dsimp only at hS ⊢
          have hF : impl_graph_finished.b1 p0 y29 y32 y33 = some x36 := hF; unfold impl_graph_finished.b1 at hF
          refine AWP.seq ?_
          refine AWP.seqR rfl ?_
          refine ASL.q (v := w34) rfl rfl (Light.quiet (opMove rfl rfl)) ?_
          refine ASL.q (v := (.int .i64 (y33.length : Int))) rfl rfl (Light.quiet (kLen hS (j := 2) rfl rfl rfl rfl lenT_138 rfl)) ?_
          refine ASL.q (v := (.bool (decide (((y33.length : Int)) > 0)))) rfl rfl (Light.quiet (opInt rfl rfl rfl rfl)) ?_
          refine ASL.done ?_
          refine AWP.ifP hF rfl (fun hc42 hF => ?_) (fun hc42 hF => ?_)
          · skip
            refine AWP.skip ?_
            refine QThen.nrm ?_
            refine AWP.block ?_
            refine AWP.seqR rfl ?_
            refine ASL.q (v := w34) rfl rfl (Light.quiet (opMove rfl rfl)) ?_
            refine ASL.q (v := w34) rfl rfl (Light.quiet (opMove rfl rfl)) ?_
            refine ASL.q (v := (.int .i64 (y33.length : Int))) rfl rfl (Light.quiet (kLen hS (j := 2) rfl rfl rfl rfl lenT_138 rfl)) ?_
            refine ASL.q (v := (.int .i64 (W (((y33.length : Int)) - 1)))) rfl rfl (Light.quiet (opInt rfl rfl rfl rfl)) ?_
            obtain ⟨m40, hm40, hF⟩ := bindE hF
            refine ASL.q (v := (ptrTo w34 m40 2)) rfl rfl (Light.quiet (kIxO hS (j := 2) rfl hm40 rfl rfl rfl elemA_138 sizeA_137)) ?_
            refine ASL.q (v := (ptrTo w34 m40 2)) rfl rfl (Light.quiet (opAssign rfl rfl)) ?_
            refine ASL.done ?_
            refine AWP.seq ?_
            refine AWP.seqD [(0, false), (1, false), (2, false), (3, false), (4, false), (5, false), (6, false), (7, false), (8, false), (9, false), (10, false), (11, false), (12, false), (13, false), (14, false), (15, false)] mixed (by kernel_rfl) rfl ?_
            refine ARL.q0 (v := (ptrTo w34 m40 2)) rfl rfl (Light.quiet (opMove rfl rfl)) ?_
            refine ARL.q0 (v := (ptrTo w34 m40 2)) rfl rfl (Light.quiet (kNilE hS (j := 2) rfl hm40 rfl rfl)) ?_
            refine ARL.q0 (v := (ptrOff w34 m40 2 1)) rfl rfl (Light.quiet (kFldC (p := 1) hS (j := 2) rfl hm40 rfl fieldA_137_1 rfl)) ?_
            refine ARL.q (v := (.int .i64 ((y33.getD m40 default)).at_)) rfl rfl (hS.aliveR (k := 2) rfl) (Light.quiet (kLdPm (f := Tplace.av) hS (j := 2) rfl hm40 rfl aggA_3 rfl rfl)) ?_
            refine ARL.q0 (v := (.rptr [(.list 1 (List.map (fun xs : (List Tstep) => AV.list 2 (List.map Tstep.av xs)) p0.next_))])) rfl rfl (Light.quiet (opMove rfl rfl)) ?_
            refine ARL.q0 (v := (.rptr [(.list 1 (List.map (fun xs : (List Tstep) => AV.list 2 (List.map Tstep.av xs)) p0.next_))])) rfl rfl (Light.quiet (opNil rfl rfl rfl)) ?_
            refine ARL.q0 (v := (.rptr [(.list 1 (List.map (fun xs : (List Tstep) => AV.list 2 (List.map Tstep.av xs)) p0.next_))])) rfl rfl (Light.quiet (opFieldAddrR rfl fieldA_116_0 rfl rfl)) ?_
            refine ARL.q0 (v := (.list 1 (List.map (fun xs : (List Tstep) => AV.list 2 (List.map Tstep.av xs)) p0.next_))) rfl rfl (Light.quiet (opLoadR rfl aggA_114 rfl rfl)) ?_
            refine ARL.q0 (v := (ptrTo w34 m40 2)) rfl rfl (Light.quiet (opMove rfl rfl)) ?_
            refine ARL.q0 (v := (ptrTo w34 m40 2)) rfl rfl (Light.quiet (kNilE hS (j := 2) rfl hm40 rfl rfl)) ?_
            refine ARL.q0 (v := (ptrOff w34 m40 2 0)) rfl rfl (Light.quiet (kFldC (p := 0) hS (j := 2) rfl hm40 rfl fieldA_137_0 rfl)) ?_
            refine ARL.q (v := (.int .i64 ((y33.getD m40 default)).point)) rfl rfl (hS.aliveR (k := 2) rfl) (Light.quiet (kLdPm (f := Tplace.av) hS (j := 2) rfl hm40 rfl aggA_3 rfl rfl)) ?_
            obtain ⟨a53, ha53, hF⟩ := bindE hF
            refine ARL.q0 (v := (.rptr [(.list 2 (List.map Tstep.av a53))])) rfl rfl (Light.quiet (kIx (f := (fun xs : (List Tstep) => AV.list 2 (List.map Tstep.av xs))) ha53 rfl rfl rfl elemA_114 sizeA_118 rfl)) ?_
            refine ARL.q0 (v := (.list 2 (List.map Tstep.av a53))) rfl rfl (Light.quiet (opLoadR rfl aggA_118 rfl rfl)) ?_
            refine ARL.q0 (v := (.int .i64 (a53.length : Int))) rfl rfl (Light.quiet (opLenMap (f := Tstep.av) rfl rfl rfl lenT_118 rfl)) ?_
            refine ARL.q0 (v := (.bool (decide ((((y33.getD m40 default)).at_) = ((a53.length : Int)))))) rfl rfl (Light.quiet (opInt rfl rfl rfl rfl)) ?_
            refine ARL.done ?_
            refine AWP.ifP hF rfl (fun hc43 hF => ?_) (fun hc43 hF => ?_)
            · skip
              refine AWP.seqR rfl ?_
              refine ASL.q (v := w30) rfl rfl (Light.quiet (opMove rfl rfl)) ?_
              refine ASL.q (v := (ptrTo w34 m40 2)) rfl rfl (Light.quiet (opMove rfl rfl)) ?_
              refine ASL.q (v := (ptrTo w34 m40 2)) rfl rfl (Light.quiet (kNilE hS (j := 2) rfl hm40 rfl rfl)) ?_
              refine ASL.q (v := (ptrOff w34 m40 2 0)) rfl rfl (Light.quiet (kFldC (p := 0) hS (j := 2) rfl hm40 rfl fieldA_137_0 rfl)) ?_
              refine ASL.q (v := (.int .i64 ((y33.getD m40 default)).point)) rfl rfl (Light.quiet (kLdPm (f := Tplace.av) hS (j := 2) rfl hm40 rfl aggA_3 rfl rfl)) ?_
              refine ASL.q (v := (.list 1 (List.map (AV.int .i64) [((y33.getD m40 default)).point]))) rfl rfl ((qLit (xs := [(.int .i64 ((y33.getD m40 default)).point)]) rfl elemA_34 sizeA_3 zeroA_3 rfl rfl rfl rfl (by simp [cells]) (nlt rfl))) ?_
              obtain ⟨z63, hz63, hF⟩ := bindE hF
              refine ASL.x rfl rfl (hApp (f := (AV.int .i64)) (ws := [((y33.getD m40 default)).point]) hS (j := 0) rfl hz63 rfl elemA_34 rfl sizeA_3 bytesA_3 zeroA_3 rfl rfl rfl (fun _ => rfl) ?_); rintro v63 G44 hS
              refine ASL.q (v := v63) rfl rfl (Light.quiet (opAssign rfl rfl)) ?_
              refine ASL.done ?_
              refine AWP.seqR rfl ?_
              refine ASL.q (v := w34) rfl rfl (Light.quiet (opMove rfl rfl)) ?_
              refine ASL.q (v := w34) rfl rfl (Light.quiet (opMove rfl rfl)) ?_
              refine ASL.q (v := (.int .i64 (y33.length : Int))) rfl rfl (Light.quiet (kLen hS (j := 2) rfl rfl rfl rfl lenT_138 rfl)) ?_
              refine ASL.q (v := (.int .i64 (W (((y33.length : Int)) - 1)))) rfl rfl (Light.quiet (opInt rfl rfl rfl rfl)) ?_
              obtain ⟨a68, ha68, hF⟩ := bindE hF
              refine ASL.x rfl rfl (hCutO (f := Tplace.av) hS (j := 2) rfl ha68 rfl elemA_138 sizeA_137 rfl (.inl ⟨rfl, rfl⟩) (.inr ⟨_, _, rfl, rfl, .inl rfl⟩) ?_); rintro v68 G46 hS
              refine ASL.q (v := v68) rfl rfl (Light.quiet (opAssign rfl rfl)) ?_
              refine ASL.done ?_
              refine AWP.exit ?_
              refine QThen.ext ?_
              refine QBlock.hit ?_
              refine QThen.nrm ?_
              exact ⟨(z63, y32, a68), (v63, v68), (someE hF).symm, ⟨rfl, rfl, rfl, rfl, rfl, rfl, trivial⟩, (hS.pick [0, 1, 2] rfl rfl)⟩
            · skip
              refine AWP.skip ?_
              refine QThen.nrm ?_
              refine AWP.seqD [(0, false), (1, false), (2, false), (3, false), (4, false), (5, false), (6, false), (7, false), (8, false), (9, false), (10, false), (11, false), (12, false), (13, false), (14, false), (15, false), (16, false), (17, false)] mixed (by kernel_rfl) rfl ?_
              refine ARL.q0 (v := (.rptr [(.list 1 (List.map (fun xs : (List Tstep) => AV.list 2 (List.map Tstep.av xs)) p0.next_))])) rfl rfl (Light.quiet (opMove rfl rfl)) ?_
              refine ARL.q0 (v := (.rptr [(.list 1 (List.map (fun xs : (List Tstep) => AV.list 2 (List.map Tstep.av xs)) p0.next_))])) rfl rfl (Light.quiet (opNil rfl rfl rfl)) ?_
              refine ARL.q0 (v := (.rptr [(.list 1 (List.map (fun xs : (List Tstep) => AV.list 2 (List.map Tstep.av xs)) p0.next_))])) rfl rfl (Light.quiet (opFieldAddrR rfl fieldA_116_0 rfl rfl)) ?_
              refine ARL.q0 (v := (.list 1 (List.map (fun xs : (List Tstep) => AV.list 2 (List.map Tstep.av xs)) p0.next_))) rfl rfl (Light.quiet (opLoadR rfl aggA_114 rfl rfl)) ?_
              refine ARL.q0 (v := (ptrTo w34 m40 2)) rfl rfl (Light.quiet (opMove rfl rfl)) ?_
              refine ARL.q0 (v := (ptrTo w34 m40 2)) rfl rfl (Light.quiet (kNilE hS (j := 2) rfl hm40 rfl rfl)) ?_
              refine ARL.q0 (v := (ptrOff w34 m40 2 0)) rfl rfl (Light.quiet (kFldC (p := 0) hS (j := 2) rfl hm40 rfl fieldA_137_0 rfl)) ?_
              refine ARL.q (v := (.int .i64 ((y33.getD m40 default)).point)) rfl rfl (hS.aliveR (k := 2) rfl) (Light.quiet (kLdPm (f := Tplace.av) hS (j := 2) rfl hm40 rfl aggA_3 rfl rfl)) ?_
              obtain ⟨a77, ha77, hF⟩ := bindE hF
              refine ARL.q0 (v := (.rptr [(.list 2 (List.map Tstep.av a77))])) rfl rfl (Light.quiet (kIx (f := (fun xs : (List Tstep) => AV.list 2 (List.map Tstep.av xs))) ha77 rfl rfl rfl elemA_114 sizeA_118 rfl)) ?_
              refine ARL.q0 (v := (.list 2 (List.map Tstep.av a77))) rfl rfl (Light.quiet (opLoadR rfl aggA_118 rfl rfl)) ?_
              refine ARL.q0 (v := (ptrTo w34 m40 2)) rfl rfl (Light.quiet (opMove rfl rfl)) ?_
              refine ARL.q0 (v := (ptrTo w34 m40 2)) rfl rfl (Light.quiet (kNilE hS (j := 2) rfl hm40 rfl rfl)) ?_
              refine ARL.q0 (v := (ptrOff w34 m40 2 1)) rfl rfl (Light.quiet (kFldC (p := 1) hS (j := 2) rfl hm40 rfl fieldA_137_1 rfl)) ?_
              refine ARL.q (v := (.int .i64 ((y33.getD m40 default)).at_)) rfl rfl (hS.aliveR (k := 2) rfl) (Light.quiet (kLdPm (f := Tplace.av) hS (j := 2) rfl hm40 rfl aggA_3 rfl rfl)) ?_
              obtain ⟨a83, ha83, hF⟩ := bindE hF
              refine ARL.q0 (v := (.rptr [(.int .i64 a83.to_), (.int .i64 a83.marks)])) rfl rfl (Light.quiet (kIx (f := Tstep.av) ha83 rfl rfl rfl elemA_118 sizeA_120 rfl)) ?_
              refine ARL.q0 (v := (.rptr [(.int .i64 a83.to_), (.int .i64 a83.marks)])) rfl rfl (Light.quiet (opFieldAddrR rfl fieldA_120_0 rfl rfl)) ?_
              refine ARL.q0 (v := (.int .i64 a83.to_)) rfl rfl (Light.quiet (opLoadR rfl aggA_3 rfl rfl)) ?_
              refine ARL.q0 (v := (.int .i64 a83.to_)) rfl rfl (Light.quiet (opAssign rfl rfl)) ?_
              refine ARL.done ?_
              refine AWP.seqR rfl ?_
              refine ASL.q (v := (ptrTo w34 m40 2)) rfl rfl (Light.quiet (opMove rfl rfl)) ?_
              refine ASL.q (v := (ptrTo w34 m40 2)) rfl rfl (Light.quiet (kNilE hS (j := 2) rfl hm40 rfl rfl)) ?_
              refine ASL.q (v := (ptrOff w34 m40 2 1)) rfl rfl (Light.quiet (kFldC (p := 1) hS (j := 2) rfl hm40 rfl fieldA_137_1 rfl)) ?_
              refine ASL.q (v := (.int .i64 ((y33.getD m40 default)).at_)) rfl rfl (Light.quiet (kLdPm (f := Tplace.av) hS (j := 2) rfl hm40 rfl aggA_3 rfl rfl)) ?_
              refine ASL.q (v := (.int .i64 (W ((((y33.getD m40 default)).at_) + 1)))) rfl rfl (Light.quiet (opInt rfl rfl rfl rfl)) ?_
              refine ASL.q (v := (ptrTo w34 m40 2)) rfl rfl (Light.quiet (kNilE hS (j := 2) rfl hm40 rfl rfl)) ?_
              refine ASL.q (v := (ptrOff w34 m40 2 1)) rfl rfl (Light.quiet (kFldC (p := 1) hS (j := 2) rfl hm40 rfl fieldA_137_1 rfl)) ?_
              refine ASL.n rfl rfl (hStF (f := Tplace.av) (g := (fun q : Tplace => { q with at_ := (W ((((y33.getD m40 default)).at_) + 1)) })) (p := 1) hS (j := 2) rfl hm40 rfl sizeA_3 rfl rfl (fun _ => ⟨_, rfl, nlt rfl, rfl⟩) rfl ?_); rintro G48 hS
              refine ASL.done ?_
              refine AWP.seqR rfl ?_
              refine ASL.q (v := v14) rfl rfl (Light.quiet (opMove rfl rfl)) ?_
              refine ASL.q (v := (.int .i64 a83.to_)) rfl rfl (Light.quiet (opMove rfl rfl)) ?_
              obtain ⟨a95, ha95, hF⟩ := bindE hF
              refine ASL.q (v := (ptrTo v14 a83.to_.toNat 1)) rfl rfl (Light.quiet (kIxOx hS (j := 1) rfl ha95 rfl rfl rfl elemA_96 sizeA_4)) ?_
              refine ASL.q (v := (.bool a95)) rfl rfl (Light.quiet (kLd (f := AV.bool) hS (j := 1) rfl ha95 rfl aggA_4 rfl (fun _ => rfl))) ?_
              refine ASL.q (v := (.bool (!a95))) rfl rfl (Light.quiet (opNot rfl rfl)) ?_
              refine ASL.done ?_
              refine AWP.ifB hF rfl (fun hc49 hF => ?_) (fun hc49 hF => ?_)
              · skip
                refine AWP.seqR rfl ?_
                refine ASL.q (v := v14) rfl rfl (Light.quiet (opMove rfl rfl)) ?_
                refine ASL.q (v := (.int .i64 a83.to_)) rfl rfl (Light.quiet (opMove rfl rfl)) ?_
                obtain ⟨m100, hm100, hF⟩ := bindE hF
                refine ASL.q (v := (ptrTo v14 m100 1)) rfl rfl (Light.quiet (kIxO hS (j := 1) rfl hm100 rfl rfl rfl elemA_96 sizeA_4)) ?_
                refine ASL.n rfl rfl (hSt (f := AV.bool) (a := true) hS (j := 1) rfl hm100 rfl sizeA_4 rfl rfl ⟨rfl, rfl, rfl⟩ ?_); rintro G50 hS
                refine ASL.done ?_
                refine AWP.lastR rfl ?_
                refine ASL.q (v := w34) rfl rfl (Light.quiet (opMove rfl rfl)) ?_
                refine ASL.q (v := (.int .i64 a83.to_)) rfl rfl (Light.quiet (opMove rfl rfl)) ?_
                refine ASL.q (v := (.agg [(.int .i64 a83.to_), (.int .i64 0)])) rfl rfl (Light.quiet (opBuildZ (zs := [(.int .i64 0), (.int .i64 0)]) rfl plan_137 zeroA_137 ⟨.inl rfl, .inl rfl, trivial⟩ rfl)) ?_
                refine ASL.q (v := (.list 2 (List.map Tplace.av [(Tplace.mk a83.to_ 0)]))) rfl rfl ((qLit (xs := [(.agg [(.int .i64 a83.to_), (.int .i64 0)])]) rfl elemA_138 sizeA_137 zeroA_137 rfl rfl rfl rfl (by simp [cells, Tplace.av]) (nlt rfl))) ?_
                obtain ⟨z105, hz105, hF⟩ := bindE hF
                refine ASL.x rfl rfl (hApp (f := Tplace.av) (ws := [(Tplace.mk a83.to_ 0)]) hS (j := 2) rfl hz105 rfl elemA_138 rfl sizeA_137 bytesA_137 zeroA_137 rfl rfl rfl (fun _ => rfl) ?_); rintro v105 G51 hS
                refine ASL.q (v := v105) rfl rfl (Light.quiet (opAssign rfl rfl)) ?_
                refine ASL.done ?_
                refine QBlock.nrm ?_
                refine QThen.nrm ?_
                exact ⟨(y29, (y32.set m100 true), z105), (w30, v105), (someE hF).symm, ⟨rfl, rfl, rfl, rfl, rfl, rfl, trivial⟩, (hS.pick [0, 1, 2] rfl rfl)⟩
              · skip
                refine AWP.skip ?_
                refine QBlock.nrm ?_
                refine QThen.nrm ?_
                exact ⟨(y29, y32, (y33.set m40 ((fun q : Tplace => { q with at_ := (W ((((y33.getD m40 default)).at_) + 1)) }) (y33.getD m40 default)))), (w30, w34), (someE hF).symm, ⟨rfl, rfl, rfl, rfl, rfl, rfl, trivial⟩, (hS.pick [0, 1, 2] rfl rfl)⟩
          · skip
            refine AWP.exit ?_
            refine QThen.ext ?_
            refine QThen.ext ?_
            refine QBlock.hit ?_
            obtain rfl := (hx37 _ (someE hF).symm)
            have hF := hR40
            refine QBlock.nrm ?_
            refine QThen.nrm ?_
            exact ⟨y29, y32, w30, ⟨rfl, rfl, rfl, rfl, rfl, trivial⟩, (hS.pick [0, 1] rfl rfl), hF⟩
    · skip
      refine AWP.exit ?_
      refine QThen.ext ?_
      refine QThen.ext ?_
      refine QBlock.hit ?_
      obtain rfl := (hx14 _ (someE hF).symm)
      have hF := hR17
      refine QThen.nrm ?_
      exact ⟨y9, w10, ⟨rfl, trivial⟩, (hS.pick [0] rfl rfl), hF⟩

set_option maxRecDepth 10000 in
theorem impl_graph_back_ok {p0 : Tgraph} {r : Tgraph} (hF : impl_graph_back p0 = some r) : PC Try.prog 94 [(.rptr [(.list 1 (List.map (fun xs : (List Tstep) => AV.list 2 (List.map Tstep.av xs)) p0.next_))])] fun v => v = (.rptr [(.list 1 (List.map (fun xs : (List Tstep) => AV.list 2 (List.map Tstep.av xs)) r.next_))]) := by
  refine PC.enter Try.func94 rfl Try.ntmps94 (by simp) ?_
  have hS := Sep.void; unfold impl_graph_back at hF
  refine AWP.seqR rfl ?_
  refine ASL.q (v := .nilptr) rfl rfl (Light.quiet (opAssign rfl rfl)) ?_
  refine ASL.done ?_
  refine AWP.seqR rfl ?_
  refine ASL.q (v := (.rptr [(.list 1 (List.map (fun xs : (List Tstep) => AV.list 2 (List.map Tstep.av xs)) p0.next_))])) rfl rfl (Light.quiet (opMove rfl rfl)) ?_
  refine ASL.q (v := (.rptr [(.list 1 (List.map (fun xs : (List Tstep) => AV.list 2 (List.map Tstep.av xs)) p0.next_))])) rfl rfl (Light.quiet (opNil rfl rfl rfl)) ?_
  refine ASL.q (v := (.rptr [(.list 1 (List.map (fun xs : (List Tstep) => AV.list 2 (List.map Tstep.av xs)) p0.next_))])) rfl rfl (Light.quiet (opFieldAddrR rfl fieldA_116_0 rfl rfl)) ?_
  refine ASL.q (v := (.list 1 (List.map (fun xs : (List Tstep) => AV.list 2 (List.map Tstep.av xs)) p0.next_))) rfl rfl (Light.quiet (opLoadR rfl aggA_114 rfl rfl)) ?_
  refine ASL.q (v := (.int .i64 (p0.next_.length : Int))) rfl rfl (Light.quiet (opLenMap (f := (fun xs : (List Tstep) => AV.list 2 (List.map Tstep.av xs))) rfl rfl rfl lenT_114 rfl)) ?_
  obtain ⟨a13, ha13, hF⟩ := bindE hF
  refine ASL.x rfl rfl (hCallS hS [] (F := []) rfl rfl rfl call_97 (impl_graphOf_ok ha13) rfl rfl ?_); rintro _ _ G6 ⟨bq1, w3, w5, rfl, rfl⟩ hS
  refine ASL.q (v := (.ptr bq1 0)) rfl rfl (Light.quiet (opAssign rfl rfl)) ?_
  refine ASL.done ?_
  refine AWP.seqM (fun e H => ∃ y7 : (List (List Tstep)), ∃ w8 : AV, ∃ w10 : List AV, E.Told e [(3, (.ptr bq1 0))] ∧ E.Sep H [.rows 2 w8 w10 (List.map (List.map Tstep.av) y7) none, .cell bq1 [w8]] ∧ impl_graph_back.k0 y7 = some r) ?_ ?_
  · rintro e0 G13 ⟨y7, w8, w10, hT, hS, hF⟩; refine AWP.only _ hT ?_; unfold impl_graph_back.k0 at hF
    refine AWP.seqR rfl ?_
    refine ASL.q (v := (.ptr bq1 0)) rfl rfl (Light.quiet (opMove rfl rfl)) ?_
    refine ASL.q (v := (.ptr bq1 0)) rfl rfl (Light.quiet (opAssign rfl rfl)) ?_
    refine ASL.done ?_
    refine AWP.frzRows (L' := [.cell bq1 [(.list 1 (List.map (fun xs : (List Tstep) => AV.list 2 (List.map Tstep.av xs)) y7))]]) hS (k := 0) rfl [(2, (.ptr bq1 0))] ⟨.inl rfl, trivial⟩ ⟨⟨_, rfl, ⟨.inr ⟨rfl, rfl⟩, trivial⟩⟩, trivial⟩ (fun G11 hS => ?_)
    refine AWP.frzCell (L' := []) hS (k := 0) rfl [(2, (.rptr [(.list 1 (List.map (fun xs : (List Tstep) => AV.list 2 (List.map Tstep.av xs)) y7))]))] ⟨.inr (.inl ⟨rfl, rfl⟩), trivial⟩ trivial (fun G12 hS => ?_)
    refine AWP.ret ?_
    obtain rfl := someE hF
    exact QRet.sole (v := (.rptr [(.list 1 (List.map (fun xs : (List Tstep) => AV.list 2 (List.map Tstep.av xs)) y7))])) ⟨rfl, trivial⟩ rfl
  · skip
    refine AWP.seqR rfl ?_
    refine ASL.q (v := (.rptr [(.list 1 (List.map (fun xs : (List Tstep) => AV.list 2 (List.map Tstep.av xs)) p0.next_))])) rfl rfl (Light.quiet (opMove rfl rfl)) ?_
    refine ASL.q (v := (.rptr [(.list 1 (List.map (fun xs : (List Tstep) => AV.list 2 (List.map Tstep.av xs)) p0.next_))])) rfl rfl (Light.quiet (opNil rfl rfl rfl)) ?_
    refine ASL.q (v := (.rptr [(.list 1 (List.map (fun xs : (List Tstep) => AV.list 2 (List.map Tstep.av xs)) p0.next_))])) rfl rfl (Light.quiet (opFieldAddrR rfl fieldA_116_0 rfl rfl)) ?_
    refine ASL.q (v := (.list 1 (List.map (fun xs : (List Tstep) => AV.list 2 (List.map Tstep.av xs)) p0.next_))) rfl rfl (Light.quiet (opLoadR rfl aggA_114 rfl rfl)) ?_
    refine ASL.q (v := (.int .i64 (p0.next_.length : Int))) rfl rfl (Light.quiet (opLenMap (f := (fun xs : (List Tstep) => AV.list 2 (List.map Tstep.av xs))) rfl rfl rfl lenT_114 rfl)) ?_
    refine ASL.q (v := (.int .i64 0)) rfl rfl (Light.quiet (opMove rfl rfl)) ?_
    refine ASL.done ?_
    refine AWP.block ?_
    obtain ⟨o21, hL20, hR22⟩ := bindE hF
    refine AWP.loopF (ω := (AV × (List AV))) hL20 (fun s w => [(3, (.ptr bq1 0)), (17, (.list 1 (List.map (fun xs : (List Tstep) => AV.list 2 (List.map Tstep.av xs)) p0.next_))), (18, (.int .i64 (p0.next_.length : Int))), (19, (.int .i64 s.2))]) (fun s w => [.rows 2 w.1 w.2 (List.map (List.map Tstep.av) s.1) none, .cell bq1 [w.1]]) (w3, w5) ⟨rfl, rfl, rfl, rfl, trivial⟩ (hS.pick [1, 0] rfl rfl) ?_
    rintro ⟨y14, x19_l0⟩ ⟨w15, w17⟩ G23 hS x18 hF hx19
    try dsimp only at hS ⊢
    have hF : impl_graph_back.b0 p0 y14 x19_l0 = some x18 := hF; unfold impl_graph_back.b0 at hF
    refine AWP.seqR rfl ?_
    refine ASL.q (v := (.bool (decide (x19_l0 < ((p0.next_.length : Int)))))) rfl rfl (Light.quiet (opInt rfl rfl rfl rfl)) ?_
    refine ASL.done ?_
    refine AWP.seq ?_
    refine AWP.ifP hF rfl (fun hc24 hF => ?_) (fun hc24 hF => ?_)
    · skip
      refine AWP.skip ?_
      refine QThen.nrm ?_
      refine AWP.seqM (fun e H => ∃ y25 : (List (List Tstep)), ∃ w26 : AV, ∃ w28 : List AV, E.Told e [(3, (.ptr bq1 0)), (17, (.list 1 (List.map (fun xs : (List Tstep) => AV.list 2 (List.map Tstep.av xs)) p0.next_))), (18, (.int .i64 (p0.next_.length : Int))), (19, (.int .i64 x19_l0))] ∧ E.Sep H [.rows 2 w26 w28 (List.map (List.map Tstep.av) y25) none, .cell bq1 [w26]] ∧ impl_graph_back.k1 x19_l0 y25 = some x18) ?_ ?_
      · rintro e0 G29 ⟨y25, w26, w28, hT, hS, hF⟩; refine AWP.only _ hT ?_; unfold impl_graph_back.k1 at hF
        refine AWP.lastR rfl ?_
        refine ASL.q (v := (.int .i64 (W (x19_l0 + 1)))) rfl rfl (Light.quiet (opInt rfl rfl rfl rfl)) ?_
        refine ASL.q (v := (.int .i64 (W (x19_l0 + 1)))) rfl rfl (Light.quiet (opMove rfl rfl)) ?_
        refine ASL.done ?_
        refine QThen.nrm ?_
        exact ⟨(y25, (W (x19_l0 + 1))), (w26, w28), (someE hF).symm, ⟨rfl, rfl, rfl, rfl, trivial⟩, (hS.pick [0, 1] rfl rfl)⟩
      · skip
        refine AWP.block ?_
        refine AWP.seqR rfl ?_
        refine ASL.q (v := (.int .i64 x19_l0)) rfl rfl (Light.quiet (opMove rfl rfl)) ?_
        obtain ⟨a22, ha22, hF⟩ := bindE hF
        refine ASL.q (v := (.rptr [(.list 2 (List.map Tstep.av a22))])) rfl rfl (Light.quiet (kIx (f := (fun xs : (List Tstep) => AV.list 2 (List.map Tstep.av xs))) ha22 rfl rfl rfl elemA_114 sizeA_118 rfl)) ?_
        refine ASL.q (v := (.list 2 (List.map Tstep.av a22))) rfl rfl (Light.quiet (opLoadR rfl aggA_118 rfl rfl)) ?_
        refine ASL.q (v := (.int .i64 x19_l0)) rfl rfl (Light.quiet (opAssign rfl rfl)) ?_
        refine ASL.q (v := (.list 2 (List.map Tstep.av a22))) rfl rfl (Light.quiet (opAssign rfl rfl)) ?_
        refine ASL.done ?_
        refine AWP.seqR rfl ?_
        refine ASL.q (v := (.list 2 (List.map Tstep.av a22))) rfl rfl (Light.quiet (opMove rfl rfl)) ?_
        refine ASL.q (v := (.int .i64 (a22.length : Int))) rfl rfl (Light.quiet (opLenMap (f := Tstep.av) rfl rfl rfl lenT_118 rfl)) ?_
        refine ASL.q (v := (.int .i64 0)) rfl rfl (Light.quiet (opMove rfl rfl)) ?_
        refine ASL.done ?_
        refine AWP.block ?_
        obtain ⟨o37, hL36, hR38⟩ := bindE hF
        refine AWP.loopF (ω := (AV × (List AV))) hL36 (fun s w => [(3, (.ptr bq1 0)), (4, (.int .i64 x19_l0)), (17, (.list 1 (List.map (fun xs : (List Tstep) => AV.list 2 (List.map Tstep.av xs)) p0.next_))), (18, (.int .i64 (p0.next_.length : Int))), (19, (.int .i64 x19_l0)), (24, (.list 2 (List.map Tstep.av a22))), (25, (.int .i64 (a22.length : Int))), (26, (.int .i64 s.2))]) (fun s w => [.rows 2 w.1 w.2 (List.map (List.map Tstep.av) s.1) none, .cell bq1 [w.1]]) (w15, w17) ⟨rfl, rfl, rfl, rfl, rfl, rfl, rfl, rfl, trivial⟩ (hS.pick [0, 1] rfl rfl) ?_
        rintro ⟨y30, x26_l1⟩ ⟨w31, w33⟩ G39 hS x34 hF hx35
        try dsimp only at hS ⊢
        have hF : impl_graph_back.b1 a22 x19_l0 y30 x26_l1 = some x34 := hF; unfold impl_graph_back.b1 at hF
        refine AWP.seqR rfl ?_
        refine ASL.q (v := (.bool (decide (x26_l1 < ((a22.length : Int)))))) rfl rfl (Light.quiet (opInt rfl rfl rfl rfl)) ?_
        refine ASL.done ?_
        refine AWP.seq ?_
        refine AWP.ifP hF rfl (fun hc40 hF => ?_) (fun hc40 hF => ?_)
        · skip
          refine AWP.skip ?_
          refine QThen.nrm ?_
          refine AWP.seq ?_
          refine AWP.block ?_
          refine AWP.seqR rfl ?_
          obtain ⟨a28, ha28, hF⟩ := bindE hF
          refine ASL.q (v := (.rptr [(.int .i64 a28.to_), (.int .i64 a28.marks)])) rfl rfl (Light.quiet (kIx (f := Tstep.av) ha28 rfl rfl rfl elemA_118 sizeA_120 rfl)) ?_
          refine ASL.q (v := (Tstep.av a28)) rfl rfl (Light.quiet (opLoadRA rfl aggA_120 sizeA_120 rfl (nlt rfl) rfl)) ?_
          refine ASL.x rfl rfl (hNewZ hS [(.int .i64 0), (.int .i64 0)] rfl zeroA_120 ⟨.inl rfl, .inl rfl, trivial⟩ ?_); rintro b7 G41 hK hS
          refine ASL.n rfl rfl (hPutA hS (j := 0) rfl rfl sizeA_120 rfl rfl rfl rfl rfl (nlt rfl) ?_); rintro G43 hS
          refine ASL.done ?_
          refine AWP.lastR rfl ?_
          refine ASL.q (v := (.ptr bq1 0)) rfl rfl (Light.quiet (opMove rfl rfl)) ?_
          refine ASL.q (v := (.ptr b7 0)) rfl rfl (Light.quiet (opFieldAddr rfl fieldA_120_0 rfl rfl)) ?_
          refine ASL.q (v := (.int .i64 a28.to_)) rfl rfl (Light.quiet (kAt hS (j := 0) rfl rfl aggA_3 rfl rfl)) ?_
          refine ASL.q (v := (.int .i64 x19_l0)) rfl rfl (Light.quiet (opMove rfl rfl)) ?_
          refine ASL.q (v := (.ptr b7 1)) rfl rfl (Light.quiet (opFieldAddr rfl fieldA_120_1 rfl rfl)) ?_
          refine ASL.q (v := (.int .i64 a28.marks)) rfl rfl (Light.quiet (kAt hS (j := 0) rfl rfl aggA_3 rfl rfl)) ?_
          obtain ⟨a36, ha36, hF⟩ := bindE hF
          refine ASL.x rfl rfl (hCallS hS [2, 1, 0] (F := [.cell b7 [(.int .i64 a28.to_), (.int .i64 a28.marks)]]) rfl rfl rfl call_98 (impl_graph_add_ok ha36) rfl rfl ?_); rintro _ _ G47 ⟨w44, w46, rfl, rfl⟩ hS
          refine ASL.done ?_
          refine QBlock.nrm ?_
          refine QThen.nrm ?_
          refine AWP.lastR rfl ?_
          refine ASL.q (v := (.int .i64 (W (x26_l1 + 1)))) rfl rfl (Light.quiet (opInt rfl rfl rfl rfl)) ?_
          refine ASL.q (v := (.int .i64 (W (x26_l1 + 1)))) rfl rfl (Light.quiet (opMove rfl rfl)) ?_
          refine ASL.done ?_
          refine QThen.nrm ?_
          exact ⟨(a36.next_, (W (x26_l1 + 1))), (w44, w46), (someE hF).symm, ⟨rfl, rfl, rfl, rfl, rfl, rfl, rfl, rfl, trivial⟩, (hS.pick [1, 0] rfl rfl)⟩
        · skip
          refine AWP.exit ?_
          refine QThen.ext ?_
          refine QThen.ext ?_
          refine QBlock.hit ?_
          obtain rfl := (hx35 _ (someE hF).symm)
          have hF := hR38
          refine QBlock.nrm ?_
          refine QThen.nrm ?_
          exact ⟨y30, w31, w33, ⟨rfl, rfl, rfl, rfl, trivial⟩, (hS.pick [0, 1] rfl rfl), hF⟩
    · skip
      refine AWP.exit ?_
      refine QThen.ext ?_
      refine QThen.ext ?_
      refine QBlock.hit ?_
      obtain rfl := (hx19 _ (someE hF).symm)
      have hF := hR22
      refine QThen.nrm ?_
      exact ⟨y14, w15, w17, ⟨rfl, trivial⟩, (hS.pick [0, 1] rfl rfl), hF⟩

set_option maxRecDepth 10000 in
theorem slices_Reverse_int_int_ok {p0 : (List Int)} {r : (List Int)} {vp0 : AV} (hF : slices_Reverse_int_int p0 = some r) : HS Try.prog 100 [vp0] [.row 1 vp0 (List.map (AV.int .i64) p0)] fun v L' => v = .tup [] ∧ L' = [.row 1 vp0 (List.map (AV.int .i64) r)] := by
  intro H S hS
  refine HC.enter Try.func100 rfl Try.ntmps100 (by simp) ?_
  simp only [List.cons_append, List.nil_append] at hS
  unfold slices_Reverse_int_int at hF
  refine AWP.seqR rfl ?_
  refine ASL.q (v := vp0) rfl rfl (Light.quiet (opMove rfl rfl)) ?_
  refine ASL.q (v := (.int .i64 (p0.length : Int))) rfl rfl (Light.quiet (kLen hS (j := 0) rfl rfl rfl rfl lenT_34 rfl)) ?_
  refine ASL.q (v := (.int .i64 (W (((p0.length : Int)) - 1)))) rfl rfl (Light.quiet (opInt rfl rfl rfl rfl)) ?_
  refine ASL.q (v := (.int .i64 0)) rfl rfl (Light.quiet (opAssign rfl rfl)) ?_
  refine ASL.q (v := (.int .i64 (W (((p0.length : Int)) - 1)))) rfl rfl (Light.quiet (opAssign rfl rfl)) ?_
  refine ASL.done ?_
  refine AWP.block ?_
  obtain ⟨o6, hL5, hR7⟩ := bindE hF
  refine AWP.loopF (ω := Unit) hL5 (fun s w => [(0, vp0), (2, (.int .i64 s.2.1)), (3, (.int .i64 s.2.2))]) (fun s w => [.row 1 vp0 (List.map (AV.int .i64) s.1), .snap S]) () ⟨rfl, rfl, rfl, trivial⟩ (hS.pick [0, 1] rfl rfl) ?_
  rintro ⟨y2, x2_l0, x3_l0⟩ _ G8 hS x3 hF hx4
  try dsimp only at hS ⊢
  have hF : slices_Reverse_int_int.b0 y2 x2_l0 x3_l0 = some x3 := hF; unfold slices_Reverse_int_int.b0 at hF
  refine AWP.seq ?_
  refine AWP.seqR rfl ?_
  refine ASL.q (v := (.int .i64 x2_l0)) rfl rfl (Light.quiet (opMove rfl rfl)) ?_
  refine ASL.q (v := (.int .i64 x3_l0)) rfl rfl (Light.quiet (opMove rfl rfl)) ?_
  refine ASL.q (v := (.bool (decide (x2_l0 < x3_l0)))) rfl rfl (Light.quiet (opInt rfl rfl rfl rfl)) ?_
  refine ASL.done ?_
  refine AWP.ifP hF rfl (fun hc9 hF => ?_) (fun hc9 hF => ?_)
  · skip
    refine AWP.skip ?_
    refine QThen.nrm ?_
    refine AWP.seq ?_
    refine AWP.block ?_
    refine AWP.lastD [(0, false), (1, false), (2, false), (3, false), (4, false), (5, false), (6, false), (7, false), (8, false), (9, false), (10, false), (11, false), (12, false), (13, true), (14, false), (15, true)] mixed (by kernel_rfl) rfl ?_
    refine ARL.q0 (v := vp0) rfl rfl (Light.quiet (opMove rfl rfl)) ?_
    refine ARL.q0 (v := (.int .i64 x2_l0)) rfl rfl (Light.quiet (opMove rfl rfl)) ?_
    refine ARL.q0 (v := vp0) rfl rfl (Light.quiet (opMove rfl rfl)) ?_
    refine ARL.q0 (v := (.int .i64 x3_l0)) rfl rfl (Light.quiet (opMove rfl rfl)) ?_
    refine ARL.q0 (v := vp0) rfl rfl (Light.quiet (opMove rfl rfl)) ?_
    refine ARL.q0 (v := (.int .i64 x3_l0)) rfl rfl (Light.quiet (opMove rfl rfl)) ?_
    obtain ⟨a20, ha20, hF⟩ := bindE hF
    refine ARL.q0 (v := (ptrTo vp0 x3_l0.toNat 1)) rfl rfl (Light.quiet (kIxOx hS (j := 0) rfl ha20 rfl rfl rfl elemA_34 sizeA_3)) ?_
    refine ARL.q (v := (.int .i64 a20)) rfl rfl (hS.aliveR (k := 0) rfl) (Light.quiet (kLd (f := (AV.int .i64)) hS (j := 0) rfl ha20 rfl aggA_3 rfl (fun _ => rfl))) ?_
    refine ARL.q0 (v := vp0) rfl rfl (Light.quiet (opMove rfl rfl)) ?_
    refine ARL.q0 (v := (.int .i64 x2_l0)) rfl rfl (Light.quiet (opMove rfl rfl)) ?_
    obtain ⟨a24, ha24, hF⟩ := bindE hF
    refine ARL.q0 (v := (ptrTo vp0 x2_l0.toNat 1)) rfl rfl (Light.quiet (kIxOx hS (j := 0) rfl ha24 rfl rfl rfl elemA_34 sizeA_3)) ?_
    refine ARL.q (v := (.int .i64 a24)) rfl rfl (hS.aliveR (k := 0) rfl) (Light.quiet (kLd (f := (AV.int .i64)) hS (j := 0) rfl ha24 rfl aggA_3 rfl (fun _ => rfl))) ?_
    obtain ⟨m26, hm26, hF⟩ := bindE hF
    refine ARL.q0 (v := (ptrTo vp0 m26 1)) rfl rfl (Light.quiet (kIxO hS (j := 0) rfl hm26 rfl rfl rfl elemA_34 sizeA_3)) ?_
    refine ARL.n rfl rfl rfl rfl (hSt (f := (AV.int .i64)) (a := a20) hS (j := 0) rfl hm26 rfl sizeA_3 rfl rfl ⟨rfl, rfl, rfl⟩ ?_); rintro G10 hS
    obtain ⟨m27, hm27, hF⟩ := bindE hF
    refine ARL.q0 (v := (ptrTo vp0 m27 1)) rfl rfl (Light.quiet (kIxO hS (j := 0) rfl hm27 rfl rfl rfl elemA_34 sizeA_3)) ?_
    refine ARL.n rfl rfl rfl rfl (hSt (f := (AV.int .i64)) (a := a24) hS (j := 0) rfl hm27 rfl sizeA_3 rfl rfl ⟨rfl, rfl, rfl⟩ ?_); rintro G11 hS
    refine ARL.done ?_
    refine QBlock.nrm ?_
    refine QThen.nrm ?_
    refine AWP.lastR rfl ?_
    refine ASL.q (v := (.int .i64 x2_l0)) rfl rfl (Light.quiet (opMove rfl rfl)) ?_
    refine ASL.q (v := (.int .i64 (W (x2_l0 + 1)))) rfl rfl (Light.quiet (opInt rfl rfl rfl rfl)) ?_
    refine ASL.q (v := (.int .i64 x3_l0)) rfl rfl (Light.quiet (opMove rfl rfl)) ?_
    refine ASL.q (v := (.int .i64 (W (x3_l0 - 1)))) rfl rfl (Light.quiet (opInt rfl rfl rfl rfl)) ?_
    refine ASL.q (v := (.int .i64 (W (x2_l0 + 1)))) rfl rfl (Light.quiet (opAssign rfl rfl)) ?_
    refine ASL.q (v := (.int .i64 (W (x3_l0 - 1)))) rfl rfl (Light.quiet (opAssign rfl rfl)) ?_
    refine ASL.done ?_
    refine QThen.nrm ?_
    exact ⟨((((y2.set m26 a20)).set m27 a24), (W (x2_l0 + 1)), (W (x3_l0 - 1))), (), (someE hF).symm, ⟨rfl, rfl, rfl, trivial⟩, (hS.pick [0, 1] rfl rfl)⟩
  · skip
    refine AWP.exit ?_
    refine QThen.ext ?_
    refine QThen.ext ?_
    refine QBlock.hit ?_
    obtain rfl := (hx4 _ (someE hF).symm)
    have hF := hR7
    refine QRet.end ?_
    obtain rfl := someE hF
    exact QRet.many (vs := []) trivial (by simp) ⟨_, ⟨rfl, rfl⟩, hS.pick [0, 1] rfl rfl⟩

set_option maxRecDepth 10000 in
theorem impl_graph_rings_ok {p0 : Tgraph} {r : (List Int)} (hF : impl_graph_rings p0 = some r) : PO Try.prog 50 [(.rptr [(.list 1 (List.map (fun xs : (List Tstep) => AV.list 2 (List.map Tstep.av xs)) p0.next_))])] 1 (List.map (AV.int .i64) r) := by
  refine HC.enter Try.func50 rfl Try.ntmps50 (by simp) ?_
  have hS := Sep.void; unfold impl_graph_rings at hF
  refine AWP.seqR rfl ?_
  have hS := hNil (s := 1) (f := (AV.int .i64)) hS
  refine ASL.q (v := .nil) rfl rfl (Light.quiet (opAssign rfl rfl)) ?_
  refine ASL.done ?_
  refine AWP.seqR rfl ?_
  refine ASL.q (v := (.rptr [(.list 1 (List.map (fun xs : (List Tstep) => AV.list 2 (List.map Tstep.av xs)) p0.next_))])) rfl rfl (Light.quiet (opMove rfl rfl)) ?_
  obtain ⟨a14, ha14, hF⟩ := bindE hF
  refine ASL.x rfl rfl (hCallO hS rfl rfl call_99 (impl_graph_finished_ok ha14) rfl ?_); rintro v14 G2 hK hS
  refine ASL.q (v := v14) rfl rfl (Light.quiet (opAssign rfl rfl)) ?_
  refine ASL.done ?_
  refine AWP.seqR rfl ?_
  refine ASL.q (v := (.rptr [(.list 1 (List.map (fun xs : (List Tstep) => AV.list 2 (List.map Tstep.av xs)) p0.next_))])) rfl rfl (Light.quiet (opMove rfl rfl)) ?_
  obtain ⟨a16, ha16, hF⟩ := bindE hF
  refine ASL.q (v := (.rptr [(.list 1 (List.map (fun xs : (List Tstep) => AV.list 2 (List.map Tstep.av xs)) a16.next_))])) rfl rfl ((qCall rfl rfl call_94 (impl_graph_back_ok ha16) rfl)) ?_
  refine ASL.q (v := (.rptr [(.list 1 (List.map (fun xs : (List Tstep) => AV.list 2 (List.map Tstep.av xs)) a16.next_))])) rfl rfl (Light.quiet (opAssign rfl rfl)) ?_
  refine ASL.done ?_
  refine AWP.seqR rfl ?_
  refine ASL.q (v := (.rptr [(.list 1 (List.map (fun xs : (List Tstep) => AV.list 2 (List.map Tstep.av xs)) p0.next_))])) rfl rfl (Light.quiet (opMove rfl rfl)) ?_
  refine ASL.q (v := (.rptr [(.list 1 (List.map (fun xs : (List Tstep) => AV.list 2 (List.map Tstep.av xs)) p0.next_))])) rfl rfl (Light.quiet (opNil rfl rfl rfl)) ?_
  refine ASL.q (v := (.rptr [(.list 1 (List.map (fun xs : (List Tstep) => AV.list 2 (List.map Tstep.av xs)) p0.next_))])) rfl rfl (Light.quiet (opFieldAddrR rfl fieldA_116_0 rfl rfl)) ?_
  refine ASL.q (v := (.list 1 (List.map (fun xs : (List Tstep) => AV.list 2 (List.map Tstep.av xs)) p0.next_))) rfl rfl (Light.quiet (opLoadR rfl aggA_114 rfl rfl)) ?_
  refine ASL.q (v := (.int .i64 (p0.next_.length : Int))) rfl rfl (Light.quiet (opLenMap (f := (fun xs : (List Tstep) => AV.list 2 (List.map Tstep.av xs))) rfl rfl rfl lenT_114 rfl)) ?_
  obtain ⟨z22, hz22, hF⟩ := bindE hF
  refine ASL.x rfl rfl (hMk (f := (AV.int .i64)) hS hz22 (by decide) rfl elemA_34 sizeA_3 bytesA_3 zeroA_3 rfl rfl (by decide) rfl rfl ?_); rintro v22 G4 hK hS
  refine ASL.q (v := v22) rfl rfl (Light.quiet (opAssign rfl rfl)) ?_
  refine ASL.done ?_
  refine AWP.seqM (fun e H => ∃ y6 : (List Int), E.Told e [(3, v14), (4, (.rptr [(.list 1 (List.map (fun xs : (List Tstep) => AV.list 2 (List.map Tstep.av xs)) a16.next_))])), (5, v22)] ∧ E.Sep H [.row 1 v14 (List.map (AV.int .i64) a14), .row 1 v22 (List.map (AV.int .i64) y6)] ∧ impl_graph_rings.k0 a14 a16 y6 = some r) ?_ ?_
  · rintro e0 G55 ⟨y6, hT, hS, hF⟩; refine AWP.only _ hT ?_; unfold impl_graph_rings.k0 at hF
    refine AWP.seqR rfl ?_
    refine ASL.q (v := v14) rfl rfl (Light.quiet (opMove rfl rfl)) ?_
    obtain ⟨a33, ha33, hF⟩ := bindE hF
    refine ASL.x rfl rfl (hCallS hS [0, 1] (F := [.row 1 v22 (List.map (AV.int .i64) y6)]) rfl rfl rfl call_100 (slices_Reverse_int_int_ok ha33) rfl rfl ?_); rintro _ _ G7 ⟨rfl, rfl⟩ hS
    refine ASL.done ?_
    refine AWP.seqM (fun e H => ∃ y8 : (List Int), E.Told e [(5, v22)] ∧ E.Sep H [.row 1 v22 (List.map (AV.int .i64) y8)] ∧ impl_graph_rings.k1 y8 = some r) ?_ ?_
    · rintro e0 G9 ⟨y8, hT, hS, hF⟩; refine AWP.only _ hT ?_; unfold impl_graph_rings.k1 at hF
      refine AWP.seqR rfl ?_
      refine ASL.q (v := v22) rfl rfl (Light.quiet (opMove rfl rfl)) ?_
      refine ASL.q (v := v22) rfl rfl (Light.quiet (opAssign rfl rfl)) ?_
      refine ASL.done ?_
      refine AWP.ret ?_
      obtain rfl := someE hF
      exact QRet.sole (v := v22) ⟨rfl, trivial⟩ (hS.get (k := 0) rfl)
    · skip
      refine AWP.seqR rfl ?_
      refine ASL.q (v := v14) rfl rfl (Light.quiet (opMove rfl rfl)) ?_
      refine ASL.q (v := (.int .i64 (a33.length : Int))) rfl rfl (Light.quiet (kLen hS (j := 0) rfl rfl rfl rfl lenT_34 rfl)) ?_
      refine ASL.q (v := (.int .i64 0)) rfl rfl (Light.quiet (opMove rfl rfl)) ?_
      refine ASL.done ?_
      refine AWP.block ?_
      obtain ⟨o14, hL13, hR15⟩ := bindE hF
      refine AWP.loopF (ω := Unit) hL13 (fun s w => [(4, (.rptr [(.list 1 (List.map (fun xs : (List Tstep) => AV.list 2 (List.map Tstep.av xs)) a16.next_))])), (5, v22), (34, v14), (35, (.int .i64 (a33.length : Int))), (36, (.int .i64 s.2))]) (fun s w => [.row 1 v22 (List.map (AV.int .i64) s.1), .row 1 v14 (List.map (AV.int .i64) a33)]) () ⟨rfl, rfl, rfl, rfl, rfl, trivial⟩ (hS.pick [1, 0] rfl rfl) ?_
      rintro ⟨y10, x36_l0⟩ _ G16 hS x11 hF hx12
      try dsimp only at hS ⊢
      have hF : impl_graph_rings.b0 a33 a16 y10 x36_l0 = some x11 := hF; unfold impl_graph_rings.b0 at hF
      refine AWP.seqR rfl ?_
      refine ASL.q (v := (.bool (decide (x36_l0 < ((a33.length : Int)))))) rfl rfl (Light.quiet (opInt rfl rfl rfl rfl)) ?_
      refine ASL.done ?_
      refine AWP.seq ?_
      refine AWP.ifP hF rfl (fun hc17 hF => ?_) (fun hc17 hF => ?_)
      · skip
        refine AWP.skip ?_
        refine QThen.nrm ?_
        refine AWP.seqM (fun e H => ∃ y18 : (List Int), E.Told e [(4, (.rptr [(.list 1 (List.map (fun xs : (List Tstep) => AV.list 2 (List.map Tstep.av xs)) a16.next_))])), (5, v22), (34, v14), (35, (.int .i64 (a33.length : Int))), (36, (.int .i64 x36_l0))] ∧ E.Sep H [.row 1 v22 (List.map (AV.int .i64) y18), .row 1 v14 (List.map (AV.int .i64) a33)] ∧ impl_graph_rings.k2 x36_l0 y18 = some x11) ?_ ?_
        · rintro e0 G19 ⟨y18, hT, hS, hF⟩; refine AWP.only _ hT ?_; unfold impl_graph_rings.k2 at hF
          refine AWP.lastR rfl ?_
          refine ASL.q (v := (.int .i64 (W (x36_l0 + 1)))) rfl rfl (Light.quiet (opInt rfl rfl rfl rfl)) ?_
          refine ASL.q (v := (.int .i64 (W (x36_l0 + 1)))) rfl rfl (Light.quiet (opMove rfl rfl)) ?_
          refine ASL.done ?_
          refine QThen.nrm ?_
          exact ⟨(y18, (W (x36_l0 + 1))), (), (someE hF).symm, ⟨rfl, rfl, rfl, rfl, rfl, trivial⟩, (hS.pick [0, 1] rfl rfl)⟩
        · skip
          refine AWP.block ?_
          refine AWP.seqR rfl ?_
          refine ASL.q (v := (.int .i64 x36_l0)) rfl rfl (Light.quiet (opMove rfl rfl)) ?_
          obtain ⟨a39, ha39, hF⟩ := bindE hF
          refine ASL.q (v := (ptrTo v14 x36_l0.toNat 1)) rfl rfl (Light.quiet (kIxOx hS (j := 1) rfl ha39 rfl rfl rfl elemA_34 sizeA_3)) ?_
          refine ASL.q (v := (.int .i64 a39)) rfl rfl (Light.quiet (kLd (f := (AV.int .i64)) hS (j := 1) rfl ha39 rfl aggA_3 rfl (fun _ => rfl))) ?_
          refine ASL.q (v := (.int .i64 x36_l0)) rfl rfl (Light.quiet (opAssign rfl rfl)) ?_
          refine ASL.q (v := (.int .i64 a39)) rfl rfl (Light.quiet (opAssign rfl rfl)) ?_
          refine ASL.done ?_
          refine AWP.seq ?_
          refine AWP.seqR rfl ?_
          refine ASL.q (v := v22) rfl rfl (Light.quiet (opMove rfl rfl)) ?_
          refine ASL.q (v := (.int .i64 a39)) rfl rfl (Light.quiet (opMove rfl rfl)) ?_
          obtain ⟨a43, ha43, hF⟩ := bindE hF
          refine ASL.q (v := (ptrTo v22 a39.toNat 1)) rfl rfl (Light.quiet (kIxOx hS (j := 0) rfl ha43 rfl rfl rfl elemA_34 sizeA_3)) ?_
          refine ASL.q (v := (.int .i64 a43)) rfl rfl (Light.quiet (kLd (f := (AV.int .i64)) hS (j := 0) rfl ha43 rfl aggA_3 rfl (fun _ => rfl))) ?_
          refine ASL.q (v := (.bool (decide (a43 ≥ 0)))) rfl rfl (Light.quiet (opInt rfl rfl rfl rfl)) ?_
          refine ASL.done ?_
          refine AWP.ifP hF rfl (fun hc20 hF => ?_) (fun hc20 hF => ?_)
          · skip
            refine AWP.exit ?_
            refine QThen.ext ?_
            refine QBlock.hit ?_
            refine QThen.nrm ?_
            exact ⟨y10, ⟨rfl, rfl, rfl, rfl, rfl, trivial⟩, (hS.pick [0, 1] rfl rfl), hF⟩
          · skip
            refine AWP.skip ?_
            refine QThen.nrm ?_
            refine AWP.seqR rfl ?_
            refine ASL.q (v := v22) rfl rfl (Light.quiet (opMove rfl rfl)) ?_
            refine ASL.q (v := (.int .i64 a39)) rfl rfl (Light.quiet (opMove rfl rfl)) ?_
            refine ASL.q (v := (.int .i64 x36_l0)) rfl rfl (Light.quiet (opMove rfl rfl)) ?_
            obtain ⟨m49, hm49, hF⟩ := bindE hF
            refine ASL.q (v := (ptrTo v22 m49 1)) rfl rfl (Light.quiet (kIxO hS (j := 0) rfl hm49 rfl rfl rfl elemA_34 sizeA_3)) ?_
            refine ASL.n rfl rfl (hSt (f := (AV.int .i64)) (a := x36_l0) hS (j := 0) rfl hm49 rfl sizeA_3 rfl rfl ⟨rfl, rfl, rfl⟩ ?_); rintro G21 hS
            refine ASL.done ?_
            refine AWP.seqR rfl ?_
            refine ASL.q (v := (.int .i64 a39)) rfl rfl (Light.quiet (opMove rfl rfl)) ?_
            refine ASL.x rfl rfl (hLit (f := (AV.int .i64)) (zs := [a39]) hS rfl rfl elemA_34 sizeA_3 zeroA_3 rfl rfl rfl rfl (by simp [cells]) (nlt rfl) ?_); rintro v51 G22 hK hS
            refine ASL.q (v := v51) rfl rfl (Light.quiet (opAssign rfl rfl)) ?_
            refine ASL.done ?_
            refine AWP.block ?_
            obtain ⟨o31, hL30, hR32⟩ := bindE hF
            refine AWP.loopF (ω := AV) hL30 (fun s w => [(4, (.rptr [(.list 1 (List.map (fun xs : (List Tstep) => AV.list 2 (List.map Tstep.av xs)) a16.next_))])), (5, v22), (7, (.int .i64 x36_l0)), (9, w), (34, v14), (35, (.int .i64 (a33.length : Int))), (36, (.int .i64 x36_l0))]) (fun s w => [.row 1 v22 (List.map (AV.int .i64) s.1), .row 1 w (List.map (AV.int .i64) s.2), .row 1 v14 (List.map (AV.int .i64) a33)]) v51 ⟨rfl, rfl, rfl, rfl, rfl, rfl, rfl, trivial⟩ (hS.pick [1, 0, 2] rfl rfl) ?_
            rintro ⟨y24, y25⟩ w26 G33 hS x28 hF hx29
            try dsimp only at hS ⊢
            have hF : impl_graph_rings.b1 a16 x36_l0 y24 y25 = some x28 := hF; unfold impl_graph_rings.b1 at hF
            refine AWP.seq ?_
            refine AWP.seqR rfl ?_
            refine ASL.q (v := w26) rfl rfl (Light.quiet (opMove rfl rfl)) ?_
            refine ASL.q (v := (.int .i64 (y25.length : Int))) rfl rfl (Light.quiet (kLen hS (j := 1) rfl rfl rfl rfl lenT_34 rfl)) ?_
            refine ASL.q (v := (.bool (decide (((y25.length : Int)) > 0)))) rfl rfl (Light.quiet (opInt rfl rfl rfl rfl)) ?_
            refine ASL.done ?_
            refine AWP.ifP hF rfl (fun hc34 hF => ?_) (fun hc34 hF => ?_)
            · skip
              refine AWP.skip ?_
              refine QThen.nrm ?_
              refine AWP.block ?_
              refine AWP.seqR rfl ?_
              refine ASL.q (v := w26) rfl rfl (Light.quiet (opMove rfl rfl)) ?_
              refine ASL.q (v := w26) rfl rfl (Light.quiet (opMove rfl rfl)) ?_
              refine ASL.q (v := (.int .i64 (y25.length : Int))) rfl rfl (Light.quiet (kLen hS (j := 1) rfl rfl rfl rfl lenT_34 rfl)) ?_
              refine ASL.q (v := (.int .i64 (W (((y25.length : Int)) - 1)))) rfl rfl (Light.quiet (opInt rfl rfl rfl rfl)) ?_
              obtain ⟨a59, ha59, hF⟩ := bindE hF
              refine ASL.q (v := (ptrTo w26 ((W (((y25.length : Int)) - 1))).toNat 1)) rfl rfl (Light.quiet (kIxOx hS (j := 1) rfl ha59 rfl rfl rfl elemA_34 sizeA_3)) ?_
              refine ASL.q (v := (.int .i64 a59)) rfl rfl (Light.quiet (kLd (f := (AV.int .i64)) hS (j := 1) rfl ha59 rfl aggA_3 rfl (fun _ => rfl))) ?_
              refine ASL.q (v := (.int .i64 a59)) rfl rfl (Light.quiet (opAssign rfl rfl)) ?_
              refine ASL.done ?_
              refine AWP.seqR rfl ?_
              refine ASL.q (v := w26) rfl rfl (Light.quiet (opMove rfl rfl)) ?_
              refine ASL.q (v := w26) rfl rfl (Light.quiet (opMove rfl rfl)) ?_
              refine ASL.q (v := (.int .i64 (y25.length : Int))) rfl rfl (Light.quiet (kLen hS (j := 1) rfl rfl rfl rfl lenT_34 rfl)) ?_
              refine ASL.q (v := (.int .i64 (W (((y25.length : Int)) - 1)))) rfl rfl (Light.quiet (opInt rfl rfl rfl rfl)) ?_
              obtain ⟨a65, ha65, hF⟩ := bindE hF
              refine ASL.x rfl rfl (hCutO (f := (AV.int .i64)) hS (j := 1) rfl ha65 rfl elemA_34 sizeA_3 rfl (.inl ⟨rfl, rfl⟩) (.inr ⟨_, _, rfl, rfl, .inl rfl⟩) ?_); rintro v65 G35 hS
              refine ASL.q (v := v65) rfl rfl (Light.quiet (opAssign rfl rfl)) ?_
              refine ASL.done ?_
              refine AWP.seqR rfl ?_
              refine ASL.q (v := (.rptr [(.list 1 (List.map (fun xs : (List Tstep) => AV.list 2 (List.map Tstep.av xs)) a16.next_))])) rfl rfl (Light.quiet (opMove rfl rfl)) ?_
              refine ASL.q (v := (.rptr [(.list 1 (List.map (fun xs : (List Tstep) => AV.list 2 (List.map Tstep.av xs)) a16.next_))])) rfl rfl (Light.quiet (opNil rfl rfl rfl)) ?_
              refine ASL.q (v := (.rptr [(.list 1 (List.map (fun xs : (List Tstep) => AV.list 2 (List.map Tstep.av xs)) a16.next_))])) rfl rfl (Light.quiet (opFieldAddrR rfl fieldA_116_0 rfl rfl)) ?_
              refine ASL.q (v := (.list 1 (List.map (fun xs : (List Tstep) => AV.list 2 (List.map Tstep.av xs)) a16.next_))) rfl rfl (Light.quiet (opLoadR rfl aggA_114 rfl rfl)) ?_
              refine ASL.q (v := (.int .i64 a59)) rfl rfl (Light.quiet (opMove rfl rfl)) ?_
              obtain ⟨a71, ha71, hF⟩ := bindE hF
              refine ASL.q (v := (.rptr [(.list 2 (List.map Tstep.av a71))])) rfl rfl (Light.quiet (kIx (f := (fun xs : (List Tstep) => AV.list 2 (List.map Tstep.av xs))) ha71 rfl rfl rfl elemA_114 sizeA_118 rfl)) ?_
              refine ASL.q (v := (.list 2 (List.map Tstep.av a71))) rfl rfl (Light.quiet (opLoadR rfl aggA_118 rfl rfl)) ?_
              refine ASL.q (v := (.int .i64 (a71.length : Int))) rfl rfl (Light.quiet (opLenMap (f := Tstep.av) rfl rfl rfl lenT_118 rfl)) ?_
              refine ASL.q (v := (.int .i64 0)) rfl rfl (Light.quiet (opMove rfl rfl)) ?_
              refine ASL.done ?_
              refine AWP.block ?_
              obtain ⟨o44, hL43, hR45⟩ := bindE hF
              refine AWP.loopF (ω := AV) hL43 (fun s w => [(4, (.rptr [(.list 1 (List.map (fun xs : (List Tstep) => AV.list 2 (List.map Tstep.av xs)) a16.next_))])), (5, v22), (7, (.int .i64 x36_l0)), (9, w), (34, v14), (35, (.int .i64 (a33.length : Int))), (36, (.int .i64 x36_l0)), (72, (.list 2 (List.map Tstep.av a71))), (73, (.int .i64 (a71.length : Int))), (74, (.int .i64 s.2.2))]) (fun s w => [.row 1 v22 (List.map (AV.int .i64) s.1), .row 1 w (List.map (AV.int .i64) s.2.1), .row 1 v14 (List.map (AV.int .i64) a33)]) v65 ⟨rfl, rfl, rfl, rfl, rfl, rfl, rfl, rfl, rfl, rfl, trivial⟩ (hS.pick [0, 1, 2] rfl rfl) ?_
              rintro ⟨y37, y38, x74_l2⟩ w39 G46 hS x41 hF hx42
              try dsimp only at hS ⊢
              have hF : impl_graph_rings.b2 a71 x36_l0 y37 y38 x74_l2 = some x41 := hF; unfold impl_graph_rings.b2 at hF
              refine AWP.seqR rfl ?_
              refine ASL.q (v := (.bool (decide (x74_l2 < ((a71.length : Int)))))) rfl rfl (Light.quiet (opInt rfl rfl rfl rfl)) ?_
              refine ASL.done ?_
              refine AWP.seq ?_
              refine AWP.ifP hF rfl (fun hc47 hF => ?_) (fun hc47 hF => ?_)
              · skip
                refine AWP.skip ?_
                refine QThen.nrm ?_
                refine AWP.seq ?_
                refine AWP.block ?_
                refine AWP.seqR rfl ?_
                obtain ⟨a76, ha76, hF⟩ := bindE hF
                refine ASL.q (v := (.rptr [(.int .i64 a76.to_), (.int .i64 a76.marks)])) rfl rfl (Light.quiet (kIx (f := Tstep.av) ha76 rfl rfl rfl elemA_118 sizeA_120 rfl)) ?_
                refine ASL.q (v := (Tstep.av a76)) rfl rfl (Light.quiet (opLoadRA rfl aggA_120 sizeA_120 rfl (nlt rfl) rfl)) ?_
                refine ASL.x rfl rfl (hNewZ hS [(.int .i64 0), (.int .i64 0)] rfl zeroA_120 ⟨.inl rfl, .inl rfl, trivial⟩ ?_); rintro b12 G48 hK hS
                refine ASL.n rfl rfl (hPutA hS (j := 0) rfl rfl sizeA_120 rfl rfl rfl rfl rfl (nlt rfl) ?_); rintro G50 hS
                refine ASL.done ?_
                refine AWP.seqR rfl ?_
                refine ASL.q (v := v22) rfl rfl (Light.quiet (opMove rfl rfl)) ?_
                refine ASL.q (v := (.ptr b12 0)) rfl rfl (Light.quiet (opFieldAddr rfl fieldA_120_0 rfl rfl)) ?_
                refine ASL.q (v := (.int .i64 a76.to_)) rfl rfl (Light.quiet (kAt hS (j := 0) rfl rfl aggA_3 rfl rfl)) ?_
                obtain ⟨a81, ha81, hF⟩ := bindE hF
                refine ASL.q (v := (ptrTo v22 a76.to_.toNat 1)) rfl rfl (Light.quiet (kIxOx hS (j := 1) rfl ha81 rfl rfl rfl elemA_34 sizeA_3)) ?_
                refine ASL.q (v := (.int .i64 a81)) rfl rfl (Light.quiet (kLd (f := (AV.int .i64)) hS (j := 1) rfl ha81 rfl aggA_3 rfl (fun _ => rfl))) ?_
                refine ASL.q (v := (.bool (decide (a81 < 0)))) rfl rfl (Light.quiet (opInt rfl rfl rfl rfl)) ?_
                refine ASL.done ?_
                refine AWP.ifP hF rfl (fun hc51 hF => ?_) (fun hc51 hF => ?_)
                · skip
                  refine AWP.seqR rfl ?_
                  refine ASL.q (v := v22) rfl rfl (Light.quiet (opMove rfl rfl)) ?_
                  refine ASL.q (v := (.ptr b12 0)) rfl rfl (Light.quiet (opFieldAddr rfl fieldA_120_0 rfl rfl)) ?_
                  refine ASL.q (v := (.int .i64 a76.to_)) rfl rfl (Light.quiet (kAt hS (j := 0) rfl rfl aggA_3 rfl rfl)) ?_
                  refine ASL.q (v := (.int .i64 x36_l0)) rfl rfl (Light.quiet (opMove rfl rfl)) ?_
                  obtain ⟨m88, hm88, hF⟩ := bindE hF
                  refine ASL.q (v := (ptrTo v22 m88 1)) rfl rfl (Light.quiet (kIxO hS (j := 1) rfl hm88 rfl rfl rfl elemA_34 sizeA_3)) ?_
                  refine ASL.n rfl rfl (hSt (f := (AV.int .i64)) (a := x36_l0) hS (j := 1) rfl hm88 rfl sizeA_3 rfl rfl ⟨rfl, rfl, rfl⟩ ?_); rintro G52 hS
                  refine ASL.done ?_
                  refine AWP.lastR rfl ?_
                  refine ASL.q (v := w39) rfl rfl (Light.quiet (opMove rfl rfl)) ?_
                  refine ASL.q (v := (.ptr b12 0)) rfl rfl (Light.quiet (opFieldAddr rfl fieldA_120_0 rfl rfl)) ?_
                  refine ASL.q (v := (.int .i64 a76.to_)) rfl rfl (Light.quiet (kAt hS (j := 0) rfl rfl aggA_3 rfl rfl)) ?_
                  refine ASL.q (v := (.list 1 (List.map (AV.int .i64) [a76.to_]))) rfl rfl ((qLit (xs := [(.int .i64 a76.to_)]) rfl elemA_34 sizeA_3 zeroA_3 rfl rfl rfl rfl (by simp [cells]) (nlt rfl))) ?_
                  obtain ⟨z93, hz93, hF⟩ := bindE hF
                  refine ASL.x rfl rfl (hApp (f := (AV.int .i64)) (ws := [a76.to_]) hS (j := 2) rfl hz93 rfl elemA_34 rfl sizeA_3 bytesA_3 zeroA_3 rfl rfl rfl (fun _ => rfl) ?_); rintro v93 G53 hS
                  refine ASL.q (v := v93) rfl rfl (Light.quiet (opAssign rfl rfl)) ?_
                  refine ASL.done ?_
                  refine QBlock.nrm ?_
                  refine QThen.nrm ?_
                  refine AWP.lastR rfl ?_
                  refine ASL.q (v := (.int .i64 (W (x74_l2 + 1)))) rfl rfl (Light.quiet (opInt rfl rfl rfl rfl)) ?_
                  refine ASL.q (v := (.int .i64 (W (x74_l2 + 1)))) rfl rfl (Light.quiet (opMove rfl rfl)) ?_
                  refine ASL.done ?_
                  refine QThen.nrm ?_
                  exact ⟨((y37.set m88 x36_l0), z93, (W (x74_l2 + 1))), v93, (someE hF).symm, ⟨rfl, rfl, rfl, rfl, rfl, rfl, rfl, rfl, rfl, rfl, trivial⟩, (hS.pick [1, 2, 3] rfl rfl)⟩
                · skip
                  refine AWP.skip ?_
                  refine QBlock.nrm ?_
                  refine QThen.nrm ?_
                  refine AWP.lastR rfl ?_
                  refine ASL.q (v := (.int .i64 (W (x74_l2 + 1)))) rfl rfl (Light.quiet (opInt rfl rfl rfl rfl)) ?_
                  refine ASL.q (v := (.int .i64 (W (x74_l2 + 1)))) rfl rfl (Light.quiet (opMove rfl rfl)) ?_
                  refine ASL.done ?_
                  refine QThen.nrm ?_
                  exact ⟨(y37, y38, (W (x74_l2 + 1))), w39, (someE hF).symm, ⟨rfl, rfl, rfl, rfl, rfl, rfl, rfl, rfl, rfl, rfl, trivial⟩, (hS.pick [1, 2, 3] rfl rfl)⟩
              · skip
                refine AWP.exit ?_
                refine QThen.ext ?_
                refine QThen.ext ?_
                refine QBlock.hit ?_
                obtain rfl := (hx42 _ (someE hF).symm)
                have hF := hR45
                refine QBlock.nrm ?_
                refine QThen.nrm ?_
                exact ⟨(y37, y38), w39, (someE hF).symm, ⟨rfl, rfl, rfl, rfl, rfl, rfl, rfl, trivial⟩, (hS.pick [0, 1, 2] rfl rfl)⟩
            · skip
              refine AWP.exit ?_
              refine QThen.ext ?_
              refine QThen.ext ?_
              refine QBlock.hit ?_
              obtain rfl := (hx29 _ (someE hF).symm)
              have hF := hR32
              refine QBlock.nrm ?_
              refine QThen.nrm ?_
              exact ⟨y24, ⟨rfl, rfl, rfl, rfl, rfl, trivial⟩, (hS.pick [0, 2] rfl rfl), hF⟩
      · skip
        refine AWP.exit ?_
        refine QThen.ext ?_
        refine QThen.ext ?_
        refine QBlock.hit ?_
        obtain rfl := (hx12 _ (someE hF).symm)
        have hF := hR15
        refine QThen.nrm ?_
        exact ⟨y10, ⟨rfl, trivial⟩, (hS.pick [0] rfl rfl), hF⟩
  · skip
    refine AWP.seqR rfl ?_
    refine ASL.q (v := v22) rfl rfl (Light.quiet (opMove rfl rfl)) ?_
    refine ASL.q (v := (.int .i64 (z22.length : Int))) rfl rfl (Light.quiet (kLen hS (j := 0) rfl rfl rfl rfl lenT_34 rfl)) ?_
    refine ASL.q (v := (.int .i64 0)) rfl rfl (Light.quiet (opMove rfl rfl)) ?_
    refine ASL.done ?_
    refine AWP.block ?_
    obtain ⟨o60, hL59, hR61⟩ := bindE hF
    refine AWP.loopF (ω := Unit) hL59 (fun s w => [(3, v14), (4, (.rptr [(.list 1 (List.map (fun xs : (List Tstep) => AV.list 2 (List.map Tstep.av xs)) a16.next_))])), (5, v22), (24, (.int .i64 (z22.length : Int))), (25, (.int .i64 s.2))]) (fun s w => [.row 1 v14 (List.map (AV.int .i64) a14), .row 1 v22 (List.map (AV.int .i64) s.1)]) () ⟨rfl, rfl, rfl, rfl, rfl, trivial⟩ (hS.pick [1, 0] rfl rfl) ?_
    rintro ⟨y56, x25_l3⟩ _ G62 hS x57 hF hx58
    try dsimp only at hS ⊢
    have hF : impl_graph_rings.b3 z22 y56 x25_l3 = some x57 := hF; unfold impl_graph_rings.b3 at hF
    refine AWP.seqR rfl ?_
    refine ASL.q (v := (.bool (decide (x25_l3 < ((z22.length : Int)))))) rfl rfl (Light.quiet (opInt rfl rfl rfl rfl)) ?_
    refine ASL.done ?_
    refine AWP.seq ?_
    refine AWP.ifP hF rfl (fun hc63 hF => ?_) (fun hc63 hF => ?_)
    · skip
      refine AWP.skip ?_
      refine QThen.nrm ?_
      refine AWP.seq ?_
      refine AWP.block ?_
      refine AWP.seqR rfl ?_
      refine ASL.q (v := (.int .i64 x25_l3)) rfl rfl (Light.quiet (opMove rfl rfl)) ?_
      refine ASL.q (v := (.int .i64 x25_l3)) rfl rfl (Light.quiet (opAssign rfl rfl)) ?_
      refine ASL.done ?_
      refine AWP.lastR rfl ?_
      refine ASL.q (v := v22) rfl rfl (Light.quiet (opMove rfl rfl)) ?_
      refine ASL.q (v := (.int .i64 x25_l3)) rfl rfl (Light.quiet (opMove rfl rfl)) ?_
      obtain ⟨m30, hm30, hF⟩ := bindE hF
      refine ASL.q (v := (ptrTo v22 m30 1)) rfl rfl (Light.quiet (kIxO hS (j := 1) rfl hm30 rfl rfl rfl elemA_34 sizeA_3)) ?_
      refine ASL.n rfl rfl (hSt (f := (AV.int .i64)) (a := (-1)) hS (j := 1) rfl hm30 rfl sizeA_3 rfl rfl ⟨rfl, rfl, rfl⟩ ?_); rintro G64 hS
      refine ASL.done ?_
      refine QBlock.nrm ?_
      refine QThen.nrm ?_
      refine AWP.lastR rfl ?_
      refine ASL.q (v := (.int .i64 (W (x25_l3 + 1)))) rfl rfl (Light.quiet (opInt rfl rfl rfl rfl)) ?_
      refine ASL.q (v := (.int .i64 (W (x25_l3 + 1)))) rfl rfl (Light.quiet (opMove rfl rfl)) ?_
      refine ASL.done ?_
      refine QThen.nrm ?_
      exact ⟨((y56.set m30 ((-1))), (W (x25_l3 + 1))), (), (someE hF).symm, ⟨rfl, rfl, rfl, rfl, rfl, trivial⟩, (hS.pick [0, 1] rfl rfl)⟩
    · skip
      refine AWP.exit ?_
      refine QThen.ext ?_
      refine QThen.ext ?_
      refine QBlock.hit ?_
      obtain rfl := (hx58 _ (someE hF).symm)
      have hF := hR61
      refine QThen.nrm ?_
      exact ⟨y56, ⟨rfl, rfl, rfl, trivial⟩, (hS.pick [0, 1] rfl rfl), hF⟩

set_option maxRecDepth 10000 in
theorem impl_graph_far_ok {p0 : Tgraph} {p1 : (List Int)} {r : (List Int)} (hF : impl_graph_far p0 p1 = some r) : PO Try.prog 95 [(.rptr [(.list 1 (List.map (fun xs : (List Tstep) => AV.list 2 (List.map Tstep.av xs)) p0.next_))]), (.list 1 (List.map (AV.int .i64) p1))] 1 (List.map (AV.int .i64) r) := by
  refine HC.enter Try.func95 rfl Try.ntmps95 (by simp) ?_
  have hS := Sep.void; unfold impl_graph_far at hF
  refine AWP.seqR rfl ?_
  have hS := hNil (s := 1) (f := (AV.int .i64)) hS
  refine ASL.q (v := .nil) rfl rfl (Light.quiet (opAssign rfl rfl)) ?_
  refine ASL.done ?_
  refine AWP.seqR rfl ?_
  refine ASL.q (v := (.rptr [(.list 1 (List.map (fun xs : (List Tstep) => AV.list 2 (List.map Tstep.av xs)) p0.next_))])) rfl rfl (Light.quiet (opMove rfl rfl)) ?_
  refine ASL.q (v := (.rptr [(.list 1 (List.map (fun xs : (List Tstep) => AV.list 2 (List.map Tstep.av xs)) p0.next_))])) rfl rfl (Light.quiet (opNil rfl rfl rfl)) ?_
  refine ASL.q (v := (.rptr [(.list 1 (List.map (fun xs : (List Tstep) => AV.list 2 (List.map Tstep.av xs)) p0.next_))])) rfl rfl (Light.quiet (opFieldAddrR rfl fieldA_116_0 rfl rfl)) ?_
  refine ASL.q (v := (.list 1 (List.map (fun xs : (List Tstep) => AV.list 2 (List.map Tstep.av xs)) p0.next_))) rfl rfl (Light.quiet (opLoadR rfl aggA_114 rfl rfl)) ?_
  refine ASL.q (v := (.int .i64 (p0.next_.length : Int))) rfl rfl (Light.quiet (opLenMap (f := (fun xs : (List Tstep) => AV.list 2 (List.map Tstep.av xs))) rfl rfl rfl lenT_114 rfl)) ?_
  obtain ⟨z19, hz19, hF⟩ := bindE hF
  refine ASL.x rfl rfl (hMk (f := (AV.int .i64)) hS hz19 (by decide) rfl elemA_34 sizeA_3 bytesA_3 zeroA_3 rfl rfl (by decide) rfl rfl ?_); rintro v19 G2 hK hS
  refine ASL.q (v := v19) rfl rfl (Light.quiet (opAssign rfl rfl)) ?_
  refine ASL.done ?_
  refine AWP.seqM (fun e H => ∃ y4 : (List Int), E.Told e [(0, (.rptr [(.list 1 (List.map (fun xs : (List Tstep) => AV.list 2 (List.map Tstep.av xs)) p0.next_))])), (1, (.list 1 (List.map (AV.int .i64) p1))), (5, v19)] ∧ E.Sep H [.row 1 v19 (List.map (AV.int .i64) y4)] ∧ impl_graph_far.k0 p1 p0 y4 = some r) ?_ ?_
  · rintro e0 G62 ⟨y4, hT, hS, hF⟩; refine AWP.only _ hT ?_; unfold impl_graph_far.k0 at hF
    refine AWP.seqR rfl ?_
    have hS := hNil (s := 1) (f := (AV.int .i64)) hS
    refine ASL.q (v := .nil) rfl rfl (Light.quiet (opAssign rfl rfl)) ?_
    refine ASL.done ?_
    refine AWP.seqM (fun e H => ∃ y6 : (List Int), ∃ y7 : (List Int), ∃ w8 : AV, E.Told e [(0, (.rptr [(.list 1 (List.map (fun xs : (List Tstep) => AV.list 2 (List.map Tstep.av xs)) p0.next_))])), (5, v19), (7, w8)] ∧ E.Sep H [.row 1 v19 (List.map (AV.int .i64) y6), .row 1 w8 (List.map (AV.int .i64) y7)] ∧ impl_graph_far.k1 p0 y6 y7 = some r) ?_ ?_
    · rintro e0 G46 ⟨y6, y7, w8, hT, hS, hF⟩; refine AWP.only _ hT ?_; unfold impl_graph_far.k1 at hF
      refine AWP.seqM (fun e H => ∃ y10 : (List Int), E.Told e [(5, v19)] ∧ E.Sep H [.row 1 v19 (List.map (AV.int .i64) y10)] ∧ impl_graph_far.k2 y10 = some r) ?_ ?_
      · rintro e0 G11 ⟨y10, hT, hS, hF⟩; refine AWP.only _ hT ?_; unfold impl_graph_far.k2 at hF
        refine AWP.seqR rfl ?_
        refine ASL.q (v := v19) rfl rfl (Light.quiet (opMove rfl rfl)) ?_
        refine ASL.q (v := v19) rfl rfl (Light.quiet (opAssign rfl rfl)) ?_
        refine ASL.done ?_
        refine AWP.ret ?_
        obtain rfl := someE hF
        exact QRet.sole (v := v19) ⟨rfl, trivial⟩ (hS.get (k := 0) rfl)
      · skip
        refine AWP.seqR rfl ?_
        refine ASL.q (v := (.int .i64 0)) rfl rfl (Light.quiet (opAssign rfl rfl)) ?_
        refine ASL.done ?_
        refine AWP.block ?_
        obtain ⟨o19, hL18, hR20⟩ := bindE hF
        refine AWP.loopF (ω := AV) hL18 (fun s w => [(0, (.rptr [(.list 1 (List.map (fun xs : (List Tstep) => AV.list 2 (List.map Tstep.av xs)) p0.next_))])), (5, v19), (7, w), (10, (.int .i64 s.2.2))]) (fun s w => [.row 1 v19 (List.map (AV.int .i64) s.1), .row 1 w (List.map (AV.int .i64) s.2.1)]) w8 ⟨rfl, rfl, rfl, rfl, trivial⟩ (hS.pick [0, 1] rfl rfl) ?_
        rintro ⟨y12, y13, x10_l0⟩ w14 G21 hS x16 hF hx17
        try dsimp only at hS ⊢
        have hF : impl_graph_far.b0 p0 y12 y13 x10_l0 = some x16 := hF; unfold impl_graph_far.b0 at hF
        refine AWP.seq ?_
        refine AWP.seqR rfl ?_
        refine ASL.q (v := (.int .i64 x10_l0)) rfl rfl (Light.quiet (opMove rfl rfl)) ?_
        refine ASL.q (v := w14) rfl rfl (Light.quiet (opMove rfl rfl)) ?_
        refine ASL.q (v := (.int .i64 (y13.length : Int))) rfl rfl (Light.quiet (kLen hS (j := 1) rfl rfl rfl rfl lenT_34 rfl)) ?_
        refine ASL.q (v := (.bool (decide (x10_l0 < ((y13.length : Int)))))) rfl rfl (Light.quiet (opInt rfl rfl rfl rfl)) ?_
        refine ASL.done ?_
        refine AWP.ifP hF rfl (fun hc22 hF => ?_) (fun hc22 hF => ?_)
        · skip
          refine AWP.skip ?_
          refine QThen.nrm ?_
          refine AWP.seqM (fun e H => ∃ y23 : (List Int), ∃ y24 : (List Int), ∃ w25 : AV, E.Told e [(0, (.rptr [(.list 1 (List.map (fun xs : (List Tstep) => AV.list 2 (List.map Tstep.av xs)) p0.next_))])), (5, v19), (7, w25), (10, (.int .i64 x10_l0))] ∧ E.Sep H [.row 1 v19 (List.map (AV.int .i64) y23), .row 1 w25 (List.map (AV.int .i64) y24)] ∧ impl_graph_far.k3 x10_l0 y23 y24 = some x16) ?_ ?_
          · rintro e0 G27 ⟨y23, y24, w25, hT, hS, hF⟩; refine AWP.only _ hT ?_; unfold impl_graph_far.k3 at hF
            refine AWP.lastR rfl ?_
            refine ASL.q (v := (.int .i64 x10_l0)) rfl rfl (Light.quiet (opMove rfl rfl)) ?_
            refine ASL.q (v := (.int .i64 (W (x10_l0 + 1)))) rfl rfl (Light.quiet (opInt rfl rfl rfl rfl)) ?_
            refine ASL.q (v := (.int .i64 (W (x10_l0 + 1)))) rfl rfl (Light.quiet (opAssign rfl rfl)) ?_
            refine ASL.done ?_
            refine QThen.nrm ?_
            exact ⟨(y23, y24, (W (x10_l0 + 1))), w25, (someE hF).symm, ⟨rfl, rfl, rfl, rfl, trivial⟩, (hS.pick [0, 1] rfl rfl)⟩
          · skip
            refine AWP.block ?_
            refine AWP.seqR rfl ?_
            refine ASL.q (v := w14) rfl rfl (Light.quiet (opMove rfl rfl)) ?_
            refine ASL.q (v := (.int .i64 x10_l0)) rfl rfl (Light.quiet (opMove rfl rfl)) ?_
            obtain ⟨a56, ha56, hF⟩ := bindE hF
            refine ASL.q (v := (ptrTo w14 x10_l0.toNat 1)) rfl rfl (Light.quiet (kIxOx hS (j := 1) rfl ha56 rfl rfl rfl elemA_34 sizeA_3)) ?_
            refine ASL.q (v := (.int .i64 a56)) rfl rfl (Light.quiet (kLd (f := (AV.int .i64)) hS (j := 1) rfl ha56 rfl aggA_3 rfl (fun _ => rfl))) ?_
            refine ASL.q (v := (.int .i64 a56)) rfl rfl (Light.quiet (opAssign rfl rfl)) ?_
            refine ASL.done ?_
            refine AWP.seqR rfl ?_
            refine ASL.q (v := (.rptr [(.list 1 (List.map (fun xs : (List Tstep) => AV.list 2 (List.map Tstep.av xs)) p0.next_))])) rfl rfl (Light.quiet (opMove rfl rfl)) ?_
            refine ASL.q (v := (.rptr [(.list 1 (List.map (fun xs : (List Tstep) => AV.list 2 (List.map Tstep.av xs)) p0.next_))])) rfl rfl (Light.quiet (opNil rfl rfl rfl)) ?_
            refine ASL.q (v := (.rptr [(.list 1 (List.map (fun xs : (List Tstep) => AV.list 2 (List.map Tstep.av xs)) p0.next_))])) rfl rfl (Light.quiet (opFieldAddrR rfl fieldA_116_0 rfl rfl)) ?_
            refine ASL.q (v := (.list 1 (List.map (fun xs : (List Tstep) => AV.list 2 (List.map Tstep.av xs)) p0.next_))) rfl rfl (Light.quiet (opLoadR rfl aggA_114 rfl rfl)) ?_
            refine ASL.q (v := (.int .i64 a56)) rfl rfl (Light.quiet (opMove rfl rfl)) ?_
            obtain ⟨a63, ha63, hF⟩ := bindE hF
            refine ASL.q (v := (.rptr [(.list 2 (List.map Tstep.av a63))])) rfl rfl (Light.quiet (kIx (f := (fun xs : (List Tstep) => AV.list 2 (List.map Tstep.av xs))) ha63 rfl rfl rfl elemA_114 sizeA_118 rfl)) ?_
            refine ASL.q (v := (.list 2 (List.map Tstep.av a63))) rfl rfl (Light.quiet (opLoadR rfl aggA_118 rfl rfl)) ?_
            refine ASL.q (v := (.int .i64 (a63.length : Int))) rfl rfl (Light.quiet (opLenMap (f := Tstep.av) rfl rfl rfl lenT_118 rfl)) ?_
            refine ASL.q (v := (.int .i64 0)) rfl rfl (Light.quiet (opMove rfl rfl)) ?_
            refine ASL.done ?_
            refine AWP.block ?_
            obtain ⟨o35, hL34, hR36⟩ := bindE hF
            refine AWP.loopF (ω := AV) hL34 (fun s w => [(0, (.rptr [(.list 1 (List.map (fun xs : (List Tstep) => AV.list 2 (List.map Tstep.av xs)) p0.next_))])), (5, v19), (7, w), (10, (.int .i64 x10_l0)), (11, (.int .i64 a56)), (64, (.list 2 (List.map Tstep.av a63))), (65, (.int .i64 (a63.length : Int))), (66, (.int .i64 s.2.2))]) (fun s w => [.row 1 v19 (List.map (AV.int .i64) s.1), .row 1 w (List.map (AV.int .i64) s.2.1)]) w14 ⟨rfl, rfl, rfl, rfl, rfl, rfl, rfl, rfl, trivial⟩ (hS.pick [0, 1] rfl rfl) ?_
            rintro ⟨y28, y29, x66_l1⟩ w30 G37 hS x32 hF hx33
            try dsimp only at hS ⊢
            have hF : impl_graph_far.b1 a63 a56 y28 y29 x66_l1 = some x32 := hF; unfold impl_graph_far.b1 at hF
            refine AWP.seqR rfl ?_
            refine ASL.q (v := (.bool (decide (x66_l1 < ((a63.length : Int)))))) rfl rfl (Light.quiet (opInt rfl rfl rfl rfl)) ?_
            refine ASL.done ?_
            refine AWP.seq ?_
            refine AWP.ifP hF rfl (fun hc38 hF => ?_) (fun hc38 hF => ?_)
            · skip
              refine AWP.skip ?_
              refine QThen.nrm ?_
              refine AWP.seq ?_
              refine AWP.block ?_
              refine AWP.seqR rfl ?_
              obtain ⟨a68, ha68, hF⟩ := bindE hF
              refine ASL.q (v := (.rptr [(.int .i64 a68.to_), (.int .i64 a68.marks)])) rfl rfl (Light.quiet (kIx (f := Tstep.av) ha68 rfl rfl rfl elemA_118 sizeA_120 rfl)) ?_
              refine ASL.q (v := (Tstep.av a68)) rfl rfl (Light.quiet (opLoadRA rfl aggA_120 sizeA_120 rfl (nlt rfl) rfl)) ?_
              refine ASL.x rfl rfl (hNewZ hS [(.int .i64 0), (.int .i64 0)] rfl zeroA_120 ⟨.inl rfl, .inl rfl, trivial⟩ ?_); rintro b13 G39 hK hS
              refine ASL.n rfl rfl (hPutA hS (j := 0) rfl rfl sizeA_120 rfl rfl rfl rfl rfl (nlt rfl) ?_); rintro G41 hS
              refine ASL.done ?_
              refine AWP.seqR rfl ?_
              refine ASL.q (v := v19) rfl rfl (Light.quiet (opMove rfl rfl)) ?_
              refine ASL.q (v := (.ptr b13 0)) rfl rfl (Light.quiet (opFieldAddr rfl fieldA_120_0 rfl rfl)) ?_
              refine ASL.q (v := (.int .i64 a68.to_)) rfl rfl (Light.quiet (kAt hS (j := 0) rfl rfl aggA_3 rfl rfl)) ?_
              obtain ⟨a73, ha73, hF⟩ := bindE hF
              refine ASL.q (v := (ptrTo v19 a68.to_.toNat 1)) rfl rfl (Light.quiet (kIxOx hS (j := 1) rfl ha73 rfl rfl rfl elemA_34 sizeA_3)) ?_
              refine ASL.q (v := (.int .i64 a73)) rfl rfl (Light.quiet (kLd (f := (AV.int .i64)) hS (j := 1) rfl ha73 rfl aggA_3 rfl (fun _ => rfl))) ?_
              refine ASL.q (v := (.bool (decide (a73 < 0)))) rfl rfl (Light.quiet (opInt rfl rfl rfl rfl)) ?_
              refine ASL.done ?_
              refine AWP.ifP hF rfl (fun hc42 hF => ?_) (fun hc42 hF => ?_)
              · skip
                refine AWP.seqD [(0, false), (1, false), (2, false), (3, false), (4, false), (5, false), (6, false), (7, false), (8, false), (9, true)] mixed (by kernel_rfl) rfl ?_
                refine ARL.q0 (v := v19) rfl rfl (Light.quiet (opMove rfl rfl)) ?_
                refine ARL.q0 (v := (.ptr b13 0)) rfl rfl (Light.quiet (opFieldAddr rfl fieldA_120_0 rfl rfl)) ?_
                refine ARL.q (v := (.int .i64 a68.to_)) rfl rfl (hS.aliveC (k := 0) rfl) (Light.quiet (kAt hS (j := 0) rfl rfl aggA_3 rfl rfl)) ?_
                refine ARL.q0 (v := v19) rfl rfl (Light.quiet (opMove rfl rfl)) ?_
                refine ARL.q0 (v := (.int .i64 a56)) rfl rfl (Light.quiet (opMove rfl rfl)) ?_
                obtain ⟨a81, ha81, hF⟩ := bindE hF
                refine ARL.q0 (v := (ptrTo v19 a56.toNat 1)) rfl rfl (Light.quiet (kIxOx hS (j := 1) rfl ha81 rfl rfl rfl elemA_34 sizeA_3)) ?_
                refine ARL.q (v := (.int .i64 a81)) rfl rfl (hS.aliveR (k := 1) rfl) (Light.quiet (kLd (f := (AV.int .i64)) hS (j := 1) rfl ha81 rfl aggA_3 rfl (fun _ => rfl))) ?_
                refine ARL.q0 (v := (.int .i64 (W (a81 + 1)))) rfl rfl (Light.quiet (opInt rfl rfl rfl rfl)) ?_
                obtain ⟨m84, hm84, hF⟩ := bindE hF
                refine ARL.q0 (v := (ptrTo v19 m84 1)) rfl rfl (Light.quiet (kIxO hS (j := 1) rfl hm84 rfl rfl rfl elemA_34 sizeA_3)) ?_
                refine ARL.n rfl rfl rfl rfl (hSt (f := (AV.int .i64)) (a := (W (a81 + 1))) hS (j := 1) rfl hm84 rfl sizeA_3 rfl rfl ⟨rfl, rfl, rfl⟩ ?_); rintro G43 hS
                refine ARL.done ?_
                refine AWP.lastR rfl ?_
                refine ASL.q (v := w30) rfl rfl (Light.quiet (opMove rfl rfl)) ?_
                refine ASL.q (v := (.ptr b13 0)) rfl rfl (Light.quiet (opFieldAddr rfl fieldA_120_0 rfl rfl)) ?_
                refine ASL.q (v := (.int .i64 a68.to_)) rfl rfl (Light.quiet (kAt hS (j := 0) rfl rfl aggA_3 rfl rfl)) ?_
                refine ASL.q (v := (.list 1 (List.map (AV.int .i64) [a68.to_]))) rfl rfl ((qLit (xs := [(.int .i64 a68.to_)]) rfl elemA_34 sizeA_3 zeroA_3 rfl rfl rfl rfl (by simp [cells]) (nlt rfl))) ?_
                obtain ⟨z89, hz89, hF⟩ := bindE hF
                refine ASL.x rfl rfl (hApp (f := (AV.int .i64)) (ws := [a68.to_]) hS (j := 2) rfl hz89 rfl elemA_34 rfl sizeA_3 bytesA_3 zeroA_3 rfl rfl rfl (fun _ => rfl) ?_); rintro v89 G44 hS
                refine ASL.q (v := v89) rfl rfl (Light.quiet (opAssign rfl rfl)) ?_
                refine ASL.done ?_
                refine QBlock.nrm ?_
                refine QThen.nrm ?_
                refine AWP.lastR rfl ?_
                refine ASL.q (v := (.int .i64 (W (x66_l1 + 1)))) rfl rfl (Light.quiet (opInt rfl rfl rfl rfl)) ?_
                refine ASL.q (v := (.int .i64 (W (x66_l1 + 1)))) rfl rfl (Light.quiet (opMove rfl rfl)) ?_
                refine ASL.done ?_
                refine QThen.nrm ?_
                exact ⟨((y28.set m84 ((W (a81 + 1)))), z89, (W (x66_l1 + 1))), v89, (someE hF).symm, ⟨rfl, rfl, rfl, rfl, rfl, rfl, rfl, rfl, trivial⟩, (hS.pick [1, 2] rfl rfl)⟩
              · skip
                refine AWP.skip ?_
                refine QBlock.nrm ?_
                refine QThen.nrm ?_
                refine AWP.lastR rfl ?_
                refine ASL.q (v := (.int .i64 (W (x66_l1 + 1)))) rfl rfl (Light.quiet (opInt rfl rfl rfl rfl)) ?_
                refine ASL.q (v := (.int .i64 (W (x66_l1 + 1)))) rfl rfl (Light.quiet (opMove rfl rfl)) ?_
                refine ASL.done ?_
                refine QThen.nrm ?_
                exact ⟨(y28, y29, (W (x66_l1 + 1))), w30, (someE hF).symm, ⟨rfl, rfl, rfl, rfl, rfl, rfl, rfl, rfl, trivial⟩, (hS.pick [1, 2] rfl rfl)⟩
            · skip
              refine AWP.exit ?_
              refine QThen.ext ?_
              refine QThen.ext ?_
              refine QBlock.hit ?_
              obtain rfl := (hx33 _ (someE hF).symm)
              have hF := hR36
              refine QBlock.nrm ?_
              refine QThen.nrm ?_
              exact ⟨y28, y29, w30, ⟨rfl, rfl, rfl, rfl, trivial⟩, (hS.pick [0, 1] rfl rfl), hF⟩
        · skip
          refine AWP.exit ?_
          refine QThen.ext ?_
          refine QThen.ext ?_
          refine QBlock.hit ?_
          obtain rfl := (hx17 _ (someE hF).symm)
          have hF := hR20
          refine QThen.nrm ?_
          exact ⟨y12, ⟨rfl, trivial⟩, (hS.pick [0] rfl rfl), hF⟩
    · skip
      refine AWP.seqR rfl ?_
      refine ASL.q (v := (.list 1 (List.map (AV.int .i64) p1))) rfl rfl (Light.quiet (opMove rfl rfl)) ?_
      refine ASL.q (v := (.int .i64 (p1.length : Int))) rfl rfl (Light.quiet (opLenMap (f := (AV.int .i64)) rfl rfl rfl lenT_34 rfl)) ?_
      refine ASL.q (v := (.int .i64 0)) rfl rfl (Light.quiet (opMove rfl rfl)) ?_
      refine ASL.done ?_
      refine AWP.block ?_
      obtain ⟨o54, hL53, hR55⟩ := bindE hF
      refine AWP.loopF (ω := AV) hL53 (fun s w => [(0, (.rptr [(.list 1 (List.map (fun xs : (List Tstep) => AV.list 2 (List.map Tstep.av xs)) p0.next_))])), (5, v19), (7, w), (29, (.list 1 (List.map (AV.int .i64) p1))), (30, (.int .i64 (p1.length : Int))), (31, (.int .i64 s.2.2))]) (fun s w => [.row 1 v19 (List.map (AV.int .i64) s.1), .row 1 w (List.map (AV.int .i64) s.2.1)]) .nil ⟨rfl, rfl, rfl, rfl, rfl, rfl, trivial⟩ (hS.pick [1, 0] rfl rfl) ?_
      rintro ⟨y47, y48, x31_l2⟩ w49 G56 hS x51 hF hx52
      try dsimp only at hS ⊢
      have hF : impl_graph_far.b2 p1 y47 y48 x31_l2 = some x51 := hF; unfold impl_graph_far.b2 at hF
      refine AWP.seqR rfl ?_
      refine ASL.q (v := (.bool (decide (x31_l2 < ((p1.length : Int)))))) rfl rfl (Light.quiet (opInt rfl rfl rfl rfl)) ?_
      refine ASL.done ?_
      refine AWP.seq ?_
      refine AWP.ifP hF rfl (fun hc57 hF => ?_) (fun hc57 hF => ?_)
      · skip
        refine AWP.skip ?_
        refine QThen.nrm ?_
        refine AWP.seq ?_
        refine AWP.block ?_
        refine AWP.seqR rfl ?_
        obtain ⟨a33, ha33, hF⟩ := bindE hF
        refine ASL.q (v := (.rptr [(.int .i64 a33)])) rfl rfl (Light.quiet (kIx (f := (AV.int .i64)) ha33 rfl rfl rfl elemA_34 sizeA_3 rfl)) ?_
        refine ASL.q (v := (.int .i64 a33)) rfl rfl (Light.quiet (opLoadR rfl aggA_3 rfl rfl)) ?_
        refine ASL.q (v := (.int .i64 a33)) rfl rfl (Light.quiet (opAssign rfl rfl)) ?_
        refine ASL.done ?_
        refine AWP.seqR rfl ?_
        refine ASL.q (v := v19) rfl rfl (Light.quiet (opMove rfl rfl)) ?_
        refine ASL.q (v := (.int .i64 a33)) rfl rfl (Light.quiet (opMove rfl rfl)) ?_
        obtain ⟨a37, ha37, hF⟩ := bindE hF
        refine ASL.q (v := (ptrTo v19 a33.toNat 1)) rfl rfl (Light.quiet (kIxOx hS (j := 0) rfl ha37 rfl rfl rfl elemA_34 sizeA_3)) ?_
        refine ASL.q (v := (.int .i64 a37)) rfl rfl (Light.quiet (kLd (f := (AV.int .i64)) hS (j := 0) rfl ha37 rfl aggA_3 rfl (fun _ => rfl))) ?_
        refine ASL.q (v := (.bool (decide (a37 < 0)))) rfl rfl (Light.quiet (opInt rfl rfl rfl rfl)) ?_
        refine ASL.done ?_
        refine AWP.ifP hF rfl (fun hc58 hF => ?_) (fun hc58 hF => ?_)
        · skip
          refine AWP.seqR rfl ?_
          refine ASL.q (v := v19) rfl rfl (Light.quiet (opMove rfl rfl)) ?_
          refine ASL.q (v := (.int .i64 a33)) rfl rfl (Light.quiet (opMove rfl rfl)) ?_
          obtain ⟨m42, hm42, hF⟩ := bindE hF
          refine ASL.q (v := (ptrTo v19 m42 1)) rfl rfl (Light.quiet (kIxO hS (j := 0) rfl hm42 rfl rfl rfl elemA_34 sizeA_3)) ?_
          refine ASL.n rfl rfl (hSt (f := (AV.int .i64)) (a := 0) hS (j := 0) rfl hm42 rfl sizeA_3 rfl rfl ⟨rfl, rfl, rfl⟩ ?_); rintro G59 hS
          refine ASL.done ?_
          refine AWP.lastR rfl ?_
          refine ASL.q (v := w49) rfl rfl (Light.quiet (opMove rfl rfl)) ?_
          refine ASL.q (v := (.int .i64 a33)) rfl rfl (Light.quiet (opMove rfl rfl)) ?_
          refine ASL.q (v := (.list 1 (List.map (AV.int .i64) [a33]))) rfl rfl ((qLit (xs := [(.int .i64 a33)]) rfl elemA_34 sizeA_3 zeroA_3 rfl rfl rfl rfl (by simp [cells]) (nlt rfl))) ?_
          obtain ⟨z46, hz46, hF⟩ := bindE hF
          refine ASL.x rfl rfl (hApp (f := (AV.int .i64)) (ws := [a33]) hS (j := 1) rfl hz46 rfl elemA_34 rfl sizeA_3 bytesA_3 zeroA_3 rfl rfl rfl (fun _ => rfl) ?_); rintro v46 G60 hS
          refine ASL.q (v := v46) rfl rfl (Light.quiet (opAssign rfl rfl)) ?_
          refine ASL.done ?_
          refine QBlock.nrm ?_
          refine QThen.nrm ?_
          refine AWP.lastR rfl ?_
          refine ASL.q (v := (.int .i64 (W (x31_l2 + 1)))) rfl rfl (Light.quiet (opInt rfl rfl rfl rfl)) ?_
          refine ASL.q (v := (.int .i64 (W (x31_l2 + 1)))) rfl rfl (Light.quiet (opMove rfl rfl)) ?_
          refine ASL.done ?_
          refine QThen.nrm ?_
          exact ⟨((y47.set m42 0), z46, (W (x31_l2 + 1))), v46, (someE hF).symm, ⟨rfl, rfl, rfl, rfl, rfl, rfl, trivial⟩, (hS.pick [0, 1] rfl rfl)⟩
        · skip
          refine AWP.skip ?_
          refine QBlock.nrm ?_
          refine QThen.nrm ?_
          refine AWP.lastR rfl ?_
          refine ASL.q (v := (.int .i64 (W (x31_l2 + 1)))) rfl rfl (Light.quiet (opInt rfl rfl rfl rfl)) ?_
          refine ASL.q (v := (.int .i64 (W (x31_l2 + 1)))) rfl rfl (Light.quiet (opMove rfl rfl)) ?_
          refine ASL.done ?_
          refine QThen.nrm ?_
          exact ⟨(y47, y48, (W (x31_l2 + 1))), w49, (someE hF).symm, ⟨rfl, rfl, rfl, rfl, rfl, rfl, trivial⟩, (hS.pick [0, 1] rfl rfl)⟩
      · skip
        refine AWP.exit ?_
        refine QThen.ext ?_
        refine QThen.ext ?_
        refine QBlock.hit ?_
        obtain rfl := (hx52 _ (someE hF).symm)
        have hF := hR55
        refine QThen.nrm ?_
        exact ⟨y47, y48, w49, ⟨rfl, rfl, rfl, trivial⟩, (hS.pick [0, 1] rfl rfl), hF⟩
  · skip
    refine AWP.seqR rfl ?_
    refine ASL.q (v := v19) rfl rfl (Light.quiet (opMove rfl rfl)) ?_
    refine ASL.q (v := (.int .i64 (z19.length : Int))) rfl rfl (Light.quiet (kLen hS (j := 0) rfl rfl rfl rfl lenT_34 rfl)) ?_
    refine ASL.q (v := (.int .i64 0)) rfl rfl (Light.quiet (opMove rfl rfl)) ?_
    refine ASL.done ?_
    refine AWP.block ?_
    obtain ⟨o67, hL66, hR68⟩ := bindE hF
    refine AWP.loopF (ω := Unit) hL66 (fun s w => [(0, (.rptr [(.list 1 (List.map (fun xs : (List Tstep) => AV.list 2 (List.map Tstep.av xs)) p0.next_))])), (1, (.list 1 (List.map (AV.int .i64) p1))), (5, v19), (21, (.int .i64 (z19.length : Int))), (22, (.int .i64 s.2))]) (fun s w => [.row 1 v19 (List.map (AV.int .i64) s.1)]) () ⟨rfl, rfl, rfl, rfl, rfl, trivial⟩ (hS.pick [0] rfl rfl) ?_
    rintro ⟨y63, x22_l3⟩ _ G69 hS x64 hF hx65
    try dsimp only at hS ⊢
    have hF : impl_graph_far.b3 z19 y63 x22_l3 = some x64 := hF; unfold impl_graph_far.b3 at hF
    refine AWP.seqR rfl ?_
    refine ASL.q (v := (.bool (decide (x22_l3 < ((z19.length : Int)))))) rfl rfl (Light.quiet (opInt rfl rfl rfl rfl)) ?_
    refine ASL.done ?_
    refine AWP.seq ?_
    refine AWP.ifP hF rfl (fun hc70 hF => ?_) (fun hc70 hF => ?_)
    · skip
      refine AWP.skip ?_
      refine QThen.nrm ?_
      refine AWP.seq ?_
      refine AWP.block ?_
      refine AWP.seqR rfl ?_
      refine ASL.q (v := (.int .i64 x22_l3)) rfl rfl (Light.quiet (opMove rfl rfl)) ?_
      refine ASL.q (v := (.int .i64 x22_l3)) rfl rfl (Light.quiet (opAssign rfl rfl)) ?_
      refine ASL.done ?_
      refine AWP.lastR rfl ?_
      refine ASL.q (v := v19) rfl rfl (Light.quiet (opMove rfl rfl)) ?_
      refine ASL.q (v := (.int .i64 x22_l3)) rfl rfl (Light.quiet (opMove rfl rfl)) ?_
      obtain ⟨m27, hm27, hF⟩ := bindE hF
      refine ASL.q (v := (ptrTo v19 m27 1)) rfl rfl (Light.quiet (kIxO hS (j := 0) rfl hm27 rfl rfl rfl elemA_34 sizeA_3)) ?_
      refine ASL.n rfl rfl (hSt (f := (AV.int .i64)) (a := (-1)) hS (j := 0) rfl hm27 rfl sizeA_3 rfl rfl ⟨rfl, rfl, rfl⟩ ?_); rintro G71 hS
      refine ASL.done ?_
      refine QBlock.nrm ?_
      refine QThen.nrm ?_
      refine AWP.lastR rfl ?_
      refine ASL.q (v := (.int .i64 (W (x22_l3 + 1)))) rfl rfl (Light.quiet (opInt rfl rfl rfl rfl)) ?_
      refine ASL.q (v := (.int .i64 (W (x22_l3 + 1)))) rfl rfl (Light.quiet (opMove rfl rfl)) ?_
      refine ASL.done ?_
      refine QThen.nrm ?_
      exact ⟨((y63.set m27 ((-1))), (W (x22_l3 + 1))), (), (someE hF).symm, ⟨rfl, rfl, rfl, rfl, rfl, trivial⟩, (hS.pick [0] rfl rfl)⟩
    · skip
      refine AWP.exit ?_
      refine QThen.ext ?_
      refine QThen.ext ?_
      refine QBlock.hit ?_
      obtain rfl := (hx65 _ (someE hF).symm)
      have hF := hR68
      refine QThen.nrm ?_
      exact ⟨y63, ⟨rfl, rfl, rfl, trivial⟩, (hS.pick [0] rfl rfl), hF⟩

end Go.Proofs.Ythdclobnmicdaaa
