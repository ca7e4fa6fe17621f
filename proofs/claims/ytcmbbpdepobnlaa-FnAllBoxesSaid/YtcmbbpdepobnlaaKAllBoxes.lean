/- Each of these functions of the program comes to just what its plain function says: FnAllBoxes. -/
import Derived.Test.YtcmbbpdepobnlaaKAllBoxesp0
namespace Go.Proofs.Ytcmbbpdepobnlaa
open Go Go.RowKit E
set_option linter.unusedVariables false
set_option maxRecDepth 10000 in
theorem impl_twins_ok {p0 : TAuto} {p1 : TAuto} {r : ((List Ttwin) × Bool)} (hF : impl_twins p0 p1 = some r) : PC Try.prog 67 [(TAuto.av p0), (TAuto.av p1)] fun v => v = .tup [(.list 3 (List.map Ttwin.av r.1)), (.bool r.2)] := by
  refine PC.enter Try.func67 rfl Try.ntmps67 (by simp) ?_
  have hS := Sep.void; unfold impl_twins at hF
  refine AWP.seqR rfl ?_
  refine ASL.q (v := (.rptr [(.int .i64 p0.letters), (.int .i64 p0.states), (.int .i64 p0.start), (.list 4 (List.map TEdge.av p0.edges))])) rfl rfl ((qBoxI (v := (TAuto.av p0)) rfl rfl rfl rfl)) ?_
  refine ASL.q (v := (.rptr [(.int .i64 p1.letters), (.int .i64 p1.states), (.int .i64 p1.start), (.list 4 (List.map TEdge.av p1.edges))])) rfl rfl ((qBoxI (v := (TAuto.av p1)) rfl rfl rfl rfl)) ?_
  refine ASL.q (v := (.list 3 (List.map Ttwin.av []))) rfl rfl (Light.quiet (opNilL rfl rfl)) ?_
  refine ASL.q (v := (.bool false)) rfl rfl (Light.quiet (opAssign rfl rfl)) ?_
  refine ASL.done ?_
  obtain ⟨a14, ha14, hF⟩ := bindE hF
  obtain ⟨a17, ha17, hF⟩ := bindE hF
  refine AWP.seqT (fun e H => ∃ b6 : Nat, ∃ v19 : AV, E.Told e [(2, (.rptr [(.int .i64 p0.letters), (.int .i64 p0.states), (.int .i64 p0.start), (.list 4 (List.map TEdge.av p0.edges))])), (3, (.rptr [(.int .i64 p1.letters), (.int .i64 p1.states), (.int .i64 p1.start), (.list 4 (List.map TEdge.av p1.edges))])), (6, (.ptr b6 0))] ∧ E.Sep H [.cell b6 [v19], .row 3 .nil (List.map Ttwin.av ([])), .row 3 v19 (List.map Ttwin.av ([(Ttwin.mk ([]) a14 a17)]))]) (.q 0 (.q 1 (.q 2 (.q 3 (.q 4 (.q 5 (.q 6 (.fork (.h 7 (.h 8 (.h 9 .fin))) (.h 8 (.h 7 (.h 9 .fin))))))))))) mixed (by kernel_rfl) ?_ ?_
  · rintro e0 G2401 ⟨b6, v19, hT, hS⟩; refine AWP.only _ hT ?_
    refine AWP.seqR rfl ?_
    refine ASL.q (v := (.fn (.func 97) [] [(.ptr b6 0)])) rfl rfl (Light.quiet (opFunc rfl rfl)) ?_
    refine ASL.q (v := (.fn (.func 97) [] [(.ptr b6 0)])) rfl rfl (Light.quiet (opAssign rfl rfl)) ?_
    refine ASL.done ?_
    refine AWP.seqM (fun e H => ∃ y2402 : (List Ttwin), ∃ w2403 : AV, E.Told e [(6, (.ptr b6 0))] ∧ E.Sep H [.row 3 w2403 (List.map Ttwin.av y2402), .cell b6 [w2403]] ∧ impl_twins.k0 y2402 = some r) ?_ ?_
    · rintro e0 G2406 ⟨y2402, w2403, hT, hS, hF⟩; refine AWP.only _ hT ?_; unfold impl_twins.k0 at hF
      refine AWP.frz (L' := [.cell b6 [(.list 3 (List.map Ttwin.av y2402))]]) hS (k := 0) rfl [(6, (.ptr b6 0))] ⟨.inl rfl, trivial⟩ ⟨⟨_, rfl, ⟨.inr ⟨rfl, rfl⟩, trivial⟩⟩, trivial⟩ (fun G2405 hS => ?_)
      refine AWP.seqR rfl ?_
      refine ASL.q (v := (.list 3 (List.map Ttwin.av y2402))) rfl rfl (Light.quiet (kAt hS (j := 0) rfl rfl aggA_89 rfl rfl)) ?_
      refine ASL.q (v := (.list 3 (List.map Ttwin.av y2402))) rfl rfl (Light.quiet (opAssign rfl rfl)) ?_
      refine ASL.q (v := (.bool true)) rfl rfl (Light.quiet (opAssign rfl rfl)) ?_
      refine ASL.done ?_
      refine AWP.ret ?_
      obtain rfl := someE hF
      exact QRet.many (vs := [(.list 3 (List.map Ttwin.av y2402)), (.bool true)]) ⟨rfl, rfl, trivial⟩ (by simp) rfl
    · skip
      refine AWP.seqR rfl ?_
      refine ASL.q (v := (.int .i64 0)) rfl rfl (Light.quiet (opAssign rfl rfl)) ?_
      refine ASL.done ?_
      refine AWP.block ?_
      obtain ⟨o2413, hL2412, hR2414⟩ := bindE hF
      refine AWP.loopF (ω := AV) hL2412 (fun s w => [(2, (.rptr [(.int .i64 p0.letters), (.int .i64 p0.states), (.int .i64 p0.start), (.list 4 (List.map TEdge.av p0.edges))])), (3, (.rptr [(.int .i64 p1.letters), (.int .i64 p1.states), (.int .i64 p1.start), (.list 4 (List.map TEdge.av p1.edges))])), (6, (.ptr b6 0)), (7, (.fn (.func 97) [] [(.ptr b6 0)])), (8, (.int .i64 s.2))]) (fun s w => [.row 3 w (List.map Ttwin.av s.1), .cell b6 [w]]) v19 ⟨rfl, rfl, rfl, rfl, rfl, trivial⟩ (hS.pick [2, 0] rfl rfl) ?_
      rintro ⟨y2407, x8_l0⟩ w2408 G2415 hS x2410 hF hx2411
      try dsimp only at hS ⊢
      have hF : impl_twins.b0 p0 p1 y2407 x8_l0 = some x2410 := hF; unfold impl_twins.b0 at hF
      refine AWP.seq ?_
      refine AWP.seqR rfl ?_
      refine ASL.q (v := (.int .i64 x8_l0)) rfl rfl (Light.quiet (opMove rfl rfl)) ?_
      refine ASL.q (v := w2408) rfl rfl (Light.quiet (kAt hS (j := 1) rfl rfl aggA_89 rfl rfl)) ?_
      refine ASL.q (v := (.int .i64 (y2407.length : Int))) rfl rfl (Light.quiet (kLen hS (j := 0) rfl rfl rfl rfl lenT_89 rfl)) ?_
      refine ASL.q (v := (.bool (decide (x8_l0 < ((y2407.length : Int)))))) rfl rfl (Light.quiet (opInt rfl rfl rfl rfl)) ?_
      refine ASL.done ?_
      refine AWP.ifP hF rfl (fun hc2416 hF => ?_) (fun hc2416 hF => ?_)
      · skip
        refine AWP.skip ?_
        refine QThen.nrm ?_
        refine AWP.seqM (fun e H => ∃ y2417 : (List Ttwin), ∃ w2418 : AV, E.Told e [(2, (.rptr [(.int .i64 p0.letters), (.int .i64 p0.states), (.int .i64 p0.start), (.list 4 (List.map TEdge.av p0.edges))])), (3, (.rptr [(.int .i64 p1.letters), (.int .i64 p1.states), (.int .i64 p1.start), (.list 4 (List.map TEdge.av p1.edges))])), (6, (.ptr b6 0)), (7, (.fn (.func 97) [] [(.ptr b6 0)])), (8, (.int .i64 x8_l0))] ∧ E.Sep H [.row 3 w2418 (List.map Ttwin.av y2417), .cell b6 [w2418]] ∧ impl_twins.k1 x8_l0 y2417 = some x2410) ?_ ?_
        · rintro e0 G2420 ⟨y2417, w2418, hT, hS, hF⟩; refine AWP.only _ hT ?_; unfold impl_twins.k1 at hF
          refine AWP.lastR rfl ?_
          refine ASL.q (v := (.int .i64 x8_l0)) rfl rfl (Light.quiet (opMove rfl rfl)) ?_
          refine ASL.q (v := (.int .i64 (W (x8_l0 + 1)))) rfl rfl (Light.quiet (opInt rfl rfl rfl rfl)) ?_
          refine ASL.q (v := (.int .i64 (W (x8_l0 + 1)))) rfl rfl (Light.quiet (opAssign rfl rfl)) ?_
          refine ASL.done ?_
          refine QThen.nrm ?_
          exact ⟨(y2417, (W (x8_l0 + 1))), w2418, (someE hF).symm, ⟨rfl, rfl, rfl, rfl, rfl, trivial⟩, (hS.pick [0, 1] rfl rfl)⟩
        · skip
          refine AWP.block ?_
          refine AWP.seqR rfl ?_
          refine ASL.q (v := (.rptr [(.int .i64 p0.letters), (.int .i64 p0.states), (.int .i64 p0.start), (.list 4 (List.map TEdge.av p0.edges))])) rfl rfl (Light.quiet (opFieldAddrR rfl fieldA_26_0 rfl rfl)) ?_
          refine ASL.q (v := (.int .i64 p0.letters)) rfl rfl (Light.quiet (opLoadR rfl aggA_3 rfl rfl)) ?_
          refine ASL.q (v := (.int .i64 0)) rfl rfl (Light.quiet (opMove rfl rfl)) ?_
          refine ASL.done ?_
          refine AWP.block ?_
          obtain ⟨o2427, hL2426, hR2428⟩ := bindE hF
          refine AWP.loopF (ω := AV) hL2426 (fun s w => [(2, (.rptr [(.int .i64 p0.letters), (.int .i64 p0.states), (.int .i64 p0.start), (.list 4 (List.map TEdge.av p0.edges))])), (3, (.rptr [(.int .i64 p1.letters), (.int .i64 p1.states), (.int .i64 p1.start), (.list 4 (List.map TEdge.av p1.edges))])), (6, (.ptr b6 0)), (7, (.fn (.func 97) [] [(.ptr b6 0)])), (8, (.int .i64 x8_l0)), (28, (.int .i64 p0.letters)), (29, (.int .i64 s.2))]) (fun s w => [.row 3 w (List.map Ttwin.av s.1), .cell b6 [w]]) w2408 ⟨rfl, rfl, rfl, rfl, rfl, rfl, rfl, trivial⟩ (hS.pick [0, 1] rfl rfl) ?_
          rintro ⟨y2421, x29_l1⟩ w2422 G2429 hS x2424 hF hx2425
          try dsimp only at hS ⊢
          have hF : impl_twins.b1 p0 x8_l0 p1 y2421 x29_l1 = some x2424 := hF; unfold impl_twins.b1 at hF
          refine AWP.seqR rfl ?_
          refine ASL.q (v := (.bool (decide (x29_l1 < p0.letters)))) rfl rfl (Light.quiet (opInt rfl rfl rfl rfl)) ?_
          refine ASL.done ?_
          refine AWP.seq ?_
          refine AWP.ifP hF rfl (fun hc2430 hF => ?_) (fun hc2430 hF => ?_)
          · skip
            refine AWP.skip ?_
            refine QThen.nrm ?_
            refine AWP.seq ?_
            refine AWP.block ?_
            refine AWP.seqR rfl ?_
            refine ASL.q (v := (.int .i64 x29_l1)) rfl rfl (Light.quiet (opMove rfl rfl)) ?_
            refine ASL.q (v := (.int .i64 x29_l1)) rfl rfl (Light.quiet (opAssign rfl rfl)) ?_
            refine ASL.done ?_
            refine AWP.seqR rfl ?_
            refine ASL.q (v := w2422) rfl rfl (Light.quiet (kAt hS (j := 1) rfl rfl aggA_89 rfl rfl)) ?_
            refine ASL.q (v := (.int .i64 x8_l0)) rfl rfl (Light.quiet (opMove rfl rfl)) ?_
            obtain ⟨a34, ha34, hF⟩ := bindE hF
            refine ASL.q (v := (ptrTo w2422 x8_l0.toNat 3)) rfl rfl (Light.quiet (kIxOx hS (j := 0) rfl ha34 rfl rfl rfl elemA_89 sizeA_93)) ?_
            refine ASL.q (v := (Ttwin.av a34)) rfl rfl (Light.quiet (kLdA hS (j := 0) rfl ha34 rfl aggA_93 sizeA_93 rfl rfl)) ?_
            refine ASL.x rfl rfl (hNewZ hS [(.list 1 (List.map (AV.int .i64) [])), (.list 1 (List.map (AV.int .i64) [])), (.list 1 (List.map (AV.int .i64) []))] rfl zeroA_93 ⟨.inr ⟨_, rfl, rfl⟩, .inr ⟨_, rfl, rfl⟩, .inr ⟨_, rfl, rfl⟩, trivial⟩ ?_); rintro b10 G2431 hK hS
            refine ASL.n rfl rfl (hPutA hS (j := 0) rfl rfl sizeA_93 rfl rfl rfl rfl rfl (nlt rfl) ?_); rintro G2433 hS
            refine ASL.done ?_
            refine AWP.seqD [(0, false), (1, false), (2, false), (3, false), (4, false), (5, false), (6, false), (7, false), (8, false), (9, false), (10, false), (11, false), (12, false), (13, false), (14, false), (15, false), (16, false), (17, true), (18, true)] mixed (by kernel_rfl) rfl ?_
            refine ARL.q0 (v := (.rptr [(.int .i64 p0.states), (.int .i64 p0.start), (.list 4 (List.map TEdge.av p0.edges))])) rfl rfl (Light.quiet (opFieldAddrR rfl fieldA_26_1 rfl rfl)) ?_
            refine ARL.q0 (v := (.int .i64 p0.states)) rfl rfl (Light.quiet (opLoadR rfl aggA_3 rfl rfl)) ?_
            refine ARL.q0 (v := (.ptr b10 1)) rfl rfl (Light.quiet (opFieldAddr rfl fieldA_93_1 rfl rfl)) ?_
            refine ARL.q (v := (.list 1 (List.map (AV.int .i64) a34.a))) rfl rfl (hS.aliveC (k := 0) rfl) (Light.quiet (kAt hS (j := 0) rfl rfl aggA_27 rfl rfl)) ?_
            refine ARL.q0 (v := (TAuto.av p0)) rfl rfl (Light.quiet (opLoadRA rfl aggA_26 sizeA_26 rfl (nlt rfl) rfl)) ?_
            refine ARL.q0 (v := (.int .i64 x29_l1)) rfl rfl (Light.quiet (opMove rfl rfl)) ?_
            obtain ⟨a42, ha42, hF⟩ := bindE hF
            refine ARL.q0 (v := (.list 1 (List.map (AV.int .i64) a42))) rfl rfl ((qCall rfl rfl call_52 (PO.list (impl_boxLetter_ok ha42)) rfl)) ?_
            obtain ⟨a43, ha43, hF⟩ := bindE hF
            refine ARL.q0 (v := (.list 1 (List.map (AV.int .i64) a43))) rfl rfl ((qCall rfl rfl call_51 (PO.list (impl_boxMul_ok ha43)) rfl)) ?_
            refine ARL.q0 (v := (.rptr [(.int .i64 p1.states), (.int .i64 p1.start), (.list 4 (List.map TEdge.av p1.edges))])) rfl rfl (Light.quiet (opFieldAddrR rfl fieldA_26_1 rfl rfl)) ?_
            refine ARL.q0 (v := (.int .i64 p1.states)) rfl rfl (Light.quiet (opLoadR rfl aggA_3 rfl rfl)) ?_
            refine ARL.q0 (v := (.ptr b10 2)) rfl rfl (Light.quiet (opFieldAddr rfl fieldA_93_2 rfl rfl)) ?_
            refine ARL.q (v := (.list 1 (List.map (AV.int .i64) a34.b))) rfl rfl (hS.aliveC (k := 0) rfl) (Light.quiet (kAt hS (j := 0) rfl rfl aggA_27 rfl rfl)) ?_
            refine ARL.q0 (v := (TAuto.av p1)) rfl rfl (Light.quiet (opLoadRA rfl aggA_26 sizeA_26 rfl (nlt rfl) rfl)) ?_
            refine ARL.q0 (v := (.int .i64 x29_l1)) rfl rfl (Light.quiet (opMove rfl rfl)) ?_
            obtain ⟨a50, ha50, hF⟩ := bindE hF
            refine ARL.q0 (v := (.list 1 (List.map (AV.int .i64) a50))) rfl rfl ((qCall rfl rfl call_52 (PO.list (impl_boxLetter_ok ha50)) rfl)) ?_
            obtain ⟨a51, ha51, hF⟩ := bindE hF
            refine ARL.q0 (v := (.list 1 (List.map (AV.int .i64) a51))) rfl rfl ((qCall rfl rfl call_51 (PO.list (impl_boxMul_ok ha51)) rfl)) ?_
            refine ARL.q0 (v := (.agg [(.list 1 (List.map (AV.int .i64) [])), (.list 1 (List.map (AV.int .i64) a43)), (.list 1 (List.map (AV.int .i64) a51))])) rfl rfl (Light.quiet (opBuildZ (zs := [(.list 1 (List.map (AV.int .i64) [])), (.list 1 (List.map (AV.int .i64) [])), (.list 1 (List.map (AV.int .i64) []))]) rfl plan_93 zeroA_93 ⟨.inr ⟨_, rfl, rfl⟩, .inr ⟨_, rfl, rfl⟩, .inr ⟨_, rfl, rfl⟩, trivial⟩ rfl)) ?_
            refine ARL.x rfl rfl rfl (hNewZ hS [(.list 1 (List.map (AV.int .i64) [])), (.list 1 (List.map (AV.int .i64) [])), (.list 1 (List.map (AV.int .i64) []))] rfl zeroA_93 ⟨.inr ⟨_, rfl, rfl⟩, .inr ⟨_, rfl, rfl⟩, .inr ⟨_, rfl, rfl⟩, trivial⟩ ?_); rintro b11 G2434 hK hS; refine ⟨hK, ?_⟩
            refine ARL.n rfl rfl rfl rfl (hPutA hS (j := 0) rfl rfl sizeA_93 rfl rfl rfl rfl rfl (nlt rfl) ?_); rintro G2436 hS
            refine ARL.done ?_
            refine AWP.seq ?_
            refine AWP.seqR rfl ?_
            refine ASL.q (v := (.fn (.func 97) [] [(.ptr b6 0)])) rfl rfl (Light.quiet (opMove rfl rfl)) ?_
            refine ASL.q (v := (.agg [(.list 1 (List.map (AV.int .i64) [])), (.list 1 (List.map (AV.int .i64) a43)), (.list 1 (List.map (AV.int .i64) a51))])) rfl rfl (Light.quiet (kAtA hS (j := 0) rfl rfl aggA_93 sizeA_93 rfl (nlt rfl) rfl)) ?_
            obtain ⟨a55, ha55, hF⟩ := bindE hF
            refine ASL.q (v := (.bool a55)) rfl rfl ((qCallR hS rfl rfl call_97 (impl_twins_1_ok ha55) ⟨.same _, RAS.cellL (k := 3) rfl ⟨.row (k := 2) rfl, trivial⟩, trivial⟩ (by constructor))) ?_
            refine ASL.done ?_
            refine AWP.ifB hF rfl (fun hc2437 hF => ?_) (fun hc2437 hF => ?_)
            · skip
              refine AWP.exit ?_
              refine QThen.ext ?_
              refine QBlock.hit ?_
              refine QThen.nrm ?_
              refine AWP.lastR rfl ?_
              refine ASL.q (v := (.int .i64 (W (x29_l1 + 1)))) rfl rfl (Light.quiet (opInt rfl rfl rfl rfl)) ?_
              refine ASL.q (v := (.int .i64 (W (x29_l1 + 1)))) rfl rfl (Light.quiet (opMove rfl rfl)) ?_
              refine ASL.done ?_
              refine QThen.nrm ?_
              exact ⟨(y2421, (W (x29_l1 + 1))), w2422, (someE hF).symm, ⟨rfl, rfl, rfl, rfl, rfl, rfl, rfl, trivial⟩, (hS.pick [2, 3] rfl rfl)⟩
            · skip
              refine AWP.skip ?_
              refine QThen.nrm ?_
              refine AWP.seqR rfl ?_
              refine ASL.q (v := (.ptr b10 0)) rfl rfl (Light.quiet (opFieldAddr rfl fieldA_93_0 rfl rfl)) ?_
              refine ASL.q (v := (.list 1 (List.map (AV.int .i64) a34.word))) rfl rfl (Light.quiet (kAt hS (j := 1) rfl rfl aggA_27 rfl rfl)) ?_
              obtain ⟨a58, ha58, hF⟩ := bindE hF
              refine ASL.x rfl rfl (hCallO hS rfl rfl call_78 (slices_Clone_int_int_ok ha58) rfl ?_); rintro v58 G2438 hK hS
              refine ASL.q (v := (.int .i64 x29_l1)) rfl rfl (Light.quiet (opMove rfl rfl)) ?_
              refine ASL.q (v := (.list 1 (List.map (AV.int .i64) [x29_l1]))) rfl rfl ((qLit (xs := [(.int .i64 x29_l1)]) rfl elemA_27 sizeA_3 zeroA_3 rfl rfl rfl rfl (by simp [cells]) (nlt rfl))) ?_
              obtain ⟨z61, hz61, hF⟩ := bindE hF
              refine ASL.x rfl rfl (hAppF (f := (AV.int .i64)) (ws := [x29_l1]) hS (j := 0) rfl hz61 rfl elemA_27 rfl sizeA_3 bytesA_3 zeroA_3 rfl rfl rfl (fun _ => rfl) ?_); rintro G2440 hB hS
              have hS : Sep G2440 [.cell b11 [(.list 1 (List.map (AV.int .i64) [])), (.list 1 (List.map (AV.int .i64) a43)), (.list 1 (List.map (AV.int .i64) a51))], .cell b10 [(.list 1 (List.map (AV.int .i64) a34.word)), (.list 1 (List.map (AV.int .i64) a34.a)), (.list 1 (List.map (AV.int .i64) a34.b))], .row 3 w2422 (List.map Ttwin.av y2421), .cell b6 [w2422]] := hS
              refine ASL.q (v := (.ptr b11 0)) rfl rfl (Light.quiet (opFieldAddr rfl fieldA_93_0 rfl rfl)) ?_
              refine ASL.n rfl rfl (hPut hS (j := 0) rfl rfl sizeA_27 rfl rfl rfl (nlt rfl) ?_); rintro G2441 hS
              refine ASL.done ?_
              refine AWP.seq ?_
              refine AWP.seqR rfl ?_
              refine ASL.q (v := w2422) rfl rfl (Light.quiet (kAt hS (j := 3) rfl rfl aggA_89 rfl rfl)) ?_
              refine ASL.q (v := (.int .i64 (y2421.length : Int))) rfl rfl (Light.quiet (kLen hS (j := 2) rfl rfl rfl rfl lenT_89 rfl)) ?_
              refine ASL.q (v := (.bool (decide (((y2421.length : Int)) = 150)))) rfl rfl (Light.quiet (opInt rfl rfl rfl rfl)) ?_
              obtain ⟨c66, hc66, hF⟩ := bndE hF
              refine ASL.q (v := (.bool c66)) rfl rfl ((Quiet.cast (Light.quiet (opMove rfl rfl)) (congrArg AV.bool hc66.symm))) ?_
              refine ASL.g (v := (.ptr b11 0)) (.bool c66) false rfl (wF _) rfl (fun hG => by have q0 := gN hG; subst q0; exact Light.quiet (opFieldAddr rfl fieldA_93_0 rfl rfl)) ?_
              refine ASL.g (v := (.list 1 (List.map (AV.int .i64) z61))) (.bool c66) false rfl (wF _) rfl (fun hG => by have q0 := gN hG; subst q0; exact Light.quiet (kAt hS (j := 0) rfl rfl aggA_27 rfl rfl)) ?_
              refine ASL.g (v := (.int .i64 (z61.length : Int))) (.bool c66) false rfl (wF _) rfl (fun hG => by have q0 := gN hG; subst q0; exact Light.quiet (opLenMap (f := (AV.int .i64)) rfl rfl rfl lenT_27 rfl)) ?_
              refine ASL.g (v := (.bool (decide (((z61.length : Int)) > 40)))) (.bool c66) false rfl (wF _) rfl (fun hG => by have q0 := gN hG; subst q0; exact Light.quiet (opInt rfl rfl rfl rfl)) ?_
              refine ASL.q (v := (.bool (c66 || (decide (((z61.length : Int)) > 40))))) rfl rfl (Light.quiet (opPick (b := c66) rfl rfl (by cases c66 <;> rfl))) ?_
              refine ASL.done ?_
              refine AWP.ifB hF rfl (fun hc2442 hF => ?_) (fun hc2442 hF => ?_)
              · skip
                refine AWP.seqR rfl ?_
                refine ASL.q (v := (.list 3 (List.map Ttwin.av []))) rfl rfl (Light.quiet (opNilL rfl rfl)) ?_
                refine ASL.q (v := (.bool false)) rfl rfl (Light.quiet (opAssign rfl rfl)) ?_
                refine ASL.done ?_
                refine AWP.ret ?_
                refine QThen.rt ?_
                refine QBlock.ret ?_
                refine QThen.rt ?_
                refine QThen.rt ?_
                refine QBlock.ret ?_
                refine QBlock.ret ?_
                refine QThen.rt ?_
                refine QThen.rt ?_
                refine QBlock.ret ?_
                refine QThen.rt ?_
                obtain rfl := (hx2425 _ (someE hF).symm)
                have hF := hR2428
                have hF := sumR hF
                obtain rfl := (hx2411 _ (someE hF).symm)
                have hF := hR2414
                have hF := sumR hF
                obtain rfl := someE hF
                exact QRet.many (vs := [(.list 3 (List.map Ttwin.av [])), (.bool false)]) ⟨rfl, rfl, trivial⟩ (by simp) rfl
              · skip
                refine AWP.skip ?_
                refine QThen.nrm ?_
                refine AWP.lastR rfl ?_
                refine ASL.q (v := w2422) rfl rfl (Light.quiet (kAt hS (j := 3) rfl rfl aggA_89 rfl rfl)) ?_
                refine ASL.q (v := (.agg [(.list 1 (List.map (AV.int .i64) z61)), (.list 1 (List.map (AV.int .i64) a43)), (.list 1 (List.map (AV.int .i64) a51))])) rfl rfl (Light.quiet (kAtA hS (j := 0) rfl rfl aggA_93 sizeA_93 rfl (nlt rfl) rfl)) ?_
                refine ASL.q (v := (.list 3 (List.map Ttwin.av [(Ttwin.mk z61 a43 a51)]))) rfl rfl ((qLit (xs := [(.agg [(.list 1 (List.map (AV.int .i64) z61)), (.list 1 (List.map (AV.int .i64) a43)), (.list 1 (List.map (AV.int .i64) a51))])]) rfl elemA_89 sizeA_93 zeroA_93 rfl rfl rfl rfl (by simp [cells, Ttwin.av]) (nlt rfl))) ?_
                obtain ⟨z75, hz75, hF⟩ := bindE hF
                refine ASL.x rfl rfl (hApp (f := Ttwin.av) (ws := [(Ttwin.mk z61 a43 a51)]) hS (j := 2) rfl hz75 rfl elemA_89 rfl sizeA_93 bytesA_93 zeroA_93 rfl rfl rfl (fun _ => rfl) ?_); rintro v75 G2443 hS
                refine ASL.n rfl rfl (hPut hS (j := 3) rfl rfl sizeA_89 rfl rfl (hS.one (k := 2) rfl) (nlt rfl) ?_); rintro G2445 hS
                refine ASL.done ?_
                refine QBlock.nrm ?_
                refine QThen.nrm ?_
                refine AWP.lastR rfl ?_
                refine ASL.q (v := (.int .i64 (W (x29_l1 + 1)))) rfl rfl (Light.quiet (opInt rfl rfl rfl rfl)) ?_
                refine ASL.q (v := (.int .i64 (W (x29_l1 + 1)))) rfl rfl (Light.quiet (opMove rfl rfl)) ?_
                refine ASL.done ?_
                refine QThen.nrm ?_
                exact ⟨(z75, (W (x29_l1 + 1))), v75, (someE hF).symm, ⟨rfl, rfl, rfl, rfl, rfl, rfl, rfl, trivial⟩, (hS.pick [2, 3] rfl rfl)⟩
          · skip
            refine AWP.exit ?_
            refine QThen.ext ?_
            refine QThen.ext ?_
            refine QBlock.hit ?_
            obtain rfl := (hx2425 _ (someE hF).symm)
            have hF := hR2428
            have hF := sumL hF
            refine QBlock.nrm ?_
            refine QThen.nrm ?_
            exact ⟨y2421, w2422, ⟨rfl, rfl, rfl, rfl, rfl, trivial⟩, (hS.pick [0, 1] rfl rfl), hF⟩
      · skip
        refine AWP.exit ?_
        refine QThen.ext ?_
        refine QThen.ext ?_
        refine QBlock.hit ?_
        obtain rfl := (hx2411 _ (someE hF).symm)
        have hF := hR2414
        have hF := sumL hF
        refine QThen.nrm ?_
        exact ⟨y2407, w2408, ⟨rfl, trivial⟩, (hS.pick [0, 1] rfl rfl), hF⟩
  · skip
    refine ART.q0 rfl (v := (.rptr [(.int .i64 p0.states), (.int .i64 p0.start), (.list 4 (List.map TEdge.av p0.edges))])) rfl rfl (Light.quiet (opFieldAddrR rfl fieldA_26_1 rfl rfl)) ?_
    refine ART.q0 rfl (v := (.int .i64 p0.states)) rfl rfl (Light.quiet (opLoadR rfl aggA_3 rfl rfl)) ?_
    refine ART.q0 rfl (v := (.list 1 (List.map (AV.int .i64) a14))) rfl rfl ((qCall rfl rfl call_50 (PO.list (impl_boxOne_ok ha14)) rfl)) ?_
    refine ART.q0 rfl (v := (.rptr [(.int .i64 p1.states), (.int .i64 p1.start), (.list 4 (List.map TEdge.av p1.edges))])) rfl rfl (Light.quiet (opFieldAddrR rfl fieldA_26_1 rfl rfl)) ?_
    refine ART.q0 rfl (v := (.int .i64 p1.states)) rfl rfl (Light.quiet (opLoadR rfl aggA_3 rfl rfl)) ?_
    refine ART.q0 rfl (v := (.list 1 (List.map (AV.int .i64) a17))) rfl rfl ((qCall rfl rfl call_50 (PO.list (impl_boxOne_ok ha17)) rfl)) ?_
    refine ART.q0 rfl (v := (.agg [(.list 1 (List.map (AV.int .i64) [])), (.list 1 (List.map (AV.int .i64) a14)), (.list 1 (List.map (AV.int .i64) a17))])) rfl rfl (Light.quiet (opBuildZ (zs := [(.list 1 (List.map (AV.int .i64) [])), (.list 1 (List.map (AV.int .i64) [])), (.list 1 (List.map (AV.int .i64) []))]) rfl plan_93 zeroA_93 ⟨.inr ⟨_, rfl, rfl⟩, .inr ⟨_, rfl, rfl⟩, .inr ⟨_, rfl, rfl⟩, trivial⟩ rfl)) ?_
    refine ART.fork ?_ ?_
    · skip
      refine ART.x rfl rfl rfl rfl (hLit (f := Ttwin.av) (zs := [(Ttwin.mk ([]) a14 a17)]) hS rfl rfl elemA_89 sizeA_93 zeroA_93 rfl rfl rfl rfl (by simp [cells, Ttwin.av]) (nlt rfl) ?_); rintro v19 G1601 hK hS; refine ⟨hK, ?_⟩
      have hS := hNil (s := 3) (f := Ttwin.av) hS
      refine ART.x rfl rfl rfl rfl (hNewZ hS [.nil] rfl zeroA_89 ⟨.inl rfl, trivial⟩ ?_); rintro b6 G1801 hK hS; refine ⟨hK, ?_⟩
      refine ART.n rfl rfl rfl rfl rfl (hPut hS (j := 0) rfl rfl sizeA_89 rfl rfl (hS.one (k := 2) rfl) (nlt rfl) ?_); rintro G2001 hS
      refine ART.done ?_
      exact ⟨b6, v19, ⟨rfl, rfl, rfl, trivial⟩, hS.pick [0, 1, 2] rfl rfl⟩
    · skip
      have hS := hNil (s := 3) (f := Ttwin.av) hS
      refine ART.x rfl rfl rfl rfl (hNewZ hS [.nil] rfl zeroA_89 ⟨.inl rfl, trivial⟩ ?_); rintro b6 G1801 hK hS; refine ⟨hK, ?_⟩
      refine ART.x rfl rfl rfl rfl (hLit (f := Ttwin.av) (zs := [(Ttwin.mk ([]) a14 a17)]) hS rfl rfl elemA_89 sizeA_93 zeroA_93 rfl rfl rfl rfl (by simp [cells, Ttwin.av]) (nlt rfl) ?_); rintro v19 G1601 hK hS; refine ⟨hK, ?_⟩
      refine ART.n rfl rfl rfl rfl rfl (hPut hS (j := 1) rfl rfl sizeA_89 rfl rfl (hS.one (k := 0) rfl) (nlt rfl) ?_); rintro G2001 hS
      refine ART.done ?_
      exact ⟨b6, v19, ⟨rfl, rfl, rfl, trivial⟩, hS.pick [1, 2, 0] rfl rfl⟩

set_option maxRecDepth 10000 in
theorem impl_BoxesOf_ok {p0 : TAuto} {r : ((List TBoxed) × Bool)} (hF : impl_BoxesOf p0 = some r) : PC Try.prog 25 [(TAuto.av p0)] fun v => v = .tup [(.list 2 (List.map TBoxed.av r.1)), (.bool r.2)] := by
  refine PC.enter Try.func25 rfl Try.ntmps25 (by simp) ?_
  have hS := Sep.void; unfold impl_BoxesOf at hF
  refine AWP.seqR rfl ?_
  refine ASL.q (v := (.rptr [(.int .i64 p0.letters), (.int .i64 p0.states), (.int .i64 p0.start), (.list 4 (List.map TEdge.av p0.edges))])) rfl rfl ((qBoxI (v := (TAuto.av p0)) rfl rfl rfl rfl)) ?_
  refine ASL.q (v := (.list 2 (List.map TBoxed.av []))) rfl rfl (Light.quiet (opNilL rfl rfl)) ?_
  refine ASL.q (v := (.bool false)) rfl rfl (Light.quiet (opAssign rfl rfl)) ?_
  refine ASL.done ?_
  refine AWP.seq ?_
  refine AWP.seqR rfl ?_
  refine ASL.q (v := (.rptr [(.int .i64 p0.states), (.int .i64 p0.start), (.list 4 (List.map TEdge.av p0.edges))])) rfl rfl (Light.quiet (opFieldAddrR rfl fieldA_26_1 rfl rfl)) ?_
  refine ASL.q (v := (.int .i64 p0.states)) rfl rfl (Light.quiet (opLoadR rfl aggA_3 rfl rfl)) ?_
  refine ASL.q (v := (.bool (impl_isBoxed p0.states))) rfl rfl ((qCall rfl rfl call_48 (impl_isBoxed_ok p0.states) rfl)) ?_
  refine ASL.q (v := (.bool (!(impl_isBoxed p0.states)))) rfl rfl (Light.quiet (opNot rfl rfl)) ?_
  obtain ⟨c13, hc13, hF⟩ := bndE hF
  refine ASL.q (v := (.bool c13)) rfl rfl ((Quiet.cast (Light.quiet (opMove rfl rfl)) (congrArg AV.bool hc13.symm))) ?_
  refine ASL.g (v := (TAuto.av p0)) (.bool c13) false rfl (wF _) rfl (fun hG => by have q0 := gN hG; subst q0; exact Light.quiet (opLoadRA rfl aggA_26 sizeA_26 rfl (nlt rfl) rfl)) ?_
  obtain ⟨a15, ha15, hF⟩ := bindE hF
  refine ASL.g (v := (.bool a15)) (.bool c13) false rfl (wF _) rfl (fun hG => by have q0 := gN hG; subst q0; exact (qCall rfl rfl call_46 (impl_AutoOk_ok (whenE ha15)) rfl)) ?_
  refine ASL.g (v := (.bool (!a15))) (.bool c13) false rfl (wF _) rfl (fun hG => by have q0 := gN hG; subst q0; exact Light.quiet (opNot rfl rfl)) ?_
  refine ASL.q (v := (.bool (c13 || (!a15)))) rfl rfl (Light.quiet (opPick (b := c13) rfl rfl (by cases c13 <;> rfl))) ?_
  refine ASL.done ?_
  refine AWP.ifB hF rfl (fun hc1 hF => ?_) (fun hc1 hF => ?_)
  · skip
    refine AWP.seqR rfl ?_
    refine ASL.q (v := (.list 2 (List.map TBoxed.av []))) rfl rfl (Light.quiet (opNilL rfl rfl)) ?_
    refine ASL.q (v := (.bool false)) rfl rfl (Light.quiet (opAssign rfl rfl)) ?_
    refine ASL.done ?_
    refine AWP.ret ?_
    refine QThen.rt ?_
    obtain rfl := someE hF
    exact QRet.many (vs := [(.list 2 (List.map TBoxed.av [])), (.bool false)]) ⟨rfl, rfl, trivial⟩ (by simp) rfl
  · skip
    refine AWP.skip ?_
    refine QThen.nrm ?_
    refine AWP.seqR rfl ?_
    refine ASL.q (v := (TAuto.av p0)) rfl rfl (Light.quiet (opLoadRA rfl aggA_26 sizeA_26 rfl (nlt rfl) rfl)) ?_
    refine ASL.q (v := (TAuto.av p0)) rfl rfl (Light.quiet (opLoadRA rfl aggA_26 sizeA_26 rfl (nlt rfl) rfl)) ?_
    obtain ⟨a21, ha21, hF⟩ := bindE hF
    refine ASL.q (v := (.tup [(.list 3 (List.map Ttwin.av a21.1)), (.bool a21.2)])) rfl rfl ((qCall rfl rfl call_67 (impl_twins_ok ha21) rfl)) ?_
    refine ASL.q (v := (.tup [(.list 3 (List.map Ttwin.av a21.1)), (.bool a21.2)])) rfl rfl (Light.quiet (opMove rfl rfl)) ?_
    refine ASL.q (v := (.list 3 (List.map Ttwin.av a21.1))) rfl rfl (Light.quiet (opExtract rfl rfl rfl)) ?_
    refine ASL.q (v := (.bool a21.2)) rfl rfl (Light.quiet (opExtract rfl rfl rfl)) ?_
    refine ASL.q (v := (.list 3 (List.map Ttwin.av a21.1))) rfl rfl (Light.quiet (opAssign rfl rfl)) ?_
    refine ASL.q (v := (.bool a21.2)) rfl rfl (Light.quiet (opAssign rfl rfl)) ?_
    refine ASL.done ?_
    refine AWP.seq ?_
    refine AWP.seqR rfl ?_
    refine ASL.q (v := (.bool a21.2)) rfl rfl (Light.quiet (opMove rfl rfl)) ?_
    refine ASL.q (v := (.bool (!a21.2))) rfl rfl (Light.quiet (opNot rfl rfl)) ?_
    refine ASL.done ?_
    refine AWP.ifB hF rfl (fun hc2 hF => ?_) (fun hc2 hF => ?_)
    · skip
      refine AWP.seqR rfl ?_
      refine ASL.q (v := (.list 2 (List.map TBoxed.av []))) rfl rfl (Light.quiet (opNilL rfl rfl)) ?_
      refine ASL.q (v := (.bool false)) rfl rfl (Light.quiet (opAssign rfl rfl)) ?_
      refine ASL.done ?_
      refine AWP.ret ?_
      refine QThen.rt ?_
      obtain rfl := someE hF
      exact QRet.many (vs := [(.list 2 (List.map TBoxed.av [])), (.bool false)]) ⟨rfl, rfl, trivial⟩ (by simp) rfl
    · skip
      refine AWP.skip ?_
      refine QThen.nrm ?_
      refine AWP.seqR rfl ?_
      have hS := hNil (s := 2) (f := TBoxed.av) hS
      refine ASL.q (v := .nil) rfl rfl (Light.quiet (opAssign rfl rfl)) ?_
      refine ASL.done ?_
      refine AWP.seqM (fun e H => ∃ y4 : (List TBoxed), ∃ w5 : AV, E.Told e [(6, w5)] ∧ E.Sep H [.row 2 w5 (List.map TBoxed.av y4)] ∧ impl_BoxesOf.k0 y4 = some r) ?_ ?_
      · rintro e0 G8 ⟨y4, w5, hT, hS, hF⟩; refine AWP.only _ hT ?_; unfold impl_BoxesOf.k0 at hF
        refine AWP.frz (L' := []) hS (k := 0) rfl [(6, (.list 2 (List.map TBoxed.av y4)))] ⟨.inr (.inl ⟨rfl, rfl⟩), trivial⟩ trivial (fun G7 hS => ?_)
        refine AWP.seqR rfl ?_
        refine ASL.q (v := (.list 2 (List.map TBoxed.av y4))) rfl rfl (Light.quiet (opMove rfl rfl)) ?_
        refine ASL.q (v := (.list 2 (List.map TBoxed.av y4))) rfl rfl (Light.quiet (opAssign rfl rfl)) ?_
        refine ASL.q (v := (.bool true)) rfl rfl (Light.quiet (opAssign rfl rfl)) ?_
        refine ASL.done ?_
        refine AWP.ret ?_
        obtain rfl := someE hF
        exact QRet.many (vs := [(.list 2 (List.map TBoxed.av y4)), (.bool true)]) ⟨rfl, rfl, trivial⟩ (by simp) rfl
      · skip
        refine AWP.seqR rfl ?_
        refine ASL.q (v := (.list 3 (List.map Ttwin.av a21.1))) rfl rfl (Light.quiet (opMove rfl rfl)) ?_
        refine ASL.q (v := (.int .i64 (a21.1.length : Int))) rfl rfl (Light.quiet (opLenMap (f := Ttwin.av) rfl rfl rfl lenT_89 rfl)) ?_
        refine ASL.q (v := (.int .i64 0)) rfl rfl (Light.quiet (opMove rfl rfl)) ?_
        refine ASL.done ?_
        refine AWP.block ?_
        obtain ⟨o15, hL14, hR16⟩ := bindE hF
        refine AWP.loopF (ω := AV) hL14 (fun s w => [(6, w), (26, (.list 3 (List.map Ttwin.av a21.1))), (27, (.int .i64 (a21.1.length : Int))), (28, (.int .i64 s.2))]) (fun s w => [.row 2 w (List.map TBoxed.av s.1)]) .nil ⟨rfl, rfl, rfl, rfl, trivial⟩ (hS.pick [0] rfl rfl) ?_
        rintro ⟨y9, x28_l0⟩ w10 G17 hS x12 hF hx13
        try dsimp only at hS ⊢
        have hF : impl_BoxesOf.b0 a21 y9 x28_l0 = some x12 := hF; unfold impl_BoxesOf.b0 at hF
        refine AWP.seqR rfl ?_
        refine ASL.q (v := (.bool (decide (x28_l0 < ((a21.1.length : Int)))))) rfl rfl (Light.quiet (opInt rfl rfl rfl rfl)) ?_
        refine ASL.done ?_
        refine AWP.seq ?_
        refine AWP.ifP hF rfl (fun hc18 hF => ?_) (fun hc18 hF => ?_)
        · skip
          refine AWP.skip ?_
          refine QThen.nrm ?_
          refine AWP.seq ?_
          refine AWP.block ?_
          refine AWP.seqR rfl ?_
          obtain ⟨a30, ha30, hF⟩ := bindE hF
          refine ASL.q (v := (.rptr [(.list 1 (List.map (AV.int .i64) a30.word)), (.list 1 (List.map (AV.int .i64) a30.a)), (.list 1 (List.map (AV.int .i64) a30.b))])) rfl rfl (Light.quiet (kIx (f := Ttwin.av) ha30 rfl rfl rfl elemA_89 sizeA_93 rfl)) ?_
          refine ASL.q (v := (Ttwin.av a30)) rfl rfl (Light.quiet (opLoadRA rfl aggA_93 sizeA_93 rfl (nlt rfl) rfl)) ?_
          refine ASL.x rfl rfl (hNewZ hS [(.list 1 (List.map (AV.int .i64) [])), (.list 1 (List.map (AV.int .i64) [])), (.list 1 (List.map (AV.int .i64) []))] rfl zeroA_93 ⟨.inr ⟨_, rfl, rfl⟩, .inr ⟨_, rfl, rfl⟩, .inr ⟨_, rfl, rfl⟩, trivial⟩ ?_); rintro b8 G19 hK hS
          refine ASL.n rfl rfl (hPutA hS (j := 0) rfl rfl sizeA_93 rfl rfl rfl rfl rfl (nlt rfl) ?_); rintro G21 hS
          refine ASL.done ?_
          refine AWP.lastR rfl ?_
          refine ASL.q (v := w10) rfl rfl (Light.quiet (opMove rfl rfl)) ?_
          refine ASL.q (v := (.ptr b8 0)) rfl rfl (Light.quiet (opFieldAddr rfl fieldA_93_0 rfl rfl)) ?_
          refine ASL.q (v := (.list 1 (List.map (AV.int .i64) a30.word))) rfl rfl (Light.quiet (kAt hS (j := 0) rfl rfl aggA_27 rfl rfl)) ?_
          refine ASL.q (v := (.ptr b8 1)) rfl rfl (Light.quiet (opFieldAddr rfl fieldA_93_1 rfl rfl)) ?_
          refine ASL.q (v := (.list 1 (List.map (AV.int .i64) a30.a))) rfl rfl (Light.quiet (kAt hS (j := 0) rfl rfl aggA_27 rfl rfl)) ?_
          refine ASL.q (v := (.agg [(.list 1 (List.map (AV.int .i64) a30.word)), (.list 1 (List.map (AV.int .i64) a30.a))])) rfl rfl (Light.quiet (opBuildZ (zs := [(.list 1 (List.map (AV.int .i64) [])), (.list 1 (List.map (AV.int .i64) []))]) rfl plan_51 zeroA_51 ⟨.inr ⟨_, rfl, rfl⟩, .inr ⟨_, rfl, rfl⟩, trivial⟩ rfl)) ?_
          refine ASL.q (v := (.list 2 (List.map TBoxed.av [(TBoxed.mk a30.word a30.a)]))) rfl rfl ((qLit (xs := [(.agg [(.list 1 (List.map (AV.int .i64) a30.word)), (.list 1 (List.map (AV.int .i64) a30.a))])]) rfl elemA_47 sizeA_51 zeroA_51 rfl rfl rfl rfl (by simp [cells, TBoxed.av]) (nlt rfl))) ?_
          obtain ⟨z39, hz39, hF⟩ := bindE hF
          refine ASL.x rfl rfl (hApp (f := TBoxed.av) (ws := [(TBoxed.mk a30.word a30.a)]) hS (j := 1) rfl hz39 rfl elemA_47 rfl sizeA_51 bytesA_51 zeroA_51 rfl rfl rfl (fun _ => rfl) ?_); rintro v39 G22 hS
          refine ASL.q (v := v39) rfl rfl (Light.quiet (opAssign rfl rfl)) ?_
          refine ASL.done ?_
          refine QBlock.nrm ?_
          refine QThen.nrm ?_
          refine AWP.lastR rfl ?_
          refine ASL.q (v := (.int .i64 (W (x28_l0 + 1)))) rfl rfl (Light.quiet (opInt rfl rfl rfl rfl)) ?_
          refine ASL.q (v := (.int .i64 (W (x28_l0 + 1)))) rfl rfl (Light.quiet (opMove rfl rfl)) ?_
          refine ASL.done ?_
          refine QThen.nrm ?_
          exact ⟨(z39, (W (x28_l0 + 1))), v39, (someE hF).symm, ⟨rfl, rfl, rfl, rfl, trivial⟩, (hS.pick [1] rfl rfl)⟩
        · skip
          refine AWP.exit ?_
          refine QThen.ext ?_
          refine QThen.ext ?_
          refine QBlock.hit ?_
          obtain rfl := (hx13 _ (someE hF).symm)
          have hF := hR16
          refine QThen.nrm ?_
          exact ⟨y9, w10, ⟨rfl, trivial⟩, (hS.pick [0] rfl rfl), hF⟩

set_option maxRecDepth 10000 in
theorem spec_l14Right_ok {p0 : TAuto} {r : Bool} (hF : spec_l14Right p0 = some r) : PC Try.prog 63 [(TAuto.av p0)] fun v => v = (.bool r) := by
  refine PC.enter Try.func63 rfl Try.ntmps63 (by simp) ?_
  have hS := Sep.void; unfold spec_l14Right at hF
  refine AWP.seqR rfl ?_
  refine ASL.q (v := (.rptr [(.int .i64 p0.letters), (.int .i64 p0.states), (.int .i64 p0.start), (.list 4 (List.map TEdge.av p0.edges))])) rfl rfl ((qBoxI (v := (TAuto.av p0)) rfl rfl rfl rfl)) ?_
  refine ASL.q (v := (.bool false)) rfl rfl (Light.quiet (opAssign rfl rfl)) ?_
  refine ASL.done ?_
  refine AWP.seqR rfl ?_
  refine ASL.q (v := (TAuto.av p0)) rfl rfl (Light.quiet (opLoadRA rfl aggA_26 sizeA_26 rfl (nlt rfl) rfl)) ?_
  obtain ⟨a4, ha4, hF⟩ := bindE hF
  refine ASL.q (v := (.bool a4)) rfl rfl ((qCall rfl rfl call_10 (spec_AutoOk_ok ha4) rfl)) ?_
  refine ASL.q (v := (.bool a4)) rfl rfl (Light.quiet (opMove rfl rfl)) ?_
  refine ASL.g (v := (.rptr [(.int .i64 p0.states), (.int .i64 p0.start), (.list 4 (List.map TEdge.av p0.edges))])) (.bool a4) true rfl (wT _) rfl (fun hG => by have q0 := hG; subst q0; exact Light.quiet (opFieldAddrR rfl fieldA_26_1 rfl rfl)) ?_
  refine ASL.g (v := (.int .i64 p0.states)) (.bool a4) true rfl (wT _) rfl (fun hG => by have q0 := hG; subst q0; exact Light.quiet (opLoadR rfl aggA_3 rfl rfl)) ?_
  refine ASL.g (v := (.bool (spec_l1In p0.states 1 4))) (.bool a4) true rfl (wT _) rfl (fun hG => by have q0 := hG; subst q0; exact (qCall rfl rfl call_41 (spec_l1In_ok p0.states 1 4) rfl)) ?_
  refine ASL.q (v := (.bool (a4 && (spec_l1In p0.states 1 4)))) rfl rfl (Light.quiet (opPick (b := a4) rfl rfl (by cases a4 <;> rfl))) ?_
  refine ASL.q (v := (.bool (a4 && (spec_l1In p0.states 1 4)))) rfl rfl (Light.quiet (opAssign rfl rfl)) ?_
  refine ASL.done ?_
  refine AWP.ret ?_
  obtain rfl := someE hF
  exact QRet.sole (v := (.bool (a4 && (spec_l1In p0.states 1 4)))) ⟨rfl, trivial⟩ rfl

set_option maxRecDepth 10000 in
theorem spec_BoxOne_ok {p0 : Int} {r : (List Int)} (hF : spec_BoxOne p0 = some r) : PO Try.prog 64 [(.int .i64 p0)] 1 (List.map (AV.int .i64) r) := by
  refine HC.enter Try.func64 rfl Try.ntmps64 (by simp) ?_
  have hS := Sep.void; unfold spec_BoxOne at hF
  refine AWP.seqR rfl ?_
  have hS := hNil (s := 1) (f := (AV.int .i64)) hS
  refine ASL.q (v := .nil) rfl rfl (Light.quiet (opAssign rfl rfl)) ?_
  refine ASL.done ?_
  refine AWP.seqR rfl ?_
  refine ASL.x rfl rfl (hLit (f := (AV.int .i64)) (zs := []) hS rfl rfl elemA_27 sizeA_3 zeroA_3 rfl rfl rfl rfl (by simp [cells]) (nlt rfl) ?_); rintro v5 G2 hK hS
  refine ASL.q (v := v5) rfl rfl (Light.quiet (opAssign rfl rfl)) ?_
  refine ASL.done ?_
  refine AWP.seqM (fun e H => ∃ y4 : (List Int), ∃ w5 : AV, E.Told e [(3, w5)] ∧ E.Sep H [.row 1 w5 (List.map (AV.int .i64) y4)] ∧ spec_BoxOne.k0 y4 = some r) ?_ ?_
  · rintro e0 G7 ⟨y4, w5, hT, hS, hF⟩; refine AWP.only _ hT ?_; unfold spec_BoxOne.k0 at hF
    refine AWP.seqR rfl ?_
    refine ASL.q (v := w5) rfl rfl (Light.quiet (opMove rfl rfl)) ?_
    refine ASL.q (v := w5) rfl rfl (Light.quiet (opAssign rfl rfl)) ?_
    refine ASL.done ?_
    refine AWP.ret ?_
    obtain rfl := someE hF
    exact QRet.sole (v := w5) ⟨rfl, trivial⟩ (hS.get (k := 0) rfl)
  · skip
    refine AWP.seqR rfl ?_
    refine ASL.q (v := (.int .i64 0)) rfl rfl (Light.quiet (opAssign rfl rfl)) ?_
    refine ASL.done ?_
    refine AWP.block ?_
    obtain ⟨o14, hL13, hR15⟩ := bindE hF
    refine AWP.loopF (ω := AV) hL13 (fun s w => [(0, (.int .i64 p0)), (3, w), (4, (.int .i64 s.2))]) (fun s w => [.row 1 w (List.map (AV.int .i64) s.1)]) v5 ⟨rfl, rfl, rfl, trivial⟩ (hS.pick [0] rfl rfl) ?_
    rintro ⟨y8, x4_l0⟩ w9 G16 hS x11 hF hx12
    try dsimp only at hS ⊢
    have hF : spec_BoxOne.b0 p0 y8 x4_l0 = some x11 := hF; unfold spec_BoxOne.b0 at hF
    refine AWP.seq ?_
    refine AWP.seqR rfl ?_
    refine ASL.q (v := (.int .i64 x4_l0)) rfl rfl (Light.quiet (opMove rfl rfl)) ?_
    refine ASL.q (v := (.int .i64 p0)) rfl rfl (Light.quiet (opMove rfl rfl)) ?_
    refine ASL.q (v := (.int .i64 p0)) rfl rfl (Light.quiet (opMove rfl rfl)) ?_
    refine ASL.q (v := (.int .i64 (W (p0 * p0)))) rfl rfl (Light.quiet (opInt rfl rfl rfl rfl)) ?_
    refine ASL.q (v := (.bool (decide (x4_l0 < ((W (p0 * p0))))))) rfl rfl (Light.quiet (opInt rfl rfl rfl rfl)) ?_
    obtain ⟨c11, hc11, hF⟩ := bndE hF
    refine ASL.q (v := (.bool c11)) rfl rfl ((Quiet.cast (Light.quiet (opMove rfl rfl)) (congrArg AV.bool hc11.symm))) ?_
    refine ASL.g (v := (.int .i64 p0)) (.bool c11) true rfl (wT _) rfl (fun hG => by have q0 := hG; subst q0; exact Light.quiet (opMove rfl rfl)) ?_
    refine ASL.g (v := (.bool (spec_l1In p0 1 4))) (.bool c11) true rfl (wT _) rfl (fun hG => by have q0 := hG; subst q0; exact (qCall rfl rfl call_41 (spec_l1In_ok p0 1 4) rfl)) ?_
    refine ASL.q (v := (.bool (c11 && (spec_l1In p0 1 4)))) rfl rfl (Light.quiet (opPick (b := c11) rfl rfl (by cases c11 <;> rfl))) ?_
    refine ASL.done ?_
    refine AWP.ifB hF rfl (fun hc17 hF => ?_) (fun hc17 hF => ?_)
    · skip
      refine AWP.skip ?_
      refine QThen.nrm ?_
      refine AWP.seq ?_
      refine AWP.block ?_
      refine AWP.seqD [(0, false), (1, false), (2, false), (3, false), (4, false), (5, false), (6, false)] mixed (by kernel_rfl) rfl ?_
      refine ARL.q0 (v := (.int .i64 x4_l0)) rfl rfl (Light.quiet (opMove rfl rfl)) ?_
      refine ARL.q0 (v := (.int .i64 p0)) rfl rfl (Light.quiet (opMove rfl rfl)) ?_
      obtain ⟨u18, hu18, hF⟩ := bindE hF
      refine ARL.q0 (v := (.int .i64 (quo .i64 x4_l0 p0))) rfl rfl (Light.quiet (opQuo rfl rfl rfl (of_decide_eq_true (chkE hu18)) rfl)) ?_
      refine ARL.q0 (v := (.int .i64 x4_l0)) rfl rfl (Light.quiet (opMove rfl rfl)) ?_
      refine ARL.q0 (v := (.int .i64 p0)) rfl rfl (Light.quiet (opMove rfl rfl)) ?_
      obtain ⟨u19, hu19, hF⟩ := bindE hF
      refine ARL.q0 (v := (.int .i64 (Int.tmod x4_l0 p0))) rfl rfl (Light.quiet (opRem rfl rfl rfl (of_decide_eq_true (chkE hu19)) rfl)) ?_
      refine ARL.q0 (v := (.bool (decide (((quo .i64 x4_l0 p0)) = ((Int.tmod x4_l0 p0)))))) rfl rfl (Light.quiet (opInt rfl rfl rfl rfl)) ?_
      refine ARL.done ?_
      refine AWP.ifP hF rfl (fun hc20 hF => ?_) (fun hc20 hF => ?_)
      · skip
        refine AWP.lastR rfl ?_
        refine ASL.q (v := w9) rfl rfl (Light.quiet (opMove rfl rfl)) ?_
        refine ASL.q (v := (.list 1 (List.map (AV.int .i64) [1]))) rfl rfl ((qLit (xs := [(.int .i64 1)]) rfl elemA_27 sizeA_3 zeroA_3 rfl rfl rfl rfl (by simp [cells]) (nlt rfl))) ?_
        obtain ⟨z26, hz26, hF⟩ := bindE hF
        refine ASL.x rfl rfl (hApp (f := (AV.int .i64)) (ws := [1]) hS (j := 0) rfl hz26 rfl elemA_27 rfl sizeA_3 bytesA_3 zeroA_3 rfl rfl rfl (fun _ => rfl) ?_); rintro v26 G21 hS
        refine ASL.q (v := v26) rfl rfl (Light.quiet (opAssign rfl rfl)) ?_
        refine ASL.done ?_
        refine QBlock.nrm ?_
        refine QThen.nrm ?_
        refine AWP.lastR rfl ?_
        refine ASL.q (v := (.int .i64 x4_l0)) rfl rfl (Light.quiet (opMove rfl rfl)) ?_
        refine ASL.q (v := (.int .i64 (W (x4_l0 + 1)))) rfl rfl (Light.quiet (opInt rfl rfl rfl rfl)) ?_
        refine ASL.q (v := (.int .i64 (W (x4_l0 + 1)))) rfl rfl (Light.quiet (opAssign rfl rfl)) ?_
        refine ASL.done ?_
        refine QThen.nrm ?_
        exact ⟨(z26, (W (x4_l0 + 1))), v26, (someE hF).symm, ⟨rfl, rfl, rfl, trivial⟩, (hS.pick [0] rfl rfl)⟩
      · skip
        refine AWP.lastR rfl ?_
        refine ASL.q (v := w9) rfl rfl (Light.quiet (opMove rfl rfl)) ?_
        refine ASL.q (v := (.list 1 (List.map (AV.int .i64) [0]))) rfl rfl ((qLit (xs := [(.int .i64 0)]) rfl elemA_27 sizeA_3 zeroA_3 rfl rfl rfl rfl (by simp [cells]) (nlt rfl))) ?_
        obtain ⟨z29, hz29, hF⟩ := bindE hF
        refine ASL.x rfl rfl (hApp (f := (AV.int .i64)) (ws := [0]) hS (j := 0) rfl hz29 rfl elemA_27 rfl sizeA_3 bytesA_3 zeroA_3 rfl rfl rfl (fun _ => rfl) ?_); rintro v29 G23 hS
        refine ASL.q (v := v29) rfl rfl (Light.quiet (opAssign rfl rfl)) ?_
        refine ASL.done ?_
        refine QBlock.nrm ?_
        refine QThen.nrm ?_
        refine AWP.lastR rfl ?_
        refine ASL.q (v := (.int .i64 x4_l0)) rfl rfl (Light.quiet (opMove rfl rfl)) ?_
        refine ASL.q (v := (.int .i64 (W (x4_l0 + 1)))) rfl rfl (Light.quiet (opInt rfl rfl rfl rfl)) ?_
        refine ASL.q (v := (.int .i64 (W (x4_l0 + 1)))) rfl rfl (Light.quiet (opAssign rfl rfl)) ?_
        refine ASL.done ?_
        refine QThen.nrm ?_
        exact ⟨(z29, (W (x4_l0 + 1))), v29, (someE hF).symm, ⟨rfl, rfl, rfl, trivial⟩, (hS.pick [0] rfl rfl)⟩
    · skip
      refine AWP.exit ?_
      refine QThen.ext ?_
      refine QThen.ext ?_
      refine QBlock.hit ?_
      obtain rfl := (hx12 _ (someE hF).symm)
      have hF := hR15
      refine QThen.nrm ?_
      exact ⟨y8, w9, ⟨rfl, trivial⟩, (hS.pick [0] rfl rfl), hF⟩

set_option maxRecDepth 10000 in
theorem spec_l14Letter_ok {p0 : TAuto} {p1 : Int} {r : (List Int)} (hF : spec_l14Letter p0 p1 = some r) : PO Try.prog 65 [(TAuto.av p0), (.int .i64 p1)] 1 (List.map (AV.int .i64) r) := by
  refine HC.enter Try.func65 rfl Try.ntmps65 (by simp) ?_
  have hS := Sep.void; unfold spec_l14Letter at hF
  refine AWP.seqR rfl ?_
  refine ASL.q (v := (.rptr [(.int .i64 p0.letters), (.int .i64 p0.states), (.int .i64 p0.start), (.list 4 (List.map TEdge.av p0.edges))])) rfl rfl ((qBoxI (v := (TAuto.av p0)) rfl rfl rfl rfl)) ?_
  have hS := hNil (s := 1) (f := (AV.int .i64)) hS
  refine ASL.q (v := .nil) rfl rfl (Light.quiet (opAssign rfl rfl)) ?_
  refine ASL.done ?_
  refine AWP.seqR rfl ?_
  refine ASL.q (v := (.rptr [(.int .i64 p0.states), (.int .i64 p0.start), (.list 4 (List.map TEdge.av p0.edges))])) rfl rfl (Light.quiet (opFieldAddrR rfl fieldA_26_1 rfl rfl)) ?_
  refine ASL.q (v := (.int .i64 p0.states)) rfl rfl (Light.quiet (opLoadR rfl aggA_3 rfl rfl)) ?_
  refine ASL.q (v := (.rptr [(.int .i64 p0.states), (.int .i64 p0.start), (.list 4 (List.map TEdge.av p0.edges))])) rfl rfl (Light.quiet (opFieldAddrR rfl fieldA_26_1 rfl rfl)) ?_
  refine ASL.q (v := (.int .i64 p0.states)) rfl rfl (Light.quiet (opLoadR rfl aggA_3 rfl rfl)) ?_
  refine ASL.q (v := (.int .i64 (W (p0.states * p0.states)))) rfl rfl (Light.quiet (opInt rfl rfl rfl rfl)) ?_
  obtain ⟨z13, hz13, hF⟩ := bindE hF
  refine ASL.x rfl rfl (hMk (f := (AV.int .i64)) hS hz13 (by decide) rfl elemA_27 sizeA_3 bytesA_3 zeroA_3 rfl rfl (by decide) rfl rfl ?_); rintro v13 G2 hK hS
  refine ASL.q (v := v13) rfl rfl (Light.quiet (opAssign rfl rfl)) ?_
  refine ASL.done ?_
  refine AWP.seqM (fun e H => ∃ y4 : (List Int), E.Told e [(5, v13)] ∧ E.Sep H [.row 1 v13 (List.map (AV.int .i64) y4)] ∧ spec_l14Letter.k0 y4 = some r) ?_ ?_
  · rintro e0 G5 ⟨y4, hT, hS, hF⟩; refine AWP.only _ hT ?_; unfold spec_l14Letter.k0 at hF
    refine AWP.seqR rfl ?_
    refine ASL.q (v := v13) rfl rfl (Light.quiet (opMove rfl rfl)) ?_
    refine ASL.q (v := v13) rfl rfl (Light.quiet (opAssign rfl rfl)) ?_
    refine ASL.done ?_
    refine AWP.ret ?_
    obtain rfl := someE hF
    exact QRet.sole (v := v13) ⟨rfl, trivial⟩ (hS.get (k := 0) rfl)
  · skip
    refine AWP.seqR rfl ?_
    refine ASL.q (v := (.int .i64 0)) rfl rfl (Light.quiet (opAssign rfl rfl)) ?_
    refine ASL.done ?_
    refine AWP.block ?_
    obtain ⟨o10, hL9, hR11⟩ := bindE hF
    refine AWP.loopF (ω := Unit) hL9 (fun s w => [(1, (.int .i64 p1)), (2, (.rptr [(.int .i64 p0.letters), (.int .i64 p0.states), (.int .i64 p0.start), (.list 4 (List.map TEdge.av p0.edges))])), (5, v13), (6, (.int .i64 s.2))]) (fun s w => [.row 1 v13 (List.map (AV.int .i64) s.1)]) () ⟨rfl, rfl, rfl, rfl, trivial⟩ (hS.pick [0] rfl rfl) ?_
    rintro ⟨y6, x6_l0⟩ _ G12 hS x7 hF hx8
    try dsimp only at hS ⊢
    have hF : spec_l14Letter.b0 p0 p1 y6 x6_l0 = some x7 := hF; unfold spec_l14Letter.b0 at hF
    refine AWP.seq ?_
    refine AWP.seqR rfl ?_
    refine ASL.q (v := (.int .i64 x6_l0)) rfl rfl (Light.quiet (opMove rfl rfl)) ?_
    refine ASL.q (v := (.rptr [(.list 4 (List.map TEdge.av p0.edges))])) rfl rfl (Light.quiet (opFieldAddrR rfl fieldA_26_3 rfl rfl)) ?_
    refine ASL.q (v := (.list 4 (List.map TEdge.av p0.edges))) rfl rfl (Light.quiet (opLoadR rfl aggA_24 rfl rfl)) ?_
    refine ASL.q (v := (.int .i64 (p0.edges.length : Int))) rfl rfl (Light.quiet (opLenMap (f := TEdge.av) rfl rfl rfl lenT_24 rfl)) ?_
    refine ASL.q (v := (.bool (decide (x6_l0 < ((p0.edges.length : Int)))))) rfl rfl (Light.quiet (opInt rfl rfl rfl rfl)) ?_
    refine ASL.done ?_
    refine AWP.ifP hF rfl (fun hc13 hF => ?_) (fun hc13 hF => ?_)
    · skip
      refine AWP.skip ?_
      refine QThen.nrm ?_
      refine AWP.seq ?_
      refine AWP.block ?_
      refine AWP.seqR rfl ?_
      refine ASL.q (v := (.rptr [(.list 4 (List.map TEdge.av p0.edges))])) rfl rfl (Light.quiet (opFieldAddrR rfl fieldA_26_3 rfl rfl)) ?_
      refine ASL.q (v := (.list 4 (List.map TEdge.av p0.edges))) rfl rfl (Light.quiet (opLoadR rfl aggA_24 rfl rfl)) ?_
      refine ASL.q (v := (.int .i64 x6_l0)) rfl rfl (Light.quiet (opMove rfl rfl)) ?_
      obtain ⟨a24, ha24, hF⟩ := bindE hF
      refine ASL.q (v := (.rptr [(.int .i64 a24.from_), (.int .i64 a24.letter), (.int .i64 a24.to_), (.bool a24.good)])) rfl rfl (Light.quiet (kIx (f := TEdge.av) ha24 rfl rfl rfl elemA_24 sizeA_73 rfl)) ?_
      refine ASL.q (v := (TEdge.av a24)) rfl rfl (Light.quiet (opLoadRA rfl aggA_73 sizeA_73 rfl (nlt rfl) rfl)) ?_
      refine ASL.x rfl rfl (hNewZ hS [(.int .i64 0), (.int .i64 0), (.int .i64 0), (.bool false)] rfl zeroA_73 ⟨.inl rfl, .inl rfl, .inl rfl, .inl rfl, trivial⟩ ?_); rintro b7 G14 hK hS
      refine ASL.n rfl rfl (hPutA hS (j := 0) rfl rfl sizeA_73 rfl rfl rfl rfl rfl (nlt rfl) ?_); rintro G16 hS
      refine ASL.done ?_
      refine AWP.seqR rfl ?_
      refine ASL.q (v := (.ptr b7 1)) rfl rfl (Light.quiet (opFieldAddr rfl fieldA_73_1 rfl rfl)) ?_
      refine ASL.q (v := (.int .i64 a24.letter)) rfl rfl (Light.quiet (kAt hS (j := 0) rfl rfl aggA_3 rfl rfl)) ?_
      refine ASL.q (v := (.int .i64 p1)) rfl rfl (Light.quiet (opMove rfl rfl)) ?_
      refine ASL.q (v := (.bool (decide (a24.letter = p1)))) rfl rfl (Light.quiet (opInt rfl rfl rfl rfl)) ?_
      refine ASL.done ?_
      refine AWP.ifP hF rfl (fun hc17 hF => ?_) (fun hc17 hF => ?_)
      · skip
        refine AWP.seqR rfl ?_
        refine ASL.q (v := v13) rfl rfl (Light.quiet (opMove rfl rfl)) ?_
        refine ASL.q (v := (.ptr b7 0)) rfl rfl (Light.quiet (opFieldAddr rfl fieldA_73_0 rfl rfl)) ?_
        refine ASL.q (v := (.int .i64 a24.from_)) rfl rfl (Light.quiet (kAt hS (j := 0) rfl rfl aggA_3 rfl rfl)) ?_
        refine ASL.q (v := (.rptr [(.int .i64 p0.states), (.int .i64 p0.start), (.list 4 (List.map TEdge.av p0.edges))])) rfl rfl (Light.quiet (opFieldAddrR rfl fieldA_26_1 rfl rfl)) ?_
        refine ASL.q (v := (.int .i64 p0.states)) rfl rfl (Light.quiet (opLoadR rfl aggA_3 rfl rfl)) ?_
        refine ASL.q (v := (.int .i64 (W (a24.from_ * p0.states)))) rfl rfl (Light.quiet (opInt rfl rfl rfl rfl)) ?_
        refine ASL.q (v := (.ptr b7 2)) rfl rfl (Light.quiet (opFieldAddr rfl fieldA_73_2 rfl rfl)) ?_
        refine ASL.q (v := (.int .i64 a24.to_)) rfl rfl (Light.quiet (kAt hS (j := 0) rfl rfl aggA_3 rfl rfl)) ?_
        refine ASL.q (v := (.int .i64 (W (((W (a24.from_ * p0.states))) + a24.to_)))) rfl rfl (Light.quiet (opInt rfl rfl rfl rfl)) ?_
        obtain ⟨m39, hm39, hF⟩ := bindE hF
        refine ASL.q (v := (ptrTo v13 m39 1)) rfl rfl (Light.quiet (kIxO hS (j := 1) rfl hm39 rfl rfl rfl elemA_27 sizeA_3)) ?_
        refine ASL.n rfl rfl (hSt (f := (AV.int .i64)) (a := 1) hS (j := 1) rfl hm39 rfl sizeA_3 rfl rfl ⟨rfl, rfl, rfl⟩ ?_); rintro G18 hS
        refine ASL.done ?_
        refine AWP.seqR rfl ?_
        refine ASL.q (v := (.ptr b7 3)) rfl rfl (Light.quiet (opFieldAddr rfl fieldA_73_3 rfl rfl)) ?_
        refine ASL.q (v := (.bool a24.good)) rfl rfl (Light.quiet (kAt hS (j := 0) rfl rfl aggA_4 rfl rfl)) ?_
        refine ASL.done ?_
        refine AWP.ifB hF rfl (fun hc19 hF => ?_) (fun hc19 hF => ?_)
        · skip
          refine AWP.lastR rfl ?_
          refine ASL.q (v := v13) rfl rfl (Light.quiet (opMove rfl rfl)) ?_
          refine ASL.q (v := (.ptr b7 0)) rfl rfl (Light.quiet (opFieldAddr rfl fieldA_73_0 rfl rfl)) ?_
          refine ASL.q (v := (.int .i64 a24.from_)) rfl rfl (Light.quiet (kAt hS (j := 0) rfl rfl aggA_3 rfl rfl)) ?_
          refine ASL.q (v := (.rptr [(.int .i64 p0.states), (.int .i64 p0.start), (.list 4 (List.map TEdge.av p0.edges))])) rfl rfl (Light.quiet (opFieldAddrR rfl fieldA_26_1 rfl rfl)) ?_
          refine ASL.q (v := (.int .i64 p0.states)) rfl rfl (Light.quiet (opLoadR rfl aggA_3 rfl rfl)) ?_
          refine ASL.q (v := (.int .i64 (W (a24.from_ * p0.states)))) rfl rfl (Light.quiet (opInt rfl rfl rfl rfl)) ?_
          refine ASL.q (v := (.ptr b7 2)) rfl rfl (Light.quiet (opFieldAddr rfl fieldA_73_2 rfl rfl)) ?_
          refine ASL.q (v := (.int .i64 a24.to_)) rfl rfl (Light.quiet (kAt hS (j := 0) rfl rfl aggA_3 rfl rfl)) ?_
          refine ASL.q (v := (.int .i64 (W (((W (a24.from_ * p0.states))) + a24.to_)))) rfl rfl (Light.quiet (opInt rfl rfl rfl rfl)) ?_
          obtain ⟨m51, hm51, hF⟩ := bindE hF
          refine ASL.q (v := (ptrTo v13 m51 1)) rfl rfl (Light.quiet (kIxO hS (j := 1) rfl hm51 rfl rfl rfl elemA_27 sizeA_3)) ?_
          refine ASL.n rfl rfl (hSt (f := (AV.int .i64)) (a := 2) hS (j := 1) rfl hm51 rfl sizeA_3 rfl rfl ⟨rfl, rfl, rfl⟩ ?_); rintro G20 hS
          refine ASL.done ?_
          refine QBlock.nrm ?_
          refine QThen.nrm ?_
          refine AWP.lastR rfl ?_
          refine ASL.q (v := (.int .i64 x6_l0)) rfl rfl (Light.quiet (opMove rfl rfl)) ?_
          refine ASL.q (v := (.int .i64 (W (x6_l0 + 1)))) rfl rfl (Light.quiet (opInt rfl rfl rfl rfl)) ?_
          refine ASL.q (v := (.int .i64 (W (x6_l0 + 1)))) rfl rfl (Light.quiet (opAssign rfl rfl)) ?_
          refine ASL.done ?_
          refine QThen.nrm ?_
          exact ⟨((((y6.set m39 1)).set m51 2), (W (x6_l0 + 1))), (), (someE hF).symm, ⟨rfl, rfl, rfl, rfl, trivial⟩, (hS.pick [1] rfl rfl)⟩
        · skip
          refine AWP.skip ?_
          refine QBlock.nrm ?_
          refine QThen.nrm ?_
          refine AWP.lastR rfl ?_
          refine ASL.q (v := (.int .i64 x6_l0)) rfl rfl (Light.quiet (opMove rfl rfl)) ?_
          refine ASL.q (v := (.int .i64 (W (x6_l0 + 1)))) rfl rfl (Light.quiet (opInt rfl rfl rfl rfl)) ?_
          refine ASL.q (v := (.int .i64 (W (x6_l0 + 1)))) rfl rfl (Light.quiet (opAssign rfl rfl)) ?_
          refine ASL.done ?_
          refine QThen.nrm ?_
          exact ⟨((y6.set m39 1), (W (x6_l0 + 1))), (), (someE hF).symm, ⟨rfl, rfl, rfl, rfl, trivial⟩, (hS.pick [1] rfl rfl)⟩
      · skip
        refine AWP.skip ?_
        refine QBlock.nrm ?_
        refine QThen.nrm ?_
        refine AWP.lastR rfl ?_
        refine ASL.q (v := (.int .i64 x6_l0)) rfl rfl (Light.quiet (opMove rfl rfl)) ?_
        refine ASL.q (v := (.int .i64 (W (x6_l0 + 1)))) rfl rfl (Light.quiet (opInt rfl rfl rfl rfl)) ?_
        refine ASL.q (v := (.int .i64 (W (x6_l0 + 1)))) rfl rfl (Light.quiet (opAssign rfl rfl)) ?_
        refine ASL.done ?_
        refine QThen.nrm ?_
        exact ⟨(y6, (W (x6_l0 + 1))), (), (someE hF).symm, ⟨rfl, rfl, rfl, rfl, trivial⟩, (hS.pick [1] rfl rfl)⟩
    · skip
      refine AWP.exit ?_
      refine QThen.ext ?_
      refine QThen.ext ?_
      refine QBlock.hit ?_
      obtain rfl := (hx8 _ (someE hF).symm)
      have hF := hR11
      refine QThen.nrm ?_
      exact ⟨y6, ⟨rfl, trivial⟩, (hS.pick [0] rfl rfl), hF⟩

set_option maxRecDepth 10000 in
theorem spec_l14Mul_ok {p0 : Int} {p1 : (List Int)} {p2 : (List Int)} {r : (List Int)} (hF : spec_l14Mul p0 p1 p2 = some r) : PO Try.prog 58 [(.int .i64 p0), (.list 1 (List.map (AV.int .i64) p1)), (.list 1 (List.map (AV.int .i64) p2))] 1 (List.map (AV.int .i64) r) := by
  refine HC.enter Try.func58 rfl Try.ntmps58 (by simp) ?_
  have hS := Sep.void; unfold spec_l14Mul at hF
  refine AWP.seqR rfl ?_
  have hS := hNil (s := 1) (f := (AV.int .i64)) hS
  refine ASL.q (v := .nil) rfl rfl (Light.quiet (opAssign rfl rfl)) ?_
  refine ASL.done ?_
  refine AWP.seqR rfl ?_
  refine ASL.q (v := (.int .i64 p0)) rfl rfl (Light.quiet (opMove rfl rfl)) ?_
  refine ASL.q (v := (.int .i64 p0)) rfl rfl (Light.quiet (opMove rfl rfl)) ?_
  refine ASL.q (v := (.int .i64 (W (p0 * p0)))) rfl rfl (Light.quiet (opInt rfl rfl rfl rfl)) ?_
  obtain ⟨z14, hz14, hF⟩ := bindE hF
  refine ASL.x rfl rfl (hMk (f := (AV.int .i64)) hS hz14 (by decide) rfl elemA_27 sizeA_3 bytesA_3 zeroA_3 rfl rfl (by decide) rfl rfl ?_); rintro v14 G2 hK hS
  refine ASL.q (v := v14) rfl rfl (Light.quiet (opAssign rfl rfl)) ?_
  refine ASL.done ?_
  refine AWP.seqM (fun e H => ∃ y4 : (List Int), E.Told e [(7, v14)] ∧ E.Sep H [.row 1 v14 (List.map (AV.int .i64) y4)] ∧ spec_l14Mul.k0 y4 = some r) ?_ ?_
  · rintro e0 G5 ⟨y4, hT, hS, hF⟩; refine AWP.only _ hT ?_; unfold spec_l14Mul.k0 at hF
    refine AWP.seqR rfl ?_
    refine ASL.q (v := v14) rfl rfl (Light.quiet (opMove rfl rfl)) ?_
    refine ASL.q (v := v14) rfl rfl (Light.quiet (opAssign rfl rfl)) ?_
    refine ASL.done ?_
    refine AWP.ret ?_
    obtain rfl := someE hF
    exact QRet.sole (v := v14) ⟨rfl, trivial⟩ (hS.get (k := 0) rfl)
  · skip
    refine AWP.seqR rfl ?_
    refine ASL.q (v := (.int .i64 0)) rfl rfl (Light.quiet (opAssign rfl rfl)) ?_
    refine ASL.done ?_
    refine AWP.block ?_
    obtain ⟨o10, hL9, hR11⟩ := bindE hF
    refine AWP.loopF (ω := Unit) hL9 (fun s w => [(0, (.int .i64 p0)), (1, (.list 1 (List.map (AV.int .i64) p1))), (2, (.list 1 (List.map (AV.int .i64) p2))), (7, v14), (8, (.int .i64 s.2))]) (fun s w => [.row 1 v14 (List.map (AV.int .i64) s.1)]) () ⟨rfl, rfl, rfl, rfl, rfl, trivial⟩ (hS.pick [0] rfl rfl) ?_
    rintro ⟨y6, x8_l0⟩ _ G12 hS x7 hF hx8
    try dsimp only at hS ⊢
    have hF : spec_l14Mul.b0 p0 p1 p2 y6 x8_l0 = some x7 := hF; unfold spec_l14Mul.b0 at hF
    refine AWP.seq ?_
    refine AWP.seqR rfl ?_
    refine ASL.q (v := (.int .i64 x8_l0)) rfl rfl (Light.quiet (opMove rfl rfl)) ?_
    refine ASL.q (v := (.int .i64 p0)) rfl rfl (Light.quiet (opMove rfl rfl)) ?_
    refine ASL.q (v := (.bool (decide (x8_l0 < p0)))) rfl rfl (Light.quiet (opInt rfl rfl rfl rfl)) ?_
    refine ASL.done ?_
    refine AWP.ifP hF rfl (fun hc13 hF => ?_) (fun hc13 hF => ?_)
    · skip
      refine AWP.skip ?_
      refine QThen.nrm ?_
      refine AWP.seqM (fun e H => ∃ y14 : (List Int), E.Told e [(0, (.int .i64 p0)), (1, (.list 1 (List.map (AV.int .i64) p1))), (2, (.list 1 (List.map (AV.int .i64) p2))), (7, v14), (8, (.int .i64 x8_l0))] ∧ E.Sep H [.row 1 v14 (List.map (AV.int .i64) y14)] ∧ spec_l14Mul.k1 x8_l0 y14 = some x7) ?_ ?_
      · rintro e0 G15 ⟨y14, hT, hS, hF⟩; refine AWP.only _ hT ?_; unfold spec_l14Mul.k1 at hF
        refine AWP.lastR rfl ?_
        refine ASL.q (v := (.int .i64 x8_l0)) rfl rfl (Light.quiet (opMove rfl rfl)) ?_
        refine ASL.q (v := (.int .i64 (W (x8_l0 + 1)))) rfl rfl (Light.quiet (opInt rfl rfl rfl rfl)) ?_
        refine ASL.q (v := (.int .i64 (W (x8_l0 + 1)))) rfl rfl (Light.quiet (opAssign rfl rfl)) ?_
        refine ASL.done ?_
        refine QThen.nrm ?_
        exact ⟨(y14, (W (x8_l0 + 1))), (), (someE hF).symm, ⟨rfl, rfl, rfl, rfl, rfl, trivial⟩, (hS.pick [0] rfl rfl)⟩
      · skip
        refine AWP.block ?_
        refine AWP.seqR rfl ?_
        refine ASL.q (v := (.int .i64 0)) rfl rfl (Light.quiet (opAssign rfl rfl)) ?_
        refine ASL.done ?_
        refine AWP.block ?_
        obtain ⟨o20, hL19, hR21⟩ := bindE hF
        refine AWP.loopF (ω := Unit) hL19 (fun s w => [(0, (.int .i64 p0)), (1, (.list 1 (List.map (AV.int .i64) p1))), (2, (.list 1 (List.map (AV.int .i64) p2))), (7, v14), (8, (.int .i64 x8_l0)), (9, (.int .i64 s.2))]) (fun s w => [.row 1 v14 (List.map (AV.int .i64) s.1)]) () ⟨rfl, rfl, rfl, rfl, rfl, rfl, trivial⟩ (hS.pick [0] rfl rfl) ?_
        rintro ⟨y16, x9_l1⟩ _ G22 hS x17 hF hx18
        try dsimp only at hS ⊢
        have hF : spec_l14Mul.b1 p0 p1 x8_l0 p2 y16 x9_l1 = some x17 := hF; unfold spec_l14Mul.b1 at hF
        refine AWP.seq ?_
        refine AWP.seqR rfl ?_
        refine ASL.q (v := (.int .i64 x9_l1)) rfl rfl (Light.quiet (opMove rfl rfl)) ?_
        refine ASL.q (v := (.int .i64 p0)) rfl rfl (Light.quiet (opMove rfl rfl)) ?_
        refine ASL.q (v := (.bool (decide (x9_l1 < p0)))) rfl rfl (Light.quiet (opInt rfl rfl rfl rfl)) ?_
        refine ASL.done ?_
        refine AWP.ifP hF rfl (fun hc23 hF => ?_) (fun hc23 hF => ?_)
        · skip
          refine AWP.skip ?_
          refine QThen.nrm ?_
          refine AWP.seqM (fun e H => ∃ y24 : (List Int), E.Told e [(0, (.int .i64 p0)), (1, (.list 1 (List.map (AV.int .i64) p1))), (2, (.list 1 (List.map (AV.int .i64) p2))), (7, v14), (8, (.int .i64 x8_l0)), (9, (.int .i64 x9_l1))] ∧ E.Sep H [.row 1 v14 (List.map (AV.int .i64) y24)] ∧ spec_l14Mul.k2 x9_l1 y24 = some x17) ?_ ?_
          · rintro e0 G25 ⟨y24, hT, hS, hF⟩; refine AWP.only _ hT ?_; unfold spec_l14Mul.k2 at hF
            refine AWP.lastR rfl ?_
            refine ASL.q (v := (.int .i64 x9_l1)) rfl rfl (Light.quiet (opMove rfl rfl)) ?_
            refine ASL.q (v := (.int .i64 (W (x9_l1 + 1)))) rfl rfl (Light.quiet (opInt rfl rfl rfl rfl)) ?_
            refine ASL.q (v := (.int .i64 (W (x9_l1 + 1)))) rfl rfl (Light.quiet (opAssign rfl rfl)) ?_
            refine ASL.done ?_
            refine QThen.nrm ?_
            exact ⟨(y24, (W (x9_l1 + 1))), (), (someE hF).symm, ⟨rfl, rfl, rfl, rfl, rfl, rfl, trivial⟩, (hS.pick [0] rfl rfl)⟩
          · skip
            refine AWP.block ?_
            refine AWP.seqR rfl ?_
            refine ASL.q (v := (.int .i64 0)) rfl rfl (Light.quiet (opAssign rfl rfl)) ?_
            refine ASL.done ?_
            refine AWP.block ?_
            obtain ⟨o30, hL29, hR31⟩ := bindE hF
            refine AWP.loopF (ω := Unit) hL29 (fun s w => [(0, (.int .i64 p0)), (1, (.list 1 (List.map (AV.int .i64) p1))), (2, (.list 1 (List.map (AV.int .i64) p2))), (7, v14), (8, (.int .i64 x8_l0)), (9, (.int .i64 x9_l1)), (10, (.int .i64 s.2))]) (fun s w => [.row 1 v14 (List.map (AV.int .i64) s.1)]) () ⟨rfl, rfl, rfl, rfl, rfl, rfl, rfl, trivial⟩ (hS.pick [0] rfl rfl) ?_
            rintro ⟨y26, x10_l2⟩ _ G32 hS x27 hF hx28
            try dsimp only at hS ⊢
            have hF : spec_l14Mul.b2 p0 p1 x8_l0 p2 x9_l1 y26 x10_l2 = some x27 := hF; unfold spec_l14Mul.b2 at hF
            refine AWP.seq ?_
            refine AWP.seqR rfl ?_
            refine ASL.q (v := (.int .i64 x10_l2)) rfl rfl (Light.quiet (opMove rfl rfl)) ?_
            refine ASL.q (v := (.int .i64 p0)) rfl rfl (Light.quiet (opMove rfl rfl)) ?_
            refine ASL.q (v := (.bool (decide (x10_l2 < p0)))) rfl rfl (Light.quiet (opInt rfl rfl rfl rfl)) ?_
            refine ASL.done ?_
            refine AWP.ifP hF rfl (fun hc33 hF => ?_) (fun hc33 hF => ?_)
            · skip
              refine AWP.skip ?_
              refine QThen.nrm ?_
              refine AWP.seq ?_
              refine AWP.block ?_
              refine AWP.seqR rfl ?_
              refine ASL.q (v := (.list 1 (List.map (AV.int .i64) p1))) rfl rfl (Light.quiet (opMove rfl rfl)) ?_
              refine ASL.q (v := (.int .i64 x8_l0)) rfl rfl (Light.quiet (opMove rfl rfl)) ?_
              refine ASL.q (v := (.int .i64 p0)) rfl rfl (Light.quiet (opMove rfl rfl)) ?_
              refine ASL.q (v := (.int .i64 (W (x8_l0 * p0)))) rfl rfl (Light.quiet (opInt rfl rfl rfl rfl)) ?_
              refine ASL.q (v := (.int .i64 x10_l2)) rfl rfl (Light.quiet (opMove rfl rfl)) ?_
              refine ASL.q (v := (.int .i64 (W (((W (x8_l0 * p0))) + x10_l2)))) rfl rfl (Light.quiet (opInt rfl rfl rfl rfl)) ?_
              obtain ⟨a36, ha36, hF⟩ := bindE hF
              refine ASL.q (v := (.rptr [(.int .i64 a36)])) rfl rfl (Light.quiet (kIx (f := (AV.int .i64)) ha36 rfl rfl rfl elemA_27 sizeA_3 rfl)) ?_
              refine ASL.q (v := (.int .i64 a36)) rfl rfl (Light.quiet (opLoadR rfl aggA_3 rfl rfl)) ?_
              refine ASL.q (v := (.bool (decide (a36 > 0)))) rfl rfl (Light.quiet (opInt rfl rfl rfl rfl)) ?_
              obtain ⟨c39, hc39, hF⟩ := bndE hF
              refine ASL.q (v := (.bool c39)) rfl rfl ((Quiet.cast (Light.quiet (opMove rfl rfl)) (congrArg AV.bool hc39.symm))) ?_
              refine ASL.g (v := (.list 1 (List.map (AV.int .i64) p2))) (.bool c39) true rfl (wT _) rfl (fun hG => by have q0 := hG; subst q0; exact Light.quiet (opMove rfl rfl)) ?_
              refine ASL.g (v := (.int .i64 x10_l2)) (.bool c39) true rfl (wT _) rfl (fun hG => by have q0 := hG; subst q0; exact Light.quiet (opMove rfl rfl)) ?_
              refine ASL.g (v := (.int .i64 p0)) (.bool c39) true rfl (wT _) rfl (fun hG => by have q0 := hG; subst q0; exact Light.quiet (opMove rfl rfl)) ?_
              refine ASL.g (v := (.int .i64 (W (x10_l2 * p0)))) (.bool c39) true rfl (wT _) rfl (fun hG => by have q0 := hG; subst q0; exact Light.quiet (opInt rfl rfl rfl rfl)) ?_
              refine ASL.g (v := (.int .i64 x9_l1)) (.bool c39) true rfl (wT _) rfl (fun hG => by have q0 := hG; subst q0; exact Light.quiet (opMove rfl rfl)) ?_
              refine ASL.g (v := (.int .i64 (W (((W (x10_l2 * p0))) + x9_l1)))) (.bool c39) true rfl (wT _) rfl (fun hG => by have q0 := hG; subst q0; exact Light.quiet (opInt rfl rfl rfl rfl)) ?_
              obtain ⟨a46, ha46, hF⟩ := bindE hF
              refine ASL.g (v := (.rptr [(.int .i64 a46)])) (.bool c39) true rfl (wT _) rfl (fun hG => by have q0 := hG; subst q0; exact Light.quiet (kIx (f := (AV.int .i64)) (whenE ha46) rfl rfl rfl elemA_27 sizeA_3 rfl)) ?_
              refine ASL.g (v := (.int .i64 a46)) (.bool c39) true rfl (wT _) rfl (fun hG => by have q0 := hG; subst q0; exact Light.quiet (opLoadR rfl aggA_3 rfl rfl)) ?_
              refine ASL.g (v := (.bool (decide (a46 > 0)))) (.bool c39) true rfl (wT _) rfl (fun hG => by have q0 := hG; subst q0; exact Light.quiet (opInt rfl rfl rfl rfl)) ?_
              refine ASL.q (v := (.bool (c39 && (decide (a46 > 0))))) rfl rfl (Light.quiet (opPick (b := c39) rfl rfl (by cases c39 <;> rfl))) ?_
              refine ASL.done ?_
              refine AWP.ifB hF rfl (fun hc34 hF => ?_) (fun hc34 hF => ?_)
              · skip
                refine AWP.lastD [(0, false), (1, false), (2, false), (3, false), (4, false), (5, false), (6, false), (7, false), (8, false), (9, false), (10, false), (11, false), (12, false), (13, false), (14, false), (15, false), (16, false), (17, false), (18, false), (19, false), (20, false), (21, false), (22, false), (23, false), (24, false), (25, false), (26, false), (27, false), (28, false), (29, false), (30, false), (31, false), (32, false), (33, true)] mixed (by kernel_rfl) rfl ?_
                refine ARL.q0 (v := v14) rfl rfl (Light.quiet (opMove rfl rfl)) ?_
                refine ARL.q0 (v := (.int .i64 x8_l0)) rfl rfl (Light.quiet (opMove rfl rfl)) ?_
                refine ARL.q0 (v := (.int .i64 p0)) rfl rfl (Light.quiet (opMove rfl rfl)) ?_
                refine ARL.q0 (v := (.int .i64 (W (x8_l0 * p0)))) rfl rfl (Light.quiet (opInt rfl rfl rfl rfl)) ?_
                refine ARL.q0 (v := (.int .i64 x9_l1)) rfl rfl (Light.quiet (opMove rfl rfl)) ?_
                refine ARL.q0 (v := (.int .i64 (W (((W (x8_l0 * p0))) + x9_l1)))) rfl rfl (Light.quiet (opInt rfl rfl rfl rfl)) ?_
                refine ARL.q0 (v := v14) rfl rfl (Light.quiet (opMove rfl rfl)) ?_
                refine ARL.q0 (v := (.int .i64 x8_l0)) rfl rfl (Light.quiet (opMove rfl rfl)) ?_
                refine ARL.q0 (v := (.int .i64 p0)) rfl rfl (Light.quiet (opMove rfl rfl)) ?_
                refine ARL.q0 (v := (.int .i64 (W (x8_l0 * p0)))) rfl rfl (Light.quiet (opInt rfl rfl rfl rfl)) ?_
                refine ARL.q0 (v := (.int .i64 x9_l1)) rfl rfl (Light.quiet (opMove rfl rfl)) ?_
                refine ARL.q0 (v := (.int .i64 (W (((W (x8_l0 * p0))) + x9_l1)))) rfl rfl (Light.quiet (opInt rfl rfl rfl rfl)) ?_
                obtain ⟨a62, ha62, hF⟩ := bindE hF
                refine ARL.q0 (v := (ptrTo v14 ((W (((W (x8_l0 * p0))) + x9_l1))).toNat 1)) rfl rfl (Light.quiet (kIxOx hS (j := 0) rfl ha62 rfl rfl rfl elemA_27 sizeA_3)) ?_
                refine ARL.q (v := (.int .i64 a62)) rfl rfl (hS.aliveR (k := 0) rfl) (Light.quiet (kLd (f := (AV.int .i64)) hS (j := 0) rfl ha62 rfl aggA_3 rfl (fun _ => rfl))) ?_
                refine ARL.q0 (v := (.list 1 (List.map (AV.int .i64) p1))) rfl rfl (Light.quiet (opMove rfl rfl)) ?_
                refine ARL.q0 (v := (.int .i64 x8_l0)) rfl rfl (Light.quiet (opMove rfl rfl)) ?_
                refine ARL.q0 (v := (.int .i64 p0)) rfl rfl (Light.quiet (opMove rfl rfl)) ?_
                refine ARL.q0 (v := (.int .i64 (W (x8_l0 * p0)))) rfl rfl (Light.quiet (opInt rfl rfl rfl rfl)) ?_
                refine ARL.q0 (v := (.int .i64 x10_l2)) rfl rfl (Light.quiet (opMove rfl rfl)) ?_
                refine ARL.q0 (v := (.int .i64 (W (((W (x8_l0 * p0))) + x10_l2)))) rfl rfl (Light.quiet (opInt rfl rfl rfl rfl)) ?_
                obtain ⟨a70, ha70, hF⟩ := bindE hF
                refine ARL.q0 (v := (.rptr [(.int .i64 a70)])) rfl rfl (Light.quiet (kIx (f := (AV.int .i64)) ha70 rfl rfl rfl elemA_27 sizeA_3 rfl)) ?_
                refine ARL.q0 (v := (.int .i64 a70)) rfl rfl (Light.quiet (opLoadR rfl aggA_3 rfl rfl)) ?_
                refine ARL.q0 (v := (.list 1 (List.map (AV.int .i64) p2))) rfl rfl (Light.quiet (opMove rfl rfl)) ?_
                refine ARL.q0 (v := (.int .i64 x10_l2)) rfl rfl (Light.quiet (opMove rfl rfl)) ?_
                refine ARL.q0 (v := (.int .i64 p0)) rfl rfl (Light.quiet (opMove rfl rfl)) ?_
                refine ARL.q0 (v := (.int .i64 (W (x10_l2 * p0)))) rfl rfl (Light.quiet (opInt rfl rfl rfl rfl)) ?_
                refine ARL.q0 (v := (.int .i64 x9_l1)) rfl rfl (Light.quiet (opMove rfl rfl)) ?_
                refine ARL.q0 (v := (.int .i64 (W (((W (x10_l2 * p0))) + x9_l1)))) rfl rfl (Light.quiet (opInt rfl rfl rfl rfl)) ?_
                obtain ⟨a78, ha78, hF⟩ := bindE hF
                refine ARL.q0 (v := (.rptr [(.int .i64 a78)])) rfl rfl (Light.quiet (kIx (f := (AV.int .i64)) ha78 rfl rfl rfl elemA_27 sizeA_3 rfl)) ?_
                refine ARL.q0 (v := (.int .i64 a78)) rfl rfl (Light.quiet (opLoadR rfl aggA_3 rfl rfl)) ?_
                refine ARL.q0 (v := (.int .i64 (spec_l1Max a70 a78))) rfl rfl ((qCall rfl rfl call_94 (spec_l1Max_ok a70 a78) rfl)) ?_
                refine ARL.q0 (v := (.int .i64 (spec_l1Max a62 ((spec_l1Max a70 a78))))) rfl rfl ((qCall rfl rfl call_94 (spec_l1Max_ok a62 ((spec_l1Max a70 a78))) rfl)) ?_
                obtain ⟨m82, hm82, hF⟩ := bindE hF
                refine ARL.q0 (v := (ptrTo v14 m82 1)) rfl rfl (Light.quiet (kIxO hS (j := 0) rfl hm82 rfl rfl rfl elemA_27 sizeA_3)) ?_
                refine ARL.n rfl rfl rfl rfl (hSt (f := (AV.int .i64)) (a := (spec_l1Max a62 ((spec_l1Max a70 a78)))) hS (j := 0) rfl hm82 rfl sizeA_3 rfl rfl ⟨rfl, rfl, rfl⟩ ?_); rintro G35 hS
                refine ARL.done ?_
                refine QBlock.nrm ?_
                refine QThen.nrm ?_
                refine AWP.lastR rfl ?_
                refine ASL.q (v := (.int .i64 x10_l2)) rfl rfl (Light.quiet (opMove rfl rfl)) ?_
                refine ASL.q (v := (.int .i64 (W (x10_l2 + 1)))) rfl rfl (Light.quiet (opInt rfl rfl rfl rfl)) ?_
                refine ASL.q (v := (.int .i64 (W (x10_l2 + 1)))) rfl rfl (Light.quiet (opAssign rfl rfl)) ?_
                refine ASL.done ?_
                refine QThen.nrm ?_
                exact ⟨((y26.set m82 ((spec_l1Max a62 ((spec_l1Max a70 a78))))), (W (x10_l2 + 1))), (), (someE hF).symm, ⟨rfl, rfl, rfl, rfl, rfl, rfl, rfl, trivial⟩, (hS.pick [0] rfl rfl)⟩
              · skip
                refine AWP.skip ?_
                refine QBlock.nrm ?_
                refine QThen.nrm ?_
                refine AWP.lastR rfl ?_
                refine ASL.q (v := (.int .i64 x10_l2)) rfl rfl (Light.quiet (opMove rfl rfl)) ?_
                refine ASL.q (v := (.int .i64 (W (x10_l2 + 1)))) rfl rfl (Light.quiet (opInt rfl rfl rfl rfl)) ?_
                refine ASL.q (v := (.int .i64 (W (x10_l2 + 1)))) rfl rfl (Light.quiet (opAssign rfl rfl)) ?_
                refine ASL.done ?_
                refine QThen.nrm ?_
                exact ⟨(y26, (W (x10_l2 + 1))), (), (someE hF).symm, ⟨rfl, rfl, rfl, rfl, rfl, rfl, rfl, trivial⟩, (hS.pick [0] rfl rfl)⟩
            · skip
              refine AWP.exit ?_
              refine QThen.ext ?_
              refine QThen.ext ?_
              refine QBlock.hit ?_
              obtain rfl := (hx28 _ (someE hF).symm)
              have hF := hR31
              refine QBlock.nrm ?_
              refine QThen.nrm ?_
              exact ⟨y26, ⟨rfl, rfl, rfl, rfl, rfl, rfl, trivial⟩, (hS.pick [0] rfl rfl), hF⟩
        · skip
          refine AWP.exit ?_
          refine QThen.ext ?_
          refine QThen.ext ?_
          refine QBlock.hit ?_
          obtain rfl := (hx18 _ (someE hF).symm)
          have hF := hR21
          refine QBlock.nrm ?_
          refine QThen.nrm ?_
          exact ⟨y16, ⟨rfl, rfl, rfl, rfl, rfl, trivial⟩, (hS.pick [0] rfl rfl), hF⟩
    · skip
      refine AWP.exit ?_
      refine QThen.ext ?_
      refine QThen.ext ?_
      refine QBlock.hit ?_
      obtain rfl := (hx8 _ (someE hF).symm)
      have hF := hR11
      refine QThen.nrm ?_
      exact ⟨y6, ⟨rfl, trivial⟩, (hS.pick [0] rfl rfl), hF⟩

set_option maxRecDepth 10000 in
theorem spec_l3Same_ok {p0 : (List Int)} {p1 : (List Int)} {r : Bool} (hF : spec_l3Same p0 p1 = some r) : PC Try.prog 100 [(.list 1 (List.map (AV.int .i64) p0)), (.list 1 (List.map (AV.int .i64) p1))] fun v => v = (.bool r) := by
  refine PC.enter Try.func100 rfl Try.ntmps100 (by simp) ?_
  have hS := Sep.void; unfold spec_l3Same at hF
  refine AWP.seqR rfl ?_
  refine ASL.q (v := (.bool false)) rfl rfl (Light.quiet (opAssign rfl rfl)) ?_
  refine ASL.done ?_
  refine AWP.seq ?_
  refine AWP.seqR rfl ?_
  refine ASL.q (v := (.list 1 (List.map (AV.int .i64) p0))) rfl rfl (Light.quiet (opMove rfl rfl)) ?_
  refine ASL.q (v := (.int .i64 (p0.length : Int))) rfl rfl (Light.quiet (opLenMap (f := (AV.int .i64)) rfl rfl rfl lenT_27 rfl)) ?_
  refine ASL.q (v := (.list 1 (List.map (AV.int .i64) p1))) rfl rfl (Light.quiet (opMove rfl rfl)) ?_
  refine ASL.q (v := (.int .i64 (p1.length : Int))) rfl rfl (Light.quiet (opLenMap (f := (AV.int .i64)) rfl rfl rfl lenT_27 rfl)) ?_
  refine ASL.q (v := (.bool (decide (((p0.length : Int)) ≠ ((p1.length : Int)))))) rfl rfl (Light.quiet (opInt rfl rfl rfl rfl)) ?_
  refine ASL.done ?_
  refine AWP.ifP hF rfl (fun hc1 hF => ?_) (fun hc1 hF => ?_)
  · skip
    refine AWP.seqR rfl ?_
    refine ASL.q (v := (.bool false)) rfl rfl (Light.quiet (opAssign rfl rfl)) ?_
    refine ASL.done ?_
    refine AWP.ret ?_
    refine QThen.rt ?_
    obtain rfl := someE hF
    exact QRet.sole (v := (.bool false)) ⟨rfl, trivial⟩ rfl
  · skip
    refine AWP.skip ?_
    refine QThen.nrm ?_
    refine AWP.seqM (fun e H => E.Told e [] ∧ E.Sep H [] ∧ spec_l3Same.k0 = some r) ?_ ?_
    · rintro e0 G2 ⟨hT, hS, hF⟩; refine AWP.only _ hT ?_; unfold spec_l3Same.k0 at hF
      refine AWP.seqR rfl ?_
      refine ASL.q (v := (.bool true)) rfl rfl (Light.quiet (opAssign rfl rfl)) ?_
      refine ASL.done ?_
      refine AWP.ret ?_
      obtain rfl := someE hF
      exact QRet.sole (v := (.bool true)) ⟨rfl, trivial⟩ rfl
    · skip
      refine AWP.seqR rfl ?_
      refine ASL.q (v := (.int .i64 0)) rfl rfl (Light.quiet (opAssign rfl rfl)) ?_
      refine ASL.done ?_
      refine AWP.block ?_
      obtain ⟨o6, hL5, hR7⟩ := bindE hF
      refine AWP.loopF (ω := Unit) hL5 (fun s w => [(0, (.list 1 (List.map (AV.int .i64) p0))), (1, (.list 1 (List.map (AV.int .i64) p1))), (5, (.int .i64 s))]) (fun s w => []) () ⟨rfl, rfl, rfl, trivial⟩ (hS.pick [] rfl rfl) ?_
      rintro x5_l0 _ G8 hS x3 hF hx4
      try dsimp only at hS ⊢
      have hF : spec_l3Same.b0 p0 p1 x5_l0 = some x3 := hF; unfold spec_l3Same.b0 at hF
      refine AWP.seq ?_
      refine AWP.seqR rfl ?_
      refine ASL.q (v := (.int .i64 x5_l0)) rfl rfl (Light.quiet (opMove rfl rfl)) ?_
      refine ASL.q (v := (.list 1 (List.map (AV.int .i64) p0))) rfl rfl (Light.quiet (opMove rfl rfl)) ?_
      refine ASL.q (v := (.int .i64 (p0.length : Int))) rfl rfl (Light.quiet (opLenMap (f := (AV.int .i64)) rfl rfl rfl lenT_27 rfl)) ?_
      refine ASL.q (v := (.bool (decide (x5_l0 < ((p0.length : Int)))))) rfl rfl (Light.quiet (opInt rfl rfl rfl rfl)) ?_
      refine ASL.done ?_
      refine AWP.ifP hF rfl (fun hc9 hF => ?_) (fun hc9 hF => ?_)
      · skip
        refine AWP.skip ?_
        refine QThen.nrm ?_
        refine AWP.seq ?_
        refine AWP.block ?_
        refine AWP.seqD [(0, false), (1, false), (2, false), (3, false), (4, false), (5, false), (6, false), (7, false), (8, false)] mixed (by kernel_rfl) rfl ?_
        refine ARL.q0 (v := (.list 1 (List.map (AV.int .i64) p0))) rfl rfl (Light.quiet (opMove rfl rfl)) ?_
        refine ARL.q0 (v := (.int .i64 x5_l0)) rfl rfl (Light.quiet (opMove rfl rfl)) ?_
        obtain ⟨a19, ha19, hF⟩ := bindE hF
        refine ARL.q0 (v := (.rptr [(.int .i64 a19)])) rfl rfl (Light.quiet (kIx (f := (AV.int .i64)) ha19 rfl rfl rfl elemA_27 sizeA_3 rfl)) ?_
        refine ARL.q0 (v := (.int .i64 a19)) rfl rfl (Light.quiet (opLoadR rfl aggA_3 rfl rfl)) ?_
        refine ARL.q0 (v := (.list 1 (List.map (AV.int .i64) p1))) rfl rfl (Light.quiet (opMove rfl rfl)) ?_
        refine ARL.q0 (v := (.int .i64 x5_l0)) rfl rfl (Light.quiet (opMove rfl rfl)) ?_
        obtain ⟨a23, ha23, hF⟩ := bindE hF
        refine ARL.q0 (v := (.rptr [(.int .i64 a23)])) rfl rfl (Light.quiet (kIx (f := (AV.int .i64)) ha23 rfl rfl rfl elemA_27 sizeA_3 rfl)) ?_
        refine ARL.q0 (v := (.int .i64 a23)) rfl rfl (Light.quiet (opLoadR rfl aggA_3 rfl rfl)) ?_
        refine ARL.q0 (v := (.bool (decide (a19 ≠ a23)))) rfl rfl (Light.quiet (opInt rfl rfl rfl rfl)) ?_
        refine ARL.done ?_
        refine AWP.ifP hF rfl (fun hc10 hF => ?_) (fun hc10 hF => ?_)
        · skip
          refine AWP.seqR rfl ?_
          refine ASL.q (v := (.bool false)) rfl rfl (Light.quiet (opAssign rfl rfl)) ?_
          refine ASL.done ?_
          refine AWP.ret ?_
          refine QBlock.ret ?_
          refine QThen.rt ?_
          refine QThen.rt ?_
          refine QBlock.ret ?_
          refine QThen.rt ?_
          obtain rfl := (hx4 _ (someE hF).symm)
          have hF := hR7
          have hF := sumR hF
          obtain rfl := someE hF
          exact QRet.sole (v := (.bool false)) ⟨rfl, trivial⟩ rfl
        · skip
          refine AWP.skip ?_
          refine QBlock.nrm ?_
          refine QThen.nrm ?_
          refine AWP.lastR rfl ?_
          refine ASL.q (v := (.int .i64 x5_l0)) rfl rfl (Light.quiet (opMove rfl rfl)) ?_
          refine ASL.q (v := (.int .i64 (W (x5_l0 + 1)))) rfl rfl (Light.quiet (opInt rfl rfl rfl rfl)) ?_
          refine ASL.q (v := (.int .i64 (W (x5_l0 + 1)))) rfl rfl (Light.quiet (opAssign rfl rfl)) ?_
          refine ASL.done ?_
          refine QThen.nrm ?_
          exact ⟨(W (x5_l0 + 1)), (), (someE hF).symm, ⟨rfl, rfl, rfl, trivial⟩, (hS.pick [] rfl rfl)⟩
      · skip
        refine AWP.exit ?_
        refine QThen.ext ?_
        refine QThen.ext ?_
        refine QBlock.hit ?_
        obtain rfl := (hx4 _ (someE hF).symm)
        have hF := hR7
        have hF := sumL hF
        refine QThen.nrm ?_
        exact ⟨trivial, (hS.pick [] rfl rfl), hF⟩

set_option maxRecDepth 10000 in
theorem spec_l14Find_ok {p0 : (List TBoxed)} {p1 : (List Int)} {r : Int} (hF : spec_l14Find p0 p1 = some r) : PC Try.prog 68 [(.list 2 (List.map TBoxed.av p0)), (.list 1 (List.map (AV.int .i64) p1))] fun v => v = (.int .i64 r) := by
  refine PC.enter Try.func68 rfl Try.ntmps68 (by simp) ?_
  have hS := Sep.void; unfold spec_l14Find at hF
  refine AWP.seqR rfl ?_
  refine ASL.q (v := (.int .i64 0)) rfl rfl (Light.quiet (opAssign rfl rfl)) ?_
  refine ASL.done ?_
  refine AWP.seqM (fun e H => E.Told e [] ∧ E.Sep H [] ∧ spec_l14Find.k0 = some r) ?_ ?_
  · rintro e0 G1 ⟨hT, hS, hF⟩; refine AWP.only _ hT ?_; unfold spec_l14Find.k0 at hF
    refine AWP.seqR rfl ?_
    refine ASL.q (v := (.int .i64 (-1))) rfl rfl (Light.quiet (opAssign rfl rfl)) ?_
    refine ASL.done ?_
    refine AWP.ret ?_
    obtain rfl := someE hF
    exact QRet.sole (v := (.int .i64 (-1))) ⟨rfl, trivial⟩ rfl
  · skip
    refine AWP.seqR rfl ?_
    refine ASL.q (v := (.int .i64 0)) rfl rfl (Light.quiet (opAssign rfl rfl)) ?_
    refine ASL.done ?_
    refine AWP.block ?_
    obtain ⟨o5, hL4, hR6⟩ := bindE hF
    refine AWP.loopF (ω := Unit) hL4 (fun s w => [(0, (.list 2 (List.map TBoxed.av p0))), (1, (.list 1 (List.map (AV.int .i64) p1))), (5, (.int .i64 s))]) (fun s w => []) () ⟨rfl, rfl, rfl, trivial⟩ (hS.pick [] rfl rfl) ?_
    rintro x5_l0 _ G7 hS x2 hF hx3
    try dsimp only at hS ⊢
    have hF : spec_l14Find.b0 p0 p1 x5_l0 = some x2 := hF; unfold spec_l14Find.b0 at hF
    refine AWP.seq ?_
    refine AWP.seqR rfl ?_
    refine ASL.q (v := (.int .i64 x5_l0)) rfl rfl (Light.quiet (opMove rfl rfl)) ?_
    refine ASL.q (v := (.list 2 (List.map TBoxed.av p0))) rfl rfl (Light.quiet (opMove rfl rfl)) ?_
    refine ASL.q (v := (.int .i64 (p0.length : Int))) rfl rfl (Light.quiet (opLenMap (f := TBoxed.av) rfl rfl rfl lenT_47 rfl)) ?_
    refine ASL.q (v := (.bool (decide (x5_l0 < ((p0.length : Int)))))) rfl rfl (Light.quiet (opInt rfl rfl rfl rfl)) ?_
    refine ASL.done ?_
    refine AWP.ifP hF rfl (fun hc8 hF => ?_) (fun hc8 hF => ?_)
    · skip
      refine AWP.skip ?_
      refine QThen.nrm ?_
      refine AWP.seq ?_
      refine AWP.block ?_
      refine AWP.seqR rfl ?_
      refine ASL.q (v := (.list 2 (List.map TBoxed.av p0))) rfl rfl (Light.quiet (opMove rfl rfl)) ?_
      refine ASL.q (v := (.int .i64 x5_l0)) rfl rfl (Light.quiet (opMove rfl rfl)) ?_
      obtain ⟨a14, ha14, hF⟩ := bindE hF
      refine ASL.q (v := (.rptr [(.list 1 (List.map (AV.int .i64) a14.word)), (.list 1 (List.map (AV.int .i64) a14.box))])) rfl rfl (Light.quiet (kIx (f := TBoxed.av) ha14 rfl rfl rfl elemA_47 sizeA_51 rfl)) ?_
      refine ASL.q (v := (.rptr [(.list 1 (List.map (AV.int .i64) a14.box))])) rfl rfl (Light.quiet (opFieldAddrR rfl fieldA_51_1 rfl rfl)) ?_
      refine ASL.q (v := (.list 1 (List.map (AV.int .i64) a14.box))) rfl rfl (Light.quiet (opLoadR rfl aggA_27 rfl rfl)) ?_
      refine ASL.q (v := (.list 1 (List.map (AV.int .i64) p1))) rfl rfl (Light.quiet (opMove rfl rfl)) ?_
      obtain ⟨a18, ha18, hF⟩ := bindE hF
      refine ASL.q (v := (.bool a18)) rfl rfl ((qCall rfl rfl call_100 (spec_l3Same_ok ha18) rfl)) ?_
      refine ASL.done ?_
      refine AWP.ifB hF rfl (fun hc9 hF => ?_) (fun hc9 hF => ?_)
      · skip
        refine AWP.seqR rfl ?_
        refine ASL.q (v := (.int .i64 x5_l0)) rfl rfl (Light.quiet (opMove rfl rfl)) ?_
        refine ASL.q (v := (.int .i64 x5_l0)) rfl rfl (Light.quiet (opAssign rfl rfl)) ?_
        refine ASL.done ?_
        refine AWP.ret ?_
        refine QBlock.ret ?_
        refine QThen.rt ?_
        refine QThen.rt ?_
        refine QBlock.ret ?_
        refine QThen.rt ?_
        obtain rfl := (hx3 _ (someE hF).symm)
        have hF := hR6
        have hF := sumR hF
        obtain rfl := someE hF
        exact QRet.sole (v := (.int .i64 x5_l0)) ⟨rfl, trivial⟩ rfl
      · skip
        refine AWP.skip ?_
        refine QBlock.nrm ?_
        refine QThen.nrm ?_
        refine AWP.lastR rfl ?_
        refine ASL.q (v := (.int .i64 x5_l0)) rfl rfl (Light.quiet (opMove rfl rfl)) ?_
        refine ASL.q (v := (.int .i64 (W (x5_l0 + 1)))) rfl rfl (Light.quiet (opInt rfl rfl rfl rfl)) ?_
        refine ASL.q (v := (.int .i64 (W (x5_l0 + 1)))) rfl rfl (Light.quiet (opAssign rfl rfl)) ?_
        refine ASL.done ?_
        refine QThen.nrm ?_
        exact ⟨(W (x5_l0 + 1)), (), (someE hF).symm, ⟨rfl, rfl, rfl, trivial⟩, (hS.pick [] rfl rfl)⟩
    · skip
      refine AWP.exit ?_
      refine QThen.ext ?_
      refine QThen.ext ?_
      refine QBlock.hit ?_
      obtain rfl := (hx3 _ (someE hF).symm)
      have hF := hR6
      have hF := sumL hF
      refine QThen.nrm ?_
      exact ⟨trivial, (hS.pick [] rfl rfl), hF⟩

set_option maxRecDepth 10000 in
theorem spec_BoxesOf_ok {p0 : TAuto} {r : ((List TBoxed) × Bool)} (hF : spec_BoxesOf p0 = some r) : PC Try.prog 26 [(TAuto.av p0)] fun v => v = .tup [(.list 2 (List.map TBoxed.av r.1)), (.bool r.2)] := by
  refine PC.enter Try.func26 rfl Try.ntmps26 (by simp) ?_
  have hS := Sep.void; unfold spec_BoxesOf at hF
  refine AWP.seqR rfl ?_
  refine ASL.q (v := (.rptr [(.int .i64 p0.letters), (.int .i64 p0.states), (.int .i64 p0.start), (.list 4 (List.map TEdge.av p0.edges))])) rfl rfl ((qBoxI (v := (TAuto.av p0)) rfl rfl rfl rfl)) ?_
  refine ASL.q (v := (.list 2 (List.map TBoxed.av []))) rfl rfl (Light.quiet (opNilL rfl rfl)) ?_
  refine ASL.q (v := (.bool false)) rfl rfl (Light.quiet (opAssign rfl rfl)) ?_
  refine ASL.done ?_
  refine AWP.seq ?_
  refine AWP.seqR rfl ?_
  refine ASL.q (v := (TAuto.av p0)) rfl rfl (Light.quiet (opLoadRA rfl aggA_26 sizeA_26 rfl (nlt rfl) rfl)) ?_
  obtain ⟨a9, ha9, hF⟩ := bindE hF
  refine ASL.q (v := (.bool a9)) rfl rfl ((qCall rfl rfl call_63 (spec_l14Right_ok ha9) rfl)) ?_
  refine ASL.q (v := (.bool (!a9))) rfl rfl (Light.quiet (opNot rfl rfl)) ?_
  refine ASL.done ?_
  refine AWP.ifB hF rfl (fun hc1 hF => ?_) (fun hc1 hF => ?_)
  · skip
    refine AWP.seqR rfl ?_
    refine ASL.q (v := (.list 2 (List.map TBoxed.av []))) rfl rfl ((qLit (xs := []) rfl elemA_47 sizeA_51 zeroA_51 rfl rfl rfl rfl (by simp [cells, TBoxed.av]) (nlt rfl))) ?_
    refine ASL.q (v := (.list 2 (List.map TBoxed.av []))) rfl rfl (Light.quiet (opAssign rfl rfl)) ?_
    refine ASL.q (v := (.bool false)) rfl rfl (Light.quiet (opAssign rfl rfl)) ?_
    refine ASL.done ?_
    refine AWP.ret ?_
    refine QThen.rt ?_
    obtain rfl := someE hF
    exact QRet.many (vs := [(.list 2 (List.map TBoxed.av [])), (.bool false)]) ⟨rfl, rfl, trivial⟩ (by simp) rfl
  · skip
    refine AWP.skip ?_
    refine QThen.nrm ?_
    refine AWP.seqR rfl ?_
    refine ASL.q (v := (.list 1 (List.map (AV.int .i64) []))) rfl rfl ((qLit (xs := []) rfl elemA_27 sizeA_3 zeroA_3 rfl rfl rfl rfl (by simp [cells]) (nlt rfl))) ?_
    refine ASL.q (v := (.rptr [(.int .i64 p0.states), (.int .i64 p0.start), (.list 4 (List.map TEdge.av p0.edges))])) rfl rfl (Light.quiet (opFieldAddrR rfl fieldA_26_1 rfl rfl)) ?_
    refine ASL.q (v := (.int .i64 p0.states)) rfl rfl (Light.quiet (opLoadR rfl aggA_3 rfl rfl)) ?_
    obtain ⟨a15, ha15, hF⟩ := bindE hF
    refine ASL.q (v := (.list 1 (List.map (AV.int .i64) a15))) rfl rfl ((qCall rfl rfl call_64 (PO.list (spec_BoxOne_ok ha15)) rfl)) ?_
    refine ASL.q (v := (.agg [(.list 1 (List.map (AV.int .i64) [])), (.list 1 (List.map (AV.int .i64) a15))])) rfl rfl (Light.quiet (opBuildZ (zs := [(.list 1 (List.map (AV.int .i64) [])), (.list 1 (List.map (AV.int .i64) []))]) rfl plan_51 zeroA_51 ⟨.inr ⟨_, rfl, rfl⟩, .inr ⟨_, rfl, rfl⟩, trivial⟩ rfl)) ?_
    refine ASL.x rfl rfl (hLit (f := TBoxed.av) (zs := [(TBoxed.mk ([]) a15)]) hS rfl rfl elemA_47 sizeA_51 zeroA_51 rfl rfl rfl rfl (by simp [cells, TBoxed.av]) (nlt rfl) ?_); rintro v17 G2 hK hS
    refine ASL.q (v := v17) rfl rfl (Light.quiet (opAssign rfl rfl)) ?_
    refine ASL.done ?_
    refine AWP.seqM (fun e H => ∃ y4 : (List TBoxed), ∃ w5 : AV, E.Told e [(4, w5)] ∧ E.Sep H [.row 2 w5 (List.map TBoxed.av y4)] ∧ spec_BoxesOf.k0 y4 = some r) ?_ ?_
    · rintro e0 G8 ⟨y4, w5, hT, hS, hF⟩; refine AWP.only _ hT ?_; unfold spec_BoxesOf.k0 at hF
      refine AWP.frz (L' := []) hS (k := 0) rfl [(4, (.list 2 (List.map TBoxed.av y4)))] ⟨.inr (.inl ⟨rfl, rfl⟩), trivial⟩ trivial (fun G7 hS => ?_)
      refine AWP.seqR rfl ?_
      refine ASL.q (v := (.list 2 (List.map TBoxed.av y4))) rfl rfl (Light.quiet (opMove rfl rfl)) ?_
      refine ASL.q (v := (.list 2 (List.map TBoxed.av y4))) rfl rfl (Light.quiet (opAssign rfl rfl)) ?_
      refine ASL.q (v := (.bool true)) rfl rfl (Light.quiet (opAssign rfl rfl)) ?_
      refine ASL.done ?_
      refine AWP.ret ?_
      obtain rfl := someE hF
      exact QRet.many (vs := [(.list 2 (List.map TBoxed.av y4)), (.bool true)]) ⟨rfl, rfl, trivial⟩ (by simp) rfl
    · skip
      refine AWP.seqR rfl ?_
      refine ASL.q (v := (.int .i64 0)) rfl rfl (Light.quiet (opAssign rfl rfl)) ?_
      refine ASL.done ?_
      refine AWP.block ?_
      obtain ⟨o15, hL14, hR16⟩ := bindE hF
      refine AWP.loopF (ω := AV) hL14 (fun s w => [(1, (.rptr [(.int .i64 p0.letters), (.int .i64 p0.states), (.int .i64 p0.start), (.list 4 (List.map TEdge.av p0.edges))])), (4, w), (5, (.int .i64 s.2))]) (fun s w => [.row 2 w (List.map TBoxed.av s.1)]) v17 ⟨rfl, rfl, rfl, trivial⟩ (hS.pick [0] rfl rfl) ?_
      rintro ⟨y9, x5_l0⟩ w10 G17 hS x12 hF hx13
      try dsimp only at hS ⊢
      have hF : spec_BoxesOf.b0 p0 y9 x5_l0 = some x12 := hF; unfold spec_BoxesOf.b0 at hF
      refine AWP.seq ?_
      refine AWP.seqR rfl ?_
      refine ASL.q (v := (.int .i64 x5_l0)) rfl rfl (Light.quiet (opMove rfl rfl)) ?_
      refine ASL.q (v := w10) rfl rfl (Light.quiet (opMove rfl rfl)) ?_
      refine ASL.q (v := (.int .i64 (y9.length : Int))) rfl rfl (Light.quiet (kLen hS (j := 0) rfl rfl rfl rfl lenT_47 rfl)) ?_
      refine ASL.q (v := (.bool (decide (x5_l0 < ((y9.length : Int)))))) rfl rfl (Light.quiet (opInt rfl rfl rfl rfl)) ?_
      refine ASL.done ?_
      refine AWP.ifP hF rfl (fun hc18 hF => ?_) (fun hc18 hF => ?_)
      · skip
        refine AWP.skip ?_
        refine QThen.nrm ?_
        refine AWP.seqM (fun e H => ∃ y19 : (List TBoxed), ∃ w20 : AV, E.Told e [(1, (.rptr [(.int .i64 p0.letters), (.int .i64 p0.states), (.int .i64 p0.start), (.list 4 (List.map TEdge.av p0.edges))])), (4, w20), (5, (.int .i64 x5_l0))] ∧ E.Sep H [.row 2 w20 (List.map TBoxed.av y19)] ∧ spec_BoxesOf.k1 x5_l0 y19 = some x12) ?_ ?_
        · rintro e0 G22 ⟨y19, w20, hT, hS, hF⟩; refine AWP.only _ hT ?_; unfold spec_BoxesOf.k1 at hF
          refine AWP.lastR rfl ?_
          refine ASL.q (v := (.int .i64 x5_l0)) rfl rfl (Light.quiet (opMove rfl rfl)) ?_
          refine ASL.q (v := (.int .i64 (W (x5_l0 + 1)))) rfl rfl (Light.quiet (opInt rfl rfl rfl rfl)) ?_
          refine ASL.q (v := (.int .i64 (W (x5_l0 + 1)))) rfl rfl (Light.quiet (opAssign rfl rfl)) ?_
          refine ASL.done ?_
          refine QThen.nrm ?_
          exact ⟨(y19, (W (x5_l0 + 1))), w20, (someE hF).symm, ⟨rfl, rfl, rfl, trivial⟩, (hS.pick [0] rfl rfl)⟩
        · skip
          refine AWP.block ?_
          refine AWP.seqR rfl ?_
          refine ASL.q (v := (.int .i64 0)) rfl rfl (Light.quiet (opAssign rfl rfl)) ?_
          refine ASL.done ?_
          refine AWP.block ?_
          obtain ⟨o29, hL28, hR30⟩ := bindE hF
          refine AWP.loopF (ω := AV) hL28 (fun s w => [(1, (.rptr [(.int .i64 p0.letters), (.int .i64 p0.states), (.int .i64 p0.start), (.list 4 (List.map TEdge.av p0.edges))])), (4, w), (5, (.int .i64 x5_l0)), (6, (.int .i64 s.2))]) (fun s w => [.row 2 w (List.map TBoxed.av s.1)]) w10 ⟨rfl, rfl, rfl, rfl, trivial⟩ (hS.pick [0] rfl rfl) ?_
          rintro ⟨y23, x6_l1⟩ w24 G31 hS x26 hF hx27
          try dsimp only at hS ⊢
          have hF : spec_BoxesOf.b1 p0 x5_l0 y23 x6_l1 = some x26 := hF; unfold spec_BoxesOf.b1 at hF
          refine AWP.seq ?_
          refine AWP.seqR rfl ?_
          refine ASL.q (v := (.int .i64 x6_l1)) rfl rfl (Light.quiet (opMove rfl rfl)) ?_
          refine ASL.q (v := (.rptr [(.int .i64 p0.letters), (.int .i64 p0.states), (.int .i64 p0.start), (.list 4 (List.map TEdge.av p0.edges))])) rfl rfl (Light.quiet (opFieldAddrR rfl fieldA_26_0 rfl rfl)) ?_
          refine ASL.q (v := (.int .i64 p0.letters)) rfl rfl (Light.quiet (opLoadR rfl aggA_3 rfl rfl)) ?_
          refine ASL.q (v := (.bool (decide (x6_l1 < p0.letters)))) rfl rfl (Light.quiet (opInt rfl rfl rfl rfl)) ?_
          refine ASL.done ?_
          refine AWP.ifP hF rfl (fun hc32 hF => ?_) (fun hc32 hF => ?_)
          · skip
            refine AWP.skip ?_
            refine QThen.nrm ?_
            refine AWP.seq ?_
            refine AWP.block ?_
            refine AWP.seqD [(0, false), (1, false), (2, false), (3, false), (4, false), (5, false), (6, false), (7, false), (8, false), (9, false), (10, false), (11, false)] mixed (by kernel_rfl) rfl ?_
            refine ARL.q0 (v := (.rptr [(.int .i64 p0.states), (.int .i64 p0.start), (.list 4 (List.map TEdge.av p0.edges))])) rfl rfl (Light.quiet (opFieldAddrR rfl fieldA_26_1 rfl rfl)) ?_
            refine ARL.q0 (v := (.int .i64 p0.states)) rfl rfl (Light.quiet (opLoadR rfl aggA_3 rfl rfl)) ?_
            refine ARL.q0 (v := w24) rfl rfl (Light.quiet (opMove rfl rfl)) ?_
            refine ARL.q0 (v := (.int .i64 x5_l0)) rfl rfl (Light.quiet (opMove rfl rfl)) ?_
            obtain ⟨a34, ha34, hF⟩ := bindE hF
            refine ARL.q0 (v := (ptrTo w24 x5_l0.toNat 2)) rfl rfl (Light.quiet (kIxOx hS (j := 0) rfl ha34 rfl rfl rfl elemA_47 sizeA_51)) ?_
            refine ARL.q0 (v := (ptrOff w24 x5_l0.toNat 2 1)) rfl rfl (Light.quiet (kFldO (p := 1) hS (j := 0) rfl ha34 rfl fieldA_51_1 rfl)) ?_
            refine ARL.q (v := (.list 1 (List.map (AV.int .i64) a34.box))) rfl rfl (hS.aliveR (k := 0) rfl) (Light.quiet (kLdP (f := TBoxed.av) hS (j := 0) rfl ha34 rfl aggA_27 rfl rfl)) ?_
            refine ARL.q0 (v := (TAuto.av p0)) rfl rfl (Light.quiet (opLoadRA rfl aggA_26 sizeA_26 rfl (nlt rfl) rfl)) ?_
            refine ARL.q0 (v := (.int .i64 x6_l1)) rfl rfl (Light.quiet (opMove rfl rfl)) ?_
            obtain ⟨a39, ha39, hF⟩ := bindE hF
            refine ARL.q0 (v := (.list 1 (List.map (AV.int .i64) a39))) rfl rfl ((qCall rfl rfl call_65 (PO.list (spec_l14Letter_ok ha39)) rfl)) ?_
            obtain ⟨a40, ha40, hF⟩ := bindE hF
            refine ARL.q0 (v := (.list 1 (List.map (AV.int .i64) a40))) rfl rfl ((qCall rfl rfl call_58 (PO.list (spec_l14Mul_ok ha40)) rfl)) ?_
            refine ARL.q0 (v := (.list 1 (List.map (AV.int .i64) a40))) rfl rfl (Light.quiet (opAssign rfl rfl)) ?_
            refine ARL.done ?_
            refine AWP.seq ?_
            refine AWP.seqR rfl ?_
            refine ASL.q (v := w24) rfl rfl (Light.quiet (opMove rfl rfl)) ?_
            refine ASL.q (v := (.list 1 (List.map (AV.int .i64) a40))) rfl rfl (Light.quiet (opMove rfl rfl)) ?_
            obtain ⟨a43, ha43, hF⟩ := bindE hF
            refine ASL.q (v := (.int .i64 a43)) rfl rfl ((qCallR hS rfl rfl call_68 (spec_l14Find_ok ha43) ⟨.row (k := 0) rfl, .same _, trivial⟩ (by constructor))) ?_
            refine ASL.q (v := (.bool (decide (a43 ≥ 0)))) rfl rfl (Light.quiet (opInt rfl rfl rfl rfl)) ?_
            refine ASL.done ?_
            refine AWP.ifP hF rfl (fun hc33 hF => ?_) (fun hc33 hF => ?_)
            · skip
              refine AWP.exit ?_
              refine QThen.ext ?_
              refine QBlock.hit ?_
              refine QThen.nrm ?_
              refine AWP.lastR rfl ?_
              refine ASL.q (v := (.int .i64 x6_l1)) rfl rfl (Light.quiet (opMove rfl rfl)) ?_
              refine ASL.q (v := (.int .i64 (W (x6_l1 + 1)))) rfl rfl (Light.quiet (opInt rfl rfl rfl rfl)) ?_
              refine ASL.q (v := (.int .i64 (W (x6_l1 + 1)))) rfl rfl (Light.quiet (opAssign rfl rfl)) ?_
              refine ASL.done ?_
              refine QThen.nrm ?_
              exact ⟨(y23, (W (x6_l1 + 1))), w24, (someE hF).symm, ⟨rfl, rfl, rfl, rfl, trivial⟩, (hS.pick [0] rfl rfl)⟩
            · skip
              refine AWP.skip ?_
              refine QThen.nrm ?_
              refine AWP.seq ?_
              refine AWP.seqR rfl ?_
              refine ASL.q (v := w24) rfl rfl (Light.quiet (opMove rfl rfl)) ?_
              refine ASL.q (v := (.int .i64 (y23.length : Int))) rfl rfl (Light.quiet (kLen hS (j := 0) rfl rfl rfl rfl lenT_47 rfl)) ?_
              refine ASL.q (v := (.bool (decide (((y23.length : Int)) = 150)))) rfl rfl (Light.quiet (opInt rfl rfl rfl rfl)) ?_
              obtain ⟨c48, hc48, hF⟩ := bndE hF
              refine ASL.q (v := (.bool c48)) rfl rfl ((Quiet.cast (Light.quiet (opMove rfl rfl)) (congrArg AV.bool hc48.symm))) ?_
              refine ASL.g (v := w24) (.bool c48) false rfl (wF _) rfl (fun hG => by have q0 := gN hG; subst q0; exact Light.quiet (opMove rfl rfl)) ?_
              refine ASL.g (v := (.int .i64 x5_l0)) (.bool c48) false rfl (wF _) rfl (fun hG => by have q0 := gN hG; subst q0; exact Light.quiet (opMove rfl rfl)) ?_
              obtain ⟨a51, ha51, hF⟩ := bindE hF
              refine ASL.g (v := (ptrTo w24 x5_l0.toNat 2)) (.bool c48) false rfl (wF _) rfl (fun hG => by have q0 := gN hG; subst q0; exact Light.quiet (kIxOx hS (j := 0) rfl (whenE ha51) rfl rfl rfl elemA_47 sizeA_51)) ?_
              refine ASL.g (v := (ptrOff w24 x5_l0.toNat 2 0)) (.bool c48) false rfl (wF _) rfl (fun hG => by have q0 := gN hG; subst q0; exact Light.quiet (kFldO (p := 0) hS (j := 0) rfl (whenE ha51) rfl fieldA_51_0 rfl)) ?_
              refine ASL.g (v := (.list 1 (List.map (AV.int .i64) a51.word))) (.bool c48) false rfl (wF _) rfl (fun hG => by have q0 := gN hG; subst q0; exact Light.quiet (kLdP (f := TBoxed.av) hS (j := 0) rfl (whenE ha51) rfl aggA_27 rfl rfl)) ?_
              refine ASL.g (v := (.int .i64 (a51.word.length : Int))) (.bool c48) false rfl (wF _) rfl (fun hG => by have q0 := gN hG; subst q0; exact Light.quiet (opLenMap (f := (AV.int .i64)) rfl rfl rfl lenT_27 rfl)) ?_
              refine ASL.g (v := (.bool (decide (((a51.word.length : Int)) = 40)))) (.bool c48) false rfl (wF _) rfl (fun hG => by have q0 := gN hG; subst q0; exact Light.quiet (opInt rfl rfl rfl rfl)) ?_
              refine ASL.q (v := (.bool (c48 || (decide (((a51.word.length : Int)) = 40))))) rfl rfl (Light.quiet (opPick (b := c48) rfl rfl (by cases c48 <;> rfl))) ?_
              refine ASL.done ?_
              refine AWP.ifB hF rfl (fun hc34 hF => ?_) (fun hc34 hF => ?_)
              · skip
                refine AWP.seqR rfl ?_
                refine ASL.q (v := (.list 2 (List.map TBoxed.av []))) rfl rfl ((qLit (xs := []) rfl elemA_47 sizeA_51 zeroA_51 rfl rfl rfl rfl (by simp [cells, TBoxed.av]) (nlt rfl))) ?_
                refine ASL.q (v := (.list 2 (List.map TBoxed.av []))) rfl rfl (Light.quiet (opAssign rfl rfl)) ?_
                refine ASL.q (v := (.bool false)) rfl rfl (Light.quiet (opAssign rfl rfl)) ?_
                refine ASL.done ?_
                refine AWP.ret ?_
                refine QThen.rt ?_
                refine QBlock.ret ?_
                refine QThen.rt ?_
                refine QThen.rt ?_
                refine QBlock.ret ?_
                refine QBlock.ret ?_
                refine QThen.rt ?_
                refine QThen.rt ?_
                refine QBlock.ret ?_
                refine QThen.rt ?_
                obtain rfl := (hx27 _ (someE hF).symm)
                have hF := hR30
                have hF := sumR hF
                obtain rfl := (hx13 _ (someE hF).symm)
                have hF := hR16
                have hF := sumR hF
                obtain rfl := someE hF
                exact QRet.many (vs := [(.list 2 (List.map TBoxed.av [])), (.bool false)]) ⟨rfl, rfl, trivial⟩ (by simp) rfl
              · skip
                refine AWP.skip ?_
                refine QThen.nrm ?_
                refine AWP.lastR rfl ?_
                refine ASL.q (v := w24) rfl rfl (Light.quiet (opMove rfl rfl)) ?_
                refine ASL.x rfl rfl (hLit (f := (AV.int .i64)) (zs := []) hS rfl rfl elemA_27 sizeA_3 zeroA_3 rfl rfl rfl rfl (by simp [cells]) (nlt rfl) ?_); rintro v59 G35 hK hS
                refine ASL.q (v := w24) rfl rfl (Light.quiet (opMove rfl rfl)) ?_
                refine ASL.q (v := (.int .i64 x5_l0)) rfl rfl (Light.quiet (opMove rfl rfl)) ?_
                obtain ⟨a62, ha62, hF⟩ := bindE hF
                refine ASL.q (v := (ptrTo w24 x5_l0.toNat 2)) rfl rfl (Light.quiet (kIxOx hS (j := 1) rfl ha62 rfl rfl rfl elemA_47 sizeA_51)) ?_
                refine ASL.q (v := (ptrOff w24 x5_l0.toNat 2 0)) rfl rfl (Light.quiet (kFldO (p := 0) hS (j := 1) rfl ha62 rfl fieldA_51_0 rfl)) ?_
                refine ASL.q (v := (.list 1 (List.map (AV.int .i64) a62.word))) rfl rfl (Light.quiet (kLdP (f := TBoxed.av) hS (j := 1) rfl ha62 rfl aggA_27 rfl rfl)) ?_
                obtain ⟨z65, hz65, hF⟩ := bindE hF
                refine ASL.x rfl rfl (hApp (f := (AV.int .i64)) (ws := a62.word) hS (j := 0) rfl hz65 rfl elemA_27 rfl sizeA_3 bytesA_3 zeroA_3 rfl rfl rfl (fun _ => rfl) ?_); rintro v65 G37 hS
                refine ASL.q (v := (.int .i64 x6_l1)) rfl rfl (Light.quiet (opMove rfl rfl)) ?_
                refine ASL.q (v := (.list 1 (List.map (AV.int .i64) [x6_l1]))) rfl rfl ((qLit (xs := [(.int .i64 x6_l1)]) rfl elemA_27 sizeA_3 zeroA_3 rfl rfl rfl rfl (by simp [cells]) (nlt rfl))) ?_
                obtain ⟨z68, hz68, hF⟩ := bindE hF
                refine ASL.x rfl rfl (hAppF (f := (AV.int .i64)) (ws := [x6_l1]) hS (j := 0) rfl hz68 rfl elemA_27 rfl sizeA_3 bytesA_3 zeroA_3 rfl rfl rfl (fun _ => rfl) ?_); rintro G39 hB hS
                have hS : Sep G39 [.row 2 w24 (List.map TBoxed.av y23)] := hS
                refine ASL.q (v := (.list 1 (List.map (AV.int .i64) a40))) rfl rfl (Light.quiet (opMove rfl rfl)) ?_
                refine ASL.q (v := (.agg [(.list 1 (List.map (AV.int .i64) z68)), (.list 1 (List.map (AV.int .i64) a40))])) rfl rfl (Light.quiet (opBuildZ (zs := [(.list 1 (List.map (AV.int .i64) [])), (.list 1 (List.map (AV.int .i64) []))]) rfl plan_51 zeroA_51 ⟨.inr ⟨_, rfl, rfl⟩, .inr ⟨_, rfl, rfl⟩, trivial⟩ rfl)) ?_
                refine ASL.q (v := (.list 2 (List.map TBoxed.av [(TBoxed.mk z68 a40)]))) rfl rfl ((qLit (xs := [(.agg [(.list 1 (List.map (AV.int .i64) z68)), (.list 1 (List.map (AV.int .i64) a40))])]) rfl elemA_47 sizeA_51 zeroA_51 rfl rfl rfl rfl (by simp [cells, TBoxed.av]) (nlt rfl))) ?_
                obtain ⟨z72, hz72, hF⟩ := bindE hF
                refine ASL.x rfl rfl (hApp (f := TBoxed.av) (ws := [(TBoxed.mk z68 a40)]) hS (j := 0) rfl hz72 rfl elemA_47 rfl sizeA_51 bytesA_51 zeroA_51 rfl rfl rfl (fun _ => rfl) ?_); rintro v72 G40 hS
                refine ASL.q (v := v72) rfl rfl (Light.quiet (opAssign rfl rfl)) ?_
                refine ASL.done ?_
                refine QBlock.nrm ?_
                refine QThen.nrm ?_
                refine AWP.lastR rfl ?_
                refine ASL.q (v := (.int .i64 x6_l1)) rfl rfl (Light.quiet (opMove rfl rfl)) ?_
                refine ASL.q (v := (.int .i64 (W (x6_l1 + 1)))) rfl rfl (Light.quiet (opInt rfl rfl rfl rfl)) ?_
                refine ASL.q (v := (.int .i64 (W (x6_l1 + 1)))) rfl rfl (Light.quiet (opAssign rfl rfl)) ?_
                refine ASL.done ?_
                refine QThen.nrm ?_
                exact ⟨(z72, (W (x6_l1 + 1))), v72, (someE hF).symm, ⟨rfl, rfl, rfl, rfl, trivial⟩, (hS.pick [0] rfl rfl)⟩
          · skip
            refine AWP.exit ?_
            refine QThen.ext ?_
            refine QThen.ext ?_
            refine QBlock.hit ?_
            obtain rfl := (hx27 _ (someE hF).symm)
            have hF := hR30
            have hF := sumL hF
            refine QBlock.nrm ?_
            refine QThen.nrm ?_
            exact ⟨y23, w24, ⟨rfl, rfl, rfl, trivial⟩, (hS.pick [0] rfl rfl), hF⟩
      · skip
        refine AWP.exit ?_
        refine QThen.ext ?_
        refine QThen.ext ?_
        refine QBlock.hit ?_
        obtain rfl := (hx13 _ (someE hF).symm)
        have hF := hR16
        have hF := sumL hF
        refine QThen.nrm ?_
        exact ⟨y9, w10, ⟨rfl, trivial⟩, (hS.pick [0] rfl rfl), hF⟩

set_option maxRecDepth 10000 in
theorem impl_areLetters_ok {p0 : (List Int)} {p1 : Int} {r : Bool} (hF : impl_areLetters p0 p1 = some r) : PC Try.prog 49 [(.list 1 (List.map (AV.int .i64) p0)), (.int .i64 p1)] fun v => v = (.bool r) := by
  refine PC.enter Try.func49 rfl Try.ntmps49 (by simp) ?_
  have hS := Sep.void; unfold impl_areLetters at hF
  refine AWP.seqR rfl ?_
  refine ASL.q (v := (.bool false)) rfl rfl (Light.quiet (opAssign rfl rfl)) ?_
  refine ASL.done ?_
  refine AWP.seqM (fun e H => E.Told e [] ∧ E.Sep H [] ∧ impl_areLetters.k0 = some r) ?_ ?_
  · rintro e0 G1 ⟨hT, hS, hF⟩; refine AWP.only _ hT ?_; unfold impl_areLetters.k0 at hF
    refine AWP.seqR rfl ?_
    refine ASL.q (v := (.bool true)) rfl rfl (Light.quiet (opAssign rfl rfl)) ?_
    refine ASL.done ?_
    refine AWP.ret ?_
    obtain rfl := someE hF
    exact QRet.sole (v := (.bool true)) ⟨rfl, trivial⟩ rfl
  · skip
    refine AWP.seqR rfl ?_
    refine ASL.q (v := (.list 1 (List.map (AV.int .i64) p0))) rfl rfl (Light.quiet (opMove rfl rfl)) ?_
    refine ASL.q (v := (.int .i64 (p0.length : Int))) rfl rfl (Light.quiet (opLenMap (f := (AV.int .i64)) rfl rfl rfl lenT_27 rfl)) ?_
    refine ASL.q (v := (.int .i64 0)) rfl rfl (Light.quiet (opMove rfl rfl)) ?_
    refine ASL.done ?_
    refine AWP.block ?_
    obtain ⟨o5, hL4, hR6⟩ := bindE hF
    refine AWP.loopF (ω := Unit) hL4 (fun s w => [(1, (.int .i64 p1)), (7, (.list 1 (List.map (AV.int .i64) p0))), (8, (.int .i64 (p0.length : Int))), (9, (.int .i64 s))]) (fun s w => []) () ⟨rfl, rfl, rfl, rfl, trivial⟩ (hS.pick [] rfl rfl) ?_
    rintro x9_l0 _ G7 hS x2 hF hx3
    try dsimp only at hS ⊢
    have hF : impl_areLetters.b0 p0 p1 x9_l0 = some x2 := hF; unfold impl_areLetters.b0 at hF
    refine AWP.seqR rfl ?_
    refine ASL.q (v := (.bool (decide (x9_l0 < ((p0.length : Int)))))) rfl rfl (Light.quiet (opInt rfl rfl rfl rfl)) ?_
    refine ASL.done ?_
    refine AWP.seq ?_
    refine AWP.ifP hF rfl (fun hc8 hF => ?_) (fun hc8 hF => ?_)
    · skip
      refine AWP.skip ?_
      refine QThen.nrm ?_
      refine AWP.seq ?_
      refine AWP.block ?_
      refine AWP.seqR rfl ?_
      obtain ⟨a11, ha11, hF⟩ := bindE hF
      refine ASL.q (v := (.rptr [(.int .i64 a11)])) rfl rfl (Light.quiet (kIx (f := (AV.int .i64)) ha11 rfl rfl rfl elemA_27 sizeA_3 rfl)) ?_
      refine ASL.q (v := (.int .i64 a11)) rfl rfl (Light.quiet (opLoadR rfl aggA_3 rfl rfl)) ?_
      refine ASL.q (v := (.int .i64 a11)) rfl rfl (Light.quiet (opAssign rfl rfl)) ?_
      refine ASL.done ?_
      refine AWP.seqR rfl ?_
      refine ASL.q (v := (.int .i64 a11)) rfl rfl (Light.quiet (opMove rfl rfl)) ?_
      refine ASL.q (v := (.int .i64 p1)) rfl rfl (Light.quiet (opMove rfl rfl)) ?_
      refine ASL.q (v := (.int .i64 (W (p1 - 1)))) rfl rfl (Light.quiet (opInt rfl rfl rfl rfl)) ?_
      refine ASL.q (v := (.bool (impl_inRange a11 0 ((W (p1 - 1)))))) rfl rfl ((qCall rfl rfl call_59 (impl_inRange_ok a11 0 ((W (p1 - 1)))) rfl)) ?_
      refine ASL.q (v := (.bool (!(impl_inRange a11 0 ((W (p1 - 1))))))) rfl rfl (Light.quiet (opNot rfl rfl)) ?_
      refine ASL.done ?_
      refine AWP.ifB hF rfl (fun hc9 hF => ?_) (fun hc9 hF => ?_)
      · skip
        refine AWP.seqR rfl ?_
        refine ASL.q (v := (.bool false)) rfl rfl (Light.quiet (opAssign rfl rfl)) ?_
        refine ASL.done ?_
        refine AWP.ret ?_
        refine QBlock.ret ?_
        refine QThen.rt ?_
        refine QThen.rt ?_
        refine QBlock.ret ?_
        refine QThen.rt ?_
        obtain rfl := (hx3 _ (someE hF).symm)
        have hF := hR6
        have hF := sumR hF
        obtain rfl := someE hF
        exact QRet.sole (v := (.bool false)) ⟨rfl, trivial⟩ rfl
      · skip
        refine AWP.skip ?_
        refine QBlock.nrm ?_
        refine QThen.nrm ?_
        refine AWP.lastR rfl ?_
        refine ASL.q (v := (.int .i64 (W (x9_l0 + 1)))) rfl rfl (Light.quiet (opInt rfl rfl rfl rfl)) ?_
        refine ASL.q (v := (.int .i64 (W (x9_l0 + 1)))) rfl rfl (Light.quiet (opMove rfl rfl)) ?_
        refine ASL.done ?_
        refine QThen.nrm ?_
        exact ⟨(W (x9_l0 + 1)), (), (someE hF).symm, ⟨rfl, rfl, rfl, rfl, trivial⟩, (hS.pick [] rfl rfl)⟩
    · skip
      refine AWP.exit ?_
      refine QThen.ext ?_
      refine QThen.ext ?_
      refine QBlock.hit ?_
      obtain rfl := (hx3 _ (someE hF).symm)
      have hF := hR6
      have hF := sumL hF
      refine QThen.nrm ?_
      exact ⟨trivial, (hS.pick [] rfl rfl), hF⟩

set_option maxRecDepth 10000 in
theorem impl_BoxOf_ok {p0 : TAuto} {p1 : (List Int)} {r : (List Int)} (hF : impl_BoxOf p0 p1 = some r) : PO Try.prog 13 [(TAuto.av p0), (.list 1 (List.map (AV.int .i64) p1))] 1 (List.map (AV.int .i64) r) := by
  refine HC.enter Try.func13 rfl Try.ntmps13 (by simp) ?_
  have hS := Sep.void; unfold impl_BoxOf at hF
  refine AWP.seqR rfl ?_
  refine ASL.q (v := (.rptr [(.int .i64 p0.letters), (.int .i64 p0.states), (.int .i64 p0.start), (.list 4 (List.map TEdge.av p0.edges))])) rfl rfl ((qBoxI (v := (TAuto.av p0)) rfl rfl rfl rfl)) ?_
  have hS := hNil (s := 1) (f := (AV.int .i64)) hS
  refine ASL.q (v := .nil) rfl rfl (Light.quiet (opAssign rfl rfl)) ?_
  refine ASL.done ?_
  refine AWP.seq ?_
  refine AWP.seqR rfl ?_
  refine ASL.q (v := (.rptr [(.int .i64 p0.states), (.int .i64 p0.start), (.list 4 (List.map TEdge.av p0.edges))])) rfl rfl (Light.quiet (opFieldAddrR rfl fieldA_26_1 rfl rfl)) ?_
  refine ASL.q (v := (.int .i64 p0.states)) rfl rfl (Light.quiet (opLoadR rfl aggA_3 rfl rfl)) ?_
  refine ASL.q (v := (.bool (impl_isBoxed p0.states))) rfl rfl ((qCall rfl rfl call_48 (impl_isBoxed_ok p0.states) rfl)) ?_
  refine ASL.q (v := (.bool (!(impl_isBoxed p0.states)))) rfl rfl (Light.quiet (opNot rfl rfl)) ?_
  obtain ⟨c12, hc12, hF⟩ := bndE hF
  refine ASL.q (v := (.bool c12)) rfl rfl ((Quiet.cast (Light.quiet (opMove rfl rfl)) (congrArg AV.bool hc12.symm))) ?_
  refine ASL.g (v := (.list 1 (List.map (AV.int .i64) p1))) (.bool c12) false rfl (wF _) rfl (fun hG => by have q0 := gN hG; subst q0; exact Light.quiet (opMove rfl rfl)) ?_
  refine ASL.g (v := (.int .i64 (p1.length : Int))) (.bool c12) false rfl (wF _) rfl (fun hG => by have q0 := gN hG; subst q0; exact Light.quiet (opLenMap (f := (AV.int .i64)) rfl rfl rfl lenT_27 rfl)) ?_
  refine ASL.g (v := (.bool (decide (((p1.length : Int)) > 60)))) (.bool c12) false rfl (wF _) rfl (fun hG => by have q0 := gN hG; subst q0; exact Light.quiet (opInt rfl rfl rfl rfl)) ?_
  refine ASL.q (v := (.bool (c12 || (decide (((p1.length : Int)) > 60))))) rfl rfl (Light.quiet (opPick (b := c12) rfl rfl (by cases c12 <;> rfl))) ?_
  obtain ⟨c17, hc17, hF⟩ := bndE hF
  refine ASL.q (v := (.bool c17)) rfl rfl ((Quiet.cast (Light.quiet (opMove rfl rfl)) (congrArg AV.bool hc17.symm))) ?_
  refine ASL.g (v := (TAuto.av p0)) (.bool c17) false rfl (wF _) rfl (fun hG => by have q0 := gN hG; subst q0; exact Light.quiet (opLoadRA rfl aggA_26 sizeA_26 rfl (nlt rfl) rfl)) ?_
  obtain ⟨a19, ha19, hF⟩ := bindE hF
  refine ASL.g (v := (.bool a19)) (.bool c17) false rfl (wF _) rfl (fun hG => by have q0 := gN hG; subst q0; exact (qCall rfl rfl call_46 (impl_AutoOk_ok (whenE ha19)) rfl)) ?_
  refine ASL.g (v := (.bool (!a19))) (.bool c17) false rfl (wF _) rfl (fun hG => by have q0 := gN hG; subst q0; exact Light.quiet (opNot rfl rfl)) ?_
  refine ASL.q (v := (.bool (c17 || (!a19)))) rfl rfl (Light.quiet (opPick (b := c17) rfl rfl (by cases c17 <;> rfl))) ?_
  obtain ⟨c22, hc22, hF⟩ := bndE hF
  refine ASL.q (v := (.bool c22)) rfl rfl ((Quiet.cast (Light.quiet (opMove rfl rfl)) (congrArg AV.bool hc22.symm))) ?_
  refine ASL.g (v := (.list 1 (List.map (AV.int .i64) p1))) (.bool c22) false rfl (wF _) rfl (fun hG => by have q0 := gN hG; subst q0; exact Light.quiet (opMove rfl rfl)) ?_
  refine ASL.g (v := (.rptr [(.int .i64 p0.letters), (.int .i64 p0.states), (.int .i64 p0.start), (.list 4 (List.map TEdge.av p0.edges))])) (.bool c22) false rfl (wF _) rfl (fun hG => by have q0 := gN hG; subst q0; exact Light.quiet (opFieldAddrR rfl fieldA_26_0 rfl rfl)) ?_
  refine ASL.g (v := (.int .i64 p0.letters)) (.bool c22) false rfl (wF _) rfl (fun hG => by have q0 := gN hG; subst q0; exact Light.quiet (opLoadR rfl aggA_3 rfl rfl)) ?_
  obtain ⟨a26, ha26, hF⟩ := bindE hF
  refine ASL.g (v := (.bool a26)) (.bool c22) false rfl (wF _) rfl (fun hG => by have q0 := gN hG; subst q0; exact (qCall rfl rfl call_49 (impl_areLetters_ok (whenE ha26)) rfl)) ?_
  refine ASL.g (v := (.bool (!a26))) (.bool c22) false rfl (wF _) rfl (fun hG => by have q0 := gN hG; subst q0; exact Light.quiet (opNot rfl rfl)) ?_
  refine ASL.q (v := (.bool (c22 || (!a26)))) rfl rfl (Light.quiet (opPick (b := c22) rfl rfl (by cases c22 <;> rfl))) ?_
  refine ASL.done ?_
  refine AWP.ifB hF rfl (fun hc2 hF => ?_) (fun hc2 hF => ?_)
  · skip
    refine AWP.seqR rfl ?_
    have hS := hNil (s := 1) (f := (AV.int .i64)) hS
    refine ASL.q (v := .nil) rfl rfl (Light.quiet (opAssign rfl rfl)) ?_
    refine ASL.done ?_
    refine AWP.ret ?_
    refine QThen.rt ?_
    obtain rfl := someE hF
    exact QRet.sole (v := .nil) ⟨rfl, trivial⟩ (hS.get (k := 0) rfl)
  · skip
    refine AWP.skip ?_
    refine QThen.nrm ?_
    refine AWP.seqR rfl ?_
    refine ASL.q (v := (.rptr [(.int .i64 p0.states), (.int .i64 p0.start), (.list 4 (List.map TEdge.av p0.edges))])) rfl rfl (Light.quiet (opFieldAddrR rfl fieldA_26_1 rfl rfl)) ?_
    refine ASL.q (v := (.int .i64 p0.states)) rfl rfl (Light.quiet (opLoadR rfl aggA_3 rfl rfl)) ?_
    obtain ⟨a31, ha31, hF⟩ := bindE hF
    refine ASL.x rfl rfl (hCallO hS rfl rfl call_50 (impl_boxOne_ok ha31) rfl ?_); rintro v31 G4 hK hS
    refine ASL.q (v := v31) rfl rfl (Light.quiet (opAssign rfl rfl)) ?_
    refine ASL.done ?_
    refine AWP.seqM (fun e H => ∃ y6 : (List Int), ∃ w7 : AV, E.Told e [(5, w7)] ∧ E.Sep H [.row 1 w7 (List.map (AV.int .i64) y6)] ∧ impl_BoxOf.k0 y6 = some r) ?_ ?_
    · rintro e0 G9 ⟨y6, w7, hT, hS, hF⟩; refine AWP.only _ hT ?_; unfold impl_BoxOf.k0 at hF
      refine AWP.seqR rfl ?_
      refine ASL.q (v := w7) rfl rfl (Light.quiet (opMove rfl rfl)) ?_
      refine ASL.q (v := w7) rfl rfl (Light.quiet (opAssign rfl rfl)) ?_
      refine ASL.done ?_
      refine AWP.ret ?_
      obtain rfl := someE hF
      exact QRet.sole (v := w7) ⟨rfl, trivial⟩ (hS.get (k := 0) rfl)
    · skip
      refine AWP.seqR rfl ?_
      refine ASL.q (v := (.list 1 (List.map (AV.int .i64) p1))) rfl rfl (Light.quiet (opMove rfl rfl)) ?_
      refine ASL.q (v := (.int .i64 (p1.length : Int))) rfl rfl (Light.quiet (opLenMap (f := (AV.int .i64)) rfl rfl rfl lenT_27 rfl)) ?_
      refine ASL.q (v := (.int .i64 0)) rfl rfl (Light.quiet (opMove rfl rfl)) ?_
      refine ASL.done ?_
      refine AWP.block ?_
      obtain ⟨o16, hL15, hR17⟩ := bindE hF
      refine AWP.loopF (ω := AV) hL15 (fun s w => [(2, (.rptr [(.int .i64 p0.letters), (.int .i64 p0.states), (.int .i64 p0.start), (.list 4 (List.map TEdge.av p0.edges))])), (5, w), (32, (.list 1 (List.map (AV.int .i64) p1))), (33, (.int .i64 (p1.length : Int))), (34, (.int .i64 s.2))]) (fun s w => [.row 1 w (List.map (AV.int .i64) s.1)]) v31 ⟨rfl, rfl, rfl, rfl, rfl, trivial⟩ (hS.pick [0] rfl rfl) ?_
      rintro ⟨y10, x34_l0⟩ w11 G18 hS x13 hF hx14
      try dsimp only at hS ⊢
      have hF : impl_BoxOf.b0 p1 p0 y10 x34_l0 = some x13 := hF; unfold impl_BoxOf.b0 at hF
      refine AWP.seqR rfl ?_
      refine ASL.q (v := (.bool (decide (x34_l0 < ((p1.length : Int)))))) rfl rfl (Light.quiet (opInt rfl rfl rfl rfl)) ?_
      refine ASL.done ?_
      refine AWP.seq ?_
      refine AWP.ifP hF rfl (fun hc19 hF => ?_) (fun hc19 hF => ?_)
      · skip
        refine AWP.skip ?_
        refine QThen.nrm ?_
        refine AWP.seq ?_
        refine AWP.block ?_
        refine AWP.seqR rfl ?_
        obtain ⟨a36, ha36, hF⟩ := bindE hF
        refine ASL.q (v := (.rptr [(.int .i64 a36)])) rfl rfl (Light.quiet (kIx (f := (AV.int .i64)) ha36 rfl rfl rfl elemA_27 sizeA_3 rfl)) ?_
        refine ASL.q (v := (.int .i64 a36)) rfl rfl (Light.quiet (opLoadR rfl aggA_3 rfl rfl)) ?_
        refine ASL.q (v := (.int .i64 a36)) rfl rfl (Light.quiet (opAssign rfl rfl)) ?_
        refine ASL.done ?_
        refine AWP.lastD [(0, false), (1, false), (2, false), (3, false), (4, false), (5, false), (6, true), (7, false)] mixed (by kernel_rfl) rfl ?_
        refine ARL.q0 (v := (.rptr [(.int .i64 p0.states), (.int .i64 p0.start), (.list 4 (List.map TEdge.av p0.edges))])) rfl rfl (Light.quiet (opFieldAddrR rfl fieldA_26_1 rfl rfl)) ?_
        refine ARL.q0 (v := (.int .i64 p0.states)) rfl rfl (Light.quiet (opLoadR rfl aggA_3 rfl rfl)) ?_
        refine ARL.q0 (v := w11) rfl rfl (Light.quiet (opMove rfl rfl)) ?_
        refine ARL.q0 (v := (TAuto.av p0)) rfl rfl (Light.quiet (opLoadRA rfl aggA_26 sizeA_26 rfl (nlt rfl) rfl)) ?_
        refine ARL.q0 (v := (.int .i64 a36)) rfl rfl (Light.quiet (opMove rfl rfl)) ?_
        obtain ⟨a43, ha43, hF⟩ := bindE hF
        refine ARL.q0 (v := (.list 1 (List.map (AV.int .i64) a43))) rfl rfl ((qCall rfl rfl call_52 (PO.list (impl_boxLetter_ok ha43)) rfl)) ?_
        obtain ⟨a44, ha44, hF⟩ := bindE hF
        refine ARL.x rfl rfl rfl (hCallOR hS rfl rfl call_51 (impl_boxMul_ok ha44) ⟨.same _, .row (k := 0) rfl, .same _, trivial⟩ (Scal.ints _ _) ?_); rintro v44 G20 hK hS; refine ⟨hK, ?_⟩
        refine ARL.q0 (v := v44) rfl rfl (Light.quiet (opAssign rfl rfl)) ?_
        refine ARL.done ?_
        refine QBlock.nrm ?_
        refine QThen.nrm ?_
        refine AWP.lastR rfl ?_
        refine ASL.q (v := (.int .i64 (W (x34_l0 + 1)))) rfl rfl (Light.quiet (opInt rfl rfl rfl rfl)) ?_
        refine ASL.q (v := (.int .i64 (W (x34_l0 + 1)))) rfl rfl (Light.quiet (opMove rfl rfl)) ?_
        refine ASL.done ?_
        refine QThen.nrm ?_
        exact ⟨(a44, (W (x34_l0 + 1))), v44, (someE hF).symm, ⟨rfl, rfl, rfl, rfl, rfl, trivial⟩, (hS.pick [0] rfl rfl)⟩
      · skip
        refine AWP.exit ?_
        refine QThen.ext ?_
        refine QThen.ext ?_
        refine QBlock.hit ?_
        obtain rfl := (hx14 _ (someE hF).symm)
        have hF := hR17
        refine QThen.nrm ?_
        exact ⟨y10, w11, ⟨rfl, trivial⟩, (hS.pick [0] rfl rfl), hF⟩

set_option maxRecDepth 10000 in
theorem laws_sameInts_ok {p0 : (List Int)} {p1 : (List Int)} {r : Bool} (hF : laws_sameInts p0 p1 = some r) : PC Try.prog 17 [(.list 1 (List.map (AV.int .i64) p0)), (.list 1 (List.map (AV.int .i64) p1))] fun v => v = (.bool r) := by
  refine PC.enter Try.func17 rfl Try.ntmps17 (by simp) ?_
  have hS := Sep.void; unfold laws_sameInts at hF
  refine AWP.seqR rfl ?_
  refine ASL.q (v := (.bool false)) rfl rfl (Light.quiet (opAssign rfl rfl)) ?_
  refine ASL.done ?_
  refine AWP.seq ?_
  refine AWP.seqR rfl ?_
  refine ASL.q (v := (.list 1 (List.map (AV.int .i64) p0))) rfl rfl (Light.quiet (opMove rfl rfl)) ?_
  refine ASL.q (v := (.int .i64 (p0.length : Int))) rfl rfl (Light.quiet (opLenMap (f := (AV.int .i64)) rfl rfl rfl lenT_27 rfl)) ?_
  refine ASL.q (v := (.list 1 (List.map (AV.int .i64) p1))) rfl rfl (Light.quiet (opMove rfl rfl)) ?_
  refine ASL.q (v := (.int .i64 (p1.length : Int))) rfl rfl (Light.quiet (opLenMap (f := (AV.int .i64)) rfl rfl rfl lenT_27 rfl)) ?_
  refine ASL.q (v := (.bool (decide (((p0.length : Int)) ≠ ((p1.length : Int)))))) rfl rfl (Light.quiet (opInt rfl rfl rfl rfl)) ?_
  refine ASL.done ?_
  refine AWP.ifP hF rfl (fun hc1 hF => ?_) (fun hc1 hF => ?_)
  · skip
    refine AWP.seqR rfl ?_
    refine ASL.q (v := (.bool false)) rfl rfl (Light.quiet (opAssign rfl rfl)) ?_
    refine ASL.done ?_
    refine AWP.ret ?_
    refine QThen.rt ?_
    obtain rfl := someE hF
    exact QRet.sole (v := (.bool false)) ⟨rfl, trivial⟩ rfl
  · skip
    refine AWP.skip ?_
    refine QThen.nrm ?_
    refine AWP.seqM (fun e H => E.Told e [] ∧ E.Sep H [] ∧ laws_sameInts.k0 = some r) ?_ ?_
    · rintro e0 G2 ⟨hT, hS, hF⟩; refine AWP.only _ hT ?_; unfold laws_sameInts.k0 at hF
      refine AWP.seqR rfl ?_
      refine ASL.q (v := (.bool true)) rfl rfl (Light.quiet (opAssign rfl rfl)) ?_
      refine ASL.done ?_
      refine AWP.ret ?_
      obtain rfl := someE hF
      exact QRet.sole (v := (.bool true)) ⟨rfl, trivial⟩ rfl
    · skip
      refine AWP.seqR rfl ?_
      refine ASL.q (v := (.int .i64 0)) rfl rfl (Light.quiet (opAssign rfl rfl)) ?_
      refine ASL.done ?_
      refine AWP.block ?_
      obtain ⟨o6, hL5, hR7⟩ := bindE hF
      refine AWP.loopF (ω := Unit) hL5 (fun s w => [(0, (.list 1 (List.map (AV.int .i64) p0))), (1, (.list 1 (List.map (AV.int .i64) p1))), (5, (.int .i64 s))]) (fun s w => []) () ⟨rfl, rfl, rfl, trivial⟩ (hS.pick [] rfl rfl) ?_
      rintro x5_l0 _ G8 hS x3 hF hx4
      try dsimp only at hS ⊢
      have hF : laws_sameInts.b0 p0 p1 x5_l0 = some x3 := hF; unfold laws_sameInts.b0 at hF
      refine AWP.seq ?_
      refine AWP.seqR rfl ?_
      refine ASL.q (v := (.int .i64 x5_l0)) rfl rfl (Light.quiet (opMove rfl rfl)) ?_
      refine ASL.q (v := (.list 1 (List.map (AV.int .i64) p0))) rfl rfl (Light.quiet (opMove rfl rfl)) ?_
      refine ASL.q (v := (.int .i64 (p0.length : Int))) rfl rfl (Light.quiet (opLenMap (f := (AV.int .i64)) rfl rfl rfl lenT_27 rfl)) ?_
      refine ASL.q (v := (.bool (decide (x5_l0 < ((p0.length : Int)))))) rfl rfl (Light.quiet (opInt rfl rfl rfl rfl)) ?_
      refine ASL.done ?_
      refine AWP.ifP hF rfl (fun hc9 hF => ?_) (fun hc9 hF => ?_)
      · skip
        refine AWP.skip ?_
        refine QThen.nrm ?_
        refine AWP.seq ?_
        refine AWP.block ?_
        refine AWP.seqD [(0, false), (1, false), (2, false), (3, false), (4, false), (5, false), (6, false), (7, false), (8, false)] mixed (by kernel_rfl) rfl ?_
        refine ARL.q0 (v := (.list 1 (List.map (AV.int .i64) p0))) rfl rfl (Light.quiet (opMove rfl rfl)) ?_
        refine ARL.q0 (v := (.int .i64 x5_l0)) rfl rfl (Light.quiet (opMove rfl rfl)) ?_
        obtain ⟨a19, ha19, hF⟩ := bindE hF
        refine ARL.q0 (v := (.rptr [(.int .i64 a19)])) rfl rfl (Light.quiet (kIx (f := (AV.int .i64)) ha19 rfl rfl rfl elemA_27 sizeA_3 rfl)) ?_
        refine ARL.q0 (v := (.int .i64 a19)) rfl rfl (Light.quiet (opLoadR rfl aggA_3 rfl rfl)) ?_
        refine ARL.q0 (v := (.list 1 (List.map (AV.int .i64) p1))) rfl rfl (Light.quiet (opMove rfl rfl)) ?_
        refine ARL.q0 (v := (.int .i64 x5_l0)) rfl rfl (Light.quiet (opMove rfl rfl)) ?_
        obtain ⟨a23, ha23, hF⟩ := bindE hF
        refine ARL.q0 (v := (.rptr [(.int .i64 a23)])) rfl rfl (Light.quiet (kIx (f := (AV.int .i64)) ha23 rfl rfl rfl elemA_27 sizeA_3 rfl)) ?_
        refine ARL.q0 (v := (.int .i64 a23)) rfl rfl (Light.quiet (opLoadR rfl aggA_3 rfl rfl)) ?_
        refine ARL.q0 (v := (.bool (decide (a19 ≠ a23)))) rfl rfl (Light.quiet (opInt rfl rfl rfl rfl)) ?_
        refine ARL.done ?_
        refine AWP.ifP hF rfl (fun hc10 hF => ?_) (fun hc10 hF => ?_)
        · skip
          refine AWP.seqR rfl ?_
          refine ASL.q (v := (.bool false)) rfl rfl (Light.quiet (opAssign rfl rfl)) ?_
          refine ASL.done ?_
          refine AWP.ret ?_
          refine QBlock.ret ?_
          refine QThen.rt ?_
          refine QThen.rt ?_
          refine QBlock.ret ?_
          refine QThen.rt ?_
          obtain rfl := (hx4 _ (someE hF).symm)
          have hF := hR7
          have hF := sumR hF
          obtain rfl := someE hF
          exact QRet.sole (v := (.bool false)) ⟨rfl, trivial⟩ rfl
        · skip
          refine AWP.skip ?_
          refine QBlock.nrm ?_
          refine QThen.nrm ?_
          refine AWP.lastR rfl ?_
          refine ASL.q (v := (.int .i64 x5_l0)) rfl rfl (Light.quiet (opMove rfl rfl)) ?_
          refine ASL.q (v := (.int .i64 (W (x5_l0 + 1)))) rfl rfl (Light.quiet (opInt rfl rfl rfl rfl)) ?_
          refine ASL.q (v := (.int .i64 (W (x5_l0 + 1)))) rfl rfl (Light.quiet (opAssign rfl rfl)) ?_
          refine ASL.done ?_
          refine QThen.nrm ?_
          exact ⟨(W (x5_l0 + 1)), (), (someE hF).symm, ⟨rfl, rfl, rfl, trivial⟩, (hS.pick [] rfl rfl)⟩
      · skip
        refine AWP.exit ?_
        refine QThen.ext ?_
        refine QThen.ext ?_
        refine QBlock.hit ?_
        obtain rfl := (hx4 _ (someE hF).symm)
        have hF := hR7
        have hF := sumL hF
        refine QThen.nrm ?_
        exact ⟨trivial, (hS.pick [] rfl rfl), hF⟩

set_option maxRecDepth 10000 in
theorem impl_BoxOk_ok {p0 : Int} {p1 : (List Int)} {r : Bool} (hF : impl_BoxOk p0 p1 = some r) : PC Try.prog 20 [(.int .i64 p0), (.list 1 (List.map (AV.int .i64) p1))] fun v => v = (.bool r) := by
  refine PC.enter Try.func20 rfl Try.ntmps20 (by simp) ?_
  have hS := Sep.void; unfold impl_BoxOk at hF
  refine AWP.seqR rfl ?_
  refine ASL.q (v := (.bool false)) rfl rfl (Light.quiet (opAssign rfl rfl)) ?_
  refine ASL.done ?_
  refine AWP.seq ?_
  refine AWP.seqR rfl ?_
  refine ASL.q (v := (.int .i64 p0)) rfl rfl (Light.quiet (opMove rfl rfl)) ?_
  refine ASL.q (v := (.bool (impl_isBoxed p0))) rfl rfl ((qCall rfl rfl call_48 (impl_isBoxed_ok p0) rfl)) ?_
  refine ASL.q (v := (.bool (!(impl_isBoxed p0)))) rfl rfl (Light.quiet (opNot rfl rfl)) ?_
  obtain ⟨c10, hc10, hF⟩ := bndE hF
  refine ASL.q (v := (.bool c10)) rfl rfl ((Quiet.cast (Light.quiet (opMove rfl rfl)) (congrArg AV.bool hc10.symm))) ?_
  refine ASL.g (v := (.list 1 (List.map (AV.int .i64) p1))) (.bool c10) false rfl (wF _) rfl (fun hG => by have q0 := gN hG; subst q0; exact Light.quiet (opMove rfl rfl)) ?_
  refine ASL.g (v := (.int .i64 (p1.length : Int))) (.bool c10) false rfl (wF _) rfl (fun hG => by have q0 := gN hG; subst q0; exact Light.quiet (opLenMap (f := (AV.int .i64)) rfl rfl rfl lenT_27 rfl)) ?_
  refine ASL.g (v := (.int .i64 p0)) (.bool c10) false rfl (wF _) rfl (fun hG => by have q0 := gN hG; subst q0; exact Light.quiet (opMove rfl rfl)) ?_
  refine ASL.g (v := (.int .i64 p0)) (.bool c10) false rfl (wF _) rfl (fun hG => by have q0 := gN hG; subst q0; exact Light.quiet (opMove rfl rfl)) ?_
  refine ASL.g (v := (.int .i64 (W (p0 * p0)))) (.bool c10) false rfl (wF _) rfl (fun hG => by have q0 := gN hG; subst q0; exact Light.quiet (opInt rfl rfl rfl rfl)) ?_
  refine ASL.g (v := (.bool (decide (((p1.length : Int)) ≠ ((W (p0 * p0))))))) (.bool c10) false rfl (wF _) rfl (fun hG => by have q0 := gN hG; subst q0; exact Light.quiet (opInt rfl rfl rfl rfl)) ?_
  refine ASL.q (v := (.bool (c10 || (decide (((p1.length : Int)) ≠ ((W (p0 * p0)))))))) rfl rfl (Light.quiet (opPick (b := c10) rfl rfl (by cases c10 <;> rfl))) ?_
  refine ASL.done ?_
  refine AWP.ifB hF rfl (fun hc1 hF => ?_) (fun hc1 hF => ?_)
  · skip
    refine AWP.seqR rfl ?_
    refine ASL.q (v := (.bool false)) rfl rfl (Light.quiet (opAssign rfl rfl)) ?_
    refine ASL.done ?_
    refine AWP.ret ?_
    refine QThen.rt ?_
    obtain rfl := someE hF
    exact QRet.sole (v := (.bool false)) ⟨rfl, trivial⟩ rfl
  · skip
    refine AWP.skip ?_
    refine QThen.nrm ?_
    refine AWP.seqM (fun e H => E.Told e [] ∧ E.Sep H [] ∧ impl_BoxOk.k0 = some r) ?_ ?_
    · rintro e0 G2 ⟨hT, hS, hF⟩; refine AWP.only _ hT ?_; unfold impl_BoxOk.k0 at hF
      refine AWP.seqR rfl ?_
      refine ASL.q (v := (.bool true)) rfl rfl (Light.quiet (opAssign rfl rfl)) ?_
      refine ASL.done ?_
      refine AWP.ret ?_
      obtain rfl := someE hF
      exact QRet.sole (v := (.bool true)) ⟨rfl, trivial⟩ rfl
    · skip
      refine AWP.seqR rfl ?_
      refine ASL.q (v := (.list 1 (List.map (AV.int .i64) p1))) rfl rfl (Light.quiet (opMove rfl rfl)) ?_
      refine ASL.q (v := (.int .i64 (p1.length : Int))) rfl rfl (Light.quiet (opLenMap (f := (AV.int .i64)) rfl rfl rfl lenT_27 rfl)) ?_
      refine ASL.q (v := (.int .i64 0)) rfl rfl (Light.quiet (opMove rfl rfl)) ?_
      refine ASL.done ?_
      refine AWP.block ?_
      obtain ⟨o6, hL5, hR7⟩ := bindE hF
      refine AWP.loopF (ω := Unit) hL5 (fun s w => [(18, (.list 1 (List.map (AV.int .i64) p1))), (19, (.int .i64 (p1.length : Int))), (20, (.int .i64 s))]) (fun s w => []) () ⟨rfl, rfl, rfl, trivial⟩ (hS.pick [] rfl rfl) ?_
      rintro x20_l0 _ G8 hS x3 hF hx4
      try dsimp only at hS ⊢
      have hF : impl_BoxOk.b0 p1 x20_l0 = some x3 := hF; unfold impl_BoxOk.b0 at hF
      refine AWP.seqR rfl ?_
      refine ASL.q (v := (.bool (decide (x20_l0 < ((p1.length : Int)))))) rfl rfl (Light.quiet (opInt rfl rfl rfl rfl)) ?_
      refine ASL.done ?_
      refine AWP.seq ?_
      refine AWP.ifP hF rfl (fun hc9 hF => ?_) (fun hc9 hF => ?_)
      · skip
        refine AWP.skip ?_
        refine QThen.nrm ?_
        refine AWP.seq ?_
        refine AWP.block ?_
        refine AWP.seqR rfl ?_
        obtain ⟨a22, ha22, hF⟩ := bindE hF
        refine ASL.q (v := (.rptr [(.int .i64 a22)])) rfl rfl (Light.quiet (kIx (f := (AV.int .i64)) ha22 rfl rfl rfl elemA_27 sizeA_3 rfl)) ?_
        refine ASL.q (v := (.int .i64 a22)) rfl rfl (Light.quiet (opLoadR rfl aggA_3 rfl rfl)) ?_
        refine ASL.q (v := (.int .i64 a22)) rfl rfl (Light.quiet (opAssign rfl rfl)) ?_
        refine ASL.done ?_
        refine AWP.seqR rfl ?_
        refine ASL.q (v := (.int .i64 a22)) rfl rfl (Light.quiet (opMove rfl rfl)) ?_
        refine ASL.q (v := (.bool (impl_inRange a22 0 2))) rfl rfl ((qCall rfl rfl call_59 (impl_inRange_ok a22 0 2) rfl)) ?_
        refine ASL.q (v := (.bool (!(impl_inRange a22 0 2)))) rfl rfl (Light.quiet (opNot rfl rfl)) ?_
        refine ASL.done ?_
        refine AWP.ifB hF rfl (fun hc10 hF => ?_) (fun hc10 hF => ?_)
        · skip
          refine AWP.seqR rfl ?_
          refine ASL.q (v := (.bool false)) rfl rfl (Light.quiet (opAssign rfl rfl)) ?_
          refine ASL.done ?_
          refine AWP.ret ?_
          refine QBlock.ret ?_
          refine QThen.rt ?_
          refine QThen.rt ?_
          refine QBlock.ret ?_
          refine QThen.rt ?_
          obtain rfl := (hx4 _ (someE hF).symm)
          have hF := hR7
          have hF := sumR hF
          obtain rfl := someE hF
          exact QRet.sole (v := (.bool false)) ⟨rfl, trivial⟩ rfl
        · skip
          refine AWP.skip ?_
          refine QBlock.nrm ?_
          refine QThen.nrm ?_
          refine AWP.lastR rfl ?_
          refine ASL.q (v := (.int .i64 (W (x20_l0 + 1)))) rfl rfl (Light.quiet (opInt rfl rfl rfl rfl)) ?_
          refine ASL.q (v := (.int .i64 (W (x20_l0 + 1)))) rfl rfl (Light.quiet (opMove rfl rfl)) ?_
          refine ASL.done ?_
          refine QThen.nrm ?_
          exact ⟨(W (x20_l0 + 1)), (), (someE hF).symm, ⟨rfl, rfl, rfl, trivial⟩, (hS.pick [] rfl rfl)⟩
      · skip
        refine AWP.exit ?_
        refine QThen.ext ?_
        refine QThen.ext ?_
        refine QBlock.hit ?_
        obtain rfl := (hx4 _ (someE hF).symm)
        have hF := hR7
        have hF := sumL hF
        refine QThen.nrm ?_
        exact ⟨trivial, (hS.pick [] rfl rfl), hF⟩

set_option maxRecDepth 10000 in
theorem impl_BoxMul_ok {p0 : Int} {p1 : (List Int)} {p2 : (List Int)} {r : (List Int)} (hF : impl_BoxMul p0 p1 p2 = some r) : PO Try.prog 16 [(.int .i64 p0), (.list 1 (List.map (AV.int .i64) p1)), (.list 1 (List.map (AV.int .i64) p2))] 1 (List.map (AV.int .i64) r) := by
  refine HC.enter Try.func16 rfl Try.ntmps16 (by simp) ?_
  have hS := Sep.void; unfold impl_BoxMul at hF
  refine AWP.seqR rfl ?_
  have hS := hNil (s := 1) (f := (AV.int .i64)) hS
  refine ASL.q (v := .nil) rfl rfl (Light.quiet (opAssign rfl rfl)) ?_
  refine ASL.done ?_
  refine AWP.seq ?_
  refine AWP.seqR rfl ?_
  refine ASL.q (v := (.int .i64 p0)) rfl rfl (Light.quiet (opMove rfl rfl)) ?_
  refine ASL.q (v := (.list 1 (List.map (AV.int .i64) p1))) rfl rfl (Light.quiet (opMove rfl rfl)) ?_
  obtain ⟨a9, ha9, hF⟩ := bindE hF
  refine ASL.q (v := (.bool a9)) rfl rfl ((qCall rfl rfl call_20 (impl_BoxOk_ok ha9) rfl)) ?_
  refine ASL.q (v := (.bool (!a9))) rfl rfl (Light.quiet (opNot rfl rfl)) ?_
  obtain ⟨c11, hc11, hF⟩ := bndE hF
  refine ASL.q (v := (.bool c11)) rfl rfl ((Quiet.cast (Light.quiet (opMove rfl rfl)) (congrArg AV.bool hc11.symm))) ?_
  refine ASL.g (v := (.int .i64 p0)) (.bool c11) false rfl (wF _) rfl (fun hG => by have q0 := gN hG; subst q0; exact Light.quiet (opMove rfl rfl)) ?_
  refine ASL.g (v := (.list 1 (List.map (AV.int .i64) p2))) (.bool c11) false rfl (wF _) rfl (fun hG => by have q0 := gN hG; subst q0; exact Light.quiet (opMove rfl rfl)) ?_
  obtain ⟨a14, ha14, hF⟩ := bindE hF
  refine ASL.g (v := (.bool a14)) (.bool c11) false rfl (wF _) rfl (fun hG => by have q0 := gN hG; subst q0; exact (qCall rfl rfl call_20 (impl_BoxOk_ok (whenE ha14)) rfl)) ?_
  refine ASL.g (v := (.bool (!a14))) (.bool c11) false rfl (wF _) rfl (fun hG => by have q0 := gN hG; subst q0; exact Light.quiet (opNot rfl rfl)) ?_
  refine ASL.q (v := (.bool (c11 || (!a14)))) rfl rfl (Light.quiet (opPick (b := c11) rfl rfl (by cases c11 <;> rfl))) ?_
  refine ASL.done ?_
  refine AWP.ifB hF rfl (fun hc2 hF => ?_) (fun hc2 hF => ?_)
  · skip
    refine AWP.seqR rfl ?_
    have hS := hNil (s := 1) (f := (AV.int .i64)) hS
    refine ASL.q (v := .nil) rfl rfl (Light.quiet (opAssign rfl rfl)) ?_
    refine ASL.done ?_
    refine AWP.ret ?_
    refine QThen.rt ?_
    obtain rfl := someE hF
    exact QRet.sole (v := .nil) ⟨rfl, trivial⟩ (hS.get (k := 0) rfl)
  · skip
    refine AWP.skip ?_
    refine QThen.nrm ?_
    refine AWP.seqR rfl ?_
    refine ASL.q (v := (.int .i64 p0)) rfl rfl (Light.quiet (opMove rfl rfl)) ?_
    refine ASL.q (v := (.list 1 (List.map (AV.int .i64) p1))) rfl rfl (Light.quiet (opMove rfl rfl)) ?_
    refine ASL.q (v := (.list 1 (List.map (AV.int .i64) p2))) rfl rfl (Light.quiet (opMove rfl rfl)) ?_
    obtain ⟨a20, ha20, hF⟩ := bindE hF
    refine ASL.x rfl rfl (hCallO hS rfl rfl call_51 (impl_boxMul_ok ha20) rfl ?_); rintro v20 G4 hK hS
    refine ASL.q (v := v20) rfl rfl (Light.quiet (opAssign rfl rfl)) ?_
    refine ASL.done ?_
    refine AWP.ret ?_
    obtain rfl := someE hF
    exact QRet.sole (v := v20) ⟨rfl, trivial⟩ (hS.get (k := 0) rfl)

set_option maxRecDepth 10000 in
theorem impl_BoxOne_ok {p0 : Int} {r : (List Int)} (hF : impl_BoxOne p0 = some r) : PO Try.prog 19 [(.int .i64 p0)] 1 (List.map (AV.int .i64) r) := by
  refine HC.enter Try.func19 rfl Try.ntmps19 (by simp) ?_
  have hS := Sep.void; unfold impl_BoxOne at hF
  refine AWP.seqR rfl ?_
  have hS := hNil (s := 1) (f := (AV.int .i64)) hS
  refine ASL.q (v := .nil) rfl rfl (Light.quiet (opAssign rfl rfl)) ?_
  refine ASL.done ?_
  refine AWP.seq ?_
  refine AWP.seqR rfl ?_
  refine ASL.q (v := (.int .i64 p0)) rfl rfl (Light.quiet (opMove rfl rfl)) ?_
  refine ASL.q (v := (.bool (impl_isBoxed p0))) rfl rfl ((qCall rfl rfl call_48 (impl_isBoxed_ok p0) rfl)) ?_
  refine ASL.q (v := (.bool (!(impl_isBoxed p0)))) rfl rfl (Light.quiet (opNot rfl rfl)) ?_
  refine ASL.done ?_
  refine AWP.ifB hF rfl (fun hc2 hF => ?_) (fun hc2 hF => ?_)
  · skip
    refine AWP.seqR rfl ?_
    have hS := hNil (s := 1) (f := (AV.int .i64)) hS
    refine ASL.q (v := .nil) rfl rfl (Light.quiet (opAssign rfl rfl)) ?_
    refine ASL.done ?_
    refine AWP.ret ?_
    refine QThen.rt ?_
    obtain rfl := someE hF
    exact QRet.sole (v := .nil) ⟨rfl, trivial⟩ (hS.get (k := 0) rfl)
  · skip
    refine AWP.skip ?_
    refine QThen.nrm ?_
    refine AWP.seqR rfl ?_
    refine ASL.q (v := (.int .i64 p0)) rfl rfl (Light.quiet (opMove rfl rfl)) ?_
    obtain ⟨a7, ha7, hF⟩ := bindE hF
    refine ASL.x rfl rfl (hCallO hS rfl rfl call_50 (impl_boxOne_ok ha7) rfl ?_); rintro v7 G4 hK hS
    refine ASL.q (v := v7) rfl rfl (Light.quiet (opAssign rfl rfl)) ?_
    refine ASL.done ?_
    refine AWP.ret ?_
    obtain rfl := someE hF
    exact QRet.sole (v := v7) ⟨rfl, trivial⟩ (hS.get (k := 0) rfl)

set_option maxRecDepth 10000 in
theorem laws_FnAllBoxes_ok {p0 : (List Int)} {r : Bool} (hF : laws_FnAllBoxes p0 = some r) : PC Try.prog 5 [(.list 1 (List.map (AV.int .u8) p0))] fun v => v = (.bool r) := by
  refine PC.enter Try.func5 rfl Try.ntmps5 (by simp) ?_
  have hS := Sep.void; unfold laws_FnAllBoxes at hF
  refine AWP.seqR rfl ?_
  refine ASL.q (v := (.bool false)) rfl rfl (Light.quiet (opAssign rfl rfl)) ?_
  refine ASL.done ?_
  refine AWP.seq ?_
  refine AWP.seqR rfl ?_
  refine ASL.q (v := (.list 1 (List.map (AV.int .u8) p0))) rfl rfl (Light.quiet (opMove rfl rfl)) ?_
  refine ASL.q (v := (.bool (laws_big p0))) rfl rfl ((qCall rfl rfl call_8 (laws_big_ok p0) rfl)) ?_
  refine ASL.done ?_
  refine AWP.ifB hF rfl (fun hc1 hF => ?_) (fun hc1 hF => ?_)
  · skip
    refine AWP.seqR rfl ?_
    refine ASL.q (v := (.bool true)) rfl rfl (Light.quiet (opAssign rfl rfl)) ?_
    refine ASL.done ?_
    refine AWP.ret ?_
    refine QThen.rt ?_
    obtain rfl := someE hF
    exact QRet.sole (v := (.bool true)) ⟨rfl, trivial⟩ rfl
  · skip
    refine AWP.skip ?_
    refine QThen.nrm ?_
    refine AWP.seqR rfl ?_
    refine ASL.q (v := (.list 1 (List.map (AV.int .u8) p0))) rfl rfl (Light.quiet (opMove rfl rfl)) ?_
    obtain ⟨a16, ha16, hF⟩ := bindE hF
    refine ASL.q (v := (TAuto.av a16)) rfl rfl ((qCall rfl rfl call_24 (spec_DrawBoxesOf_ok ha16) rfl)) ?_
    refine ASL.x rfl rfl (hNewZ hS [(.int .i64 0), (.int .i64 0), (.int .i64 0), (.list 4 (List.map TEdge.av []))] rfl zeroA_26 ⟨.inl rfl, .inl rfl, .inl rfl, .inr ⟨_, rfl, rfl⟩, trivial⟩ ?_); rintro b3 G2 hK hS
    refine ASL.n rfl rfl (hPutA hS (j := 0) rfl rfl sizeA_26 rfl rfl rfl rfl rfl (nlt rfl) ?_); rintro G4 hS
    refine ASL.done ?_
    refine AWP.seqR rfl ?_
    refine ASL.q (v := (TAuto.av a16)) rfl rfl (Light.quiet (kAtA hS (j := 0) rfl rfl aggA_26 sizeA_26 rfl (nlt rfl) rfl)) ?_
    obtain ⟨a19, ha19, hF⟩ := bindE hF
    refine ASL.q (v := (.tup [(.list 2 (List.map TBoxed.av a19.1)), (.bool a19.2)])) rfl rfl ((qCall rfl rfl call_25 (impl_BoxesOf_ok ha19) rfl)) ?_
    refine ASL.q (v := (.tup [(.list 2 (List.map TBoxed.av a19.1)), (.bool a19.2)])) rfl rfl (Light.quiet (opMove rfl rfl)) ?_
    refine ASL.q (v := (.list 2 (List.map TBoxed.av a19.1))) rfl rfl (Light.quiet (opExtract rfl rfl rfl)) ?_
    refine ASL.q (v := (.bool a19.2)) rfl rfl (Light.quiet (opExtract rfl rfl rfl)) ?_
    refine ASL.q (v := (.list 2 (List.map TBoxed.av a19.1))) rfl rfl (Light.quiet (opAssign rfl rfl)) ?_
    refine ASL.q (v := (.bool a19.2)) rfl rfl (Light.quiet (opAssign rfl rfl)) ?_
    refine ASL.done ?_
    refine AWP.seqR rfl ?_
    refine ASL.q (v := (TAuto.av a16)) rfl rfl (Light.quiet (kAtA hS (j := 0) rfl rfl aggA_26 sizeA_26 rfl (nlt rfl) rfl)) ?_
    obtain ⟨a24, ha24, hF⟩ := bindE hF
    refine ASL.q (v := (.tup [(.list 2 (List.map TBoxed.av a24.1)), (.bool a24.2)])) rfl rfl ((qCall rfl rfl call_26 (spec_BoxesOf_ok ha24) rfl)) ?_
    refine ASL.q (v := (.tup [(.list 2 (List.map TBoxed.av a24.1)), (.bool a24.2)])) rfl rfl (Light.quiet (opMove rfl rfl)) ?_
    refine ASL.q (v := (.list 2 (List.map TBoxed.av a24.1))) rfl rfl (Light.quiet (opExtract rfl rfl rfl)) ?_
    refine ASL.q (v := (.bool a24.2)) rfl rfl (Light.quiet (opExtract rfl rfl rfl)) ?_
    refine ASL.q (v := (.list 2 (List.map TBoxed.av a24.1))) rfl rfl (Light.quiet (opAssign rfl rfl)) ?_
    refine ASL.q (v := (.bool a24.2)) rfl rfl (Light.quiet (opAssign rfl rfl)) ?_
    refine ASL.done ?_
    refine AWP.seq ?_
    refine AWP.seqR rfl ?_
    refine ASL.q (v := (.bool a19.2)) rfl rfl (Light.quiet (opMove rfl rfl)) ?_
    refine ASL.q (v := (.bool a24.2)) rfl rfl (Light.quiet (opMove rfl rfl)) ?_
    refine ASL.q (v := (.bool (!(a19.2 == a24.2)))) rfl rfl (Light.quiet (opBoolEq rfl rfl rfl und_4 rfl)) ?_
    refine ASL.done ?_
    refine AWP.ifB hF rfl (fun hc5 hF => ?_) (fun hc5 hF => ?_)
    · skip
      refine AWP.seqR rfl ?_
      refine ASL.q (v := (.bool false)) rfl rfl (Light.quiet (opAssign rfl rfl)) ?_
      refine ASL.done ?_
      refine AWP.ret ?_
      refine QThen.rt ?_
      obtain rfl := someE hF
      exact QRet.sole (v := (.bool false)) ⟨rfl, trivial⟩ rfl
    · skip
      refine AWP.skip ?_
      refine QThen.nrm ?_
      refine AWP.seq ?_
      refine AWP.seqR rfl ?_
      refine ASL.q (v := (.bool a19.2)) rfl rfl (Light.quiet (opMove rfl rfl)) ?_
      refine ASL.q (v := (.bool (!a19.2))) rfl rfl (Light.quiet (opNot rfl rfl)) ?_
      refine ASL.done ?_
      refine AWP.ifB hF rfl (fun hc6 hF => ?_) (fun hc6 hF => ?_)
      · skip
        refine AWP.seqR rfl ?_
        refine ASL.q (v := (.list 2 (List.map TBoxed.av a19.1))) rfl rfl (Light.quiet (opMove rfl rfl)) ?_
        refine ASL.q (v := (.int .i64 (a19.1.length : Int))) rfl rfl (Light.quiet (opLenMap (f := TBoxed.av) rfl rfl rfl lenT_47 rfl)) ?_
        refine ASL.q (v := (.bool (decide (((a19.1.length : Int)) = 0)))) rfl rfl (Light.quiet (opInt rfl rfl rfl rfl)) ?_
        refine ASL.q (v := (.bool (decide (((a19.1.length : Int)) = 0)))) rfl rfl (Light.quiet (opAssign rfl rfl)) ?_
        refine ASL.done ?_
        refine AWP.ret ?_
        refine QThen.rt ?_
        obtain rfl := someE hF
        exact QRet.sole (v := (.bool (decide (((a19.1.length : Int)) = 0)))) ⟨rfl, trivial⟩ rfl
      · skip
        refine AWP.skip ?_
        refine QThen.nrm ?_
        refine AWP.seqM (fun e H => E.Told e [(3, (.ptr b3 0)), (4, (.list 2 (List.map TBoxed.av a19.1)))] ∧ E.Sep H [.cell b3 [(.int .i64 a16.letters), (.int .i64 a16.states), (.int .i64 a16.start), (.list 4 (List.map TEdge.av a16.edges))]] ∧ laws_FnAllBoxes.k0 a19 a16 = some r) ?_ ?_
        · rintro e0 G7 ⟨hT, hS, hF⟩; refine AWP.only _ hT ?_; unfold laws_FnAllBoxes.k0 at hF
          refine AWP.seqD [(0, false), (1, false), (2, false), (3, false), (4, false), (5, false), (6, false), (7, false), (8, false), (9, false), (10, false), (11, false), (12, false), (13, false), (14, false), (15, false), (16, false)] mixed (by kernel_rfl) rfl ?_
          refine ARL.q0 (v := (.list 2 (List.map TBoxed.av a19.1))) rfl rfl (Light.quiet (opMove rfl rfl)) ?_
          obtain ⟨a111, ha111, hF⟩ := bindE hF
          refine ARL.q0 (v := (.rptr [(.list 1 (List.map (AV.int .i64) a111.word)), (.list 1 (List.map (AV.int .i64) a111.box))])) rfl rfl (Light.quiet (kIx (f := TBoxed.av) ha111 rfl rfl rfl elemA_47 sizeA_51 rfl)) ?_
          refine ARL.q0 (v := (.rptr [(.list 1 (List.map (AV.int .i64) a111.word)), (.list 1 (List.map (AV.int .i64) a111.box))])) rfl rfl (Light.quiet (opFieldAddrR rfl fieldA_51_0 rfl rfl)) ?_
          refine ARL.q0 (v := (.list 1 (List.map (AV.int .i64) a111.word))) rfl rfl (Light.quiet (opLoadR rfl aggA_27 rfl rfl)) ?_
          refine ARL.q0 (v := (.int .i64 (a111.word.length : Int))) rfl rfl (Light.quiet (opLenMap (f := (AV.int .i64)) rfl rfl rfl lenT_27 rfl)) ?_
          refine ARL.q0 (v := (.bool (decide (((a111.word.length : Int)) = 0)))) rfl rfl (Light.quiet (opInt rfl rfl rfl rfl)) ?_
          obtain ⟨c116, hc116, hF⟩ := bndE hF
          refine ARL.q0 (v := (.bool c116)) rfl rfl ((Quiet.cast (Light.quiet (opMove rfl rfl)) (congrArg AV.bool hc116.symm))) ?_
          refine ARL.g (v := (.list 2 (List.map TBoxed.av a19.1))) (.bool c116) true rfl (wT _) rfl noneAlive (fun hG => by have q0 := hG; subst q0; exact Light.quiet (opMove rfl rfl)) ?_
          obtain ⟨a118, ha118, hF⟩ := bindE hF
          refine ARL.g (v := (.rptr [(.list 1 (List.map (AV.int .i64) a118.word)), (.list 1 (List.map (AV.int .i64) a118.box))])) (.bool c116) true rfl (wT _) rfl noneAlive (fun hG => by have q0 := hG; subst q0; exact Light.quiet (kIx (f := TBoxed.av) (whenE ha118) rfl rfl rfl elemA_47 sizeA_51 rfl)) ?_
          refine ARL.g (v := (.rptr [(.list 1 (List.map (AV.int .i64) a118.box))])) (.bool c116) true rfl (wT _) rfl noneAlive (fun hG => by have q0 := hG; subst q0; exact Light.quiet (opFieldAddrR rfl fieldA_51_1 rfl rfl)) ?_
          refine ARL.g (v := (.list 1 (List.map (AV.int .i64) a118.box))) (.bool c116) true rfl (wT _) rfl noneAlive (fun hG => by have q0 := hG; subst q0; exact Light.quiet (opLoadR rfl aggA_27 rfl rfl)) ?_
          refine ARL.g (v := (.ptr b3 1)) (.bool c116) true rfl (wT _) rfl noneAlive (fun hG => by have q0 := hG; subst q0; exact Light.quiet (opFieldAddr rfl fieldA_26_1 rfl rfl)) ?_
          refine ARL.g (v := (.int .i64 a16.states)) (.bool c116) true rfl (wT _) rfl (hS.aliveC (k := 0) rfl) (fun hG => by have q0 := hG; subst q0; exact Light.quiet (kAt hS (j := 0) rfl rfl aggA_3 rfl rfl)) ?_
          obtain ⟨a123, ha123, hF⟩ := bindE hF
          refine ARL.g (v := (.list 1 (List.map (AV.int .i64) a123))) (.bool c116) true rfl (wT _) rfl noneAlive (fun hG => by have q0 := hG; subst q0; exact (qCall rfl rfl call_19 (PO.list (impl_BoxOne_ok (whenE ha123))) rfl)) ?_
          obtain ⟨a124, ha124, hF⟩ := bindE hF
          refine ARL.g (v := (.bool a124)) (.bool c116) true rfl (wT _) rfl noneAlive (fun hG => by have q0 := hG; subst q0; exact (qCall rfl rfl call_17 (laws_sameInts_ok (whenE ha124)) rfl)) ?_
          refine ARL.q0 (v := (.bool (c116 && a124))) rfl rfl (Light.quiet (opPick (b := c116) rfl rfl (by cases c116 <;> rfl))) ?_
          refine ARL.q0 (v := (.bool (c116 && a124))) rfl rfl (Light.quiet (opAssign rfl rfl)) ?_
          refine ARL.done ?_
          refine AWP.ret ?_
          obtain rfl := someE hF
          exact QRet.sole (v := (.bool (c116 && a124))) ⟨rfl, trivial⟩ rfl
        · skip
          refine AWP.seqR rfl ?_
          refine ASL.q (v := (.int .i64 0)) rfl rfl (Light.quiet (opAssign rfl rfl)) ?_
          refine ASL.done ?_
          refine AWP.block ?_
          obtain ⟨o11, hL10, hR12⟩ := bindE hF
          refine AWP.loopF (ω := Unit) hL10 (fun s w => [(3, (.ptr b3 0)), (4, (.list 2 (List.map TBoxed.av a19.1))), (8, (.int .i64 s))]) (fun s w => [.cell b3 [(.int .i64 a16.letters), (.int .i64 a16.states), (.int .i64 a16.start), (.list 4 (List.map TEdge.av a16.edges))]]) () ⟨rfl, rfl, rfl, trivial⟩ (hS.pick [0] rfl rfl) ?_
          rintro x8_l0 _ G13 hS x8 hF hx9
          try dsimp only at hS ⊢
          have hF : laws_FnAllBoxes.b0 a19 a16 x8_l0 = some x8 := hF; unfold laws_FnAllBoxes.b0 at hF
          refine AWP.seq ?_
          refine AWP.seqR rfl ?_
          refine ASL.q (v := (.int .i64 x8_l0)) rfl rfl (Light.quiet (opMove rfl rfl)) ?_
          refine ASL.q (v := (.list 2 (List.map TBoxed.av a19.1))) rfl rfl (Light.quiet (opMove rfl rfl)) ?_
          refine ASL.q (v := (.int .i64 (a19.1.length : Int))) rfl rfl (Light.quiet (opLenMap (f := TBoxed.av) rfl rfl rfl lenT_47 rfl)) ?_
          refine ASL.q (v := (.bool (decide (x8_l0 < ((a19.1.length : Int)))))) rfl rfl (Light.quiet (opInt rfl rfl rfl rfl)) ?_
          refine ASL.done ?_
          refine AWP.ifP hF rfl (fun hc14 hF => ?_) (fun hc14 hF => ?_)
          · skip
            refine AWP.skip ?_
            refine QThen.nrm ?_
            refine AWP.seqM (fun e H => E.Told e [(3, (.ptr b3 0)), (4, (.list 2 (List.map TBoxed.av a19.1))), (8, (.int .i64 x8_l0))] ∧ E.Sep H [.cell b3 [(.int .i64 a16.letters), (.int .i64 a16.states), (.int .i64 a16.start), (.list 4 (List.map TEdge.av a16.edges))]] ∧ laws_FnAllBoxes.k1 x8_l0 = some x8) ?_ ?_
            · rintro e0 G15 ⟨hT, hS, hF⟩; refine AWP.only _ hT ?_; unfold laws_FnAllBoxes.k1 at hF
              refine AWP.lastR rfl ?_
              refine ASL.q (v := (.int .i64 x8_l0)) rfl rfl (Light.quiet (opMove rfl rfl)) ?_
              refine ASL.q (v := (.int .i64 (W (x8_l0 + 1)))) rfl rfl (Light.quiet (opInt rfl rfl rfl rfl)) ?_
              refine ASL.q (v := (.int .i64 (W (x8_l0 + 1)))) rfl rfl (Light.quiet (opAssign rfl rfl)) ?_
              refine ASL.done ?_
              refine QThen.nrm ?_
              exact ⟨(W (x8_l0 + 1)), (), (someE hF).symm, ⟨rfl, rfl, rfl, trivial⟩, (hS.pick [0] rfl rfl)⟩
            · skip
              refine AWP.block ?_
              refine AWP.seq ?_
              refine AWP.seqD [(0, false), (1, false), (2, false), (3, false), (4, false), (5, false), (6, false), (7, false), (8, false), (9, false), (10, false), (11, false), (12, false), (13, false), (14, false), (15, false), (16, false), (17, false), (18, false), (19, false), (20, false), (21, false), (22, false), (23, false), (24, false), (25, false), (26, false), (27, false), (28, false), (29, false), (30, false), (31, false), (32, false), (33, false)] mixed (by kernel_rfl) rfl ?_
              refine ARL.q0 (v := (.list 2 (List.map TBoxed.av a19.1))) rfl rfl (Light.quiet (opMove rfl rfl)) ?_
              refine ARL.q0 (v := (.int .i64 x8_l0)) rfl rfl (Light.quiet (opMove rfl rfl)) ?_
              obtain ⟨a43, ha43, hF⟩ := bindE hF
              refine ARL.q0 (v := (.rptr [(.list 1 (List.map (AV.int .i64) a43.word)), (.list 1 (List.map (AV.int .i64) a43.box))])) rfl rfl (Light.quiet (kIx (f := TBoxed.av) ha43 rfl rfl rfl elemA_47 sizeA_51 rfl)) ?_
              refine ARL.q0 (v := (.rptr [(.list 1 (List.map (AV.int .i64) a43.box))])) rfl rfl (Light.quiet (opFieldAddrR rfl fieldA_51_1 rfl rfl)) ?_
              refine ARL.q0 (v := (.list 1 (List.map (AV.int .i64) a43.box))) rfl rfl (Light.quiet (opLoadR rfl aggA_27 rfl rfl)) ?_
              refine ARL.q (v := (TAuto.av a16)) rfl rfl (hS.aliveC (k := 0) rfl) (Light.quiet (kAtA hS (j := 0) rfl rfl aggA_26 sizeA_26 rfl (nlt rfl) rfl)) ?_
              refine ARL.q0 (v := (.list 2 (List.map TBoxed.av a19.1))) rfl rfl (Light.quiet (opMove rfl rfl)) ?_
              refine ARL.q0 (v := (.int .i64 x8_l0)) rfl rfl (Light.quiet (opMove rfl rfl)) ?_
              obtain ⟨a49, ha49, hF⟩ := bindE hF
              refine ARL.q0 (v := (.rptr [(.list 1 (List.map (AV.int .i64) a49.word)), (.list 1 (List.map (AV.int .i64) a49.box))])) rfl rfl (Light.quiet (kIx (f := TBoxed.av) ha49 rfl rfl rfl elemA_47 sizeA_51 rfl)) ?_
              refine ARL.q0 (v := (.rptr [(.list 1 (List.map (AV.int .i64) a49.word)), (.list 1 (List.map (AV.int .i64) a49.box))])) rfl rfl (Light.quiet (opFieldAddrR rfl fieldA_51_0 rfl rfl)) ?_
              refine ARL.q0 (v := (.list 1 (List.map (AV.int .i64) a49.word))) rfl rfl (Light.quiet (opLoadR rfl aggA_27 rfl rfl)) ?_
              obtain ⟨a52, ha52, hF⟩ := bindE hF
              refine ARL.q0 (v := (.list 1 (List.map (AV.int .i64) a52))) rfl rfl ((qCall rfl rfl call_13 (PO.list (impl_BoxOf_ok ha52)) rfl)) ?_
              obtain ⟨a53, ha53, hF⟩ := bindE hF
              refine ARL.q0 (v := (.bool a53)) rfl rfl ((qCall rfl rfl call_17 (laws_sameInts_ok ha53) rfl)) ?_
              refine ARL.q0 (v := (.bool (!a53))) rfl rfl (Light.quiet (opNot rfl rfl)) ?_
              obtain ⟨c55, hc55, hF⟩ := bndE hF
              refine ARL.q0 (v := (.bool c55)) rfl rfl ((Quiet.cast (Light.quiet (opMove rfl rfl)) (congrArg AV.bool hc55.symm))) ?_
              refine ARL.g (v := (.int .i64 x8_l0)) (.bool c55) false rfl (wF _) rfl noneAlive (fun hG => by have q0 := gN hG; subst q0; exact Light.quiet (opMove rfl rfl)) ?_
              refine ARL.g (v := (.bool (decide (x8_l0 > 0)))) (.bool c55) false rfl (wF _) rfl noneAlive (fun hG => by have q0 := gN hG; subst q0; exact Light.quiet (opInt rfl rfl rfl rfl)) ?_
              obtain ⟨c58, hc58, hF⟩ := bndE hF
              refine ARL.g (v := (.bool c58)) (.bool c55) false rfl (wF _) rfl noneAlive (fun hG => by have q0 := gN hG; subst q0; exact (Quiet.cast (Light.quiet (opMove rfl rfl)) (congrArg AV.bool hc58.symm))) ?_
              refine ARL.g (v := (.list 2 (List.map TBoxed.av a19.1))) (bif (!c55) then (.bool c58) else .tup []) true rfl (wGT _ _) rfl noneAlive (fun hG => by have q0 := gN (gA1 hG); have q1 := gA2 hG; subst q0; subst q1; exact Light.quiet (opMove rfl rfl)) ?_
              refine ARL.g (v := (.int .i64 x8_l0)) (bif (!c55) then (.bool c58) else .tup []) true rfl (wGT _ _) rfl noneAlive (fun hG => by have q0 := gN (gA1 hG); have q1 := gA2 hG; subst q0; subst q1; exact Light.quiet (opMove rfl rfl)) ?_
              obtain ⟨a61, ha61, hF⟩ := bindE hF
              refine ARL.g (v := (.rptr [(.list 1 (List.map (AV.int .i64) a61.word)), (.list 1 (List.map (AV.int .i64) a61.box))])) (bif (!c55) then (.bool c58) else .tup []) true rfl (wGT _ _) rfl noneAlive (fun hG => by have q0 := gN (gA1 hG); have q1 := gA2 hG; subst q0; subst q1; exact Light.quiet (kIx (f := TBoxed.av) (whenE ha61) rfl rfl rfl elemA_47 sizeA_51 rfl)) ?_
              refine ARL.g (v := (.rptr [(.list 1 (List.map (AV.int .i64) a61.word)), (.list 1 (List.map (AV.int .i64) a61.box))])) (bif (!c55) then (.bool c58) else .tup []) true rfl (wGT _ _) rfl noneAlive (fun hG => by have q0 := gN (gA1 hG); have q1 := gA2 hG; subst q0; subst q1; exact Light.quiet (opFieldAddrR rfl fieldA_51_0 rfl rfl)) ?_
              refine ARL.g (v := (.list 1 (List.map (AV.int .i64) a61.word))) (bif (!c55) then (.bool c58) else .tup []) true rfl (wGT _ _) rfl noneAlive (fun hG => by have q0 := gN (gA1 hG); have q1 := gA2 hG; subst q0; subst q1; exact Light.quiet (opLoadR rfl aggA_27 rfl rfl)) ?_
              refine ARL.g (v := (.int .i64 (a61.word.length : Int))) (bif (!c55) then (.bool c58) else .tup []) true rfl (wGT _ _) rfl noneAlive (fun hG => by have q0 := gN (gA1 hG); have q1 := gA2 hG; subst q0; subst q1; exact Light.quiet (opLenMap (f := (AV.int .i64)) rfl rfl rfl lenT_27 rfl)) ?_
              refine ARL.g (v := (.list 2 (List.map TBoxed.av a19.1))) (bif (!c55) then (.bool c58) else .tup []) true rfl (wGT _ _) rfl noneAlive (fun hG => by have q0 := gN (gA1 hG); have q1 := gA2 hG; subst q0; subst q1; exact Light.quiet (opMove rfl rfl)) ?_
              refine ARL.g (v := (.int .i64 x8_l0)) (bif (!c55) then (.bool c58) else .tup []) true rfl (wGT _ _) rfl noneAlive (fun hG => by have q0 := gN (gA1 hG); have q1 := gA2 hG; subst q0; subst q1; exact Light.quiet (opMove rfl rfl)) ?_
              refine ARL.g (v := (.int .i64 (W (x8_l0 - 1)))) (bif (!c55) then (.bool c58) else .tup []) true rfl (wGT _ _) rfl noneAlive (fun hG => by have q0 := gN (gA1 hG); have q1 := gA2 hG; subst q0; subst q1; exact Light.quiet (opInt rfl rfl rfl rfl)) ?_
              obtain ⟨a68, ha68, hF⟩ := bindE hF
              refine ARL.g (v := (.rptr [(.list 1 (List.map (AV.int .i64) a68.word)), (.list 1 (List.map (AV.int .i64) a68.box))])) (bif (!c55) then (.bool c58) else .tup []) true rfl (wGT _ _) rfl noneAlive (fun hG => by have q0 := gN (gA1 hG); have q1 := gA2 hG; subst q0; subst q1; exact Light.quiet (kIx (f := TBoxed.av) (whenE ha68) rfl rfl rfl elemA_47 sizeA_51 rfl)) ?_
              refine ARL.g (v := (.rptr [(.list 1 (List.map (AV.int .i64) a68.word)), (.list 1 (List.map (AV.int .i64) a68.box))])) (bif (!c55) then (.bool c58) else .tup []) true rfl (wGT _ _) rfl noneAlive (fun hG => by have q0 := gN (gA1 hG); have q1 := gA2 hG; subst q0; subst q1; exact Light.quiet (opFieldAddrR rfl fieldA_51_0 rfl rfl)) ?_
              refine ARL.g (v := (.list 1 (List.map (AV.int .i64) a68.word))) (bif (!c55) then (.bool c58) else .tup []) true rfl (wGT _ _) rfl noneAlive (fun hG => by have q0 := gN (gA1 hG); have q1 := gA2 hG; subst q0; subst q1; exact Light.quiet (opLoadR rfl aggA_27 rfl rfl)) ?_
              refine ARL.g (v := (.int .i64 (a68.word.length : Int))) (bif (!c55) then (.bool c58) else .tup []) true rfl (wGT _ _) rfl noneAlive (fun hG => by have q0 := gN (gA1 hG); have q1 := gA2 hG; subst q0; subst q1; exact Light.quiet (opLenMap (f := (AV.int .i64)) rfl rfl rfl lenT_27 rfl)) ?_
              refine ARL.g (v := (.bool (decide (((a61.word.length : Int)) < ((a68.word.length : Int)))))) (bif (!c55) then (.bool c58) else .tup []) true rfl (wGT _ _) rfl noneAlive (fun hG => by have q0 := gN (gA1 hG); have q1 := gA2 hG; subst q0; subst q1; exact Light.quiet (opInt rfl rfl rfl rfl)) ?_
              refine ARL.g (v := (.bool (c58 && (decide (((a61.word.length : Int)) < ((a68.word.length : Int))))))) (.bool c55) false rfl (wF _) rfl noneAlive (fun hG => by have q0 := gN hG; subst q0; exact Light.quiet (opPick (b := c58) rfl rfl (by cases c58 <;> rfl))) ?_
              refine ARL.q0 (v := (.bool (c55 || (c58 && (decide (((a61.word.length : Int)) < ((a68.word.length : Int)))))))) rfl rfl (Light.quiet (opPick (b := c55) rfl rfl (by cases c55 <;> rfl))) ?_
              refine ARL.done ?_
              refine AWP.ifB hF rfl (fun hc16 hF => ?_) (fun hc16 hF => ?_)
              · skip
                refine AWP.seqR rfl ?_
                refine ASL.q (v := (.bool false)) rfl rfl (Light.quiet (opAssign rfl rfl)) ?_
                refine ASL.done ?_
                refine AWP.ret ?_
                refine QThen.rt ?_
                refine QBlock.ret ?_
                refine QThen.rt ?_
                refine QThen.rt ?_
                refine QBlock.ret ?_
                refine QThen.rt ?_
                obtain rfl := (hx9 _ (someE hF).symm)
                have hF := hR12
                have hF := sumR hF
                obtain rfl := someE hF
                exact QRet.sole (v := (.bool false)) ⟨rfl, trivial⟩ rfl
              · skip
                refine AWP.skip ?_
                refine QThen.nrm ?_
                refine AWP.seqR rfl ?_
                refine ASL.q (v := (.int .i64 0)) rfl rfl (Light.quiet (opAssign rfl rfl)) ?_
                refine ASL.done ?_
                refine AWP.block ?_
                obtain ⟨o20, hL19, hR21⟩ := bindE hF
                refine AWP.loopF (ω := Unit) hL19 (fun s w => [(3, (.ptr b3 0)), (4, (.list 2 (List.map TBoxed.av a19.1))), (8, (.int .i64 x8_l0)), (9, (.int .i64 s))]) (fun s w => [.cell b3 [(.int .i64 a16.letters), (.int .i64 a16.states), (.int .i64 a16.start), (.list 4 (List.map TEdge.av a16.edges))]]) () ⟨rfl, rfl, rfl, rfl, trivial⟩ (hS.pick [0] rfl rfl) ?_
                rintro x9_l1 _ G22 hS x17 hF hx18
                try dsimp only at hS ⊢
                have hF : laws_FnAllBoxes.b1 a16 a19 x8_l0 x9_l1 = some x17 := hF; unfold laws_FnAllBoxes.b1 at hF
                refine AWP.seq ?_
                refine AWP.seqR rfl ?_
                refine ASL.q (v := (.int .i64 x9_l1)) rfl rfl (Light.quiet (opMove rfl rfl)) ?_
                refine ASL.q (v := (.ptr b3 0)) rfl rfl (Light.quiet (opFieldAddr rfl fieldA_26_0 rfl rfl)) ?_
                refine ASL.q (v := (.int .i64 a16.letters)) rfl rfl (Light.quiet (kAt hS (j := 0) rfl rfl aggA_3 rfl rfl)) ?_
                refine ASL.q (v := (.bool (decide (x9_l1 < a16.letters)))) rfl rfl (Light.quiet (opInt rfl rfl rfl rfl)) ?_
                refine ASL.done ?_
                refine AWP.ifP hF rfl (fun hc23 hF => ?_) (fun hc23 hF => ?_)
                · skip
                  refine AWP.skip ?_
                  refine QThen.nrm ?_
                  refine AWP.seqM (fun e H => E.Told e [(3, (.ptr b3 0)), (4, (.list 2 (List.map TBoxed.av a19.1))), (8, (.int .i64 x8_l0)), (9, (.int .i64 x9_l1))] ∧ E.Sep H [.cell b3 [(.int .i64 a16.letters), (.int .i64 a16.states), (.int .i64 a16.start), (.list 4 (List.map TEdge.av a16.edges))]] ∧ laws_FnAllBoxes.k2 x9_l1 = some x17) ?_ ?_
                  · rintro e0 G24 ⟨hT, hS, hF⟩; refine AWP.only _ hT ?_; unfold laws_FnAllBoxes.k2 at hF
                    refine AWP.lastR rfl ?_
                    refine ASL.q (v := (.int .i64 x9_l1)) rfl rfl (Light.quiet (opMove rfl rfl)) ?_
                    refine ASL.q (v := (.int .i64 (W (x9_l1 + 1)))) rfl rfl (Light.quiet (opInt rfl rfl rfl rfl)) ?_
                    refine ASL.q (v := (.int .i64 (W (x9_l1 + 1)))) rfl rfl (Light.quiet (opAssign rfl rfl)) ?_
                    refine ASL.done ?_
                    refine QThen.nrm ?_
                    exact ⟨(W (x9_l1 + 1)), (), (someE hF).symm, ⟨rfl, rfl, rfl, rfl, trivial⟩, (hS.pick [0] rfl rfl)⟩
                  · skip
                    refine AWP.block ?_
                    refine AWP.seqD [(0, false), (1, false), (2, false), (3, false), (4, false), (5, false), (6, false), (7, false), (8, false), (9, false), (10, false), (11, false), (12, false)] mixed (by kernel_rfl) rfl ?_
                    refine ARL.q0 (v := (.ptr b3 1)) rfl rfl (Light.quiet (opFieldAddr rfl fieldA_26_1 rfl rfl)) ?_
                    refine ARL.q (v := (.int .i64 a16.states)) rfl rfl (hS.aliveC (k := 0) rfl) (Light.quiet (kAt hS (j := 0) rfl rfl aggA_3 rfl rfl)) ?_
                    refine ARL.q0 (v := (.list 2 (List.map TBoxed.av a19.1))) rfl rfl (Light.quiet (opMove rfl rfl)) ?_
                    refine ARL.q0 (v := (.int .i64 x8_l0)) rfl rfl (Light.quiet (opMove rfl rfl)) ?_
                    obtain ⟨a85, ha85, hF⟩ := bindE hF
                    refine ARL.q0 (v := (.rptr [(.list 1 (List.map (AV.int .i64) a85.word)), (.list 1 (List.map (AV.int .i64) a85.box))])) rfl rfl (Light.quiet (kIx (f := TBoxed.av) ha85 rfl rfl rfl elemA_47 sizeA_51 rfl)) ?_
                    refine ARL.q0 (v := (.rptr [(.list 1 (List.map (AV.int .i64) a85.box))])) rfl rfl (Light.quiet (opFieldAddrR rfl fieldA_51_1 rfl rfl)) ?_
                    refine ARL.q0 (v := (.list 1 (List.map (AV.int .i64) a85.box))) rfl rfl (Light.quiet (opLoadR rfl aggA_27 rfl rfl)) ?_
                    refine ARL.q (v := (TAuto.av a16)) rfl rfl (hS.aliveC (k := 0) rfl) (Light.quiet (kAtA hS (j := 0) rfl rfl aggA_26 sizeA_26 rfl (nlt rfl) rfl)) ?_
                    refine ARL.q0 (v := (.int .i64 x9_l1)) rfl rfl (Light.quiet (opMove rfl rfl)) ?_
                    refine ARL.q0 (v := (.list 1 (List.map (AV.int .i64) [x9_l1]))) rfl rfl ((qLit (xs := [(.int .i64 x9_l1)]) rfl elemA_27 sizeA_3 zeroA_3 rfl rfl rfl rfl (by simp [cells]) (nlt rfl))) ?_
                    obtain ⟨a91, ha91, hF⟩ := bindE hF
                    refine ARL.q0 (v := (.list 1 (List.map (AV.int .i64) a91))) rfl rfl ((qCall rfl rfl call_13 (PO.list (impl_BoxOf_ok ha91)) rfl)) ?_
                    obtain ⟨a92, ha92, hF⟩ := bindE hF
                    refine ARL.q0 (v := (.list 1 (List.map (AV.int .i64) a92))) rfl rfl ((qCall rfl rfl call_16 (PO.list (impl_BoxMul_ok ha92)) rfl)) ?_
                    refine ARL.q0 (v := (.list 1 (List.map (AV.int .i64) a92))) rfl rfl (Light.quiet (opAssign rfl rfl)) ?_
                    refine ARL.done ?_
                    refine AWP.seqR rfl ?_
                    refine ASL.q (v := (.int .i64 0)) rfl rfl (Light.quiet (opAssign rfl rfl)) ?_
                    refine ASL.done ?_
                    refine AWP.seqM (fun e H => ∃ x11_4 : Int, E.Told e [(3, (.ptr b3 0)), (4, (.list 2 (List.map TBoxed.av a19.1))), (8, (.int .i64 x8_l0)), (9, (.int .i64 x9_l1)), (11, (.int .i64 x11_4))] ∧ E.Sep H [.cell b3 [(.int .i64 a16.letters), (.int .i64 a16.states), (.int .i64 a16.start), (.list 4 (List.map TEdge.av a16.edges))]] ∧ laws_FnAllBoxes.k3 x9_l1 x11_4 = some x17) ?_ ?_
                    · rintro e0 G26 ⟨x11_4, hT, hS, hF⟩; refine AWP.only _ hT ?_; unfold laws_FnAllBoxes.k3 at hF
                      refine AWP.seqR rfl ?_
                      refine ASL.q (v := (.int .i64 x11_4)) rfl rfl (Light.quiet (opMove rfl rfl)) ?_
                      refine ASL.q (v := (.bool (decide (x11_4 ≠ 1)))) rfl rfl (Light.quiet (opInt rfl rfl rfl rfl)) ?_
                      refine ASL.done ?_
                      refine AWP.ifP hF rfl (fun hc25 hF => ?_) (fun hc25 hF => ?_)
                      · skip
                        refine AWP.seqR rfl ?_
                        refine ASL.q (v := (.bool false)) rfl rfl (Light.quiet (opAssign rfl rfl)) ?_
                        refine ASL.done ?_
                        refine AWP.ret ?_
                        refine QBlock.ret ?_
                        refine QThen.rt ?_
                        refine QThen.rt ?_
                        refine QBlock.ret ?_
                        refine QBlock.ret ?_
                        refine QThen.rt ?_
                        refine QThen.rt ?_
                        refine QBlock.ret ?_
                        refine QThen.rt ?_
                        obtain rfl := (hx18 _ (someE hF).symm)
                        have hF := hR21
                        have hF := sumR hF
                        obtain rfl := (hx9 _ (someE hF).symm)
                        have hF := hR12
                        have hF := sumR hF
                        obtain rfl := someE hF
                        exact QRet.sole (v := (.bool false)) ⟨rfl, trivial⟩ rfl
                      · skip
                        refine AWP.skip ?_
                        refine QBlock.nrm ?_
                        refine QThen.nrm ?_
                        exact ⟨⟨rfl, rfl, rfl, rfl, trivial⟩, (hS.pick [0] rfl rfl), hF⟩
                    · skip
                      refine AWP.seqR rfl ?_
                      refine ASL.q (v := (.int .i64 0)) rfl rfl (Light.quiet (opAssign rfl rfl)) ?_
                      refine ASL.done ?_
                      refine AWP.block ?_
                      obtain ⟨o30, hL29, hR31⟩ := bindE hF
                      refine AWP.loopF (ω := Unit) hL29 (fun s w => [(3, (.ptr b3 0)), (4, (.list 2 (List.map TBoxed.av a19.1))), (8, (.int .i64 x8_l0)), (9, (.int .i64 x9_l1)), (10, (.list 1 (List.map (AV.int .i64) a92))), (11, (.int .i64 s.1)), (12, (.int .i64 s.2))]) (fun s w => [.cell b3 [(.int .i64 a16.letters), (.int .i64 a16.states), (.int .i64 a16.start), (.list 4 (List.map TEdge.av a16.edges))]]) () ⟨rfl, rfl, rfl, rfl, rfl, rfl, rfl, trivial⟩ (hS.pick [0] rfl rfl) ?_
                      rintro ⟨x11_l2, x12_l2⟩ _ G32 hS x27 hF hx28
                      try dsimp only at hS ⊢
                      have hF : laws_FnAllBoxes.b2 a19 a92 x11_l2 x12_l2 = some x27 := hF; unfold laws_FnAllBoxes.b2 at hF
                      refine AWP.seq ?_
                      refine AWP.seqR rfl ?_
                      refine ASL.q (v := (.int .i64 x12_l2)) rfl rfl (Light.quiet (opMove rfl rfl)) ?_
                      refine ASL.q (v := (.list 2 (List.map TBoxed.av a19.1))) rfl rfl (Light.quiet (opMove rfl rfl)) ?_
                      refine ASL.q (v := (.int .i64 (a19.1.length : Int))) rfl rfl (Light.quiet (opLenMap (f := TBoxed.av) rfl rfl rfl lenT_47 rfl)) ?_
                      refine ASL.q (v := (.bool (decide (x12_l2 < ((a19.1.length : Int)))))) rfl rfl (Light.quiet (opInt rfl rfl rfl rfl)) ?_
                      refine ASL.done ?_
                      refine AWP.ifP hF rfl (fun hc33 hF => ?_) (fun hc33 hF => ?_)
                      · skip
                        refine AWP.skip ?_
                        refine QThen.nrm ?_
                        refine AWP.seq ?_
                        refine AWP.block ?_
                        refine AWP.seqR rfl ?_
                        refine ASL.q (v := (.list 2 (List.map TBoxed.av a19.1))) rfl rfl (Light.quiet (opMove rfl rfl)) ?_
                        refine ASL.q (v := (.int .i64 x12_l2)) rfl rfl (Light.quiet (opMove rfl rfl)) ?_
                        obtain ⟨a101, ha101, hF⟩ := bindE hF
                        refine ASL.q (v := (.rptr [(.list 1 (List.map (AV.int .i64) a101.word)), (.list 1 (List.map (AV.int .i64) a101.box))])) rfl rfl (Light.quiet (kIx (f := TBoxed.av) ha101 rfl rfl rfl elemA_47 sizeA_51 rfl)) ?_
                        refine ASL.q (v := (.rptr [(.list 1 (List.map (AV.int .i64) a101.box))])) rfl rfl (Light.quiet (opFieldAddrR rfl fieldA_51_1 rfl rfl)) ?_
                        refine ASL.q (v := (.list 1 (List.map (AV.int .i64) a101.box))) rfl rfl (Light.quiet (opLoadR rfl aggA_27 rfl rfl)) ?_
                        refine ASL.q (v := (.list 1 (List.map (AV.int .i64) a92))) rfl rfl (Light.quiet (opMove rfl rfl)) ?_
                        obtain ⟨a105, ha105, hF⟩ := bindE hF
                        refine ASL.q (v := (.bool a105)) rfl rfl ((qCall rfl rfl call_17 (laws_sameInts_ok ha105) rfl)) ?_
                        refine ASL.done ?_
                        refine AWP.ifB hF rfl (fun hc34 hF => ?_) (fun hc34 hF => ?_)
                        · skip
                          refine AWP.lastR rfl ?_
                          refine ASL.q (v := (.int .i64 x11_l2)) rfl rfl (Light.quiet (opMove rfl rfl)) ?_
                          refine ASL.q (v := (.int .i64 (W (x11_l2 + 1)))) rfl rfl (Light.quiet (opInt rfl rfl rfl rfl)) ?_
                          refine ASL.q (v := (.int .i64 (W (x11_l2 + 1)))) rfl rfl (Light.quiet (opAssign rfl rfl)) ?_
                          refine ASL.done ?_
                          refine QBlock.nrm ?_
                          refine QThen.nrm ?_
                          refine AWP.lastR rfl ?_
                          refine ASL.q (v := (.int .i64 x12_l2)) rfl rfl (Light.quiet (opMove rfl rfl)) ?_
                          refine ASL.q (v := (.int .i64 (W (x12_l2 + 1)))) rfl rfl (Light.quiet (opInt rfl rfl rfl rfl)) ?_
                          refine ASL.q (v := (.int .i64 (W (x12_l2 + 1)))) rfl rfl (Light.quiet (opAssign rfl rfl)) ?_
                          refine ASL.done ?_
                          refine QThen.nrm ?_
                          exact ⟨((W (x11_l2 + 1)), (W (x12_l2 + 1))), (), (someE hF).symm, ⟨rfl, rfl, rfl, rfl, rfl, rfl, rfl, trivial⟩, (hS.pick [0] rfl rfl)⟩
                        · skip
                          refine AWP.skip ?_
                          refine QBlock.nrm ?_
                          refine QThen.nrm ?_
                          refine AWP.lastR rfl ?_
                          refine ASL.q (v := (.int .i64 x12_l2)) rfl rfl (Light.quiet (opMove rfl rfl)) ?_
                          refine ASL.q (v := (.int .i64 (W (x12_l2 + 1)))) rfl rfl (Light.quiet (opInt rfl rfl rfl rfl)) ?_
                          refine ASL.q (v := (.int .i64 (W (x12_l2 + 1)))) rfl rfl (Light.quiet (opAssign rfl rfl)) ?_
                          refine ASL.done ?_
                          refine QThen.nrm ?_
                          exact ⟨(x11_l2, (W (x12_l2 + 1))), (), (someE hF).symm, ⟨rfl, rfl, rfl, rfl, rfl, rfl, rfl, trivial⟩, (hS.pick [0] rfl rfl)⟩
                      · skip
                        refine AWP.exit ?_
                        refine QThen.ext ?_
                        refine QThen.ext ?_
                        refine QBlock.hit ?_
                        obtain rfl := (hx28 _ (someE hF).symm)
                        have hF := hR31
                        refine QThen.nrm ?_
                        exact ⟨x11_l2, ⟨rfl, rfl, rfl, rfl, rfl, trivial⟩, (hS.pick [0] rfl rfl), hF⟩
                · skip
                  refine AWP.exit ?_
                  refine QThen.ext ?_
                  refine QThen.ext ?_
                  refine QBlock.hit ?_
                  obtain rfl := (hx18 _ (someE hF).symm)
                  have hF := hR21
                  have hF := sumL hF
                  refine QBlock.nrm ?_
                  refine QThen.nrm ?_
                  exact ⟨⟨rfl, rfl, rfl, trivial⟩, (hS.pick [0] rfl rfl), hF⟩
          · skip
            refine AWP.exit ?_
            refine QThen.ext ?_
            refine QThen.ext ?_
            refine QBlock.hit ?_
            obtain rfl := (hx9 _ (someE hF).symm)
            have hF := hR12
            have hF := sumL hF
            refine QThen.nrm ?_
            exact ⟨⟨rfl, rfl, trivial⟩, (hS.pick [0] rfl rfl), hF⟩

end Go.Proofs.Ytcmbbpdepobnlaa
