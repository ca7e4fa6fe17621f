/- Each of these functions of the program comes to just what its plain function says: FnExactAutoPrune. -/
import Derived.Test.YthdclobnmicdaaaDAutoPrune
import Derived.Test.YthdclobnmicdaaaFa
import Derived.Test.YthdclobnmicdaaaKAutoEmpty
import Derived.Test.YthdclobnmicdaaaKAutoScc
namespace Go.Proofs.Ythdclobnmicdaaa
open Go Go.RowKit E
set_option linter.unusedVariables false
set_option maxRecDepth 10000 in
theorem spec_l4Keep_ok {p0 : TAuto} {p1 : Int} {r : (TAuto × (List Int))} (hF : spec_l4Keep p0 p1 = some r) : HS Try.prog 69 [(TAuto.av p0), (.int .i64 p1)] [] fun v L' => ∃ o0_Edges : AV, ∃ o1 : AV, v = .tup [(.agg [(.int .i64 r.1.letters), (.int .i64 r.1.states), (.int .i64 r.1.start), o0_Edges]), o1] ∧ L' = [.row 4 o0_Edges (List.map TEdge.av r.1.edges), .row 1 o1 (List.map (AV.int .i64) r.2)] := by
  intro H S hS
  refine HC.enter Try.func69 rfl Try.ntmps69 (by simp) ?_
  simp only [List.cons_append, List.nil_append] at hS
  unfold spec_l4Keep at hF
  refine AWP.seqR rfl ?_
  refine ASL.q (v := (.rptr [(.int .i64 p0.letters), (.int .i64 p0.states), (.int .i64 p0.start), (.list 4 (List.map TEdge.av p0.edges))])) rfl rfl ((qBoxI (v := (TAuto.av p0)) rfl rfl rfl rfl)) ?_
  have hS := hNil (s := 4) (f := TEdge.av) hS
  refine ASL.x rfl rfl (hNewZ hS [(.int .i64 0), (.int .i64 0), (.int .i64 0), .nil] rfl zeroA_29 ⟨.inl rfl, .inl rfl, .inl rfl, .inl rfl, trivial⟩ ?_); rintro b4 G1 hK hS
  have hS := hNil (s := 1) (f := (AV.int .i64)) hS
  refine ASL.q (v := .nil) rfl rfl (Light.quiet (opAssign rfl rfl)) ?_
  refine ASL.done ?_
  refine AWP.seqR rfl ?_
  refine ASL.x rfl rfl (hLit (f := (AV.int .i64)) (zs := []) hS rfl rfl elemA_34 sizeA_3 zeroA_3 rfl rfl rfl rfl (by simp [cells]) (nlt rfl) ?_); rintro v13 G5 hK hS
  refine ASL.q (v := v13) rfl rfl (Light.quiet (opAssign rfl rfl)) ?_
  refine ASL.done ?_
  refine AWP.seqR rfl ?_
  refine ASL.x rfl rfl (hLit (f := (AV.int .i64)) (zs := []) hS rfl rfl elemA_34 sizeA_3 zeroA_3 rfl rfl rfl rfl (by simp [cells]) (nlt rfl) ?_); rintro v14 G7 hK hS
  refine ASL.q (v := v14) rfl rfl (Light.quiet (opAssign rfl rfl)) ?_
  refine ASL.done ?_
  refine AWP.seqM (fun e H => ∃ y9 : (List Int), ∃ y12 : (List Int), ∃ w10 : AV, ∃ w13 : AV, E.Told e [(1, (.int .i64 p1)), (2, (.rptr [(.int .i64 p0.letters), (.int .i64 p0.states), (.int .i64 p0.start), (.list 4 (List.map TEdge.av p0.edges))])), (4, (.ptr b4 0)), (6, w10), (7, w13)] ∧ E.Sep H [.row 4 .nil (List.map TEdge.av ([])), .cell b4 [(.int .i64 0), (.int .i64 0), (.int .i64 0), .nil], .row 1 w10 (List.map (AV.int .i64) y9), .row 1 w13 (List.map (AV.int .i64) y12), .snap S] ∧ spec_l4Keep.k0 p0 p1 y9 y12 = some r) ?_ ?_
  · rintro e0 G70 ⟨y9, y12, w10, w13, hT, hS, hF⟩; refine AWP.only _ hT ?_; unfold spec_l4Keep.k0 at hF
    refine AWP.seqR rfl ?_
    refine ASL.q (v := (.rptr [(.int .i64 p0.letters), (.int .i64 p0.states), (.int .i64 p0.start), (.list 4 (List.map TEdge.av p0.edges))])) rfl rfl (Light.quiet (opFieldAddrR rfl fieldA_29_0 rfl rfl)) ?_
    refine ASL.q (v := (.int .i64 p0.letters)) rfl rfl (Light.quiet (opLoadR rfl aggA_3 rfl rfl)) ?_
    refine ASL.q (v := w10) rfl rfl (Light.quiet (opMove rfl rfl)) ?_
    refine ASL.q (v := (.int .i64 (y9.length : Int))) rfl rfl (Light.quiet (kLen hS (j := 2) rfl rfl rfl rfl lenT_34 rfl)) ?_
    refine ASL.q (v := (.agg [(.int .i64 p0.letters), (.int .i64 (y9.length : Int)), (.int .i64 0), .nil])) rfl rfl (Light.quiet (opBuildZ (zs := [(.int .i64 0), (.int .i64 0), (.int .i64 0), .nil]) rfl plan_29 zeroA_29 ⟨.inl rfl, .inl rfl, .inl rfl, .inl rfl, trivial⟩ rfl)) ?_
    have hS := hNil (s := 4) (f := TEdge.av) hS
    refine ASL.x rfl rfl (hNewZ hS [(.int .i64 0), (.int .i64 0), (.int .i64 0), .nil] rfl zeroA_29 ⟨.inl rfl, .inl rfl, .inl rfl, .inl rfl, trivial⟩ ?_); rintro b9 G15 hK hS
    have hS := hNil (s := 4) (f := TEdge.av) hS
    refine ASL.n rfl rfl (hPutA hS (j := 1) rfl rfl sizeA_29 rfl rfl rfl rfl (allC rfl (allC rfl (allC rfl (allC (hS.one (k := 0) rfl) rfl)))) (nlt rfl) ?_); rintro G18 hS
    refine ASL.done ?_
    refine AWP.seqM (fun e H => ∃ y20 : Int, ∃ y21 : Int, ∃ y22 : Int, ∃ y23 : (List TEdge), ∃ w24 : AV, E.Told e [(1, (.int .i64 p1)), (2, (.rptr [(.int .i64 p0.letters), (.int .i64 p0.states), (.int .i64 p0.start), (.list 4 (List.map TEdge.av p0.edges))])), (4, (.ptr b4 0)), (6, w10), (7, w13), (9, (.ptr b9 0))] ∧ E.Sep H [.row 4 .nil (List.map TEdge.av ([])), .cell b4 [(.int .i64 0), (.int .i64 0), (.int .i64 0), .nil], .row 1 w10 (List.map (AV.int .i64) y9), .row 1 w13 (List.map (AV.int .i64) y12), .row 4 w24 (List.map TEdge.av y23), .cell b9 [(.int .i64 y20), (.int .i64 y21), (.int .i64 y22), w24], .snap S] ∧ spec_l4Keep.k1 p0 p1 y12 y9 y20 y21 y22 y23 = some r) ?_ ?_
    · rintro e0 G54 ⟨y20, y21, y22, y23, w24, hT, hS, hF⟩; refine AWP.only _ hT ?_; unfold spec_l4Keep.k1 at hF
      refine AWP.seqM (fun e H => ∃ y26 : Int, ∃ y27 : Int, ∃ y28 : Int, ∃ y29 : (List TEdge), ∃ w30 : AV, E.Told e [(4, (.ptr b4 0)), (6, w10), (9, (.ptr b9 0))] ∧ E.Sep H [.row 4 .nil (List.map TEdge.av ([])), .cell b4 [(.int .i64 0), (.int .i64 0), (.int .i64 0), .nil], .row 1 w10 (List.map (AV.int .i64) y9), .row 4 w30 (List.map TEdge.av y29), .cell b9 [(.int .i64 y26), (.int .i64 y27), (.int .i64 y28), w30], .snap S] ∧ spec_l4Keep.k2 y9 y26 y27 y28 y29 = some r) ?_ ?_
      · rintro e0 G33 ⟨y26, y27, y28, y29, w30, hT, hS, hF⟩; refine AWP.only _ hT ?_; unfold spec_l4Keep.k2 at hF
        refine AWP.seqR rfl ?_
        refine ASL.q (v := (.agg [(.int .i64 y26), (.int .i64 y27), (.int .i64 y28), w30])) rfl rfl (Light.quiet (kAtA hS (j := 4) rfl rfl aggA_29 sizeA_29 rfl (nlt rfl) rfl)) ?_
        refine ASL.q (v := w10) rfl rfl (Light.quiet (opMove rfl rfl)) ?_
        refine ASL.n rfl rfl (hPutA hS (j := 1) rfl rfl sizeA_29 rfl rfl rfl rfl (allC rfl (allC rfl (allC rfl (allC (hS.one (k := 3) rfl) rfl)))) (nlt rfl) ?_); rintro G32 hS
        refine ASL.q (v := w10) rfl rfl (Light.quiet (opAssign rfl rfl)) ?_
        refine ASL.done ?_
        refine AWP.ret ?_
        obtain rfl := someE hF
        exact QRet.many (vs := [(.agg [(.int .i64 y26), (.int .i64 y27), (.int .i64 y28), w30]), w10]) ⟨resOne.at hS (k := 1) rfl rfl aggA_29 sizeA_29, rfl, trivial⟩ (by simp) ⟨_, ⟨w30, w10, rfl, rfl⟩, hS.pick [3, 2, 5] rfl rfl⟩
      · skip
        refine AWP.seqR rfl ?_
        refine ASL.q (v := (.int .i64 0)) rfl rfl (Light.quiet (opAssign rfl rfl)) ?_
        refine ASL.done ?_
        refine AWP.block ?_
        obtain ⟨o43, hL42, hR44⟩ := bindE hF
        refine AWP.loopF (ω := AV) hL42 (fun s w => [(1, (.int .i64 p1)), (2, (.rptr [(.int .i64 p0.letters), (.int .i64 p0.states), (.int .i64 p0.start), (.list 4 (List.map TEdge.av p0.edges))])), (4, (.ptr b4 0)), (6, w10), (7, w13), (9, (.ptr b9 0)), (11, (.int .i64 s.2.2.2.2))]) (fun s w => [.row 4 .nil (List.map TEdge.av ([])), .cell b4 [(.int .i64 0), (.int .i64 0), (.int .i64 0), .nil], .row 1 w10 (List.map (AV.int .i64) y9), .row 1 w13 (List.map (AV.int .i64) y12), .row 4 w (List.map TEdge.av s.2.2.2.1), .cell b9 [(.int .i64 s.1), (.int .i64 s.2.1), (.int .i64 s.2.2.1), w], .snap S]) w24 ⟨rfl, rfl, rfl, rfl, rfl, rfl, rfl, trivial⟩ (hS.pick [0, 1, 2, 3, 4, 5, 6] rfl rfl) ?_
        rintro ⟨y34, y35, y36, y37, x11_l0⟩ w38 G45 hS x40 hF hx41
        try dsimp only at hS ⊢
        have hF : spec_l4Keep.b0 p0 p1 y12 y34 y35 y36 y37 x11_l0 = some x40 := hF; unfold spec_l4Keep.b0 at hF
        refine AWP.seq ?_
        refine AWP.seqR rfl ?_
        refine ASL.q (v := (.int .i64 x11_l0)) rfl rfl (Light.quiet (opMove rfl rfl)) ?_
        refine ASL.q (v := (.rptr [(.list 4 (List.map TEdge.av p0.edges))])) rfl rfl (Light.quiet (opFieldAddrR rfl fieldA_29_3 rfl rfl)) ?_
        refine ASL.q (v := (.list 4 (List.map TEdge.av p0.edges))) rfl rfl (Light.quiet (opLoadR rfl aggA_27 rfl rfl)) ?_
        refine ASL.q (v := (.int .i64 (p0.edges.length : Int))) rfl rfl (Light.quiet (opLenMap (f := TEdge.av) rfl rfl rfl lenT_27 rfl)) ?_
        refine ASL.q (v := (.bool (decide (x11_l0 < ((p0.edges.length : Int)))))) rfl rfl (Light.quiet (opInt rfl rfl rfl rfl)) ?_
        refine ASL.done ?_
        refine AWP.ifP hF rfl (fun hc46 hF => ?_) (fun hc46 hF => ?_)
        · skip
          refine AWP.skip ?_
          refine QThen.nrm ?_
          refine AWP.seq ?_
          refine AWP.block ?_
          refine AWP.seqR rfl ?_
          refine ASL.q (v := (.rptr [(.list 4 (List.map TEdge.av p0.edges))])) rfl rfl (Light.quiet (opFieldAddrR rfl fieldA_29_3 rfl rfl)) ?_
          refine ASL.q (v := (.list 4 (List.map TEdge.av p0.edges))) rfl rfl (Light.quiet (opLoadR rfl aggA_27 rfl rfl)) ?_
          refine ASL.q (v := (.int .i64 x11_l0)) rfl rfl (Light.quiet (opMove rfl rfl)) ?_
          obtain ⟨a72, ha72, hF⟩ := bindE hF
          refine ASL.q (v := (.rptr [(.int .i64 a72.from_), (.int .i64 a72.letter), (.int .i64 a72.to_), (.bool a72.good)])) rfl rfl (Light.quiet (kIx (f := TEdge.av) ha72 rfl rfl rfl elemA_27 sizeA_73 rfl)) ?_
          refine ASL.q (v := (TEdge.av a72)) rfl rfl (Light.quiet (opLoadRA rfl aggA_73 sizeA_73 rfl (nlt rfl) rfl)) ?_
          refine ASL.x rfl rfl (hNewZ hS [(.int .i64 0), (.int .i64 0), (.int .i64 0), (.bool false)] rfl zeroA_73 ⟨.inl rfl, .inl rfl, .inl rfl, .inl rfl, trivial⟩ ?_); rintro b12 G47 hK hS
          refine ASL.n rfl rfl (hPutA hS (j := 0) rfl rfl sizeA_73 rfl rfl rfl rfl rfl (nlt rfl) ?_); rintro G49 hS
          refine ASL.done ?_
          refine AWP.seqR rfl ?_
          refine ASL.q (v := (.int .i64 p1)) rfl rfl (Light.quiet (opMove rfl rfl)) ?_
          refine ASL.q (v := (.ptr b12 0)) rfl rfl (Light.quiet (opFieldAddr rfl fieldA_73_0 rfl rfl)) ?_
          refine ASL.q (v := (.int .i64 a72.from_)) rfl rfl (Light.quiet (kAt hS (j := 0) rfl rfl aggA_3 rfl rfl)) ?_
          obtain ⟨a77, ha77, hF⟩ := bindE hF
          refine ASL.q (v := (.bool a77)) rfl rfl ((qCall rfl rfl call_48 (spec_l1Has_ok ha77) rfl)) ?_
          refine ASL.q (v := (.bool a77)) rfl rfl (Light.quiet (opMove rfl rfl)) ?_
          refine ASL.g (v := (.int .i64 p1)) (.bool a77) true rfl (wT _) rfl (fun hG => by have q0 := hG; subst q0; exact Light.quiet (opMove rfl rfl)) ?_
          refine ASL.g (v := (.ptr b12 2)) (.bool a77) true rfl (wT _) rfl (fun hG => by have q0 := hG; subst q0; exact Light.quiet (opFieldAddr rfl fieldA_73_2 rfl rfl)) ?_
          refine ASL.g (v := (.int .i64 a72.to_)) (.bool a77) true rfl (wT _) rfl (fun hG => by have q0 := hG; subst q0; exact Light.quiet (kAt hS (j := 0) rfl rfl aggA_3 rfl rfl)) ?_
          obtain ⟨a82, ha82, hF⟩ := bindE hF
          refine ASL.g (v := (.bool a82)) (.bool a77) true rfl (wT _) rfl (fun hG => by have q0 := hG; subst q0; exact (qCall rfl rfl call_48 (spec_l1Has_ok (whenE ha82)) rfl)) ?_
          refine ASL.q (v := (.bool (a77 && a82))) rfl rfl (Light.quiet (opPick (b := a77) rfl rfl (by cases a77 <;> rfl))) ?_
          refine ASL.done ?_
          refine AWP.ifB hF rfl (fun hc50 hF => ?_) (fun hc50 hF => ?_)
          · skip
            refine AWP.lastD [(0, false), (1, false), (2, false), (3, false), (4, false), (5, false), (6, false), (7, false), (8, false), (9, false), (10, false), (11, false), (12, false), (13, false), (14, false), (15, false), (16, false), (17, false), (18, true), (19, false), (20, true)] mixed (by kernel_rfl) rfl ?_
            refine ARL.q0 (v := (.ptr b9 3)) rfl rfl (Light.quiet (opFieldAddr rfl fieldA_29_3 rfl rfl)) ?_
            refine ARL.q (v := w38) rfl rfl (hS.aliveC (k := 6) rfl) (Light.quiet (kAt hS (j := 6) rfl rfl aggA_27 rfl rfl)) ?_
            refine ARL.q0 (v := w13) rfl rfl (Light.quiet (opMove rfl rfl)) ?_
            refine ARL.q0 (v := (.ptr b12 0)) rfl rfl (Light.quiet (opFieldAddr rfl fieldA_73_0 rfl rfl)) ?_
            refine ARL.q (v := (.int .i64 a72.from_)) rfl rfl (hS.aliveC (k := 0) rfl) (Light.quiet (kAt hS (j := 0) rfl rfl aggA_3 rfl rfl)) ?_
            obtain ⟨a89, ha89, hF⟩ := bindE hF
            refine ARL.q0 (v := (ptrTo w13 a72.from_.toNat 1)) rfl rfl (Light.quiet (kIxOx hS (j := 4) rfl ha89 rfl rfl rfl elemA_34 sizeA_3)) ?_
            refine ARL.q (v := (.int .i64 a89)) rfl rfl (hS.aliveR (k := 4) rfl) (Light.quiet (kLd (f := (AV.int .i64)) hS (j := 4) rfl ha89 rfl aggA_3 rfl (fun _ => rfl))) ?_
            refine ARL.q0 (v := (.ptr b12 1)) rfl rfl (Light.quiet (opFieldAddr rfl fieldA_73_1 rfl rfl)) ?_
            refine ARL.q (v := (.int .i64 a72.letter)) rfl rfl (hS.aliveC (k := 0) rfl) (Light.quiet (kAt hS (j := 0) rfl rfl aggA_3 rfl rfl)) ?_
            refine ARL.q0 (v := w13) rfl rfl (Light.quiet (opMove rfl rfl)) ?_
            refine ARL.q0 (v := (.ptr b12 2)) rfl rfl (Light.quiet (opFieldAddr rfl fieldA_73_2 rfl rfl)) ?_
            refine ARL.q (v := (.int .i64 a72.to_)) rfl rfl (hS.aliveC (k := 0) rfl) (Light.quiet (kAt hS (j := 0) rfl rfl aggA_3 rfl rfl)) ?_
            obtain ⟨a96, ha96, hF⟩ := bindE hF
            refine ARL.q0 (v := (ptrTo w13 a72.to_.toNat 1)) rfl rfl (Light.quiet (kIxOx hS (j := 4) rfl ha96 rfl rfl rfl elemA_34 sizeA_3)) ?_
            refine ARL.q (v := (.int .i64 a96)) rfl rfl (hS.aliveR (k := 4) rfl) (Light.quiet (kLd (f := (AV.int .i64)) hS (j := 4) rfl ha96 rfl aggA_3 rfl (fun _ => rfl))) ?_
            refine ARL.q0 (v := (.ptr b12 3)) rfl rfl (Light.quiet (opFieldAddr rfl fieldA_73_3 rfl rfl)) ?_
            refine ARL.q (v := (.bool a72.good)) rfl rfl (hS.aliveC (k := 0) rfl) (Light.quiet (kAt hS (j := 0) rfl rfl aggA_4 rfl rfl)) ?_
            refine ARL.q0 (v := (.agg [(.int .i64 a89), (.int .i64 a72.letter), (.int .i64 a96), (.bool a72.good)])) rfl rfl (Light.quiet (opBuildZ (zs := [(.int .i64 0), (.int .i64 0), (.int .i64 0), (.bool false)]) rfl plan_73 zeroA_73 ⟨.inl rfl, .inl rfl, .inl rfl, .inl rfl, trivial⟩ rfl)) ?_
            refine ARL.q0 (v := (.list 4 (List.map TEdge.av [(TEdge.mk a89 a72.letter a96 a72.good)]))) rfl rfl ((qLit (xs := [(.agg [(.int .i64 a89), (.int .i64 a72.letter), (.int .i64 a96), (.bool a72.good)])]) rfl elemA_27 sizeA_73 zeroA_73 rfl rfl rfl rfl (by simp [cells, TEdge.av]) (nlt rfl))) ?_
            obtain ⟨z102, hz102, hF⟩ := bindE hF
            refine ARL.y rfl rfl rfl rfl (hApp (f := TEdge.av) (ws := [(TEdge.mk a89 a72.letter a96 a72.good)]) hS (j := 5) rfl hz102 rfl elemA_27 rfl sizeA_73 bytesA_73 zeroA_73 rfl rfl rfl (fun _ => rfl) ?_); rintro v102 G51 hS
            refine ARL.q0 (v := (.ptr b9 3)) rfl rfl (Light.quiet (opFieldAddr rfl fieldA_29_3 rfl rfl)) ?_
            refine ARL.n rfl rfl rfl rfl (hPut hS (j := 6) rfl rfl sizeA_27 rfl rfl (hS.one (k := 5) rfl) (nlt rfl) ?_); rintro G53 hS
            refine ARL.done ?_
            refine QBlock.nrm ?_
            refine QThen.nrm ?_
            refine AWP.lastR rfl ?_
            refine ASL.q (v := (.int .i64 x11_l0)) rfl rfl (Light.quiet (opMove rfl rfl)) ?_
            refine ASL.q (v := (.int .i64 (W (x11_l0 + 1)))) rfl rfl (Light.quiet (opInt rfl rfl rfl rfl)) ?_
            refine ASL.q (v := (.int .i64 (W (x11_l0 + 1)))) rfl rfl (Light.quiet (opAssign rfl rfl)) ?_
            refine ASL.done ?_
            refine QThen.nrm ?_
            exact ⟨(y34, y35, y36, z102, (W (x11_l0 + 1))), v102, (someE hF).symm, ⟨rfl, rfl, rfl, rfl, rfl, rfl, rfl, trivial⟩, (hS.pick [1, 2, 3, 4, 5, 6, 7] rfl rfl)⟩
          · skip
            refine AWP.skip ?_
            refine QBlock.nrm ?_
            refine QThen.nrm ?_
            refine AWP.lastR rfl ?_
            refine ASL.q (v := (.int .i64 x11_l0)) rfl rfl (Light.quiet (opMove rfl rfl)) ?_
            refine ASL.q (v := (.int .i64 (W (x11_l0 + 1)))) rfl rfl (Light.quiet (opInt rfl rfl rfl rfl)) ?_
            refine ASL.q (v := (.int .i64 (W (x11_l0 + 1)))) rfl rfl (Light.quiet (opAssign rfl rfl)) ?_
            refine ASL.done ?_
            refine QThen.nrm ?_
            exact ⟨(y34, y35, y36, y37, (W (x11_l0 + 1))), w38, (someE hF).symm, ⟨rfl, rfl, rfl, rfl, rfl, rfl, rfl, trivial⟩, (hS.pick [1, 2, 3, 4, 5, 6, 7] rfl rfl)⟩
        · skip
          refine AWP.exit ?_
          refine QThen.ext ?_
          refine QThen.ext ?_
          refine QBlock.hit ?_
          obtain rfl := (hx41 _ (someE hF).symm)
          have hF := hR44
          refine QThen.nrm ?_
          exact ⟨y34, y35, y36, y37, w38, ⟨rfl, rfl, rfl, trivial⟩, (hS.pick [0, 1, 2, 4, 5, 6] rfl rfl), hF⟩
    · skip
      refine AWP.seqR rfl ?_
      refine ASL.q (v := (.int .i64 0)) rfl rfl (Light.quiet (opAssign rfl rfl)) ?_
      refine ASL.done ?_
      refine AWP.block ?_
      obtain ⟨o64, hL63, hR65⟩ := bindE hF
      refine AWP.loopF (ω := AV) hL63 (fun s w => [(1, (.int .i64 p1)), (2, (.rptr [(.int .i64 p0.letters), (.int .i64 p0.states), (.int .i64 p0.start), (.list 4 (List.map TEdge.av p0.edges))])), (4, (.ptr b4 0)), (6, w10), (7, w13), (9, (.ptr b9 0)), (10, (.int .i64 s.2.2.2.2))]) (fun s w => [.row 4 .nil (List.map TEdge.av ([])), .cell b4 [(.int .i64 0), (.int .i64 0), (.int .i64 0), .nil], .row 1 w10 (List.map (AV.int .i64) y9), .row 1 w13 (List.map (AV.int .i64) y12), .row 4 w (List.map TEdge.av s.2.2.2.1), .cell b9 [(.int .i64 s.1), (.int .i64 s.2.1), (.int .i64 s.2.2.1), w], .snap S]) .nil ⟨rfl, rfl, rfl, rfl, rfl, rfl, rfl, trivial⟩ (hS.pick [3, 4, 5, 6, 0, 1, 7] rfl rfl) ?_
      rintro ⟨y55, y56, y57, y58, x10_l1⟩ w59 G66 hS x61 hF hx62
      try dsimp only at hS ⊢
      have hF : spec_l4Keep.b1 p0 p1 y12 y55 y56 y57 y58 x10_l1 = some x61 := hF; unfold spec_l4Keep.b1 at hF
      refine AWP.seq ?_
      refine AWP.seqR rfl ?_
      refine ASL.q (v := (.int .i64 x10_l1)) rfl rfl (Light.quiet (opMove rfl rfl)) ?_
      refine ASL.q (v := (.rptr [(.int .i64 p0.states), (.int .i64 p0.start), (.list 4 (List.map TEdge.av p0.edges))])) rfl rfl (Light.quiet (opFieldAddrR rfl fieldA_29_1 rfl rfl)) ?_
      refine ASL.q (v := (.int .i64 p0.states)) rfl rfl (Light.quiet (opLoadR rfl aggA_3 rfl rfl)) ?_
      refine ASL.q (v := (.bool (decide (x10_l1 < p0.states)))) rfl rfl (Light.quiet (opInt rfl rfl rfl rfl)) ?_
      refine ASL.done ?_
      refine AWP.ifP hF rfl (fun hc67 hF => ?_) (fun hc67 hF => ?_)
      · skip
        refine AWP.skip ?_
        refine QThen.nrm ?_
        refine AWP.seq ?_
        refine AWP.block ?_
        refine AWP.seqR rfl ?_
        refine ASL.q (v := (.int .i64 p1)) rfl rfl (Light.quiet (opMove rfl rfl)) ?_
        refine ASL.q (v := (.int .i64 x10_l1)) rfl rfl (Light.quiet (opMove rfl rfl)) ?_
        obtain ⟨a46, ha46, hF⟩ := bindE hF
        refine ASL.q (v := (.bool a46)) rfl rfl ((qCall rfl rfl call_48 (spec_l1Has_ok ha46) rfl)) ?_
        refine ASL.q (v := (.bool a46)) rfl rfl (Light.quiet (opMove rfl rfl)) ?_
        refine ASL.g (v := (.rptr [(.int .i64 p0.start), (.list 4 (List.map TEdge.av p0.edges))])) (.bool a46) true rfl (wT _) rfl (fun hG => by have q0 := hG; subst q0; exact Light.quiet (opFieldAddrR rfl fieldA_29_2 rfl rfl)) ?_
        refine ASL.g (v := (.int .i64 p0.start)) (.bool a46) true rfl (wT _) rfl (fun hG => by have q0 := hG; subst q0; exact Light.quiet (opLoadR rfl aggA_3 rfl rfl)) ?_
        refine ASL.g (v := (.int .i64 x10_l1)) (.bool a46) true rfl (wT _) rfl (fun hG => by have q0 := hG; subst q0; exact Light.quiet (opMove rfl rfl)) ?_
        obtain ⟨a51, ha51, hF⟩ := bindE hF
        refine ASL.g (v := (.bool a51)) (.bool a46) true rfl (wT _) rfl (fun hG => by have q0 := hG; subst q0; exact (qCall rfl rfl call_48 (spec_l1Has_ok (whenE ha51)) rfl)) ?_
        refine ASL.q (v := (.bool (a46 && a51))) rfl rfl (Light.quiet (opPick (b := a46) rfl rfl (by cases a46 <;> rfl))) ?_
        refine ASL.done ?_
        refine AWP.ifB hF rfl (fun hc68 hF => ?_) (fun hc68 hF => ?_)
        · skip
          refine AWP.lastD [(0, false), (1, false), (2, false), (3, false), (4, false), (5, false), (6, false), (7, false), (8, false), (9, true)] mixed (by kernel_rfl) rfl ?_
          refine ARL.q0 (v := (.ptr b9 2)) rfl rfl (Light.quiet (opFieldAddr rfl fieldA_29_2 rfl rfl)) ?_
          refine ARL.q (v := (.int .i64 y57)) rfl rfl (hS.aliveC (k := 5) rfl) (Light.quiet (kAt hS (j := 5) rfl rfl aggA_3 rfl rfl)) ?_
          refine ARL.q0 (v := w13) rfl rfl (Light.quiet (opMove rfl rfl)) ?_
          refine ARL.q0 (v := (.int .i64 x10_l1)) rfl rfl (Light.quiet (opMove rfl rfl)) ?_
          obtain ⟨a57, ha57, hF⟩ := bindE hF
          refine ARL.q0 (v := (ptrTo w13 x10_l1.toNat 1)) rfl rfl (Light.quiet (kIxOx hS (j := 3) rfl ha57 rfl rfl rfl elemA_34 sizeA_3)) ?_
          refine ARL.q (v := (.int .i64 a57)) rfl rfl (hS.aliveR (k := 3) rfl) (Light.quiet (kLd (f := (AV.int .i64)) hS (j := 3) rfl ha57 rfl aggA_3 rfl (fun _ => rfl))) ?_
          obtain ⟨a59, ha59, hF⟩ := bindE hF
          refine ARL.q0 (v := (.int .i64 a59)) rfl rfl ((qCall rfl rfl call_47 (spec_l1Bit_ok ha59) rfl)) ?_
          refine ARL.q0 (v := (.int .i64 (bOr .i64 y57 a59))) rfl rfl (Light.quiet (opInt rfl rfl rfl rfl)) ?_
          refine ARL.q0 (v := (.ptr b9 2)) rfl rfl (Light.quiet (opFieldAddr rfl fieldA_29_2 rfl rfl)) ?_
          refine ARL.n rfl rfl rfl rfl (hPut hS (j := 5) rfl rfl sizeA_3 rfl rfl rfl (nlt rfl) ?_); rintro G69 hS
          refine ARL.done ?_
          refine QBlock.nrm ?_
          refine QThen.nrm ?_
          refine AWP.lastR rfl ?_
          refine ASL.q (v := (.int .i64 x10_l1)) rfl rfl (Light.quiet (opMove rfl rfl)) ?_
          refine ASL.q (v := (.int .i64 (W (x10_l1 + 1)))) rfl rfl (Light.quiet (opInt rfl rfl rfl rfl)) ?_
          refine ASL.q (v := (.int .i64 (W (x10_l1 + 1)))) rfl rfl (Light.quiet (opAssign rfl rfl)) ?_
          refine ASL.done ?_
          refine QThen.nrm ?_
          exact ⟨(y55, y56, (bOr .i64 y57 a59), y58, (W (x10_l1 + 1))), w59, (someE hF).symm, ⟨rfl, rfl, rfl, rfl, rfl, rfl, rfl, trivial⟩, (hS.pick [0, 1, 2, 3, 4, 5, 6] rfl rfl)⟩
        · skip
          refine AWP.skip ?_
          refine QBlock.nrm ?_
          refine QThen.nrm ?_
          refine AWP.lastR rfl ?_
          refine ASL.q (v := (.int .i64 x10_l1)) rfl rfl (Light.quiet (opMove rfl rfl)) ?_
          refine ASL.q (v := (.int .i64 (W (x10_l1 + 1)))) rfl rfl (Light.quiet (opInt rfl rfl rfl rfl)) ?_
          refine ASL.q (v := (.int .i64 (W (x10_l1 + 1)))) rfl rfl (Light.quiet (opAssign rfl rfl)) ?_
          refine ASL.done ?_
          refine QThen.nrm ?_
          exact ⟨(y55, y56, y57, y58, (W (x10_l1 + 1))), w59, (someE hF).symm, ⟨rfl, rfl, rfl, rfl, rfl, rfl, rfl, trivial⟩, (hS.pick [0, 1, 2, 3, 4, 5, 6] rfl rfl)⟩
      · skip
        refine AWP.exit ?_
        refine QThen.ext ?_
        refine QThen.ext ?_
        refine QBlock.hit ?_
        obtain rfl := (hx62 _ (someE hF).symm)
        have hF := hR65
        refine QThen.nrm ?_
        exact ⟨y55, y56, y57, y58, w59, ⟨rfl, rfl, rfl, rfl, rfl, rfl, trivial⟩, (hS.pick [0, 1, 2, 3, 4, 5, 6] rfl rfl), hF⟩
  · skip
    refine AWP.seqR rfl ?_
    refine ASL.q (v := (.int .i64 0)) rfl rfl (Light.quiet (opAssign rfl rfl)) ?_
    refine ASL.done ?_
    refine AWP.block ?_
    obtain ⟨o80, hL79, hR81⟩ := bindE hF
    refine AWP.loopF (ω := (AV × AV)) hL79 (fun s w => [(1, (.int .i64 p1)), (2, (.rptr [(.int .i64 p0.letters), (.int .i64 p0.states), (.int .i64 p0.start), (.list 4 (List.map TEdge.av p0.edges))])), (4, (.ptr b4 0)), (6, w.1), (7, w.2), (8, (.int .i64 s.2.2))]) (fun s w => [.row 4 .nil (List.map TEdge.av ([])), .cell b4 [(.int .i64 0), (.int .i64 0), (.int .i64 0), .nil], .row 1 w.1 (List.map (AV.int .i64) s.1), .row 1 w.2 (List.map (AV.int .i64) s.2.1), .snap S]) (v13, v14) ⟨rfl, rfl, rfl, rfl, rfl, rfl, trivial⟩ (hS.pick [4, 3, 1, 0, 5] rfl rfl) ?_
    rintro ⟨y71, y74, x8_l2⟩ ⟨w72, w75⟩ G82 hS x77 hF hx78
    try dsimp only at hS ⊢
    have hF : spec_l4Keep.b2 p0 p1 y71 y74 x8_l2 = some x77 := hF; unfold spec_l4Keep.b2 at hF
    refine AWP.seq ?_
    refine AWP.seqR rfl ?_
    refine ASL.q (v := (.int .i64 x8_l2)) rfl rfl (Light.quiet (opMove rfl rfl)) ?_
    refine ASL.q (v := (.rptr [(.int .i64 p0.states), (.int .i64 p0.start), (.list 4 (List.map TEdge.av p0.edges))])) rfl rfl (Light.quiet (opFieldAddrR rfl fieldA_29_1 rfl rfl)) ?_
    refine ASL.q (v := (.int .i64 p0.states)) rfl rfl (Light.quiet (opLoadR rfl aggA_3 rfl rfl)) ?_
    refine ASL.q (v := (.bool (decide (x8_l2 < p0.states)))) rfl rfl (Light.quiet (opInt rfl rfl rfl rfl)) ?_
    refine ASL.done ?_
    refine AWP.ifP hF rfl (fun hc83 hF => ?_) (fun hc83 hF => ?_)
    · skip
      refine AWP.skip ?_
      refine QThen.nrm ?_
      refine AWP.seq ?_
      refine AWP.block ?_
      refine AWP.seqR rfl ?_
      refine ASL.q (v := w75) rfl rfl (Light.quiet (opMove rfl rfl)) ?_
      refine ASL.q (v := w72) rfl rfl (Light.quiet (opMove rfl rfl)) ?_
      refine ASL.q (v := (.int .i64 (y71.length : Int))) rfl rfl (Light.quiet (kLen hS (j := 2) rfl rfl rfl rfl lenT_34 rfl)) ?_
      refine ASL.q (v := (.list 1 (List.map (AV.int .i64) [(y71.length : Int)]))) rfl rfl ((qLit (xs := [(.int .i64 (y71.length : Int))]) rfl elemA_34 sizeA_3 zeroA_3 rfl rfl rfl rfl (by simp [cells]) (nlt rfl))) ?_
      obtain ⟨z25, hz25, hF⟩ := bindE hF
      refine ASL.x rfl rfl (hApp (f := (AV.int .i64)) (ws := [(y71.length : Int)]) hS (j := 3) rfl hz25 rfl elemA_34 rfl sizeA_3 bytesA_3 zeroA_3 rfl rfl rfl (fun _ => rfl) ?_); rintro v25 G84 hS
      refine ASL.q (v := v25) rfl rfl (Light.quiet (opAssign rfl rfl)) ?_
      refine ASL.done ?_
      refine AWP.seqR rfl ?_
      refine ASL.q (v := (.int .i64 p1)) rfl rfl (Light.quiet (opMove rfl rfl)) ?_
      refine ASL.q (v := (.int .i64 x8_l2)) rfl rfl (Light.quiet (opMove rfl rfl)) ?_
      obtain ⟨a28, ha28, hF⟩ := bindE hF
      refine ASL.q (v := (.bool a28)) rfl rfl ((qCall rfl rfl call_48 (spec_l1Has_ok ha28) rfl)) ?_
      refine ASL.done ?_
      refine AWP.ifB hF rfl (fun hc86 hF => ?_) (fun hc86 hF => ?_)
      · skip
        refine AWP.lastR rfl ?_
        refine ASL.q (v := w72) rfl rfl (Light.quiet (opMove rfl rfl)) ?_
        refine ASL.q (v := (.int .i64 x8_l2)) rfl rfl (Light.quiet (opMove rfl rfl)) ?_
        refine ASL.q (v := (.list 1 (List.map (AV.int .i64) [x8_l2]))) rfl rfl ((qLit (xs := [(.int .i64 x8_l2)]) rfl elemA_34 sizeA_3 zeroA_3 rfl rfl rfl rfl (by simp [cells]) (nlt rfl))) ?_
        obtain ⟨z32, hz32, hF⟩ := bindE hF
        refine ASL.x rfl rfl (hApp (f := (AV.int .i64)) (ws := [x8_l2]) hS (j := 2) rfl hz32 rfl elemA_34 rfl sizeA_3 bytesA_3 zeroA_3 rfl rfl rfl (fun _ => rfl) ?_); rintro v32 G87 hS
        refine ASL.q (v := v32) rfl rfl (Light.quiet (opAssign rfl rfl)) ?_
        refine ASL.done ?_
        refine QBlock.nrm ?_
        refine QThen.nrm ?_
        refine AWP.lastR rfl ?_
        refine ASL.q (v := (.int .i64 x8_l2)) rfl rfl (Light.quiet (opMove rfl rfl)) ?_
        refine ASL.q (v := (.int .i64 (W (x8_l2 + 1)))) rfl rfl (Light.quiet (opInt rfl rfl rfl rfl)) ?_
        refine ASL.q (v := (.int .i64 (W (x8_l2 + 1)))) rfl rfl (Light.quiet (opAssign rfl rfl)) ?_
        refine ASL.done ?_
        refine QThen.nrm ?_
        exact ⟨(z32, z25, (W (x8_l2 + 1))), (v32, v25), (someE hF).symm, ⟨rfl, rfl, rfl, rfl, rfl, rfl, trivial⟩, (hS.pick [0, 1, 2, 3, 4] rfl rfl)⟩
      · skip
        refine AWP.skip ?_
        refine QBlock.nrm ?_
        refine QThen.nrm ?_
        refine AWP.lastR rfl ?_
        refine ASL.q (v := (.int .i64 x8_l2)) rfl rfl (Light.quiet (opMove rfl rfl)) ?_
        refine ASL.q (v := (.int .i64 (W (x8_l2 + 1)))) rfl rfl (Light.quiet (opInt rfl rfl rfl rfl)) ?_
        refine ASL.q (v := (.int .i64 (W (x8_l2 + 1)))) rfl rfl (Light.quiet (opAssign rfl rfl)) ?_
        refine ASL.done ?_
        refine QThen.nrm ?_
        exact ⟨(y71, z25, (W (x8_l2 + 1))), (w72, v25), (someE hF).symm, ⟨rfl, rfl, rfl, rfl, rfl, rfl, trivial⟩, (hS.pick [0, 1, 2, 3, 4] rfl rfl)⟩
    · skip
      refine AWP.exit ?_
      refine QThen.ext ?_
      refine QThen.ext ?_
      refine QBlock.hit ?_
      obtain rfl := (hx78 _ (someE hF).symm)
      have hF := hR81
      refine QThen.nrm ?_
      exact ⟨y71, y74, w72, w75, ⟨rfl, rfl, rfl, rfl, rfl, trivial⟩, (hS.pick [0, 1, 2, 3, 4] rfl rfl), hF⟩

set_option maxRecDepth 10000 in
theorem spec_AutoPrune_ok {p0 : TAuto} {r : (TAuto × (List Int))} (hF : spec_AutoPrune p0 = some r) : HS Try.prog 29 [(TAuto.av p0)] [] fun v L' => ∃ o0_Edges : AV, ∃ o1 : AV, v = .tup [(.agg [(.int .i64 r.1.letters), (.int .i64 r.1.states), (.int .i64 r.1.start), o0_Edges]), o1] ∧ L' = [.row 4 o0_Edges (List.map TEdge.av r.1.edges), .row 1 o1 (List.map (AV.int .i64) r.2)] := by
  intro H S hS
  refine HC.enter Try.func29 rfl Try.ntmps29 (by simp) ?_
  simp only [List.cons_append, List.nil_append] at hS
  unfold spec_AutoPrune at hF
  refine AWP.seqR rfl ?_
  refine ASL.q (v := (.rptr [(.int .i64 p0.letters), (.int .i64 p0.states), (.int .i64 p0.start), (.list 4 (List.map TEdge.av p0.edges))])) rfl rfl ((qBoxI (v := (TAuto.av p0)) rfl rfl rfl rfl)) ?_
  have hS := hNil (s := 4) (f := TEdge.av) hS
  refine ASL.x rfl rfl (hNewZ hS [(.int .i64 0), (.int .i64 0), (.int .i64 0), .nil] rfl zeroA_29 ⟨.inl rfl, .inl rfl, .inl rfl, .inl rfl, trivial⟩ ?_); rintro b2 G1 hK hS
  have hS := hNil (s := 1) (f := (AV.int .i64)) hS
  refine ASL.q (v := .nil) rfl rfl (Light.quiet (opAssign rfl rfl)) ?_
  refine ASL.done ?_
  refine AWP.seq ?_
  refine AWP.seqR rfl ?_
  refine ASL.q (v := (TAuto.av p0)) rfl rfl (Light.quiet (opLoadRA rfl aggA_29 sizeA_29 rfl (nlt rfl) rfl)) ?_
  obtain ⟨a7, ha7, hF⟩ := bindE hF
  refine ASL.q (v := (.bool a7)) rfl rfl ((qCall rfl rfl call_41 (spec_AutoOk_ok ha7) rfl)) ?_
  refine ASL.q (v := (.bool (!a7))) rfl rfl (Light.quiet (opNot rfl rfl)) ?_
  refine ASL.done ?_
  refine AWP.ifB hF rfl (fun hc5 hF => ?_) (fun hc5 hF => ?_)
  · skip
    refine AWP.seqR rfl ?_
    refine ASL.q (v := (.agg [(.int .i64 0), (.int .i64 0), (.int .i64 0), .nil])) rfl rfl (Light.quiet (opBuildZ (zs := [(.int .i64 0), (.int .i64 0), (.int .i64 0), .nil]) rfl plan_29 zeroA_29 ⟨.inl rfl, .inl rfl, .inl rfl, .inl rfl, trivial⟩ rfl)) ?_
    refine ASL.x rfl rfl (hLit (f := (AV.int .i64)) (zs := []) hS rfl rfl elemA_34 sizeA_3 zeroA_3 rfl rfl rfl rfl (by simp [cells]) (nlt rfl) ?_); rintro v10 G6 hK hS
    have hS := hNil (s := 4) (f := TEdge.av) hS
    refine ASL.n rfl rfl (hPutA hS (j := 3) rfl rfl sizeA_29 rfl rfl rfl rfl (allC rfl (allC rfl (allC rfl (allC (hS.one (k := 0) rfl) rfl)))) (nlt rfl) ?_); rintro G8 hS
    refine ASL.q (v := v10) rfl rfl (Light.quiet (opAssign rfl rfl)) ?_
    refine ASL.done ?_
    refine AWP.ret ?_
    refine QThen.rt ?_
    obtain rfl := someE hF
    exact QRet.many (vs := [(.agg [(.int .i64 0), (.int .i64 0), (.int .i64 0), .nil]), v10]) ⟨resOne.at hS (k := 3) rfl rfl aggA_29 sizeA_29, rfl, trivial⟩ (by simp) ⟨_, ⟨.nil, v10, rfl, rfl⟩, hS.pick [0, 1, 5] rfl rfl⟩
  · skip
    refine AWP.skip ?_
    refine QThen.nrm ?_
    obtain ⟨a16, ha16, hF⟩ := bindE hF
    obtain ⟨a18, ha18, hF⟩ := bindE hF
    obtain ⟨a20, ha20, hF⟩ := bindE hF
    refine AWP.seqT (fun e H => ∃ b4 : Nat, ∃ w1810 : AV, ∃ w1812 : AV, E.Told e [(2, (.ptr b2 0)), (4, (.ptr b4 0)), (5, w1812)] ∧ E.Sep H [.cell b4 [(.int .i64 a20.1.letters), (.int .i64 a20.1.states), (.int .i64 a20.1.start), w1810], .row 4 .nil (List.map TEdge.av ([])), .row 4 w1810 (List.map TEdge.av a20.1.edges), .row 1 w1812 (List.map (AV.int .i64) a20.2), .row 1 .nil (List.map (AV.int .i64) ([])), .cell b2 [(.int .i64 0), (.int .i64 0), (.int .i64 0), .nil], .row 4 .nil (List.map TEdge.av ([])), .snap S]) (.q 0 (.q 1 (.q 2 (.q 3 (.q 4 (.q 5 (.q 6 (.q 7 (.fork (.h 8 (.q 9 (.q 10 (.q 11 (.h 12 (.h 13 (.q 14 .fin))))))) (.h 12 (.h 8 (.q 9 (.q 10 (.q 11 (.h 13 (.q 14 .fin)))))))))))))))) mixed (by kernel_rfl) ?_ ?_
    · rintro e0 G3410 ⟨b4, w1810, w1812, hT, hS⟩; refine AWP.only _ hT ?_
      refine AWP.seqR rfl ?_
      refine ASL.q (v := (.agg [(.int .i64 a20.1.letters), (.int .i64 a20.1.states), (.int .i64 a20.1.start), w1810])) rfl rfl (Light.quiet (kAtA hS (j := 0) rfl rfl aggA_29 sizeA_29 rfl (nlt rfl) rfl)) ?_
      refine ASL.q (v := w1812) rfl rfl (Light.quiet (opMove rfl rfl)) ?_
      refine ASL.n rfl rfl (hPutA hS (j := 5) rfl rfl sizeA_29 rfl rfl rfl rfl (allC rfl (allC rfl (allC rfl (allC (hS.one (k := 2) rfl) rfl)))) (nlt rfl) ?_); rintro G3411 hS
      refine ASL.q (v := w1812) rfl rfl (Light.quiet (opAssign rfl rfl)) ?_
      refine ASL.done ?_
      refine AWP.ret ?_
      obtain rfl := someE hF
      exact QRet.many (vs := [(.agg [(.int .i64 a20.1.letters), (.int .i64 a20.1.states), (.int .i64 a20.1.start), w1810]), w1812]) ⟨resOne.at hS (k := 5) rfl rfl aggA_29 sizeA_29, rfl, trivial⟩ (by simp) ⟨_, ⟨w1810, w1812, rfl, rfl⟩, hS.pick [2, 3, 7] rfl rfl⟩
    · skip
      refine ART.q0 rfl (v := (TAuto.av p0)) rfl rfl (Light.quiet (opLoadRA rfl aggA_29 sizeA_29 rfl (nlt rfl) rfl)) ?_
      refine ART.q0 rfl (v := (TAuto.av p0)) rfl rfl (Light.quiet (opLoadRA rfl aggA_29 sizeA_29 rfl (nlt rfl) rfl)) ?_
      refine ART.q0 rfl (v := (.rptr [(.int .i64 p0.start), (.list 4 (List.map TEdge.av p0.edges))])) rfl rfl (Light.quiet (opFieldAddrR rfl fieldA_29_2 rfl rfl)) ?_
      refine ART.q0 rfl (v := (.int .i64 p0.start)) rfl rfl (Light.quiet (opLoadR rfl aggA_3 rfl rfl)) ?_
      refine ART.q0 rfl (v := (.int .i64 a16)) rfl rfl ((qCall rfl rfl call_46 (spec_l4Reach_ok ha16) rfl)) ?_
      refine ART.q0 rfl (v := (TAuto.av p0)) rfl rfl (Light.quiet (opLoadRA rfl aggA_29 sizeA_29 rfl (nlt rfl) rfl)) ?_
      refine ART.q0 rfl (v := (.int .i64 a18)) rfl rfl ((qCall rfl rfl call_15 (spec_AutoLive_ok ha18) rfl)) ?_
      refine ART.q0 rfl (v := (.int .i64 (bAnd .i64 a16 a18))) rfl rfl (Light.quiet (opInt rfl rfl rfl rfl)) ?_
      refine ART.fork ?_ ?_
      · skip
        refine ART.x rfl rfl rfl rfl (hCallSR hS rfl rfl call_69 (spec_l4Keep_ok ha20) ⟨.same _, .same _, trivial⟩ (by rintro _ _ G ⟨w1810, w1812, rfl, rfl⟩ hG; exact ⟨(Scal.tup (ScalC.cons (Scal.agg (ScalC.cons (by constructor) (ScalC.cons (by constructor) (ScalC.cons (by constructor) (ScalC.cons (hG.scR (k := 0) rfl) ScalC.nil))))) (ScalC.cons (hG.scR (k := 1) rfl) ScalC.nil))), ⟨(Scal.row (fun _ => by simp only [TEdge.av, cells, List.mem_cons, List.not_mem_nil, or_false]; rintro c hc; rcases hc with rfl | rfl | rfl | rfl <;> constructor)), (Scal.ints _ _), trivial⟩⟩) ?_); rintro _ _ G1814 ⟨w1810, w1812, rfl, rfl⟩ hK hS; refine ⟨hK, ?_⟩
        refine ART.q0 rfl (v := (.tup [(.agg [(.int .i64 a20.1.letters), (.int .i64 a20.1.states), (.int .i64 a20.1.start), w1810]), w1812])) rfl rfl (Light.quiet (opMove rfl rfl)) ?_
        refine ART.q0 rfl (v := (.agg [(.int .i64 a20.1.letters), (.int .i64 a20.1.states), (.int .i64 a20.1.start), w1810])) rfl rfl (Light.quiet (opExtract rfl rfl rfl)) ?_
        refine ART.q0 rfl (v := w1812) rfl rfl (Light.quiet (opExtract rfl rfl rfl)) ?_
        have hS := hNil (s := 4) (f := TEdge.av) hS
        refine ART.x rfl rfl rfl rfl (hNewZ hS [(.int .i64 0), (.int .i64 0), (.int .i64 0), .nil] rfl zeroA_29 ⟨.inl rfl, .inl rfl, .inl rfl, .inl rfl, trivial⟩ ?_); rintro b4 G2610 hK hS; refine ⟨hK, ?_⟩
        refine ART.n rfl rfl rfl rfl rfl (hPutA hS (j := 0) rfl rfl sizeA_29 rfl rfl rfl rfl (allC rfl (allC rfl (allC rfl (allC (hS.one (k := 2) rfl) rfl)))) (nlt rfl) ?_); rintro G2810 hS
        refine ART.q0 rfl (v := w1812) rfl rfl (Light.quiet (opAssign rfl rfl)) ?_
        refine ART.done ?_
        exact ⟨b4, w1810, w1812, ⟨rfl, rfl, rfl, trivial⟩, hS.pick [0, 1, 2, 3, 4, 5, 6, 7] rfl rfl⟩
      · skip
        have hS := hNil (s := 4) (f := TEdge.av) hS
        refine ART.x rfl rfl rfl rfl (hNewZ hS [(.int .i64 0), (.int .i64 0), (.int .i64 0), .nil] rfl zeroA_29 ⟨.inl rfl, .inl rfl, .inl rfl, .inl rfl, trivial⟩ ?_); rintro b4 G2610 hK hS; refine ⟨hK, ?_⟩
        refine ART.x rfl rfl rfl rfl (hCallSR hS rfl rfl call_69 (spec_l4Keep_ok ha20) ⟨.same _, .same _, trivial⟩ (by rintro _ _ G ⟨w1810, w1812, rfl, rfl⟩ hG; exact ⟨(Scal.tup (ScalC.cons (Scal.agg (ScalC.cons (by constructor) (ScalC.cons (by constructor) (ScalC.cons (by constructor) (ScalC.cons (hG.scR (k := 0) rfl) ScalC.nil))))) (ScalC.cons (hG.scR (k := 1) rfl) ScalC.nil))), ⟨(Scal.row (fun _ => by simp only [TEdge.av, cells, List.mem_cons, List.not_mem_nil, or_false]; rintro c hc; rcases hc with rfl | rfl | rfl | rfl <;> constructor)), (Scal.ints _ _), trivial⟩⟩) ?_); rintro _ _ G1814 ⟨w1810, w1812, rfl, rfl⟩ hK hS; refine ⟨hK, ?_⟩
        refine ART.q0 rfl (v := (.tup [(.agg [(.int .i64 a20.1.letters), (.int .i64 a20.1.states), (.int .i64 a20.1.start), w1810]), w1812])) rfl rfl (Light.quiet (opMove rfl rfl)) ?_
        refine ART.q0 rfl (v := (.agg [(.int .i64 a20.1.letters), (.int .i64 a20.1.states), (.int .i64 a20.1.start), w1810])) rfl rfl (Light.quiet (opExtract rfl rfl rfl)) ?_
        refine ART.q0 rfl (v := w1812) rfl rfl (Light.quiet (opExtract rfl rfl rfl)) ?_
        refine ART.n rfl rfl rfl rfl rfl (hPutA hS (j := 2) rfl rfl sizeA_29 rfl rfl rfl rfl (allC rfl (allC rfl (allC rfl (allC (hS.one (k := 0) rfl) rfl)))) (nlt rfl) ?_); rintro G2810 hS
        refine ART.q0 rfl (v := w1812) rfl rfl (Light.quiet (opAssign rfl rfl)) ?_
        refine ART.done ?_
        exact ⟨b4, w1810, w1812, ⟨rfl, rfl, rfl, trivial⟩, hS.pick [2, 3, 0, 1, 4, 5, 6, 7] rfl rfl⟩

set_option maxRecDepth 10000 in
theorem impl_has_ok (p0 : Int) (p1 : Int) : PC Try.prog 67 [(.int .i64 p0), (.int .i64 p1)] fun v => v = (.bool (impl_has p0 p1)) := by
  generalize hF : impl_has p0 p1 = r
  refine PC.enter Try.func67 rfl Try.ntmps67 (by simp) ?_
  have hS := Sep.void; unfold impl_has at hF
  refine AWP.seqR rfl ?_
  refine ASL.q (v := (.bool false)) rfl rfl (Light.quiet (opAssign rfl rfl)) ?_
  refine ASL.done ?_
  refine AWP.seqR rfl ?_
  refine ASL.q (v := (.int .i64 p0)) rfl rfl (Light.quiet (opMove rfl rfl)) ?_
  refine ASL.q (v := (.int .i64 p1)) rfl rfl (Light.quiet (opMove rfl rfl)) ?_
  refine ASL.q (v := (.int .u64 (IntKind.u64.wrap p1))) rfl rfl (Light.quiet (opConv rfl rfl und_3 und_126 rfl)) ?_
  refine ASL.q (v := (.int .i64 (shr .i64 p0 ((IntKind.u64.wrap p1))))) rfl rfl (Light.quiet (opShr rfl rfl rfl (wrapU_nn rfl _) rfl)) ?_
  refine ASL.q (v := (.int .i64 (bAnd .i64 ((shr .i64 p0 ((IntKind.u64.wrap p1)))) 1))) rfl rfl (Light.quiet (opInt rfl rfl rfl rfl)) ?_
  refine ASL.q (v := (.bool (decide (((bAnd .i64 ((shr .i64 p0 ((IntKind.u64.wrap p1)))) 1)) = 1)))) rfl rfl (Light.quiet (opInt rfl rfl rfl rfl)) ?_
  refine ASL.q (v := (.bool (decide (((bAnd .i64 ((shr .i64 p0 ((IntKind.u64.wrap p1)))) 1)) = 1)))) rfl rfl (Light.quiet (opAssign rfl rfl)) ?_
  refine ASL.done ?_
  refine AWP.ret ?_
  obtain rfl := hF
  exact QRet.sole (v := (.bool (decide (((bAnd .i64 ((shr .i64 p0 ((IntKind.u64.wrap p1)))) 1)) = 1)))) ⟨rfl, trivial⟩ rfl

set_option maxRecDepth 10000 in
theorem impl_Auto_reach_ok {p0 : TAuto} {p1 : Int} {r : Int} (hF : impl_Auto_reach p0 p1 = some r) : PC Try.prog 71 [(.rptr [(.int .i64 p0.letters), (.int .i64 p0.states), (.int .i64 p0.start), (.list 4 (List.map TEdge.av p0.edges))]), (.int .i64 p1)] fun v => v = (.int .i64 r) := by
  refine PC.enter Try.func71 rfl Try.ntmps71 (by simp) ?_
  have hS := Sep.void; unfold impl_Auto_reach at hF
  refine AWP.seqR rfl ?_
  refine ASL.q (v := (.int .i64 0)) rfl rfl (Light.quiet (opAssign rfl rfl)) ?_
  refine ASL.done ?_
  refine AWP.block ?_
  obtain ⟨o4, hL3, hR5⟩ := bindE hF
  refine AWP.loopF (ω := Unit) hL3 (fun s w => [(0, (.rptr [(.int .i64 p0.letters), (.int .i64 p0.states), (.int .i64 p0.start), (.list 4 (List.map TEdge.av p0.edges))])), (1, (.int .i64 s))]) (fun s w => []) () ⟨rfl, rfl, trivial⟩ (hS.pick [] rfl rfl) ?_
  rintro x1_l0 _ G6 hS x1 hF hx2
  try dsimp only at hS ⊢
  have hF : impl_Auto_reach.b0 p0 x1_l0 = some x1 := hF; unfold impl_Auto_reach.b0 at hF
  refine AWP.block ?_
  refine AWP.seqR rfl ?_
  refine ASL.q (v := (.int .i64 x1_l0)) rfl rfl (Light.quiet (opMove rfl rfl)) ?_
  refine ASL.q (v := (.int .i64 x1_l0)) rfl rfl (Light.quiet (opAssign rfl rfl)) ?_
  refine ASL.done ?_
  refine AWP.seqM (fun e H => ∃ x5_1 : Int, E.Told e [(0, (.rptr [(.int .i64 p0.letters), (.int .i64 p0.states), (.int .i64 p0.start), (.list 4 (List.map TEdge.av p0.edges))])), (1, (.int .i64 x1_l0)), (5, (.int .i64 x5_1))] ∧ E.Sep H [] ∧ impl_Auto_reach.k0 x1_l0 x5_1 = some x1) ?_ ?_
  · rintro e0 G8 ⟨x5_1, hT, hS, hF⟩; refine AWP.only _ hT ?_; unfold impl_Auto_reach.k0 at hF
    refine AWP.seq ?_
    refine AWP.seqR rfl ?_
    refine ASL.q (v := (.int .i64 x5_1)) rfl rfl (Light.quiet (opMove rfl rfl)) ?_
    refine ASL.q (v := (.int .i64 x1_l0)) rfl rfl (Light.quiet (opMove rfl rfl)) ?_
    refine ASL.q (v := (.bool (decide (x5_1 = x1_l0)))) rfl rfl (Light.quiet (opInt rfl rfl rfl rfl)) ?_
    refine ASL.done ?_
    refine AWP.ifP hF rfl (fun hc7 hF => ?_) (fun hc7 hF => ?_)
    · skip
      refine AWP.seqR rfl ?_
      refine ASL.q (v := (.int .i64 x1_l0)) rfl rfl (Light.quiet (opMove rfl rfl)) ?_
      refine ASL.q (v := (.int .i64 x1_l0)) rfl rfl (Light.quiet (opAssign rfl rfl)) ?_
      refine ASL.done ?_
      refine AWP.ret ?_
      refine QThen.rt ?_
      refine QBlock.ret ?_
      refine QThen.rt ?_
      refine QBlock.ret ?_
      obtain rfl := (hx2 _ (someE hF).symm)
      have hF := hR5
      obtain rfl := someE hF
      exact QRet.sole (v := (.int .i64 x1_l0)) ⟨rfl, trivial⟩ rfl
    · skip
      refine AWP.skip ?_
      refine QThen.nrm ?_
      refine AWP.lastR rfl ?_
      refine ASL.q (v := (.int .i64 x5_1)) rfl rfl (Light.quiet (opMove rfl rfl)) ?_
      refine ASL.q (v := (.int .i64 x5_1)) rfl rfl (Light.quiet (opAssign rfl rfl)) ?_
      refine ASL.done ?_
      refine QBlock.nrm ?_
      refine QThen.nrm ?_
      exact ⟨x5_1, (), (someE hF).symm, ⟨rfl, rfl, trivial⟩, (hS.pick [] rfl rfl)⟩
  · skip
    refine AWP.seqR rfl ?_
    refine ASL.q (v := (.rptr [(.int .i64 p0.letters), (.int .i64 p0.states), (.int .i64 p0.start), (.list 4 (List.map TEdge.av p0.edges))])) rfl rfl (Light.quiet (opMove rfl rfl)) ?_
    refine ASL.q (v := (.rptr [(.int .i64 p0.letters), (.int .i64 p0.states), (.int .i64 p0.start), (.list 4 (List.map TEdge.av p0.edges))])) rfl rfl (Light.quiet (opNil rfl rfl rfl)) ?_
    refine ASL.q (v := (.rptr [(.list 4 (List.map TEdge.av p0.edges))])) rfl rfl (Light.quiet (opFieldAddrR rfl fieldA_29_3 rfl rfl)) ?_
    refine ASL.q (v := (.list 4 (List.map TEdge.av p0.edges))) rfl rfl (Light.quiet (opLoadR rfl aggA_27 rfl rfl)) ?_
    refine ASL.q (v := (.int .i64 (p0.edges.length : Int))) rfl rfl (Light.quiet (opLenMap (f := TEdge.av) rfl rfl rfl lenT_27 rfl)) ?_
    refine ASL.q (v := (.int .i64 0)) rfl rfl (Light.quiet (opMove rfl rfl)) ?_
    refine ASL.done ?_
    refine AWP.block ?_
    obtain ⟨o12, hL11, hR13⟩ := bindE hF
    refine AWP.loopF (ω := Unit) hL11 (fun s w => [(0, (.rptr [(.int .i64 p0.letters), (.int .i64 p0.states), (.int .i64 p0.start), (.list 4 (List.map TEdge.av p0.edges))])), (1, (.int .i64 x1_l0)), (5, (.int .i64 s.1)), (12, (.list 4 (List.map TEdge.av p0.edges))), (13, (.int .i64 (p0.edges.length : Int))), (14, (.int .i64 s.2))]) (fun s w => []) () ⟨rfl, rfl, rfl, rfl, rfl, rfl, trivial⟩ (hS.pick [] rfl rfl) ?_
    rintro ⟨x5_l1, x14_l1⟩ _ G14 hS x9 hF hx10
    try dsimp only at hS ⊢
    have hF : impl_Auto_reach.b1 p0 x5_l1 x14_l1 = some x9 := hF; unfold impl_Auto_reach.b1 at hF
    refine AWP.seqR rfl ?_
    refine ASL.q (v := (.bool (decide (x14_l1 < ((p0.edges.length : Int)))))) rfl rfl (Light.quiet (opInt rfl rfl rfl rfl)) ?_
    refine ASL.done ?_
    refine AWP.seq ?_
    refine AWP.ifP hF rfl (fun hc15 hF => ?_) (fun hc15 hF => ?_)
    · skip
      refine AWP.skip ?_
      refine QThen.nrm ?_
      refine AWP.seq ?_
      refine AWP.block ?_
      refine AWP.seqR rfl ?_
      obtain ⟨a16, ha16, hF⟩ := bindE hF
      refine ASL.q (v := (.rptr [(.int .i64 a16.from_), (.int .i64 a16.letter), (.int .i64 a16.to_), (.bool a16.good)])) rfl rfl (Light.quiet (kIx (f := TEdge.av) ha16 rfl rfl rfl elemA_27 sizeA_73 rfl)) ?_
      refine ASL.q (v := (TEdge.av a16)) rfl rfl (Light.quiet (opLoadRA rfl aggA_73 sizeA_73 rfl (nlt rfl) rfl)) ?_
      refine ASL.x rfl rfl (hNewZ hS [(.int .i64 0), (.int .i64 0), (.int .i64 0), (.bool false)] rfl zeroA_73 ⟨.inl rfl, .inl rfl, .inl rfl, .inl rfl, trivial⟩ ?_); rintro b7 G16 hK hS
      refine ASL.n rfl rfl (hPutA hS (j := 0) rfl rfl sizeA_73 rfl rfl rfl rfl rfl (nlt rfl) ?_); rintro G18 hS
      refine ASL.done ?_
      refine AWP.seqR rfl ?_
      refine ASL.q (v := (.int .i64 x5_l1)) rfl rfl (Light.quiet (opMove rfl rfl)) ?_
      refine ASL.q (v := (.ptr b7 0)) rfl rfl (Light.quiet (opFieldAddr rfl fieldA_73_0 rfl rfl)) ?_
      refine ASL.q (v := (.int .i64 a16.from_)) rfl rfl (Light.quiet (kAt hS (j := 0) rfl rfl aggA_3 rfl rfl)) ?_
      refine ASL.q (v := (.bool (impl_has x5_l1 a16.from_))) rfl rfl ((qCall rfl rfl call_67 (impl_has_ok x5_l1 a16.from_) rfl)) ?_
      refine ASL.done ?_
      refine AWP.ifB hF rfl (fun hc19 hF => ?_) (fun hc19 hF => ?_)
      · skip
        refine AWP.lastR rfl ?_
        refine ASL.q (v := (.int .i64 x5_l1)) rfl rfl (Light.quiet (opMove rfl rfl)) ?_
        refine ASL.q (v := (.ptr b7 2)) rfl rfl (Light.quiet (opFieldAddr rfl fieldA_73_2 rfl rfl)) ?_
        refine ASL.q (v := (.int .i64 a16.to_)) rfl rfl (Light.quiet (kAt hS (j := 0) rfl rfl aggA_3 rfl rfl)) ?_
        refine ASL.q (v := (.int .i64 (impl_only a16.to_))) rfl rfl ((qCall rfl rfl call_58 (impl_only_ok a16.to_) rfl)) ?_
        refine ASL.q (v := (.int .i64 (bOr .i64 x5_l1 ((impl_only a16.to_))))) rfl rfl (Light.quiet (opInt rfl rfl rfl rfl)) ?_
        refine ASL.q (v := (.int .i64 (bOr .i64 x5_l1 ((impl_only a16.to_))))) rfl rfl (Light.quiet (opAssign rfl rfl)) ?_
        refine ASL.done ?_
        refine QBlock.nrm ?_
        refine QThen.nrm ?_
        refine AWP.lastR rfl ?_
        refine ASL.q (v := (.int .i64 (W (x14_l1 + 1)))) rfl rfl (Light.quiet (opInt rfl rfl rfl rfl)) ?_
        refine ASL.q (v := (.int .i64 (W (x14_l1 + 1)))) rfl rfl (Light.quiet (opMove rfl rfl)) ?_
        refine ASL.done ?_
        refine QThen.nrm ?_
        exact ⟨((bOr .i64 x5_l1 ((impl_only a16.to_))), (W (x14_l1 + 1))), (), (someE hF).symm, ⟨rfl, rfl, rfl, rfl, rfl, rfl, trivial⟩, (hS.pick [] rfl rfl)⟩
      · skip
        refine AWP.skip ?_
        refine QBlock.nrm ?_
        refine QThen.nrm ?_
        refine AWP.lastR rfl ?_
        refine ASL.q (v := (.int .i64 (W (x14_l1 + 1)))) rfl rfl (Light.quiet (opInt rfl rfl rfl rfl)) ?_
        refine ASL.q (v := (.int .i64 (W (x14_l1 + 1)))) rfl rfl (Light.quiet (opMove rfl rfl)) ?_
        refine ASL.done ?_
        refine QThen.nrm ?_
        exact ⟨(x5_l1, (W (x14_l1 + 1))), (), (someE hF).symm, ⟨rfl, rfl, rfl, rfl, rfl, rfl, trivial⟩, (hS.pick [] rfl rfl)⟩
    · skip
      refine AWP.exit ?_
      refine QThen.ext ?_
      refine QThen.ext ?_
      refine QBlock.hit ?_
      obtain rfl := (hx10 _ (someE hF).symm)
      have hF := hR13
      refine QThen.nrm ?_
      exact ⟨x5_l1, ⟨rfl, rfl, rfl, trivial⟩, (hS.pick [] rfl rfl), hF⟩

set_option maxRecDepth 10000 in
theorem impl_SetList_ok {p0 : Int} {r : (List Int)} (hF : impl_SetList p0 = some r) : PO Try.prog 87 [(.int .i64 p0)] 1 (List.map (AV.int .i64) r) := by
  refine HC.enter Try.func87 rfl Try.ntmps87 (by simp) ?_
  have hS := Sep.void; unfold impl_SetList at hF
  refine AWP.seqR rfl ?_
  have hS := hNil (s := 1) (f := (AV.int .i64)) hS
  refine ASL.q (v := .nil) rfl rfl (Light.quiet (opAssign rfl rfl)) ?_
  refine ASL.done ?_
  refine AWP.seq ?_
  refine AWP.seqR rfl ?_
  refine ASL.q (v := (.int .i64 p0)) rfl rfl (Light.quiet (opMove rfl rfl)) ?_
  refine ASL.q (v := (.bool (impl_SetOk p0))) rfl rfl ((qCall rfl rfl call_57 (impl_SetOk_ok p0) rfl)) ?_
  refine ASL.q (v := (.bool (!(impl_SetOk p0)))) rfl rfl (Light.quiet (opNot rfl rfl)) ?_
  refine ASL.done ?_
  refine AWP.ifB hF rfl (fun hc2 hF => ?_) (fun hc2 hF => ?_)
  · skip
    refine AWP.seqR rfl ?_
    have hS := hNil (s := 1) (f := (AV.int .i64)) hS
    refine ASL.q (v := .nil) rfl rfl (Light.quiet (opAssign rfl rfl)) ?_
    refine ASL.done ?_
    refine AWP.ret ?_
    refine QThen.rt ?_
    obtain rfl := someE hF
    exact QRet.sole (v := .nil) ⟨rfl, trivial⟩ (hS.get (k := 0) rfl)
  · skip
    refine AWP.skip ?_
    refine QThen.nrm ?_
    refine AWP.seqR rfl ?_
    have hS := hNil (s := 1) (f := (AV.int .i64)) hS
    refine ASL.q (v := .nil) rfl rfl (Light.quiet (opAssign rfl rfl)) ?_
    refine ASL.done ?_
    refine AWP.seqM (fun e H => ∃ y5 : (List Int), ∃ w6 : AV, E.Told e [(3, w6)] ∧ E.Sep H [.row 1 w6 (List.map (AV.int .i64) y5)] ∧ impl_SetList.k0 y5 = some r) ?_ ?_
    · rintro e0 G8 ⟨y5, w6, hT, hS, hF⟩; refine AWP.only _ hT ?_; unfold impl_SetList.k0 at hF
      refine AWP.seqR rfl ?_
      refine ASL.q (v := w6) rfl rfl (Light.quiet (opMove rfl rfl)) ?_
      refine ASL.q (v := w6) rfl rfl (Light.quiet (opAssign rfl rfl)) ?_
      refine ASL.done ?_
      refine AWP.ret ?_
      obtain rfl := someE hF
      exact QRet.sole (v := w6) ⟨rfl, trivial⟩ (hS.get (k := 0) rfl)
    · skip
      refine AWP.seqR rfl ?_
      refine ASL.q (v := (.int .i64 0)) rfl rfl (Light.quiet (opMove rfl rfl)) ?_
      refine ASL.done ?_
      refine AWP.block ?_
      obtain ⟨o15, hL14, hR16⟩ := bindE hF
      refine AWP.loopF (ω := AV) hL14 (fun s w => [(0, (.int .i64 p0)), (3, w), (8, (.int .i64 s.2))]) (fun s w => [.row 1 w (List.map (AV.int .i64) s.1)]) .nil ⟨rfl, rfl, rfl, trivial⟩ (hS.pick [0] rfl rfl) ?_
      rintro ⟨y9, x8_l0⟩ w10 G17 hS x12 hF hx13
      try dsimp only at hS ⊢
      have hF : impl_SetList.b0 p0 y9 x8_l0 = some x12 := hF; unfold impl_SetList.b0 at hF
      refine AWP.seqR rfl ?_
      refine ASL.q (v := (.bool (decide (x8_l0 < 31)))) rfl rfl (Light.quiet (opInt rfl rfl rfl rfl)) ?_
      refine ASL.done ?_
      refine AWP.seq ?_
      refine AWP.ifP hF rfl (fun hc18 hF => ?_) (fun hc18 hF => ?_)
      · skip
        refine AWP.skip ?_
        refine QThen.nrm ?_
        refine AWP.seq ?_
        refine AWP.block ?_
        refine AWP.seqR rfl ?_
        refine ASL.q (v := (.int .i64 x8_l0)) rfl rfl (Light.quiet (opMove rfl rfl)) ?_
        refine ASL.q (v := (.int .i64 x8_l0)) rfl rfl (Light.quiet (opAssign rfl rfl)) ?_
        refine ASL.done ?_
        refine AWP.seqR rfl ?_
        refine ASL.q (v := (.int .i64 p0)) rfl rfl (Light.quiet (opMove rfl rfl)) ?_
        refine ASL.q (v := (.int .i64 x8_l0)) rfl rfl (Light.quiet (opMove rfl rfl)) ?_
        refine ASL.q (v := (.bool (impl_has p0 x8_l0))) rfl rfl ((qCall rfl rfl call_67 (impl_has_ok p0 x8_l0) rfl)) ?_
        refine ASL.done ?_
        refine AWP.ifB hF rfl (fun hc19 hF => ?_) (fun hc19 hF => ?_)
        · skip
          refine AWP.lastR rfl ?_
          refine ASL.q (v := w10) rfl rfl (Light.quiet (opMove rfl rfl)) ?_
          refine ASL.q (v := (.int .i64 x8_l0)) rfl rfl (Light.quiet (opMove rfl rfl)) ?_
          refine ASL.q (v := (.list 1 (List.map (AV.int .i64) [x8_l0]))) rfl rfl ((qLit (xs := [(.int .i64 x8_l0)]) rfl elemA_34 sizeA_3 zeroA_3 rfl rfl rfl rfl (by simp [cells]) (nlt rfl))) ?_
          obtain ⟨z17, hz17, hF⟩ := bindE hF
          refine ASL.x rfl rfl (hApp (f := (AV.int .i64)) (ws := [x8_l0]) hS (j := 0) rfl hz17 rfl elemA_34 rfl sizeA_3 bytesA_3 zeroA_3 rfl rfl rfl (fun _ => rfl) ?_); rintro v17 G20 hS
          refine ASL.q (v := v17) rfl rfl (Light.quiet (opAssign rfl rfl)) ?_
          refine ASL.done ?_
          refine QBlock.nrm ?_
          refine QThen.nrm ?_
          refine AWP.lastR rfl ?_
          refine ASL.q (v := (.int .i64 (W (x8_l0 + 1)))) rfl rfl (Light.quiet (opInt rfl rfl rfl rfl)) ?_
          refine ASL.q (v := (.int .i64 (W (x8_l0 + 1)))) rfl rfl (Light.quiet (opMove rfl rfl)) ?_
          refine ASL.done ?_
          refine QThen.nrm ?_
          exact ⟨(z17, (W (x8_l0 + 1))), v17, (someE hF).symm, ⟨rfl, rfl, rfl, trivial⟩, (hS.pick [0] rfl rfl)⟩
        · skip
          refine AWP.skip ?_
          refine QBlock.nrm ?_
          refine QThen.nrm ?_
          refine AWP.lastR rfl ?_
          refine ASL.q (v := (.int .i64 (W (x8_l0 + 1)))) rfl rfl (Light.quiet (opInt rfl rfl rfl rfl)) ?_
          refine ASL.q (v := (.int .i64 (W (x8_l0 + 1)))) rfl rfl (Light.quiet (opMove rfl rfl)) ?_
          refine ASL.done ?_
          refine QThen.nrm ?_
          exact ⟨(y9, (W (x8_l0 + 1))), w10, (someE hF).symm, ⟨rfl, rfl, rfl, trivial⟩, (hS.pick [0] rfl rfl)⟩
      · skip
        refine AWP.exit ?_
        refine QThen.ext ?_
        refine QThen.ext ?_
        refine QBlock.hit ?_
        obtain rfl := (hx13 _ (someE hF).symm)
        have hF := hR16
        refine QThen.nrm ?_
        exact ⟨y9, w10, ⟨rfl, trivial⟩, (hS.pick [0] rfl rfl), hF⟩

set_option maxRecDepth 10000 in
theorem impl_Auto_kept_ok {p0 : TAuto} {p1 : Int} {r : (TAuto × (List Int))} (hF : impl_Auto_kept p0 p1 = some r) : HS Try.prog 70 [(.rptr [(.int .i64 p0.letters), (.int .i64 p0.states), (.int .i64 p0.start), (.list 4 (List.map TEdge.av p0.edges))]), (.int .i64 p1)] [] fun v L' => ∃ o0_Edges : AV, ∃ o1 : AV, v = .tup [(.agg [(.int .i64 r.1.letters), (.int .i64 r.1.states), (.int .i64 r.1.start), o0_Edges]), o1] ∧ L' = [.row 4 o0_Edges (List.map TEdge.av r.1.edges), .row 1 o1 (List.map (AV.int .i64) r.2)] := by
  intro H S hS
  refine HC.enter Try.func70 rfl Try.ntmps70 (by simp) ?_
  simp only [List.cons_append, List.nil_append] at hS
  unfold impl_Auto_kept at hF
  refine AWP.seqR rfl ?_
  have hS := hNil (s := 4) (f := TEdge.av) hS
  refine ASL.x rfl rfl (hNewZ hS [(.int .i64 0), (.int .i64 0), (.int .i64 0), .nil] rfl zeroA_29 ⟨.inl rfl, .inl rfl, .inl rfl, .inl rfl, trivial⟩ ?_); rintro b4 G1 hK hS
  have hS := hNil (s := 1) (f := (AV.int .i64)) hS
  refine ASL.q (v := .nil) rfl rfl (Light.quiet (opAssign rfl rfl)) ?_
  refine ASL.done ?_
  refine AWP.seqR rfl ?_
  refine ASL.q (v := (.int .i64 p1)) rfl rfl (Light.quiet (opMove rfl rfl)) ?_
  refine ASL.q (v := (.rptr [(.int .i64 p0.letters), (.int .i64 p0.states), (.int .i64 p0.start), (.list 4 (List.map TEdge.av p0.edges))])) rfl rfl (Light.quiet (opMove rfl rfl)) ?_
  refine ASL.q (v := (.rptr [(.int .i64 p0.letters), (.int .i64 p0.states), (.int .i64 p0.start), (.list 4 (List.map TEdge.av p0.edges))])) rfl rfl (Light.quiet (opNil rfl rfl rfl)) ?_
  refine ASL.q (v := (.rptr [(.int .i64 p0.states), (.int .i64 p0.start), (.list 4 (List.map TEdge.av p0.edges))])) rfl rfl (Light.quiet (opFieldAddrR rfl fieldA_29_1 rfl rfl)) ?_
  refine ASL.q (v := (.int .i64 p0.states)) rfl rfl (Light.quiet (opLoadR rfl aggA_3 rfl rfl)) ?_
  refine ASL.q (v := (.int .i64 (impl_only p0.states))) rfl rfl ((qCall rfl rfl call_58 (impl_only_ok p0.states) rfl)) ?_
  refine ASL.q (v := (.int .i64 (W (((impl_only p0.states)) - 1)))) rfl rfl (Light.quiet (opInt rfl rfl rfl rfl)) ?_
  refine ASL.q (v := (.int .i64 (bAnd .i64 p1 ((W (((impl_only p0.states)) - 1)))))) rfl rfl (Light.quiet (opInt rfl rfl rfl rfl)) ?_
  obtain ⟨a21, ha21, hF⟩ := bindE hF
  refine ASL.x rfl rfl (hCallO hS rfl rfl call_87 (impl_SetList_ok ha21) rfl ?_); rintro v21 G5 hK hS
  refine ASL.q (v := v21) rfl rfl (Light.quiet (opAssign rfl rfl)) ?_
  refine ASL.done ?_
  refine AWP.seqR rfl ?_
  refine ASL.q (v := (.rptr [(.int .i64 p0.letters), (.int .i64 p0.states), (.int .i64 p0.start), (.list 4 (List.map TEdge.av p0.edges))])) rfl rfl (Light.quiet (opMove rfl rfl)) ?_
  refine ASL.q (v := (.rptr [(.int .i64 p0.letters), (.int .i64 p0.states), (.int .i64 p0.start), (.list 4 (List.map TEdge.av p0.edges))])) rfl rfl (Light.quiet (opNil rfl rfl rfl)) ?_
  refine ASL.q (v := (.rptr [(.int .i64 p0.letters), (.int .i64 p0.states), (.int .i64 p0.start), (.list 4 (List.map TEdge.av p0.edges))])) rfl rfl (Light.quiet (opFieldAddrR rfl fieldA_29_0 rfl rfl)) ?_
  refine ASL.q (v := (.int .i64 p0.letters)) rfl rfl (Light.quiet (opLoadR rfl aggA_3 rfl rfl)) ?_
  refine ASL.q (v := v21) rfl rfl (Light.quiet (opMove rfl rfl)) ?_
  refine ASL.q (v := (.int .i64 (a21.length : Int))) rfl rfl (Light.quiet (kLen hS (j := 0) rfl rfl rfl rfl lenT_34 rfl)) ?_
  refine ASL.q (v := (.agg [(.int .i64 p0.letters), (.int .i64 (a21.length : Int)), (.int .i64 0), .nil])) rfl rfl (Light.quiet (opBuildZ (zs := [(.int .i64 0), (.int .i64 0), (.int .i64 0), .nil]) rfl plan_29 zeroA_29 ⟨.inl rfl, .inl rfl, .inl rfl, .inl rfl, trivial⟩ rfl)) ?_
  have hS := hNil (s := 4) (f := TEdge.av) hS
  refine ASL.x rfl rfl (hNewZ hS [(.int .i64 0), (.int .i64 0), (.int .i64 0), .nil] rfl zeroA_29 ⟨.inl rfl, .inl rfl, .inl rfl, .inl rfl, trivial⟩ ?_); rintro b7 G7 hK hS
  have hS := hNil (s := 4) (f := TEdge.av) hS
  refine ASL.n rfl rfl (hPutA hS (j := 1) rfl rfl sizeA_29 rfl rfl rfl rfl (allC rfl (allC rfl (allC rfl (allC (hS.one (k := 0) rfl) rfl)))) (nlt rfl) ?_); rintro G10 hS
  refine ASL.done ?_
  refine AWP.seqR rfl ?_
  refine ASL.q (v := (.rptr [(.int .i64 p0.letters), (.int .i64 p0.states), (.int .i64 p0.start), (.list 4 (List.map TEdge.av p0.edges))])) rfl rfl (Light.quiet (opMove rfl rfl)) ?_
  refine ASL.q (v := (.rptr [(.int .i64 p0.letters), (.int .i64 p0.states), (.int .i64 p0.start), (.list 4 (List.map TEdge.av p0.edges))])) rfl rfl (Light.quiet (opNil rfl rfl rfl)) ?_
  refine ASL.q (v := (.rptr [(.int .i64 p0.states), (.int .i64 p0.start), (.list 4 (List.map TEdge.av p0.edges))])) rfl rfl (Light.quiet (opFieldAddrR rfl fieldA_29_1 rfl rfl)) ?_
  refine ASL.q (v := (.int .i64 p0.states)) rfl rfl (Light.quiet (opLoadR rfl aggA_3 rfl rfl)) ?_
  obtain ⟨z33, hz33, hF⟩ := bindE hF
  refine ASL.x rfl rfl (hMk (f := (AV.int .i64)) hS hz33 (by decide) rfl elemA_34 sizeA_3 bytesA_3 zeroA_3 rfl rfl (by decide) rfl rfl ?_); rintro v33 G12 hK hS
  refine ASL.q (v := v33) rfl rfl (Light.quiet (opAssign rfl rfl)) ?_
  refine ASL.done ?_
  refine AWP.seqM (fun e H => ∃ y14 : Int, ∃ y15 : Int, ∃ y16 : Int, ∃ y17 : (List TEdge), ∃ y20 : (List Int), ∃ w18 : AV, E.Told e [(0, (.rptr [(.int .i64 p0.letters), (.int .i64 p0.states), (.int .i64 p0.start), (.list 4 (List.map TEdge.av p0.edges))])), (1, (.int .i64 p1)), (4, (.ptr b4 0)), (6, v21), (7, (.ptr b7 0)), (8, v33)] ∧ E.Sep H [.row 4 .nil (List.map TEdge.av ([])), .cell b4 [(.int .i64 0), (.int .i64 0), (.int .i64 0), .nil], .row 1 v21 (List.map (AV.int .i64) a21), .row 4 w18 (List.map TEdge.av y17), .cell b7 [(.int .i64 y14), (.int .i64 y15), (.int .i64 y16), w18], .row 1 v33 (List.map (AV.int .i64) y20), .snap S] ∧ impl_Auto_kept.k0 p0 p1 a21 y14 y15 y16 y17 y20 = some r) ?_ ?_
  · rintro e0 G51 ⟨y14, y15, y16, y17, y20, w18, hT, hS, hF⟩; refine AWP.only _ hT ?_; unfold impl_Auto_kept.k0 at hF
    refine AWP.seqM (fun e H => ∃ y21 : Int, ∃ y22 : Int, ∃ y23 : Int, ∃ y24 : (List TEdge), ∃ w25 : AV, E.Told e [(4, (.ptr b4 0)), (6, v21), (7, (.ptr b7 0))] ∧ E.Sep H [.row 4 .nil (List.map TEdge.av ([])), .cell b4 [(.int .i64 0), (.int .i64 0), (.int .i64 0), .nil], .row 1 v21 (List.map (AV.int .i64) a21), .row 4 w25 (List.map TEdge.av y24), .cell b7 [(.int .i64 y21), (.int .i64 y22), (.int .i64 y23), w25], .snap S] ∧ impl_Auto_kept.k1 a21 y21 y22 y23 y24 = some r) ?_ ?_
    · rintro e0 G28 ⟨y21, y22, y23, y24, w25, hT, hS, hF⟩; refine AWP.only _ hT ?_; unfold impl_Auto_kept.k1 at hF
      refine AWP.seqR rfl ?_
      refine ASL.q (v := (.agg [(.int .i64 y21), (.int .i64 y22), (.int .i64 y23), w25])) rfl rfl (Light.quiet (kAtA hS (j := 4) rfl rfl aggA_29 sizeA_29 rfl (nlt rfl) rfl)) ?_
      refine ASL.q (v := v21) rfl rfl (Light.quiet (opMove rfl rfl)) ?_
      refine ASL.n rfl rfl (hPutA hS (j := 1) rfl rfl sizeA_29 rfl rfl rfl rfl (allC rfl (allC rfl (allC rfl (allC (hS.one (k := 3) rfl) rfl)))) (nlt rfl) ?_); rintro G27 hS
      refine ASL.q (v := v21) rfl rfl (Light.quiet (opAssign rfl rfl)) ?_
      refine ASL.done ?_
      refine AWP.ret ?_
      obtain rfl := someE hF
      exact QRet.many (vs := [(.agg [(.int .i64 y21), (.int .i64 y22), (.int .i64 y23), w25]), v21]) ⟨resOne.at hS (k := 1) rfl rfl aggA_29 sizeA_29, rfl, trivial⟩ (by simp) ⟨_, ⟨w25, v21, rfl, rfl⟩, hS.pick [3, 2, 5] rfl rfl⟩
    · skip
      refine AWP.seqR rfl ?_
      refine ASL.q (v := (.rptr [(.int .i64 p0.letters), (.int .i64 p0.states), (.int .i64 p0.start), (.list 4 (List.map TEdge.av p0.edges))])) rfl rfl (Light.quiet (opMove rfl rfl)) ?_
      refine ASL.q (v := (.rptr [(.int .i64 p0.letters), (.int .i64 p0.states), (.int .i64 p0.start), (.list 4 (List.map TEdge.av p0.edges))])) rfl rfl (Light.quiet (opNil rfl rfl rfl)) ?_
      refine ASL.q (v := (.rptr [(.list 4 (List.map TEdge.av p0.edges))])) rfl rfl (Light.quiet (opFieldAddrR rfl fieldA_29_3 rfl rfl)) ?_
      refine ASL.q (v := (.list 4 (List.map TEdge.av p0.edges))) rfl rfl (Light.quiet (opLoadR rfl aggA_27 rfl rfl)) ?_
      refine ASL.q (v := (.int .i64 (p0.edges.length : Int))) rfl rfl (Light.quiet (opLenMap (f := TEdge.av) rfl rfl rfl lenT_27 rfl)) ?_
      refine ASL.q (v := (.int .i64 0)) rfl rfl (Light.quiet (opMove rfl rfl)) ?_
      refine ASL.done ?_
      refine AWP.block ?_
      obtain ⟨o38, hL37, hR39⟩ := bindE hF
      refine AWP.loopF (ω := AV) hL37 (fun s w => [(1, (.int .i64 p1)), (4, (.ptr b4 0)), (6, v21), (7, (.ptr b7 0)), (8, v33), (61, (.list 4 (List.map TEdge.av p0.edges))), (62, (.int .i64 (p0.edges.length : Int))), (63, (.int .i64 s.2.2.2.2))]) (fun s w => [.row 4 .nil (List.map TEdge.av ([])), .cell b4 [(.int .i64 0), (.int .i64 0), (.int .i64 0), .nil], .row 1 v21 (List.map (AV.int .i64) a21), .row 4 w (List.map TEdge.av s.2.2.2.1), .cell b7 [(.int .i64 s.1), (.int .i64 s.2.1), (.int .i64 s.2.2.1), w], .row 1 v33 (List.map (AV.int .i64) y20), .snap S]) w18 ⟨rfl, rfl, rfl, rfl, rfl, rfl, rfl, rfl, trivial⟩ (hS.pick [0, 1, 2, 3, 4, 5, 6] rfl rfl) ?_
      rintro ⟨y29, y30, y31, y32, x63_l0⟩ w33 G40 hS x35 hF hx36
      try dsimp only at hS ⊢
      have hF : impl_Auto_kept.b0 p0 p1 y20 y29 y30 y31 y32 x63_l0 = some x35 := hF; unfold impl_Auto_kept.b0 at hF
      refine AWP.seqR rfl ?_
      refine ASL.q (v := (.bool (decide (x63_l0 < ((p0.edges.length : Int)))))) rfl rfl (Light.quiet (opInt rfl rfl rfl rfl)) ?_
      refine ASL.done ?_
      refine AWP.seq ?_
      refine AWP.ifP hF rfl (fun hc41 hF => ?_) (fun hc41 hF => ?_)
      · skip
        refine AWP.skip ?_
        refine QThen.nrm ?_
        refine AWP.seq ?_
        refine AWP.block ?_
        refine AWP.seqR rfl ?_
        obtain ⟨a65, ha65, hF⟩ := bindE hF
        refine ASL.q (v := (.rptr [(.int .i64 a65.from_), (.int .i64 a65.letter), (.int .i64 a65.to_), (.bool a65.good)])) rfl rfl (Light.quiet (kIx (f := TEdge.av) ha65 rfl rfl rfl elemA_27 sizeA_73 rfl)) ?_
        refine ASL.q (v := (TEdge.av a65)) rfl rfl (Light.quiet (opLoadRA rfl aggA_73 sizeA_73 rfl (nlt rfl) rfl)) ?_
        refine ASL.x rfl rfl (hNewZ hS [(.int .i64 0), (.int .i64 0), (.int .i64 0), (.bool false)] rfl zeroA_73 ⟨.inl rfl, .inl rfl, .inl rfl, .inl rfl, trivial⟩ ?_); rintro b12 G42 hK hS
        refine ASL.n rfl rfl (hPutA hS (j := 0) rfl rfl sizeA_73 rfl rfl rfl rfl rfl (nlt rfl) ?_); rintro G44 hS
        refine ASL.done ?_
        refine AWP.seqR rfl ?_
        refine ASL.q (v := (.int .i64 p1)) rfl rfl (Light.quiet (opMove rfl rfl)) ?_
        refine ASL.q (v := (.ptr b12 0)) rfl rfl (Light.quiet (opFieldAddr rfl fieldA_73_0 rfl rfl)) ?_
        refine ASL.q (v := (.int .i64 a65.from_)) rfl rfl (Light.quiet (kAt hS (j := 0) rfl rfl aggA_3 rfl rfl)) ?_
        refine ASL.q (v := (.bool (impl_has p1 a65.from_))) rfl rfl ((qCall rfl rfl call_67 (impl_has_ok p1 a65.from_) rfl)) ?_
        obtain ⟨c71, hc71, hF⟩ := bndE hF
        refine ASL.q (v := (.bool c71)) rfl rfl ((Quiet.cast (Light.quiet (opMove rfl rfl)) (congrArg AV.bool hc71.symm))) ?_
        refine ASL.g (v := (.int .i64 p1)) (.bool c71) true rfl (wT _) rfl (fun hG => by have q0 := hG; subst q0; exact Light.quiet (opMove rfl rfl)) ?_
        refine ASL.g (v := (.ptr b12 2)) (.bool c71) true rfl (wT _) rfl (fun hG => by have q0 := hG; subst q0; exact Light.quiet (opFieldAddr rfl fieldA_73_2 rfl rfl)) ?_
        refine ASL.g (v := (.int .i64 a65.to_)) (.bool c71) true rfl (wT _) rfl (fun hG => by have q0 := hG; subst q0; exact Light.quiet (kAt hS (j := 0) rfl rfl aggA_3 rfl rfl)) ?_
        refine ASL.g (v := (.bool (impl_has p1 a65.to_))) (.bool c71) true rfl (wT _) rfl (fun hG => by have q0 := hG; subst q0; exact (qCall rfl rfl call_67 (impl_has_ok p1 a65.to_) rfl)) ?_
        refine ASL.q (v := (.bool (c71 && (impl_has p1 a65.to_)))) rfl rfl (Light.quiet (opPick (b := c71) rfl rfl (by cases c71 <;> rfl))) ?_
        refine ASL.done ?_
        refine AWP.ifB hF rfl (fun hc45 hF => ?_) (fun hc45 hF => ?_)
        · skip
          refine AWP.seqD [(0, false), (1, false), (2, false), (3, false), (4, false), (5, false), (6, false), (7, false), (8, false), (9, false), (10, false), (11, true), (12, false), (13, true)] mixed (by kernel_rfl) rfl ?_
          refine ARL.q0 (v := v33) rfl rfl (Light.quiet (opMove rfl rfl)) ?_
          refine ARL.q0 (v := (.ptr b12 0)) rfl rfl (Light.quiet (opFieldAddr rfl fieldA_73_0 rfl rfl)) ?_
          refine ARL.q (v := (.int .i64 a65.from_)) rfl rfl (hS.aliveC (k := 0) rfl) (Light.quiet (kAt hS (j := 0) rfl rfl aggA_3 rfl rfl)) ?_
          obtain ⟨a80, ha80, hF⟩ := bindE hF
          refine ARL.q0 (v := (ptrTo v33 a65.from_.toNat 1)) rfl rfl (Light.quiet (kIxOx hS (j := 6) rfl ha80 rfl rfl rfl elemA_34 sizeA_3)) ?_
          refine ARL.q (v := (.int .i64 a80)) rfl rfl (hS.aliveR (k := 6) rfl) (Light.quiet (kLd (f := (AV.int .i64)) hS (j := 6) rfl ha80 rfl aggA_3 rfl (fun _ => rfl))) ?_
          refine ARL.q0 (v := v33) rfl rfl (Light.quiet (opMove rfl rfl)) ?_
          refine ARL.q0 (v := (.ptr b12 2)) rfl rfl (Light.quiet (opFieldAddr rfl fieldA_73_2 rfl rfl)) ?_
          refine ARL.q (v := (.int .i64 a65.to_)) rfl rfl (hS.aliveC (k := 0) rfl) (Light.quiet (kAt hS (j := 0) rfl rfl aggA_3 rfl rfl)) ?_
          obtain ⟨a85, ha85, hF⟩ := bindE hF
          refine ARL.q0 (v := (ptrTo v33 a65.to_.toNat 1)) rfl rfl (Light.quiet (kIxOx hS (j := 6) rfl ha85 rfl rfl rfl elemA_34 sizeA_3)) ?_
          refine ARL.q (v := (.int .i64 a85)) rfl rfl (hS.aliveR (k := 6) rfl) (Light.quiet (kLd (f := (AV.int .i64)) hS (j := 6) rfl ha85 rfl aggA_3 rfl (fun _ => rfl))) ?_
          refine ARL.q0 (v := (.ptr b12 0)) rfl rfl (Light.quiet (opFieldAddr rfl fieldA_73_0 rfl rfl)) ?_
          refine ARL.nB rfl rfl rfl ⟨.inr (by simp), .inr (hS.ap (j := 6) (k := 0) rfl rfl rfl), .inr (by simp), .inl rfl, .inr (by simp), .inr (by simp), .inl rfl, .inr (by simp), .inl rfl, .inr (by simp), .inr (by simp), trivial⟩ (hPutB hS (j := 0) rfl rfl sizeA_3 rfl rfl rfl (nlt rfl) ?_); rintro G46 hB hS; refine ⟨hB, ?_⟩
          refine ARL.q0 (v := (.ptr b12 2)) rfl rfl (Light.quiet (opFieldAddr rfl fieldA_73_2 rfl rfl)) ?_
          refine ARL.n rfl rfl rfl rfl (hPut hS (j := 0) rfl rfl sizeA_3 rfl rfl rfl (nlt rfl) ?_); rintro G47 hS
          refine ARL.done ?_
          refine AWP.lastR rfl ?_
          refine ASL.q (v := (.ptr b7 3)) rfl rfl (Light.quiet (opFieldAddr rfl fieldA_29_3 rfl rfl)) ?_
          refine ASL.q (v := w33) rfl rfl (Light.quiet (kAt hS (j := 5) rfl rfl aggA_27 rfl rfl)) ?_
          refine ASL.q (v := (.agg [(.int .i64 a80), (.int .i64 a65.letter), (.int .i64 a85), (.bool a65.good)])) rfl rfl (Light.quiet (kAtA hS (j := 0) rfl rfl aggA_73 sizeA_73 rfl (nlt rfl) rfl)) ?_
          refine ASL.q (v := (.list 4 (List.map TEdge.av [(TEdge.mk a80 a65.letter a85 a65.good)]))) rfl rfl ((qLit (xs := [(.agg [(.int .i64 a80), (.int .i64 a65.letter), (.int .i64 a85), (.bool a65.good)])]) rfl elemA_27 sizeA_73 zeroA_73 rfl rfl rfl rfl (by simp [cells, TEdge.av]) (nlt rfl))) ?_
          obtain ⟨z93, hz93, hF⟩ := bindE hF
          refine ASL.x rfl rfl (hApp (f := TEdge.av) (ws := [(TEdge.mk a80 a65.letter a85 a65.good)]) hS (j := 4) rfl hz93 rfl elemA_27 rfl sizeA_73 bytesA_73 zeroA_73 rfl rfl rfl (fun _ => rfl) ?_); rintro v93 G48 hS
          refine ASL.q (v := (.ptr b7 3)) rfl rfl (Light.quiet (opFieldAddr rfl fieldA_29_3 rfl rfl)) ?_
          refine ASL.n rfl rfl (hPut hS (j := 5) rfl rfl sizeA_27 rfl rfl (hS.one (k := 4) rfl) (nlt rfl) ?_); rintro G50 hS
          refine ASL.done ?_
          refine QBlock.nrm ?_
          refine QThen.nrm ?_
          refine AWP.lastR rfl ?_
          refine ASL.q (v := (.int .i64 (W (x63_l0 + 1)))) rfl rfl (Light.quiet (opInt rfl rfl rfl rfl)) ?_
          refine ASL.q (v := (.int .i64 (W (x63_l0 + 1)))) rfl rfl (Light.quiet (opMove rfl rfl)) ?_
          refine ASL.done ?_
          refine QThen.nrm ?_
          exact ⟨(y29, y30, y31, z93, (W (x63_l0 + 1))), v93, (someE hF).symm, ⟨rfl, rfl, rfl, rfl, rfl, rfl, rfl, rfl, trivial⟩, (hS.pick [1, 2, 3, 4, 5, 6, 7] rfl rfl)⟩
        · skip
          refine AWP.skip ?_
          refine QBlock.nrm ?_
          refine QThen.nrm ?_
          refine AWP.lastR rfl ?_
          refine ASL.q (v := (.int .i64 (W (x63_l0 + 1)))) rfl rfl (Light.quiet (opInt rfl rfl rfl rfl)) ?_
          refine ASL.q (v := (.int .i64 (W (x63_l0 + 1)))) rfl rfl (Light.quiet (opMove rfl rfl)) ?_
          refine ASL.done ?_
          refine QThen.nrm ?_
          exact ⟨(y29, y30, y31, y32, (W (x63_l0 + 1))), w33, (someE hF).symm, ⟨rfl, rfl, rfl, rfl, rfl, rfl, rfl, rfl, trivial⟩, (hS.pick [1, 2, 3, 4, 5, 6, 7] rfl rfl)⟩
      · skip
        refine AWP.exit ?_
        refine QThen.ext ?_
        refine QThen.ext ?_
        refine QBlock.hit ?_
        obtain rfl := (hx36 _ (someE hF).symm)
        have hF := hR39
        refine QThen.nrm ?_
        exact ⟨y29, y30, y31, y32, w33, ⟨rfl, rfl, rfl, trivial⟩, (hS.pick [0, 1, 2, 3, 4, 6] rfl rfl), hF⟩
  · skip
    refine AWP.seqR rfl ?_
    refine ASL.q (v := v21) rfl rfl (Light.quiet (opMove rfl rfl)) ?_
    refine ASL.q (v := (.int .i64 (a21.length : Int))) rfl rfl (Light.quiet (kLen hS (j := 4) rfl rfl rfl rfl lenT_34 rfl)) ?_
    refine ASL.q (v := (.int .i64 0)) rfl rfl (Light.quiet (opMove rfl rfl)) ?_
    refine ASL.done ?_
    refine AWP.block ?_
    obtain ⟨o62, hL61, hR63⟩ := bindE hF
    refine AWP.loopF (ω := AV) hL61 (fun s w => [(0, (.rptr [(.int .i64 p0.letters), (.int .i64 p0.states), (.int .i64 p0.start), (.list 4 (List.map TEdge.av p0.edges))])), (1, (.int .i64 p1)), (4, (.ptr b4 0)), (6, v21), (7, (.ptr b7 0)), (8, v33), (34, v21), (35, (.int .i64 (a21.length : Int))), (36, (.int .i64 s.2.2.2.2.2))]) (fun s w => [.row 4 .nil (List.map TEdge.av ([])), .cell b4 [(.int .i64 0), (.int .i64 0), (.int .i64 0), .nil], .row 1 v21 (List.map (AV.int .i64) a21), .row 4 w (List.map TEdge.av s.2.2.2.1), .cell b7 [(.int .i64 s.1), (.int .i64 s.2.1), (.int .i64 s.2.2.1), w], .row 1 v33 (List.map (AV.int .i64) s.2.2.2.2.1), .snap S]) .nil ⟨rfl, rfl, rfl, rfl, rfl, rfl, rfl, rfl, rfl, trivial⟩ (hS.pick [7, 6, 4, 1, 2, 0, 8] rfl rfl) ?_
    rintro ⟨y52, y53, y54, y55, y58, x36_l1⟩ w56 G64 hS x59 hF hx60
    try dsimp only at hS ⊢
    have hF : impl_Auto_kept.b1 a21 p0 y52 y53 y54 y55 y58 x36_l1 = some x59 := hF; unfold impl_Auto_kept.b1 at hF
    refine AWP.seqR rfl ?_
    refine ASL.q (v := (.bool (decide (x36_l1 < ((a21.length : Int)))))) rfl rfl (Light.quiet (opInt rfl rfl rfl rfl)) ?_
    refine ASL.done ?_
    refine AWP.seq ?_
    refine AWP.ifP hF rfl (fun hc65 hF => ?_) (fun hc65 hF => ?_)
    · skip
      refine AWP.skip ?_
      refine QThen.nrm ?_
      refine AWP.seq ?_
      refine AWP.block ?_
      refine AWP.seqR rfl ?_
      refine ASL.q (v := (.int .i64 x36_l1)) rfl rfl (Light.quiet (opMove rfl rfl)) ?_
      obtain ⟨a39, ha39, hF⟩ := bindE hF
      refine ASL.q (v := (ptrTo v21 x36_l1.toNat 1)) rfl rfl (Light.quiet (kIxOx hS (j := 2) rfl ha39 rfl rfl rfl elemA_34 sizeA_3)) ?_
      refine ASL.q (v := (.int .i64 a39)) rfl rfl (Light.quiet (kLd (f := (AV.int .i64)) hS (j := 2) rfl ha39 rfl aggA_3 rfl (fun _ => rfl))) ?_
      refine ASL.q (v := (.int .i64 x36_l1)) rfl rfl (Light.quiet (opAssign rfl rfl)) ?_
      refine ASL.q (v := (.int .i64 a39)) rfl rfl (Light.quiet (opAssign rfl rfl)) ?_
      refine ASL.done ?_
      refine AWP.seqR rfl ?_
      refine ASL.q (v := v33) rfl rfl (Light.quiet (opMove rfl rfl)) ?_
      refine ASL.q (v := (.int .i64 a39)) rfl rfl (Light.quiet (opMove rfl rfl)) ?_
      refine ASL.q (v := (.int .i64 x36_l1)) rfl rfl (Light.quiet (opMove rfl rfl)) ?_
      obtain ⟨m44, hm44, hF⟩ := bindE hF
      refine ASL.q (v := (ptrTo v33 m44 1)) rfl rfl (Light.quiet (kIxO hS (j := 5) rfl hm44 rfl rfl rfl elemA_34 sizeA_3)) ?_
      refine ASL.n rfl rfl (hSt (f := (AV.int .i64)) (a := x36_l1) hS (j := 5) rfl hm44 rfl sizeA_3 rfl rfl ⟨rfl, rfl, rfl⟩ ?_); rintro G66 hS
      refine ASL.done ?_
      refine AWP.seqR rfl ?_
      refine ASL.q (v := (.rptr [(.int .i64 p0.letters), (.int .i64 p0.states), (.int .i64 p0.start), (.list 4 (List.map TEdge.av p0.edges))])) rfl rfl (Light.quiet (opMove rfl rfl)) ?_
      refine ASL.q (v := (.rptr [(.int .i64 p0.letters), (.int .i64 p0.states), (.int .i64 p0.start), (.list 4 (List.map TEdge.av p0.edges))])) rfl rfl (Light.quiet (opNil rfl rfl rfl)) ?_
      refine ASL.q (v := (.rptr [(.int .i64 p0.start), (.list 4 (List.map TEdge.av p0.edges))])) rfl rfl (Light.quiet (opFieldAddrR rfl fieldA_29_2 rfl rfl)) ?_
      refine ASL.q (v := (.int .i64 p0.start)) rfl rfl (Light.quiet (opLoadR rfl aggA_3 rfl rfl)) ?_
      refine ASL.q (v := (.int .i64 a39)) rfl rfl (Light.quiet (opMove rfl rfl)) ?_
      refine ASL.q (v := (.bool (impl_has p0.start a39))) rfl rfl ((qCall rfl rfl call_67 (impl_has_ok p0.start a39) rfl)) ?_
      refine ASL.done ?_
      refine AWP.ifB hF rfl (fun hc67 hF => ?_) (fun hc67 hF => ?_)
      · skip
        refine AWP.lastD [(0, false), (1, false), (2, false), (3, false), (4, false), (5, false), (6, true)] mixed (by kernel_rfl) rfl ?_
        refine ARL.q0 (v := (.ptr b7 2)) rfl rfl (Light.quiet (opFieldAddr rfl fieldA_29_2 rfl rfl)) ?_
        refine ARL.q (v := (.int .i64 y54)) rfl rfl (hS.aliveC (k := 4) rfl) (Light.quiet (kAt hS (j := 4) rfl rfl aggA_3 rfl rfl)) ?_
        refine ARL.q0 (v := (.int .i64 x36_l1)) rfl rfl (Light.quiet (opMove rfl rfl)) ?_
        refine ARL.q0 (v := (.int .i64 (impl_only x36_l1))) rfl rfl ((qCall rfl rfl call_58 (impl_only_ok x36_l1) rfl)) ?_
        refine ARL.q0 (v := (.int .i64 (bOr .i64 y54 ((impl_only x36_l1))))) rfl rfl (Light.quiet (opInt rfl rfl rfl rfl)) ?_
        refine ARL.q0 (v := (.ptr b7 2)) rfl rfl (Light.quiet (opFieldAddr rfl fieldA_29_2 rfl rfl)) ?_
        refine ARL.n rfl rfl rfl rfl (hPut hS (j := 4) rfl rfl sizeA_3 rfl rfl rfl (nlt rfl) ?_); rintro G68 hS
        refine ARL.done ?_
        refine QBlock.nrm ?_
        refine QThen.nrm ?_
        refine AWP.lastR rfl ?_
        refine ASL.q (v := (.int .i64 (W (x36_l1 + 1)))) rfl rfl (Light.quiet (opInt rfl rfl rfl rfl)) ?_
        refine ASL.q (v := (.int .i64 (W (x36_l1 + 1)))) rfl rfl (Light.quiet (opMove rfl rfl)) ?_
        refine ASL.done ?_
        refine QThen.nrm ?_
        exact ⟨(y52, y53, (bOr .i64 y54 ((impl_only x36_l1))), y55, (y58.set m44 x36_l1), (W (x36_l1 + 1))), w56, (someE hF).symm, ⟨rfl, rfl, rfl, rfl, rfl, rfl, rfl, rfl, rfl, trivial⟩, (hS.pick [0, 1, 2, 3, 4, 5, 6] rfl rfl)⟩
      · skip
        refine AWP.skip ?_
        refine QBlock.nrm ?_
        refine QThen.nrm ?_
        refine AWP.lastR rfl ?_
        refine ASL.q (v := (.int .i64 (W (x36_l1 + 1)))) rfl rfl (Light.quiet (opInt rfl rfl rfl rfl)) ?_
        refine ASL.q (v := (.int .i64 (W (x36_l1 + 1)))) rfl rfl (Light.quiet (opMove rfl rfl)) ?_
        refine ASL.done ?_
        refine QThen.nrm ?_
        exact ⟨(y52, y53, y54, y55, (y58.set m44 x36_l1), (W (x36_l1 + 1))), w56, (someE hF).symm, ⟨rfl, rfl, rfl, rfl, rfl, rfl, rfl, rfl, rfl, trivial⟩, (hS.pick [0, 1, 2, 3, 4, 5, 6] rfl rfl)⟩
    · skip
      refine AWP.exit ?_
      refine QThen.ext ?_
      refine QThen.ext ?_
      refine QBlock.hit ?_
      obtain rfl := (hx60 _ (someE hF).symm)
      have hF := hR63
      refine QThen.nrm ?_
      exact ⟨y52, y53, y54, y55, y58, w56, ⟨rfl, rfl, rfl, rfl, rfl, rfl, trivial⟩, (hS.pick [0, 1, 2, 3, 4, 5, 6] rfl rfl), hF⟩

set_option maxRecDepth 10000 in
theorem impl_AutoPrune_ok {p0 : TAuto} {r : (TAuto × (List Int))} (hF : impl_AutoPrune p0 = some r) : HS Try.prog 30 [(TAuto.av p0)] [] fun v L' => ∃ o0_Edges : AV, ∃ o1 : AV, v = .tup [(.agg [(.int .i64 r.1.letters), (.int .i64 r.1.states), (.int .i64 r.1.start), o0_Edges]), o1] ∧ L' = [.row 4 o0_Edges (List.map TEdge.av r.1.edges), .row 1 o1 (List.map (AV.int .i64) r.2)] := by
  intro H S hS
  refine HC.enter Try.func30 rfl Try.ntmps30 (by simp) ?_
  simp only [List.cons_append, List.nil_append] at hS
  unfold impl_AutoPrune at hF
  refine AWP.seqR rfl ?_
  refine ASL.q (v := (.rptr [(.int .i64 p0.letters), (.int .i64 p0.states), (.int .i64 p0.start), (.list 4 (List.map TEdge.av p0.edges))])) rfl rfl ((qBoxI (v := (TAuto.av p0)) rfl rfl rfl rfl)) ?_
  have hS := hNil (s := 4) (f := TEdge.av) hS
  refine ASL.x rfl rfl (hNewZ hS [(.int .i64 0), (.int .i64 0), (.int .i64 0), .nil] rfl zeroA_29 ⟨.inl rfl, .inl rfl, .inl rfl, .inl rfl, trivial⟩ ?_); rintro b2 G1 hK hS
  have hS := hNil (s := 1) (f := (AV.int .i64)) hS
  refine ASL.q (v := .nil) rfl rfl (Light.quiet (opAssign rfl rfl)) ?_
  refine ASL.done ?_
  refine AWP.seq ?_
  refine AWP.seqR rfl ?_
  refine ASL.q (v := (TAuto.av p0)) rfl rfl (Light.quiet (opLoadRA rfl aggA_29 sizeA_29 rfl (nlt rfl) rfl)) ?_
  obtain ⟨a5, ha5, hF⟩ := bindE hF
  refine ASL.q (v := (.bool a5)) rfl rfl ((qCall rfl rfl call_43 (impl_AutoOk_ok ha5) rfl)) ?_
  refine ASL.q (v := (.bool (!a5))) rfl rfl (Light.quiet (opNot rfl rfl)) ?_
  refine ASL.done ?_
  refine AWP.ifB hF rfl (fun hc5 hF => ?_) (fun hc5 hF => ?_)
  · skip
    refine AWP.seqR rfl ?_
    refine ASL.q (v := (.agg [(.int .i64 0), (.int .i64 0), (.int .i64 0), .nil])) rfl rfl (Light.quiet (opBuildZ (zs := [(.int .i64 0), (.int .i64 0), (.int .i64 0), .nil]) rfl plan_29 zeroA_29 ⟨.inl rfl, .inl rfl, .inl rfl, .inl rfl, trivial⟩ rfl)) ?_
    have hS := hNil (s := 4) (f := TEdge.av) hS
    refine ASL.n rfl rfl (hPutA hS (j := 2) rfl rfl sizeA_29 rfl rfl rfl rfl (allC rfl (allC rfl (allC rfl (allC (hS.one (k := 0) rfl) rfl)))) (nlt rfl) ?_); rintro G6 hS
    have hS := hNil (s := 1) (f := (AV.int .i64)) hS
    refine ASL.q (v := .nil) rfl rfl (Light.quiet (opAssign rfl rfl)) ?_
    refine ASL.done ?_
    refine AWP.ret ?_
    refine QThen.rt ?_
    obtain rfl := someE hF
    exact QRet.many (vs := [(.agg [(.int .i64 0), (.int .i64 0), (.int .i64 0), .nil]), .nil]) ⟨resOne.at hS (k := 3) rfl rfl aggA_29 sizeA_29, rfl, trivial⟩ (by simp) ⟨_, ⟨.nil, .nil, rfl, rfl⟩, hS.pick [1, 0, 5] rfl rfl⟩
  · skip
    refine AWP.skip ?_
    refine QThen.nrm ?_
    refine AWP.seqR rfl ?_
    refine ASL.q (v := (.rptr [(.int .i64 p0.start), (.list 4 (List.map TEdge.av p0.edges))])) rfl rfl (Light.quiet (opFieldAddrR rfl fieldA_29_2 rfl rfl)) ?_
    refine ASL.q (v := (.int .i64 p0.start)) rfl rfl (Light.quiet (opLoadR rfl aggA_3 rfl rfl)) ?_
    obtain ⟨a10, ha10, hF⟩ := bindE hF
    refine ASL.q (v := (.int .i64 a10)) rfl rfl ((qCall rfl rfl call_71 (impl_Auto_reach_ok ha10) rfl)) ?_
    obtain ⟨a11, ha11, hF⟩ := bindE hF
    refine ASL.q (v := (.int .i64 a11)) rfl rfl ((qCall rfl rfl call_44 (impl_Auto_live_ok ha11) rfl)) ?_
    refine ASL.q (v := (.int .i64 (bAnd .i64 a10 a11))) rfl rfl (Light.quiet (opInt rfl rfl rfl rfl)) ?_
    obtain ⟨a13, ha13, hF⟩ := bindE hF
    refine ASL.x rfl rfl (hCallSR hS rfl rfl call_70 (impl_Auto_kept_ok ha13) ⟨.same _, .same _, trivial⟩ (by rintro _ _ G ⟨w9, w11, rfl, rfl⟩ hG; exact ⟨(Scal.tup (ScalC.cons (Scal.agg (ScalC.cons (by constructor) (ScalC.cons (by constructor) (ScalC.cons (by constructor) (ScalC.cons (hG.scR (k := 0) rfl) ScalC.nil))))) (ScalC.cons (hG.scR (k := 1) rfl) ScalC.nil))), ⟨(Scal.row (fun _ => by simp only [TEdge.av, cells, List.mem_cons, List.not_mem_nil, or_false]; rintro c hc; rcases hc with rfl | rfl | rfl | rfl <;> constructor)), (Scal.ints _ _), trivial⟩⟩) ?_); rintro _ _ G13 ⟨w9, w11, rfl, rfl⟩ hK hS
    refine ASL.q (v := (.agg [(.int .i64 a13.1.letters), (.int .i64 a13.1.states), (.int .i64 a13.1.start), w9])) rfl rfl (Light.quiet (opExtract rfl rfl rfl)) ?_
    refine ASL.q (v := w11) rfl rfl (Light.quiet (opExtract rfl rfl rfl)) ?_
    refine ASL.n rfl rfl (hPutA hS (j := 3) rfl rfl sizeA_29 rfl rfl rfl rfl (allC rfl (allC rfl (allC rfl (allC (hS.one (k := 0) rfl) rfl)))) (nlt rfl) ?_); rintro G14 hS
    refine ASL.q (v := w11) rfl rfl (Light.quiet (opAssign rfl rfl)) ?_
    refine ASL.done ?_
    refine AWP.ret ?_
    obtain rfl := someE hF
    exact QRet.many (vs := [(.agg [(.int .i64 a13.1.letters), (.int .i64 a13.1.states), (.int .i64 a13.1.start), w9]), w11]) ⟨resOne.at hS (k := 3) rfl rfl aggA_29 sizeA_29, rfl, trivial⟩ (by simp) ⟨_, ⟨w9, w11, rfl, rfl⟩, hS.pick [0, 1, 5] rfl rfl⟩

set_option maxRecDepth 10000 in
theorem laws_heldEdgeS_ok {p0 : (List TEdge)} {p1 : Int} {r : Int} (hF : laws_heldEdgeS p0 p1 = some r) : PC Try.prog 72 [(.list 4 (List.map TEdge.av p0)), (.int .i64 p1)] fun v => v = (.int .i64 r) := by
  refine PC.enter Try.func72 rfl Try.ntmps72 (by simp) ?_
  have hS := Sep.void; unfold laws_heldEdgeS at hF
  refine AWP.seqR rfl ?_
  refine ASL.q (v := (.int .i64 0)) rfl rfl (Light.quiet (opAssign rfl rfl)) ?_
  refine ASL.done ?_
  refine AWP.seqM (fun e H => ∃ x1_1 : Int, E.Told e [(1, (.int .i64 x1_1))] ∧ E.Sep H [] ∧ laws_heldEdgeS.k0 x1_1 = some r) ?_ ?_
  · rintro e0 G1 ⟨x1_1, hT, hS, hF⟩; refine AWP.only _ hT ?_; unfold laws_heldEdgeS.k0 at hF
    refine AWP.seqR rfl ?_
    refine ASL.q (v := (.int .i64 x1_1)) rfl rfl (Light.quiet (opMove rfl rfl)) ?_
    refine ASL.q (v := (.int .i64 x1_1)) rfl rfl (Light.quiet (opAssign rfl rfl)) ?_
    refine ASL.done ?_
    refine AWP.ret ?_
    obtain rfl := someE hF
    exact QRet.sole (v := (.int .i64 x1_1)) ⟨rfl, trivial⟩ rfl
  · skip
    refine AWP.seqR rfl ?_
    refine ASL.q (v := (.int .i64 0)) rfl rfl (Light.quiet (opAssign rfl rfl)) ?_
    refine ASL.done ?_
    refine AWP.block ?_
    obtain ⟨o5, hL4, hR6⟩ := bindE hF
    refine AWP.loopF (ω := Unit) hL4 (fun s w => [(0, (.list 4 (List.map TEdge.av p0))), (1, (.int .i64 s.1)), (5, (.int .i64 s.2))]) (fun s w => []) () ⟨rfl, rfl, rfl, trivial⟩ (hS.pick [] rfl rfl) ?_
    rintro ⟨x1_l0, x5_l0⟩ _ G7 hS x2 hF hx3
    try dsimp only at hS ⊢
    have hF : laws_heldEdgeS.b0 p0 x1_l0 x5_l0 = some x2 := hF; unfold laws_heldEdgeS.b0 at hF
    refine AWP.seq ?_
    refine AWP.seqR rfl ?_
    refine ASL.q (v := (.int .i64 x5_l0)) rfl rfl (Light.quiet (opMove rfl rfl)) ?_
    refine ASL.q (v := (.list 4 (List.map TEdge.av p0))) rfl rfl (Light.quiet (opMove rfl rfl)) ?_
    refine ASL.q (v := (.int .i64 (p0.length : Int))) rfl rfl (Light.quiet (opLenMap (f := TEdge.av) rfl rfl rfl lenT_27 rfl)) ?_
    refine ASL.q (v := (.bool (decide (x5_l0 < ((p0.length : Int)))))) rfl rfl (Light.quiet (opInt rfl rfl rfl rfl)) ?_
    refine ASL.done ?_
    refine AWP.ifP hF rfl (fun hc8 hF => ?_) (fun hc8 hF => ?_)
    · skip
      refine AWP.skip ?_
      refine QThen.nrm ?_
      refine AWP.seq ?_
      refine AWP.block ?_
      refine AWP.seq ?_
      refine AWP.seqR rfl ?_
      refine ASL.q (v := (.list 4 (List.map TEdge.av p0))) rfl rfl (Light.quiet (opMove rfl rfl)) ?_
      refine ASL.q (v := (.int .i64 x5_l0)) rfl rfl (Light.quiet (opMove rfl rfl)) ?_
      obtain ⟨a14, ha14, hF⟩ := bindE hF
      refine ASL.q (v := (.rptr [(.int .i64 a14.from_), (.int .i64 a14.letter), (.int .i64 a14.to_), (.bool a14.good)])) rfl rfl (Light.quiet (kIx (f := TEdge.av) ha14 rfl rfl rfl elemA_27 sizeA_73 rfl)) ?_
      refine ASL.q (v := (.rptr [(.int .i64 a14.from_), (.int .i64 a14.letter), (.int .i64 a14.to_), (.bool a14.good)])) rfl rfl (Light.quiet (opFieldAddrR rfl fieldA_73_0 rfl rfl)) ?_
      refine ASL.q (v := (.int .i64 a14.from_)) rfl rfl (Light.quiet (opLoadR rfl aggA_3 rfl rfl)) ?_
      refine ASL.q (v := (.int .i64 x1_l0)) rfl rfl (Light.quiet (opMove rfl rfl)) ?_
      refine ASL.q (v := (.bool (decide (a14.from_ ≠ x1_l0)))) rfl rfl (Light.quiet (opInt rfl rfl rfl rfl)) ?_
      refine ASL.done ?_
      refine AWP.ifP hF rfl (fun hc9 hF => ?_) (fun hc9 hF => ?_)
      · skip
        refine AWP.seqR rfl ?_
        refine ASL.q (v := (.int .i64 (-1))) rfl rfl (Light.quiet (opAssign rfl rfl)) ?_
        refine ASL.done ?_
        refine AWP.ret ?_
        refine QThen.rt ?_
        refine QBlock.ret ?_
        refine QThen.rt ?_
        refine QThen.rt ?_
        refine QBlock.ret ?_
        refine QThen.rt ?_
        obtain rfl := (hx3 _ (someE hF).symm)
        have hF := hR6
        have hF := sumR hF
        obtain rfl := someE hF
        exact QRet.sole (v := (.int .i64 (-1))) ⟨rfl, trivial⟩ rfl
      · skip
        refine AWP.skip ?_
        refine QThen.nrm ?_
        refine AWP.seqR rfl ?_
        refine ASL.q (v := (.int .i64 x1_l0)) rfl rfl (Light.quiet (opMove rfl rfl)) ?_
        refine ASL.q (v := (.int .i64 (W (x1_l0 + 1)))) rfl rfl (Light.quiet (opInt rfl rfl rfl rfl)) ?_
        refine ASL.q (v := (.int .i64 (W (x1_l0 + 1)))) rfl rfl (Light.quiet (opAssign rfl rfl)) ?_
        refine ASL.done ?_
        refine AWP.seq ?_
        refine AWP.seqR rfl ?_
        refine ASL.q (v := (.list 4 (List.map TEdge.av p0))) rfl rfl (Light.quiet (opMove rfl rfl)) ?_
        refine ASL.q (v := (.int .i64 x5_l0)) rfl rfl (Light.quiet (opMove rfl rfl)) ?_
        obtain ⟨a23, ha23, hF⟩ := bindE hF
        refine ASL.q (v := (.rptr [(.int .i64 a23.from_), (.int .i64 a23.letter), (.int .i64 a23.to_), (.bool a23.good)])) rfl rfl (Light.quiet (kIx (f := TEdge.av) ha23 rfl rfl rfl elemA_27 sizeA_73 rfl)) ?_
        refine ASL.q (v := (.rptr [(.int .i64 a23.letter), (.int .i64 a23.to_), (.bool a23.good)])) rfl rfl (Light.quiet (opFieldAddrR rfl fieldA_73_1 rfl rfl)) ?_
        refine ASL.q (v := (.int .i64 a23.letter)) rfl rfl (Light.quiet (opLoadR rfl aggA_3 rfl rfl)) ?_
        refine ASL.q (v := (.int .i64 (W (x1_l0 + 1)))) rfl rfl (Light.quiet (opMove rfl rfl)) ?_
        refine ASL.q (v := (.bool (decide (a23.letter ≠ ((W (x1_l0 + 1))))))) rfl rfl (Light.quiet (opInt rfl rfl rfl rfl)) ?_
        refine ASL.done ?_
        refine AWP.ifP hF rfl (fun hc10 hF => ?_) (fun hc10 hF => ?_)
        · skip
          refine AWP.seqR rfl ?_
          refine ASL.q (v := (.int .i64 (-1))) rfl rfl (Light.quiet (opAssign rfl rfl)) ?_
          refine ASL.done ?_
          refine AWP.ret ?_
          refine QThen.rt ?_
          refine QBlock.ret ?_
          refine QThen.rt ?_
          refine QThen.rt ?_
          refine QBlock.ret ?_
          refine QThen.rt ?_
          obtain rfl := (hx3 _ (someE hF).symm)
          have hF := hR6
          have hF := sumR hF
          obtain rfl := someE hF
          exact QRet.sole (v := (.int .i64 (-1))) ⟨rfl, trivial⟩ rfl
        · skip
          refine AWP.skip ?_
          refine QThen.nrm ?_
          refine AWP.seqR rfl ?_
          refine ASL.q (v := (.int .i64 (W (x1_l0 + 1)))) rfl rfl (Light.quiet (opMove rfl rfl)) ?_
          refine ASL.q (v := (.int .i64 (W (((W (x1_l0 + 1))) + 1)))) rfl rfl (Light.quiet (opInt rfl rfl rfl rfl)) ?_
          refine ASL.q (v := (.int .i64 (W (((W (x1_l0 + 1))) + 1)))) rfl rfl (Light.quiet (opAssign rfl rfl)) ?_
          refine ASL.done ?_
          refine AWP.seq ?_
          refine AWP.seqR rfl ?_
          refine ASL.q (v := (.list 4 (List.map TEdge.av p0))) rfl rfl (Light.quiet (opMove rfl rfl)) ?_
          refine ASL.q (v := (.int .i64 x5_l0)) rfl rfl (Light.quiet (opMove rfl rfl)) ?_
          obtain ⟨a32, ha32, hF⟩ := bindE hF
          refine ASL.q (v := (.rptr [(.int .i64 a32.from_), (.int .i64 a32.letter), (.int .i64 a32.to_), (.bool a32.good)])) rfl rfl (Light.quiet (kIx (f := TEdge.av) ha32 rfl rfl rfl elemA_27 sizeA_73 rfl)) ?_
          refine ASL.q (v := (.rptr [(.int .i64 a32.to_), (.bool a32.good)])) rfl rfl (Light.quiet (opFieldAddrR rfl fieldA_73_2 rfl rfl)) ?_
          refine ASL.q (v := (.int .i64 a32.to_)) rfl rfl (Light.quiet (opLoadR rfl aggA_3 rfl rfl)) ?_
          refine ASL.q (v := (.int .i64 (W (((W (x1_l0 + 1))) + 1)))) rfl rfl (Light.quiet (opMove rfl rfl)) ?_
          refine ASL.q (v := (.bool (decide (a32.to_ ≠ ((W (((W (x1_l0 + 1))) + 1))))))) rfl rfl (Light.quiet (opInt rfl rfl rfl rfl)) ?_
          refine ASL.done ?_
          refine AWP.ifP hF rfl (fun hc11 hF => ?_) (fun hc11 hF => ?_)
          · skip
            refine AWP.seqR rfl ?_
            refine ASL.q (v := (.int .i64 (-1))) rfl rfl (Light.quiet (opAssign rfl rfl)) ?_
            refine ASL.done ?_
            refine AWP.ret ?_
            refine QThen.rt ?_
            refine QBlock.ret ?_
            refine QThen.rt ?_
            refine QThen.rt ?_
            refine QBlock.ret ?_
            refine QThen.rt ?_
            obtain rfl := (hx3 _ (someE hF).symm)
            have hF := hR6
            have hF := sumR hF
            obtain rfl := someE hF
            exact QRet.sole (v := (.int .i64 (-1))) ⟨rfl, trivial⟩ rfl
          · skip
            refine AWP.skip ?_
            refine QThen.nrm ?_
            refine AWP.seqR rfl ?_
            refine ASL.q (v := (.int .i64 (W (((W (x1_l0 + 1))) + 1)))) rfl rfl (Light.quiet (opMove rfl rfl)) ?_
            refine ASL.q (v := (.int .i64 (W (((W (((W (x1_l0 + 1))) + 1))) + 1)))) rfl rfl (Light.quiet (opInt rfl rfl rfl rfl)) ?_
            refine ASL.q (v := (.int .i64 (W (((W (((W (x1_l0 + 1))) + 1))) + 1)))) rfl rfl (Light.quiet (opAssign rfl rfl)) ?_
            refine ASL.done ?_
            refine AWP.seq ?_
            refine AWP.seqR rfl ?_
            refine ASL.q (v := (.list 4 (List.map TEdge.av p0))) rfl rfl (Light.quiet (opMove rfl rfl)) ?_
            refine ASL.q (v := (.int .i64 x5_l0)) rfl rfl (Light.quiet (opMove rfl rfl)) ?_
            obtain ⟨a41, ha41, hF⟩ := bindE hF
            refine ASL.q (v := (.rptr [(.int .i64 a41.from_), (.int .i64 a41.letter), (.int .i64 a41.to_), (.bool a41.good)])) rfl rfl (Light.quiet (kIx (f := TEdge.av) ha41 rfl rfl rfl elemA_27 sizeA_73 rfl)) ?_
            refine ASL.q (v := (.rptr [(.bool a41.good)])) rfl rfl (Light.quiet (opFieldAddrR rfl fieldA_73_3 rfl rfl)) ?_
            refine ASL.q (v := (.bool a41.good)) rfl rfl (Light.quiet (opLoadR rfl aggA_4 rfl rfl)) ?_
            refine ASL.q (v := (.int .i64 (W (((W (((W (x1_l0 + 1))) + 1))) + 1)))) rfl rfl (Light.quiet (opMove rfl rfl)) ?_
            refine ASL.q (v := (.int .i64 (Int.tmod ((W (((W (((W (x1_l0 + 1))) + 1))) + 1))) 3))) rfl rfl (Light.quiet (opRem rfl rfl rfl (by decide) rfl)) ?_
            refine ASL.q (v := (.bool (decide (((Int.tmod ((W (((W (((W (x1_l0 + 1))) + 1))) + 1))) 3)) = 0)))) rfl rfl (Light.quiet (opInt rfl rfl rfl rfl)) ?_
            refine ASL.q (v := (.bool (!(a41.good == (decide (((Int.tmod ((W (((W (((W (x1_l0 + 1))) + 1))) + 1))) 3)) = 0)))))) rfl rfl (Light.quiet (opBoolEq rfl rfl rfl und_4 rfl)) ?_
            refine ASL.done ?_
            refine AWP.ifB hF rfl (fun hc12 hF => ?_) (fun hc12 hF => ?_)
            · skip
              refine AWP.seqR rfl ?_
              refine ASL.q (v := (.int .i64 (-1))) rfl rfl (Light.quiet (opAssign rfl rfl)) ?_
              refine ASL.done ?_
              refine AWP.ret ?_
              refine QThen.rt ?_
              refine QBlock.ret ?_
              refine QThen.rt ?_
              refine QThen.rt ?_
              refine QBlock.ret ?_
              refine QThen.rt ?_
              obtain rfl := (hx3 _ (someE hF).symm)
              have hF := hR6
              have hF := sumR hF
              obtain rfl := someE hF
              exact QRet.sole (v := (.int .i64 (-1))) ⟨rfl, trivial⟩ rfl
            · skip
              refine AWP.skip ?_
              refine QThen.nrm ?_
              refine AWP.lastR rfl ?_
              refine ASL.q (v := (.int .i64 (W (((W (((W (x1_l0 + 1))) + 1))) + 1)))) rfl rfl (Light.quiet (opMove rfl rfl)) ?_
              refine ASL.q (v := (.int .i64 (W (((W (((W (((W (x1_l0 + 1))) + 1))) + 1))) + 1)))) rfl rfl (Light.quiet (opInt rfl rfl rfl rfl)) ?_
              refine ASL.q (v := (.int .i64 (W (((W (((W (((W (x1_l0 + 1))) + 1))) + 1))) + 1)))) rfl rfl (Light.quiet (opAssign rfl rfl)) ?_
              refine ASL.done ?_
              refine QBlock.nrm ?_
              refine QThen.nrm ?_
              refine AWP.lastR rfl ?_
              refine ASL.q (v := (.int .i64 x5_l0)) rfl rfl (Light.quiet (opMove rfl rfl)) ?_
              refine ASL.q (v := (.int .i64 (W (x5_l0 + 1)))) rfl rfl (Light.quiet (opInt rfl rfl rfl rfl)) ?_
              refine ASL.q (v := (.int .i64 (W (x5_l0 + 1)))) rfl rfl (Light.quiet (opAssign rfl rfl)) ?_
              refine ASL.done ?_
              refine QThen.nrm ?_
              exact ⟨((W (((W (((W (((W (x1_l0 + 1))) + 1))) + 1))) + 1)), (W (x5_l0 + 1))), (), (someE hF).symm, ⟨rfl, rfl, rfl, trivial⟩, (hS.pick [] rfl rfl)⟩
    · skip
      refine AWP.exit ?_
      refine QThen.ext ?_
      refine QThen.ext ?_
      refine QBlock.hit ?_
      obtain rfl := (hx3 _ (someE hF).symm)
      have hF := hR6
      have hF := sumL hF
      refine QThen.nrm ?_
      exact ⟨x1_l0, ⟨rfl, trivial⟩, (hS.pick [] rfl rfl), hF⟩

set_option maxRecDepth 10000 in
theorem laws_heldAuto_ok {p0 : TAuto} {p1 : Int} {r : Int} (hF : laws_heldAuto p0 p1 = some r) : PC Try.prog 31 [(TAuto.av p0), (.int .i64 p1)] fun v => v = (.int .i64 r) := by
  refine PC.enter Try.func31 rfl Try.ntmps31 (by simp) ?_
  have hS := Sep.void; unfold laws_heldAuto at hF
  refine AWP.seqR rfl ?_
  refine ASL.q (v := (.rptr [(.int .i64 p0.letters), (.int .i64 p0.states), (.int .i64 p0.start), (.list 4 (List.map TEdge.av p0.edges))])) rfl rfl ((qBoxI (v := (TAuto.av p0)) rfl rfl rfl rfl)) ?_
  refine ASL.q (v := (.int .i64 0)) rfl rfl (Light.quiet (opAssign rfl rfl)) ?_
  refine ASL.done ?_
  refine AWP.seqR rfl ?_
  refine ASL.q (v := (.rptr [(.list 4 (List.map TEdge.av p0.edges))])) rfl rfl (Light.quiet (opFieldAddrR rfl fieldA_29_3 rfl rfl)) ?_
  refine ASL.q (v := (.list 4 (List.map TEdge.av p0.edges))) rfl rfl (Light.quiet (opLoadR rfl aggA_27 rfl rfl)) ?_
  refine ASL.q (v := (.int .i64 p1)) rfl rfl (Light.quiet (opMove rfl rfl)) ?_
  obtain ⟨a8, ha8, hF⟩ := bindE hF
  refine ASL.q (v := (.int .i64 a8)) rfl rfl ((qCall rfl rfl call_72 (laws_heldEdgeS_ok ha8) rfl)) ?_
  refine ASL.q (v := (.int .i64 a8)) rfl rfl (Light.quiet (opAssign rfl rfl)) ?_
  refine ASL.done ?_
  refine AWP.seq ?_
  refine AWP.seqR rfl ?_
  refine ASL.q (v := (.int .i64 a8)) rfl rfl (Light.quiet (opMove rfl rfl)) ?_
  refine ASL.q (v := (.bool (decide (a8 < 0)))) rfl rfl (Light.quiet (opInt rfl rfl rfl rfl)) ?_
  refine ASL.done ?_
  refine AWP.ifP hF rfl (fun hc1 hF => ?_) (fun hc1 hF => ?_)
  · skip
    refine AWP.seqR rfl ?_
    refine ASL.q (v := (.int .i64 (-1))) rfl rfl (Light.quiet (opAssign rfl rfl)) ?_
    refine ASL.done ?_
    refine AWP.ret ?_
    refine QThen.rt ?_
    obtain rfl := someE hF
    exact QRet.sole (v := (.int .i64 (-1))) ⟨rfl, trivial⟩ rfl
  · skip
    refine AWP.skip ?_
    refine QThen.nrm ?_
    refine AWP.seqR rfl ?_
    refine ASL.q (v := (.int .i64 a8)) rfl rfl (Light.quiet (opMove rfl rfl)) ?_
    refine ASL.q (v := (.int .i64 a8)) rfl rfl (Light.quiet (opAssign rfl rfl)) ?_
    refine ASL.done ?_
    refine AWP.ret ?_
    obtain rfl := someE hF
    exact QRet.sole (v := (.int .i64 a8)) ⟨rfl, trivial⟩ rfl

set_option maxRecDepth 10000 in
theorem laws_FnExactAutoPrune_ok {p0 : TAuto} {r : Bool} (hF : laws_FnExactAutoPrune p0 = some r) : PC Try.prog 8 [(TAuto.av p0)] fun v => v = (.bool r) := by
  refine PC.enter Try.func8 rfl Try.ntmps8 (by simp) ?_
  have hS := Sep.void; unfold laws_FnExactAutoPrune at hF
  refine AWP.seqR rfl ?_
  refine ASL.q (v := (.rptr [(.int .i64 p0.letters), (.int .i64 p0.states), (.int .i64 p0.start), (.list 4 (List.map TEdge.av p0.edges))])) rfl rfl ((qBoxI (v := (TAuto.av p0)) rfl rfl rfl rfl)) ?_
  refine ASL.q (v := (.bool false)) rfl rfl (Light.quiet (opAssign rfl rfl)) ?_
  refine ASL.done ?_
  refine AWP.seqR rfl ?_
  refine ASL.q (v := (.int .i64 1048576)) rfl rfl (Light.quiet (opAssign rfl rfl)) ?_
  refine ASL.done ?_
  refine AWP.seqR rfl ?_
  refine ASL.q (v := (TAuto.av p0)) rfl rfl (Light.quiet (opLoadRA rfl aggA_24 sizeA_24 rfl (nlt rfl) rfl)) ?_
  refine ASL.q (v := (.int .i64 1048576)) rfl rfl (Light.quiet (opMove rfl rfl)) ?_
  refine ASL.q (v := (.int .i64 (laws_szAuto p0 1048576))) rfl rfl ((qCall rfl rfl call_10 (laws_szAuto_ok p0 1048576) rfl)) ?_
  refine ASL.q (v := (.int .i64 (laws_szAuto p0 1048576))) rfl rfl (Light.quiet (opAssign rfl rfl)) ?_
  refine ASL.done ?_
  refine AWP.seq ?_
  refine AWP.seqR rfl ?_
  refine ASL.q (v := (.int .i64 (laws_szAuto p0 1048576))) rfl rfl (Light.quiet (opMove rfl rfl)) ?_
  refine ASL.q (v := (.bool (decide (((laws_szAuto p0 1048576)) < 0)))) rfl rfl (Light.quiet (opInt rfl rfl rfl rfl)) ?_
  refine ASL.done ?_
  refine AWP.ifP hF rfl (fun hc1 hF => ?_) (fun hc1 hF => ?_)
  · skip
    refine AWP.seqR rfl ?_
    refine ASL.q (v := (.bool true)) rfl rfl (Light.quiet (opAssign rfl rfl)) ?_
    refine ASL.done ?_
    refine AWP.ret ?_
    refine QThen.rt ?_
    obtain rfl := someE hF
    exact QRet.sole (v := (.bool true)) ⟨rfl, trivial⟩ rfl
  · skip
    refine AWP.skip ?_
    refine QThen.nrm ?_
    refine AWP.seqR rfl ?_
    refine ASL.q (v := (TAuto.av p0)) rfl rfl (Light.quiet (opLoadRA rfl aggA_24 sizeA_24 rfl (nlt rfl) rfl)) ?_
    obtain ⟨a21, ha21, hF⟩ := bindE hF
    refine ASL.x rfl rfl (hCallSR hS rfl rfl call_12 (laws_toAuto_ok ha21) ⟨.same _, trivial⟩ (by rintro _ _ G ⟨w2, rfl, rfl⟩ hG; exact ⟨(Scal.agg (ScalC.cons (by constructor) (ScalC.cons (by constructor) (ScalC.cons (by constructor) (ScalC.cons (hG.scR (k := 0) rfl) ScalC.nil))))), ⟨(Scal.row (fun _ => by simp only [TEdge.av, cells, List.mem_cons, List.not_mem_nil, or_false]; rintro c hc; rcases hc with rfl | rfl | rfl | rfl <;> constructor)), trivial⟩⟩) ?_); rintro _ _ G4 ⟨w2, rfl, rfl⟩ hK hS
    obtain ⟨a22, ha22, hF⟩ := bindE hF
    refine ASL.x rfl rfl (hCallSR hS rfl rfl call_29 (spec_AutoPrune_ok ha22) ⟨.aggL ⟨.same _, .same _, .same _, .row (k := 0) rfl, trivial⟩, trivial⟩ (by rintro _ _ G ⟨w5, w7, rfl, rfl⟩ hG; exact ⟨(Scal.tup (ScalC.cons (Scal.agg (ScalC.cons (by constructor) (ScalC.cons (by constructor) (ScalC.cons (by constructor) (ScalC.cons (hG.scR (k := 0) rfl) ScalC.nil))))) (ScalC.cons (hG.scR (k := 1) rfl) ScalC.nil))), ⟨(Scal.row (fun _ => by simp only [TEdge.av, cells, List.mem_cons, List.not_mem_nil, or_false]; rintro c hc; rcases hc with rfl | rfl | rfl | rfl <;> constructor)), (Scal.ints _ _), trivial⟩⟩) ?_); rintro _ _ G9 ⟨w5, w7, rfl, rfl⟩ hK hS
    refine ASL.q (v := (.tup [(.agg [(.int .i64 a22.1.letters), (.int .i64 a22.1.states), (.int .i64 a22.1.start), w5]), w7])) rfl rfl (Light.quiet (opMove rfl rfl)) ?_
    refine ASL.q (v := (.agg [(.int .i64 a22.1.letters), (.int .i64 a22.1.states), (.int .i64 a22.1.start), w5])) rfl rfl (Light.quiet (opExtract rfl rfl rfl)) ?_
    refine ASL.q (v := w7) rfl rfl (Light.quiet (opExtract rfl rfl rfl)) ?_
    refine ASL.x rfl rfl (hNewZ hS [(.int .i64 0), (.int .i64 0), (.int .i64 0), (.list 4 (List.map TEdge.av []))] rfl zeroA_29 ⟨.inl rfl, .inl rfl, .inl rfl, .inr ⟨_, rfl, rfl⟩, trivial⟩ ?_); rintro b4 G10 hK hS
    refine ASL.n rfl rfl (hPutA hS (j := 0) rfl rfl sizeA_29 rfl rfl rfl rfl (allC rfl (allC rfl (allC rfl (allC (hS.one (k := 1) rfl) rfl)))) (nlt rfl) ?_); rintro G12 hS
    refine ASL.q (v := w7) rfl rfl (Light.quiet (opAssign rfl rfl)) ?_
    refine ASL.done ?_
    refine AWP.seqR rfl ?_
    refine ASL.q (v := (TAuto.av p0)) rfl rfl (Light.quiet (opLoadRA rfl aggA_24 sizeA_24 rfl (nlt rfl) rfl)) ?_
    obtain ⟨a26, ha26, hF⟩ := bindE hF
    refine ASL.x rfl rfl (hCallSR hS rfl rfl call_12 (laws_toAuto_ok ha26) ⟨.same _, trivial⟩ (by rintro _ _ G ⟨w13, rfl, rfl⟩ hG; exact ⟨(Scal.agg (ScalC.cons (by constructor) (ScalC.cons (by constructor) (ScalC.cons (by constructor) (ScalC.cons (hG.scR (k := 0) rfl) ScalC.nil))))), ⟨(Scal.row (fun _ => by simp only [TEdge.av, cells, List.mem_cons, List.not_mem_nil, or_false]; rintro c hc; rcases hc with rfl | rfl | rfl | rfl <;> constructor)), trivial⟩⟩) ?_); rintro _ _ G15 ⟨w13, rfl, rfl⟩ hK hS
    have hS := hNil (s := 4) (f := TEdge.av) hS
    refine ASL.x rfl rfl (hNewZ hS [(.int .i64 0), (.int .i64 0), (.int .i64 0), .nil] rfl zeroA_29 ⟨.inl rfl, .inl rfl, .inl rfl, .inl rfl, trivial⟩ ?_); rintro b6 G16 hK hS
    refine ASL.n rfl rfl (hPutA hS (j := 0) rfl rfl sizeA_29 rfl rfl rfl rfl (allC rfl (allC rfl (allC rfl (allC (hS.one (k := 2) rfl) rfl)))) (nlt rfl) ?_); rintro G19 hS
    refine ASL.done ?_
    refine AWP.seqR rfl ?_
    refine ASL.q (v := (.agg [(.int .i64 a26.letters), (.int .i64 a26.states), (.int .i64 a26.start), w13])) rfl rfl (Light.quiet (kAtA hS (j := 0) rfl rfl aggA_29 sizeA_29 rfl (nlt rfl) rfl)) ?_
    obtain ⟨a29, ha29, hF⟩ := bindE hF
    refine ASL.x rfl rfl (hCallSR hS rfl rfl call_30 (impl_AutoPrune_ok ha29) ⟨.aggL ⟨.same _, .same _, .same _, .row (k := 2) rfl, trivial⟩, trivial⟩ (by rintro _ _ G ⟨w20, w22, rfl, rfl⟩ hG; exact ⟨(Scal.tup (ScalC.cons (Scal.agg (ScalC.cons (by constructor) (ScalC.cons (by constructor) (ScalC.cons (by constructor) (ScalC.cons (hG.scR (k := 0) rfl) ScalC.nil))))) (ScalC.cons (hG.scR (k := 1) rfl) ScalC.nil))), ⟨(Scal.row (fun _ => by simp only [TEdge.av, cells, List.mem_cons, List.not_mem_nil, or_false]; rintro c hc; rcases hc with rfl | rfl | rfl | rfl <;> constructor)), (Scal.ints _ _), trivial⟩⟩) ?_); rintro _ _ G24 ⟨w20, w22, rfl, rfl⟩ hK hS
    refine ASL.q (v := (.tup [(.agg [(.int .i64 a29.1.letters), (.int .i64 a29.1.states), (.int .i64 a29.1.start), w20]), w22])) rfl rfl (Light.quiet (opMove rfl rfl)) ?_
    refine ASL.q (v := (.agg [(.int .i64 a29.1.letters), (.int .i64 a29.1.states), (.int .i64 a29.1.start), w20])) rfl rfl (Light.quiet (opExtract rfl rfl rfl)) ?_
    refine ASL.q (v := w22) rfl rfl (Light.quiet (opExtract rfl rfl rfl)) ?_
    have hS := hNil (s := 4) (f := TEdge.av) hS
    refine ASL.x rfl rfl (hNewZ hS [(.int .i64 0), (.int .i64 0), (.int .i64 0), .nil] rfl zeroA_29 ⟨.inl rfl, .inl rfl, .inl rfl, .inl rfl, trivial⟩ ?_); rintro b7 G25 hK hS
    refine ASL.n rfl rfl (hPutA hS (j := 0) rfl rfl sizeA_29 rfl rfl rfl rfl (allC rfl (allC rfl (allC rfl (allC (hS.one (k := 2) rfl) rfl)))) (nlt rfl) ?_); rintro G28 hS
    refine ASL.q (v := w22) rfl rfl (Light.quiet (opAssign rfl rfl)) ?_
    refine ASL.done ?_
    refine AWP.seq ?_
    refine AWP.seqR rfl ?_
    refine ASL.q (v := (.agg [(.int .i64 a29.1.letters), (.int .i64 a29.1.states), (.int .i64 a29.1.start), w20])) rfl rfl (Light.quiet (kAtA hS (j := 0) rfl rfl aggA_29 sizeA_29 rfl (nlt rfl) rfl)) ?_
    refine ASL.q (v := (.agg [(.int .i64 a22.1.letters), (.int .i64 a22.1.states), (.int .i64 a22.1.start), w5])) rfl rfl (Light.quiet (kAtA hS (j := 7) rfl rfl aggA_29 sizeA_29 rfl (nlt rfl) rfl)) ?_
    obtain ⟨a34, ha34, hF⟩ := bindE hF
    refine ASL.q (v := (.bool a34)) rfl rfl ((qCallR hS rfl rfl call_14 (laws_eqAuto_ok ha34) ⟨.aggL ⟨.same _, .same _, .same _, .row (k := 2) rfl, trivial⟩, .aggL ⟨.same _, .same _, .same _, .row (k := 8) rfl, trivial⟩, trivial⟩ (by constructor))) ?_
    refine ASL.q (v := (.bool (!a34))) rfl rfl (Light.quiet (opNot rfl rfl)) ?_
    obtain ⟨c36, hc36, hF⟩ := bndE hF
    refine ASL.q (v := (.bool c36)) rfl rfl ((Quiet.cast (Light.quiet (opMove rfl rfl)) (congrArg AV.bool hc36.symm))) ?_
    refine ASL.g (v := w22) (.bool c36) false rfl (wF _) rfl (fun hG => by have q0 := gN hG; subst q0; exact Light.quiet (opMove rfl rfl)) ?_
    refine ASL.g (v := w7) (.bool c36) false rfl (wF _) rfl (fun hG => by have q0 := gN hG; subst q0; exact Light.quiet (opMove rfl rfl)) ?_
    obtain ⟨a39, ha39, hF⟩ := bindE hF
    refine ASL.g (v := (.bool a39)) (.bool c36) false rfl (wF _) rfl (fun hG => by have q0 := gN hG; subst q0; exact (qCallR hS rfl rfl call_19 (laws_eqIntS_ok (whenE ha39)) ⟨.row (k := 3) rfl, .row (k := 9) rfl, trivial⟩ (by constructor))) ?_
    refine ASL.g (v := (.bool (!a39))) (.bool c36) false rfl (wF _) rfl (fun hG => by have q0 := gN hG; subst q0; exact Light.quiet (opNot rfl rfl)) ?_
    refine ASL.q (v := (.bool (c36 || (!a39)))) rfl rfl (Light.quiet (opPick (b := c36) rfl rfl (by cases c36 <;> rfl))) ?_
    refine ASL.done ?_
    refine AWP.ifB hF rfl (fun hc29 hF => ?_) (fun hc29 hF => ?_)
    · skip
      refine AWP.seqR rfl ?_
      refine ASL.q (v := (.bool false)) rfl rfl (Light.quiet (opAssign rfl rfl)) ?_
      refine ASL.done ?_
      refine AWP.ret ?_
      refine QThen.rt ?_
      obtain rfl := someE hF
      exact QRet.sole (v := (.bool false)) ⟨rfl, trivial⟩ rfl
    · skip
      refine AWP.skip ?_
      refine QThen.nrm ?_
      refine AWP.seq ?_
      refine AWP.seqD [(0, false), (1, false), (2, true), (3, false), (4, false)] mixed (by kernel_rfl) rfl ?_
      refine ARL.q (v := (.agg [(.int .i64 a26.letters), (.int .i64 a26.states), (.int .i64 a26.start), w13])) rfl rfl (hS.aliveC (k := 4) rfl) (Light.quiet (kAtA hS (j := 4) rfl rfl aggA_29 sizeA_29 rfl (nlt rfl) rfl)) ?_
      refine ARL.q0 (v := (TAuto.av p0)) rfl rfl (Light.quiet (opLoadRA rfl aggA_24 sizeA_24 rfl (nlt rfl) rfl)) ?_
      obtain ⟨a44, ha44, hF⟩ := bindE hF
      refine ARL.x rfl rfl rfl (hCallSR hS rfl rfl call_12 (laws_toAuto_ok ha44) ⟨.same _, trivial⟩ (by rintro _ _ G ⟨w30, rfl, rfl⟩ hG; exact ⟨(Scal.agg (ScalC.cons (by constructor) (ScalC.cons (by constructor) (ScalC.cons (by constructor) (ScalC.cons (hG.scR (k := 0) rfl) ScalC.nil))))), ⟨(Scal.row (fun _ => by simp only [TEdge.av, cells, List.mem_cons, List.not_mem_nil, or_false]; rintro c hc; rcases hc with rfl | rfl | rfl | rfl <;> constructor)), trivial⟩⟩) ?_); rintro _ _ G32 ⟨w30, rfl, rfl⟩ hK hS; refine ⟨hK, ?_⟩
      obtain ⟨a45, ha45, hF⟩ := bindE hF
      refine ARL.q (v := (.bool a45)) rfl rfl (hS.aliveAll) ((qCallR hS rfl rfl call_14 (laws_eqAuto_ok ha45) ⟨.aggL ⟨.same _, .same _, .same _, .row (k := 7) rfl, trivial⟩, .aggL ⟨.same _, .same _, .same _, .row (k := 0) rfl, trivial⟩, trivial⟩ (by constructor))) ?_
      refine ARL.q0 (v := (.bool (!a45))) rfl rfl (Light.quiet (opNot rfl rfl)) ?_
      refine ARL.done ?_
      refine AWP.ifB hF rfl (fun hc33 hF => ?_) (fun hc33 hF => ?_)
      · skip
        refine AWP.seqR rfl ?_
        refine ASL.q (v := (.bool false)) rfl rfl (Light.quiet (opAssign rfl rfl)) ?_
        refine ASL.done ?_
        refine AWP.ret ?_
        refine QThen.rt ?_
        obtain rfl := someE hF
        exact QRet.sole (v := (.bool false)) ⟨rfl, trivial⟩ rfl
      · skip
        refine AWP.skip ?_
        refine QThen.nrm ?_
        refine AWP.seqR rfl ?_
        refine ASL.q (v := (.int .i64 1)) rfl rfl (Light.quiet (opAssign rfl rfl)) ?_
        refine ASL.done ?_
        refine AWP.seqR rfl ?_
        refine ASL.q (v := (.agg [(.int .i64 a26.letters), (.int .i64 a26.states), (.int .i64 a26.start), w13])) rfl rfl (Light.quiet (kAtA hS (j := 5) rfl rfl aggA_29 sizeA_29 rfl (nlt rfl) rfl)) ?_
        refine ASL.q (v := (.int .i64 1)) rfl rfl (Light.quiet (opMove rfl rfl)) ?_
        obtain ⟨a49, ha49, hF⟩ := bindE hF
        refine ASL.x rfl rfl (hCallS hS [7, 0, 1, 2, 3, 4, 5, 6, 8, 9, 10, 11] (F := [.row 4 w30 (List.map TEdge.av a44.edges), .cell b7 [(.int .i64 a29.1.letters), (.int .i64 a29.1.states), (.int .i64 a29.1.start), w20], .row 4 .nil (List.map TEdge.av ([])), .row 4 w20 (List.map TEdge.av a29.1.edges), .row 1 w22 (List.map (AV.int .i64) a29.2), .cell b6 [(.int .i64 a26.letters), (.int .i64 a26.states), (.int .i64 a26.start), w13], .row 4 .nil (List.map TEdge.av ([])), .cell b4 [(.int .i64 a22.1.letters), (.int .i64 a22.1.states), (.int .i64 a22.1.start), w5], .row 4 w5 (List.map TEdge.av a22.1.edges), .row 1 w7 (List.map (AV.int .i64) a22.2), .row 4 w2 (List.map TEdge.av a21.edges)]) rfl rfl rfl call_20 (laws_markAuto_ok ha49) rfl rfl ?_); rintro _ _ G34 ⟨rfl, rfl⟩ hS
        refine ASL.q (v := (.int .i64 a49.1)) rfl rfl (Light.quiet (opAssign rfl rfl)) ?_
        refine ASL.done ?_
        refine AWP.seq ?_
        refine AWP.seqR rfl ?_
        refine ASL.q (v := (.int .i64 a49.1)) rfl rfl (Light.quiet (opMove rfl rfl)) ?_
        refine ASL.q (v := (.bool (decide (a49.1 < 0)))) rfl rfl (Light.quiet (opInt rfl rfl rfl rfl)) ?_
        obtain ⟨c52, hc52, hF⟩ := bndE hF
        refine ASL.q (v := (.bool c52)) rfl rfl ((Quiet.cast (Light.quiet (opMove rfl rfl)) (congrArg AV.bool hc52.symm))) ?_
        refine ASL.g (v := (.agg [(.int .i64 a29.1.letters), (.int .i64 a29.1.states), (.int .i64 a29.1.start), w20])) (.bool c52) false rfl (wF _) rfl (fun hG => by have q0 := gN hG; subst q0; exact Light.quiet (kAtA hS (j := 2) rfl rfl aggA_29 sizeA_29 rfl (nlt rfl) rfl)) ?_
        refine ASL.g (v := (.agg [(.int .i64 a22.1.letters), (.int .i64 a22.1.states), (.int .i64 a22.1.start), w5])) (.bool c52) false rfl (wF _) rfl (fun hG => by have q0 := gN hG; subst q0; exact Light.quiet (kAtA hS (j := 8) rfl rfl aggA_29 sizeA_29 rfl (nlt rfl) rfl)) ?_
        obtain ⟨a55, ha55, hF⟩ := bindE hF
        refine ASL.g (v := (.bool a55)) (.bool c52) false rfl (wF _) rfl (fun hG => by have q0 := gN hG; subst q0; exact (qCallR hS rfl rfl call_14 (laws_eqAuto_ok (whenE ha55)) ⟨.aggL ⟨.same _, .same _, .same _, .row (k := 4) rfl, trivial⟩, .aggL ⟨.same _, .same _, .same _, .row (k := 9) rfl, trivial⟩, trivial⟩ (by constructor))) ?_
        refine ASL.g (v := (.bool (!a55))) (.bool c52) false rfl (wF _) rfl (fun hG => by have q0 := gN hG; subst q0; exact Light.quiet (opNot rfl rfl)) ?_
        refine ASL.q (v := (.bool (c52 || (!a55)))) rfl rfl (Light.quiet (opPick (b := c52) rfl rfl (by cases c52 <;> rfl))) ?_
        obtain ⟨c58, hc58, hF⟩ := bndE hF
        refine ASL.q (v := (.bool c58)) rfl rfl ((Quiet.cast (Light.quiet (opMove rfl rfl)) (congrArg AV.bool hc58.symm))) ?_
        refine ASL.g (v := w22) (.bool c58) false rfl (wF _) rfl (fun hG => by have q0 := gN hG; subst q0; exact Light.quiet (opMove rfl rfl)) ?_
        refine ASL.g (v := w7) (.bool c58) false rfl (wF _) rfl (fun hG => by have q0 := gN hG; subst q0; exact Light.quiet (opMove rfl rfl)) ?_
        obtain ⟨a61, ha61, hF⟩ := bindE hF
        refine ASL.g (v := (.bool a61)) (.bool c58) false rfl (wF _) rfl (fun hG => by have q0 := gN hG; subst q0; exact (qCallR hS rfl rfl call_19 (laws_eqIntS_ok (whenE ha61)) ⟨.row (k := 5) rfl, .row (k := 10) rfl, trivial⟩ (by constructor))) ?_
        refine ASL.g (v := (.bool (!a61))) (.bool c58) false rfl (wF _) rfl (fun hG => by have q0 := gN hG; subst q0; exact Light.quiet (opNot rfl rfl)) ?_
        refine ASL.q (v := (.bool (c58 || (!a61)))) rfl rfl (Light.quiet (opPick (b := c58) rfl rfl (by cases c58 <;> rfl))) ?_
        refine ASL.done ?_
        refine AWP.ifB hF rfl (fun hc35 hF => ?_) (fun hc35 hF => ?_)
        · skip
          refine AWP.seqR rfl ?_
          refine ASL.q (v := (.bool false)) rfl rfl (Light.quiet (opAssign rfl rfl)) ?_
          refine ASL.done ?_
          refine AWP.ret ?_
          refine QThen.rt ?_
          obtain rfl := someE hF
          exact QRet.sole (v := (.bool false)) ⟨rfl, trivial⟩ rfl
        · skip
          refine AWP.skip ?_
          refine QThen.nrm ?_
          refine AWP.seqR rfl ?_
          refine ASL.q (v := (.int .i64 1)) rfl rfl (Light.quiet (opAssign rfl rfl)) ?_
          refine ASL.done ?_
          refine AWP.seqR rfl ?_
          refine ASL.q (v := (.agg [(.int .i64 a29.1.letters), (.int .i64 a29.1.states), (.int .i64 a29.1.start), w20])) rfl rfl (Light.quiet (kAtA hS (j := 2) rfl rfl aggA_29 sizeA_29 rfl (nlt rfl) rfl)) ?_
          refine ASL.q (v := (.int .i64 1)) rfl rfl (Light.quiet (opMove rfl rfl)) ?_
          obtain ⟨a66, ha66, hF⟩ := bindE hF
          refine ASL.x rfl rfl (hCallS hS [4, 0, 1, 2, 3, 5, 6, 7, 8, 9, 10, 11] (F := [.row 4 w13 (List.map TEdge.av a49.2.edges), .row 4 w30 (List.map TEdge.av a44.edges), .cell b7 [(.int .i64 a29.1.letters), (.int .i64 a29.1.states), (.int .i64 a29.1.start), w20], .row 4 .nil (List.map TEdge.av ([])), .row 1 w22 (List.map (AV.int .i64) a29.2), .cell b6 [(.int .i64 a26.letters), (.int .i64 a26.states), (.int .i64 a26.start), w13], .row 4 .nil (List.map TEdge.av ([])), .cell b4 [(.int .i64 a22.1.letters), (.int .i64 a22.1.states), (.int .i64 a22.1.start), w5], .row 4 w5 (List.map TEdge.av a22.1.edges), .row 1 w7 (List.map (AV.int .i64) a22.2), .row 4 w2 (List.map TEdge.av a21.edges)]) rfl rfl rfl call_20 (laws_markAuto_ok ha66) rfl rfl ?_); rintro _ _ G36 ⟨rfl, rfl⟩ hS
          refine ASL.q (v := (.int .i64 a66.1)) rfl rfl (Light.quiet (opAssign rfl rfl)) ?_
          refine ASL.done ?_
          refine AWP.seqR rfl ?_
          refine ASL.q (v := w22) rfl rfl (Light.quiet (opMove rfl rfl)) ?_
          refine ASL.q (v := (.int .i64 a66.1)) rfl rfl (Light.quiet (opMove rfl rfl)) ?_
          obtain ⟨a69, ha69, hF⟩ := bindE hF
          refine ASL.x rfl rfl (hCallS hS [5, 0, 1, 2, 3, 4, 6, 7, 8, 9, 10, 11] (F := [.row 4 w20 (List.map TEdge.av a66.2.edges), .row 4 w13 (List.map TEdge.av a49.2.edges), .row 4 w30 (List.map TEdge.av a44.edges), .cell b7 [(.int .i64 a29.1.letters), (.int .i64 a29.1.states), (.int .i64 a29.1.start), w20], .row 4 .nil (List.map TEdge.av ([])), .cell b6 [(.int .i64 a26.letters), (.int .i64 a26.states), (.int .i64 a26.start), w13], .row 4 .nil (List.map TEdge.av ([])), .cell b4 [(.int .i64 a22.1.letters), (.int .i64 a22.1.states), (.int .i64 a22.1.start), w5], .row 4 w5 (List.map TEdge.av a22.1.edges), .row 1 w7 (List.map (AV.int .i64) a22.2), .row 4 w2 (List.map TEdge.av a21.edges)]) rfl rfl rfl call_21 (laws_markIntS_ok ha69) rfl rfl ?_); rintro _ _ G37 ⟨rfl, rfl⟩ hS
          refine ASL.q (v := (.int .i64 a69.1)) rfl rfl (Light.quiet (opAssign rfl rfl)) ?_
          refine ASL.done ?_
          refine AWP.seqR rfl ?_
          refine ASL.q (v := (.int .i64 1)) rfl rfl (Light.quiet (opAssign rfl rfl)) ?_
          refine ASL.done ?_
          refine AWP.seqR rfl ?_
          refine ASL.q (v := (.agg [(.int .i64 a29.1.letters), (.int .i64 a29.1.states), (.int .i64 a29.1.start), w20])) rfl rfl (Light.quiet (kAtA hS (j := 4) rfl rfl aggA_29 sizeA_29 rfl (nlt rfl) rfl)) ?_
          refine ASL.q (v := (.int .i64 1)) rfl rfl (Light.quiet (opMove rfl rfl)) ?_
          obtain ⟨a72, ha72, hF⟩ := bindE hF
          refine ASL.q (v := (.int .i64 a72)) rfl rfl ((qCallR hS rfl rfl call_31 (laws_heldAuto_ok ha72) ⟨.aggL ⟨.same _, .same _, .same _, .row (k := 1) rfl, trivial⟩, .same _, trivial⟩ (by constructor))) ?_
          refine ASL.q (v := (.int .i64 a72)) rfl rfl (Light.quiet (opAssign rfl rfl)) ?_
          refine ASL.done ?_
          refine AWP.seq ?_
          refine AWP.seqR rfl ?_
          refine ASL.q (v := (.int .i64 a72)) rfl rfl (Light.quiet (opMove rfl rfl)) ?_
          refine ASL.q (v := (.bool (decide (a72 < 0)))) rfl rfl (Light.quiet (opInt rfl rfl rfl rfl)) ?_
          refine ASL.done ?_
          refine AWP.ifP hF rfl (fun hc38 hF => ?_) (fun hc38 hF => ?_)
          · skip
            refine AWP.seqR rfl ?_
            refine ASL.q (v := (.bool false)) rfl rfl (Light.quiet (opAssign rfl rfl)) ?_
            refine ASL.done ?_
            refine AWP.ret ?_
            refine QThen.rt ?_
            obtain rfl := someE hF
            exact QRet.sole (v := (.bool false)) ⟨rfl, trivial⟩ rfl
          · skip
            refine AWP.skip ?_
            refine QThen.nrm ?_
            refine AWP.seqR rfl ?_
            refine ASL.q (v := w22) rfl rfl (Light.quiet (opMove rfl rfl)) ?_
            refine ASL.q (v := (.int .i64 a72)) rfl rfl (Light.quiet (opMove rfl rfl)) ?_
            obtain ⟨a77, ha77, hF⟩ := bindE hF
            refine ASL.q (v := (.int .i64 a77)) rfl rfl ((qCallR hS rfl rfl call_22 (laws_heldIntS_ok ha77) ⟨.row (k := 0) rfl, .same _, trivial⟩ (by constructor))) ?_
            refine ASL.q (v := (.int .i64 a77)) rfl rfl (Light.quiet (opAssign rfl rfl)) ?_
            refine ASL.done ?_
            refine AWP.seq ?_
            refine AWP.seqR rfl ?_
            refine ASL.q (v := (.int .i64 a77)) rfl rfl (Light.quiet (opMove rfl rfl)) ?_
            refine ASL.q (v := (.bool (decide (a77 < 0)))) rfl rfl (Light.quiet (opInt rfl rfl rfl rfl)) ?_
            refine ASL.done ?_
            refine AWP.ifP hF rfl (fun hc39 hF => ?_) (fun hc39 hF => ?_)
            · skip
              refine AWP.seqR rfl ?_
              refine ASL.q (v := (.bool false)) rfl rfl (Light.quiet (opAssign rfl rfl)) ?_
              refine ASL.done ?_
              refine AWP.ret ?_
              refine QThen.rt ?_
              obtain rfl := someE hF
              exact QRet.sole (v := (.bool false)) ⟨rfl, trivial⟩ rfl
            · skip
              refine AWP.skip ?_
              refine QThen.nrm ?_
              refine AWP.seq ?_
              refine AWP.seqR rfl ?_
              refine ASL.q (v := (.int .i64 a77)) rfl rfl (Light.quiet (opMove rfl rfl)) ?_
              refine ASL.q (v := (.int .i64 a69.1)) rfl rfl (Light.quiet (opMove rfl rfl)) ?_
              refine ASL.q (v := (.bool (decide (a77 ≠ a69.1)))) rfl rfl (Light.quiet (opInt rfl rfl rfl rfl)) ?_
              refine ASL.done ?_
              refine AWP.ifP hF rfl (fun hc40 hF => ?_) (fun hc40 hF => ?_)
              · skip
                refine AWP.seqR rfl ?_
                refine ASL.q (v := (.bool false)) rfl rfl (Light.quiet (opAssign rfl rfl)) ?_
                refine ASL.done ?_
                refine AWP.ret ?_
                refine QThen.rt ?_
                obtain rfl := someE hF
                exact QRet.sole (v := (.bool false)) ⟨rfl, trivial⟩ rfl
              · skip
                refine AWP.skip ?_
                refine QThen.nrm ?_
                refine AWP.seqR rfl ?_
                refine ASL.q (v := (TAuto.av p0)) rfl rfl (Light.quiet (opLoadRA rfl aggA_24 sizeA_24 rfl (nlt rfl) rfl)) ?_
                obtain ⟨a85, ha85, hF⟩ := bindE hF
                refine ASL.x rfl rfl (hCallSR hS rfl rfl call_12 (laws_toAuto_ok ha85) ⟨.same _, trivial⟩ (by rintro _ _ G ⟨w41, rfl, rfl⟩ hG; exact ⟨(Scal.agg (ScalC.cons (by constructor) (ScalC.cons (by constructor) (ScalC.cons (by constructor) (ScalC.cons (hG.scR (k := 0) rfl) ScalC.nil))))), ⟨(Scal.row (fun _ => by simp only [TEdge.av, cells, List.mem_cons, List.not_mem_nil, or_false]; rintro c hc; rcases hc with rfl | rfl | rfl | rfl <;> constructor)), trivial⟩⟩) ?_); rintro _ _ G43 ⟨w41, rfl, rfl⟩ hK hS
                obtain ⟨a86, ha86, hF⟩ := bindE hF
                refine ASL.x rfl rfl (hCallSR hS rfl rfl call_30 (impl_AutoPrune_ok ha86) ⟨.aggL ⟨.same _, .same _, .same _, .row (k := 0) rfl, trivial⟩, trivial⟩ (by rintro _ _ G ⟨w44, w46, rfl, rfl⟩ hG; exact ⟨(Scal.tup (ScalC.cons (Scal.agg (ScalC.cons (by constructor) (ScalC.cons (by constructor) (ScalC.cons (by constructor) (ScalC.cons (hG.scR (k := 0) rfl) ScalC.nil))))) (ScalC.cons (hG.scR (k := 1) rfl) ScalC.nil))), ⟨(Scal.row (fun _ => by simp only [TEdge.av, cells, List.mem_cons, List.not_mem_nil, or_false]; rintro c hc; rcases hc with rfl | rfl | rfl | rfl <;> constructor)), (Scal.ints _ _), trivial⟩⟩) ?_); rintro _ _ G48 ⟨w44, w46, rfl, rfl⟩ hK hS
                refine ASL.q (v := (.tup [(.agg [(.int .i64 a86.1.letters), (.int .i64 a86.1.states), (.int .i64 a86.1.start), w44]), w46])) rfl rfl (Light.quiet (opMove rfl rfl)) ?_
                refine ASL.q (v := (.agg [(.int .i64 a86.1.letters), (.int .i64 a86.1.states), (.int .i64 a86.1.start), w44])) rfl rfl (Light.quiet (opExtract rfl rfl rfl)) ?_
                refine ASL.q (v := w46) rfl rfl (Light.quiet (opExtract rfl rfl rfl)) ?_
                refine ASL.x rfl rfl (hNewZ hS [(.int .i64 0), (.int .i64 0), (.int .i64 0), (.list 4 (List.map TEdge.av []))] rfl zeroA_29 ⟨.inl rfl, .inl rfl, .inl rfl, .inr ⟨_, rfl, rfl⟩, trivial⟩ ?_); rintro b12 G49 hK hS
                refine ASL.n rfl rfl (hPutA hS (j := 0) rfl rfl sizeA_29 rfl rfl rfl rfl (allC rfl (allC rfl (allC rfl (allC (hS.one (k := 1) rfl) rfl)))) (nlt rfl) ?_); rintro G51 hS
                refine ASL.q (v := w46) rfl rfl (Light.quiet (opAssign rfl rfl)) ?_
                refine ASL.done ?_
                refine AWP.seq ?_
                refine AWP.seqR rfl ?_
                refine ASL.q (v := (.agg [(.int .i64 a86.1.letters), (.int .i64 a86.1.states), (.int .i64 a86.1.start), w44])) rfl rfl (Light.quiet (kAtA hS (j := 0) rfl rfl aggA_29 sizeA_29 rfl (nlt rfl) rfl)) ?_
                refine ASL.q (v := (.agg [(.int .i64 a22.1.letters), (.int .i64 a22.1.states), (.int .i64 a22.1.start), w5])) rfl rfl (Light.quiet (kAtA hS (j := 12) rfl rfl aggA_29 sizeA_29 rfl (nlt rfl) rfl)) ?_
                obtain ⟨a91, ha91, hF⟩ := bindE hF
                refine ASL.q (v := (.bool a91)) rfl rfl ((qCallR hS rfl rfl call_14 (laws_eqAuto_ok ha91) ⟨.aggL ⟨.same _, .same _, .same _, .row (k := 1) rfl, trivial⟩, .aggL ⟨.same _, .same _, .same _, .row (k := 13) rfl, trivial⟩, trivial⟩ (by constructor))) ?_
                refine ASL.q (v := (.bool (!a91))) rfl rfl (Light.quiet (opNot rfl rfl)) ?_
                obtain ⟨c93, hc93, hF⟩ := bndE hF
                refine ASL.q (v := (.bool c93)) rfl rfl ((Quiet.cast (Light.quiet (opMove rfl rfl)) (congrArg AV.bool hc93.symm))) ?_
                refine ASL.g (v := w46) (.bool c93) false rfl (wF _) rfl (fun hG => by have q0 := gN hG; subst q0; exact Light.quiet (opMove rfl rfl)) ?_
                refine ASL.g (v := w7) (.bool c93) false rfl (wF _) rfl (fun hG => by have q0 := gN hG; subst q0; exact Light.quiet (opMove rfl rfl)) ?_
                obtain ⟨a96, ha96, hF⟩ := bindE hF
                refine ASL.g (v := (.bool a96)) (.bool c93) false rfl (wF _) rfl (fun hG => by have q0 := gN hG; subst q0; exact (qCallR hS rfl rfl call_19 (laws_eqIntS_ok (whenE ha96)) ⟨.row (k := 2) rfl, .row (k := 14) rfl, trivial⟩ (by constructor))) ?_
                refine ASL.g (v := (.bool (!a96))) (.bool c93) false rfl (wF _) rfl (fun hG => by have q0 := gN hG; subst q0; exact Light.quiet (opNot rfl rfl)) ?_
                refine ASL.q (v := (.bool (c93 || (!a96)))) rfl rfl (Light.quiet (opPick (b := c93) rfl rfl (by cases c93 <;> rfl))) ?_
                refine ASL.done ?_
                refine AWP.ifB hF rfl (fun hc52 hF => ?_) (fun hc52 hF => ?_)
                · skip
                  refine AWP.seqR rfl ?_
                  refine ASL.q (v := (.bool false)) rfl rfl (Light.quiet (opAssign rfl rfl)) ?_
                  refine ASL.done ?_
                  refine AWP.ret ?_
                  refine QThen.rt ?_
                  obtain rfl := someE hF
                  exact QRet.sole (v := (.bool false)) ⟨rfl, trivial⟩ rfl
                · skip
                  refine AWP.skip ?_
                  refine QThen.nrm ?_
                  refine AWP.seqR rfl ?_
                  refine ASL.q (v := (.int .i64 1)) rfl rfl (Light.quiet (opAssign rfl rfl)) ?_
                  refine ASL.done ?_
                  refine AWP.seqR rfl ?_
                  refine ASL.q (v := (.agg [(.int .i64 a29.1.letters), (.int .i64 a29.1.states), (.int .i64 a29.1.start), w20])) rfl rfl (Light.quiet (kAtA hS (j := 8) rfl rfl aggA_29 sizeA_29 rfl (nlt rfl) rfl)) ?_
                  refine ASL.q (v := (.int .i64 1)) rfl rfl (Light.quiet (opMove rfl rfl)) ?_
                  obtain ⟨a101, ha101, hF⟩ := bindE hF
                  refine ASL.q (v := (.int .i64 a101)) rfl rfl ((qCallR hS rfl rfl call_31 (laws_heldAuto_ok ha101) ⟨.aggL ⟨.same _, .same _, .same _, .row (k := 5) rfl, trivial⟩, .same _, trivial⟩ (by constructor))) ?_
                  refine ASL.q (v := (.int .i64 a101)) rfl rfl (Light.quiet (opAssign rfl rfl)) ?_
                  refine ASL.done ?_
                  refine AWP.seq ?_
                  refine AWP.seqR rfl ?_
                  refine ASL.q (v := (.int .i64 a101)) rfl rfl (Light.quiet (opMove rfl rfl)) ?_
                  refine ASL.q (v := (.bool (decide (a101 < 0)))) rfl rfl (Light.quiet (opInt rfl rfl rfl rfl)) ?_
                  refine ASL.done ?_
                  refine AWP.ifP hF rfl (fun hc53 hF => ?_) (fun hc53 hF => ?_)
                  · skip
                    refine AWP.seqR rfl ?_
                    refine ASL.q (v := (.bool false)) rfl rfl (Light.quiet (opAssign rfl rfl)) ?_
                    refine ASL.done ?_
                    refine AWP.ret ?_
                    refine QThen.rt ?_
                    obtain rfl := someE hF
                    exact QRet.sole (v := (.bool false)) ⟨rfl, trivial⟩ rfl
                  · skip
                    refine AWP.skip ?_
                    refine QThen.nrm ?_
                    refine AWP.seqR rfl ?_
                    refine ASL.q (v := w22) rfl rfl (Light.quiet (opMove rfl rfl)) ?_
                    refine ASL.q (v := (.int .i64 a101)) rfl rfl (Light.quiet (opMove rfl rfl)) ?_
                    obtain ⟨a106, ha106, hF⟩ := bindE hF
                    refine ASL.q (v := (.int .i64 a106)) rfl rfl ((qCallR hS rfl rfl call_22 (laws_heldIntS_ok ha106) ⟨.row (k := 4) rfl, .same _, trivial⟩ (by constructor))) ?_
                    refine ASL.q (v := (.int .i64 a106)) rfl rfl (Light.quiet (opAssign rfl rfl)) ?_
                    refine ASL.done ?_
                    refine AWP.seq ?_
                    refine AWP.seqR rfl ?_
                    refine ASL.q (v := (.int .i64 a106)) rfl rfl (Light.quiet (opMove rfl rfl)) ?_
                    refine ASL.q (v := (.bool (decide (a106 < 0)))) rfl rfl (Light.quiet (opInt rfl rfl rfl rfl)) ?_
                    refine ASL.done ?_
                    refine AWP.ifP hF rfl (fun hc54 hF => ?_) (fun hc54 hF => ?_)
                    · skip
                      refine AWP.seqR rfl ?_
                      refine ASL.q (v := (.bool false)) rfl rfl (Light.quiet (opAssign rfl rfl)) ?_
                      refine ASL.done ?_
                      refine AWP.ret ?_
                      refine QThen.rt ?_
                      obtain rfl := someE hF
                      exact QRet.sole (v := (.bool false)) ⟨rfl, trivial⟩ rfl
                    · skip
                      refine AWP.skip ?_
                      refine QThen.nrm ?_
                      refine AWP.seq ?_
                      refine AWP.seqR rfl ?_
                      refine ASL.q (v := (.int .i64 a106)) rfl rfl (Light.quiet (opMove rfl rfl)) ?_
                      refine ASL.q (v := (.int .i64 a69.1)) rfl rfl (Light.quiet (opMove rfl rfl)) ?_
                      refine ASL.q (v := (.bool (decide (a106 ≠ a69.1)))) rfl rfl (Light.quiet (opInt rfl rfl rfl rfl)) ?_
                      refine ASL.done ?_
                      refine AWP.ifP hF rfl (fun hc55 hF => ?_) (fun hc55 hF => ?_)
                      · skip
                        refine AWP.seqR rfl ?_
                        refine ASL.q (v := (.bool false)) rfl rfl (Light.quiet (opAssign rfl rfl)) ?_
                        refine ASL.done ?_
                        refine AWP.ret ?_
                        refine QThen.rt ?_
                        obtain rfl := someE hF
                        exact QRet.sole (v := (.bool false)) ⟨rfl, trivial⟩ rfl
                      · skip
                        refine AWP.skip ?_
                        refine QThen.nrm ?_
                        refine AWP.seqR rfl ?_
                        refine ASL.q (v := (.bool true)) rfl rfl (Light.quiet (opAssign rfl rfl)) ?_
                        refine ASL.done ?_
                        refine AWP.ret ?_
                        obtain rfl := someE hF
                        exact QRet.sole (v := (.bool true)) ⟨rfl, trivial⟩ rfl

end Go.Proofs.Ythdclobnmicdaaa
