/- Each of these functions of the program comes to just what its plain function says: FnExactReNfa. -/
import Derived.Test.YthdoebgikbfndaaKReNfap1
namespace Go.Proofs.Ythdoebgikbfndaa
open Go Go.RowKit E
set_option linter.unusedVariables false
set_option maxRecDepth 10000 in
theorem impl_ReNfa_ok {p0 : (List TNode)} {p1 : Int} {r : (TNfa × Bool)} (hF : impl_ReNfa p0 p1 = some r) : HS Try.prog 16 [(.list 3 (List.map TNode.av p0)), (.int .i64 p1)] [] fun v L' => ∃ o0_Auto_Edges : AV, v = .tup [(.agg [(.int .i64 r.1.auto.letters), (.int .i64 r.1.auto.states), (.int .i64 r.1.auto.start), o0_Auto_Edges, (.int .i64 r.1.final)]), (.bool r.2)] ∧ L' = [.row 4 o0_Auto_Edges (List.map TEdge.av r.1.auto.edges)] := by
  intro H S hS
  refine HC.enter Try.func16 rfl Try.ntmps16 (by simp) ?_
  simp only [List.cons_append, List.nil_append] at hS
  unfold impl_ReNfa at hF
  refine AWP.seqR rfl ?_
  have hS := hNil (s := 4) (f := TEdge.av) hS
  refine ASL.x rfl rfl (hNewZ hS [(.int .i64 0), (.int .i64 0), (.int .i64 0), .nil, (.int .i64 0)] rfl zeroA_40 ⟨.inl rfl, .inl rfl, .inl rfl, .inl rfl, .inl rfl, trivial⟩ ?_); rintro b4 G1 hK hS
  refine ASL.q (v := (.bool false)) rfl rfl (Light.quiet (opAssign rfl rfl)) ?_
  refine ASL.done ?_
  refine AWP.seq ?_
  refine AWP.seqR rfl ?_
  refine ASL.q (v := (.int .i64 p1)) rfl rfl (Light.quiet (opMove rfl rfl)) ?_
  refine ASL.q (v := (.bool (impl_isLetters p1))) rfl rfl ((qCall rfl rfl call_54 (impl_isLetters_ok p1) rfl)) ?_
  refine ASL.q (v := (.bool (!(impl_isLetters p1)))) rfl rfl (Light.quiet (opNot rfl rfl)) ?_
  obtain ⟨c12, hc12, hF⟩ := bndE hF
  refine ASL.q (v := (.bool c12)) rfl rfl ((Quiet.cast (Light.quiet (opMove rfl rfl)) (congrArg AV.bool hc12.symm))) ?_
  refine ASL.g (v := (.list 3 (List.map TNode.av p0))) (.bool c12) false rfl (wF _) rfl (fun hG => by have q0 := gN hG; subst q0; exact Light.quiet (opMove rfl rfl)) ?_
  obtain ⟨a14, ha14, hF⟩ := bindE hF
  refine ASL.g (v := (.bool a14)) (.bool c12) false rfl (wF _) rfl (fun hG => by have q0 := gN hG; subst q0; exact (qCall rfl rfl call_55 (impl_ReOk_ok (whenE ha14)) rfl)) ?_
  refine ASL.g (v := (.bool (!a14))) (.bool c12) false rfl (wF _) rfl (fun hG => by have q0 := gN hG; subst q0; exact Light.quiet (opNot rfl rfl)) ?_
  refine ASL.q (v := (.bool (c12 || (!a14)))) rfl rfl (Light.quiet (opPick (b := c12) rfl rfl (by cases c12 <;> rfl))) ?_
  refine ASL.done ?_
  refine AWP.ifB hF rfl (fun hc4 hF => ?_) (fun hc4 hF => ?_)
  · skip
    refine AWP.seqR rfl ?_
    refine ASL.q (v := (.agg [(.int .i64 0), (.int .i64 0), (.int .i64 0), .nil, (.int .i64 0)])) rfl rfl (Light.quiet (opBuildZ (zs := [(.int .i64 0), (.int .i64 0), (.int .i64 0), .nil, (.int .i64 0)]) rfl plan_40 zeroA_40 ⟨.inl rfl, .inl rfl, .inl rfl, .inl rfl, .inl rfl, trivial⟩ rfl)) ?_
    have hS := hNil (s := 4) (f := TEdge.av) hS
    refine ASL.n rfl rfl (hPutA hS (j := 1) rfl rfl sizeA_40 rfl rfl rfl rfl (allC rfl (allC rfl (allC rfl (allC (hS.one (k := 0) rfl) (allC rfl rfl))))) (nlt rfl) ?_); rintro G5 hS
    refine ASL.q (v := (.bool false)) rfl rfl (Light.quiet (opAssign rfl rfl)) ?_
    refine ASL.done ?_
    refine AWP.ret ?_
    refine QThen.rt ?_
    obtain rfl := someE hF
    exact QRet.many (vs := [(.agg [(.int .i64 0), (.int .i64 0), (.int .i64 0), .nil, (.int .i64 0)]), (.bool false)]) ⟨resOne.at hS (k := 1) rfl rfl aggA_40 sizeA_40, rfl, trivial⟩ (by simp) ⟨_, ⟨.nil, rfl, rfl⟩, hS.pick [0, 3] rfl rfl⟩
  · skip
    refine AWP.skip ?_
    refine QThen.nrm ?_
    refine AWP.seqM (fun e H => ∃ y7 : Int, ∃ y8 : Int, ∃ y9 : Int, ∃ y10 : (List TEdge), ∃ y13 : Int, ∃ w11 : AV, E.Told e [(0, (.list 3 (List.map TNode.av p0))), (1, (.int .i64 p1)), (4, (.ptr b4 0))] ∧ E.Sep H [.row 4 w11 (List.map TEdge.av y10), .cell b4 [(.int .i64 y7), (.int .i64 y8), (.int .i64 y9), w11, (.int .i64 y13)], .snap S] ∧ impl_ReNfa.k0 p0 p1 y7 y8 y9 y10 y13 = some r) ?_ ?_
    · rintro e0 G25 ⟨y7, y8, y9, y10, y13, w11, hT, hS, hF⟩; refine AWP.only _ hT ?_; unfold impl_ReNfa.k0 at hF
      refine AWP.seqR rfl ?_
      refine ASL.q (v := (.list 3 (List.map TNode.av p0))) rfl rfl (Light.quiet (opMove rfl rfl)) ?_
      refine ASL.q (v := (.int .i64 p1)) rfl rfl (Light.quiet (opMove rfl rfl)) ?_
      obtain ⟨a37, ha37, hF⟩ := bindE hF
      refine ASL.x rfl rfl (hCallSR hS rfl rfl call_56 (impl_nfaOf_ok ha37) ⟨.same _, .same _, trivial⟩ (by rintro _ _ G ⟨w14, rfl, rfl⟩ hG; exact ⟨(Scal.agg (ScalC.cons (by constructor) (ScalC.cons (by constructor) (ScalC.cons (by constructor) (ScalC.cons (hG.scR (k := 0) rfl) (ScalC.cons (by constructor) ScalC.nil)))))), ⟨(Scal.row (fun _ => by simp only [TEdge.av, cells, List.mem_cons, List.not_mem_nil, or_false]; rintro c hc; rcases hc with rfl | rfl | rfl | rfl <;> constructor)), trivial⟩⟩) ?_); rintro _ _ G16 ⟨w14, rfl, rfl⟩ hK hS
      have hS := hNil (s := 4) (f := TEdge.av) hS
      refine ASL.x rfl rfl (hNewZ hS [(.int .i64 0), (.int .i64 0), (.int .i64 0), .nil, (.int .i64 0)] rfl zeroA_40 ⟨.inl rfl, .inl rfl, .inl rfl, .inl rfl, .inl rfl, trivial⟩ ?_); rintro b8 G17 hK hS
      refine ASL.n rfl rfl (hPutA hS (j := 0) rfl rfl sizeA_40 rfl rfl rfl rfl (allC rfl (allC rfl (allC rfl (allC (hS.one (k := 2) rfl) (allC rfl rfl))))) (nlt rfl) ?_); rintro G20 hS
      refine ASL.done ?_
      refine AWP.seq ?_
      refine AWP.seqR rfl ?_
      refine ASL.q (v := (.agg [(.int .i64 a37.auto.letters), (.int .i64 a37.auto.states), (.int .i64 a37.auto.start), w14, (.int .i64 a37.final)])) rfl rfl (Light.quiet (kAtA hS (j := 0) rfl rfl aggA_40 sizeA_40 rfl (nlt rfl) rfl)) ?_
      obtain ⟨a39, ha39, hF⟩ := bindE hF
      refine ASL.q (v := (.bool a39)) rfl rfl ((qCallR hS rfl rfl call_25 (impl_NfaOk_ok ha39) ⟨.aggL ⟨.same _, .same _, .same _, .row (k := 2) rfl, .same _, trivial⟩, trivial⟩ (by constructor))) ?_
      refine ASL.q (v := (.bool (!a39))) rfl rfl (Light.quiet (opNot rfl rfl)) ?_
      refine ASL.done ?_
      refine AWP.ifB hF rfl (fun hc21 hF => ?_) (fun hc21 hF => ?_)
      · skip
        refine AWP.seqR rfl ?_
        refine ASL.q (v := (.agg [(.int .i64 0), (.int .i64 0), (.int .i64 0), .nil, (.int .i64 0)])) rfl rfl (Light.quiet (opBuildZ (zs := [(.int .i64 0), (.int .i64 0), (.int .i64 0), .nil, (.int .i64 0)]) rfl plan_40 zeroA_40 ⟨.inl rfl, .inl rfl, .inl rfl, .inl rfl, .inl rfl, trivial⟩ rfl)) ?_
        have hS := hNil (s := 4) (f := TEdge.av) hS
        refine ASL.n rfl rfl (hPutA hS (j := 5) rfl rfl sizeA_40 rfl rfl rfl rfl (allC rfl (allC rfl (allC rfl (allC (hS.one (k := 0) rfl) (allC rfl rfl))))) (nlt rfl) ?_); rintro G22 hS
        refine ASL.q (v := (.bool false)) rfl rfl (Light.quiet (opAssign rfl rfl)) ?_
        refine ASL.done ?_
        refine AWP.ret ?_
        refine QThen.rt ?_
        obtain rfl := someE hF
        exact QRet.many (vs := [(.agg [(.int .i64 0), (.int .i64 0), (.int .i64 0), .nil, (.int .i64 0)]), (.bool false)]) ⟨resOne.at hS (k := 5) rfl rfl aggA_40 sizeA_40, rfl, trivial⟩ (by simp) ⟨_, ⟨.nil, rfl, rfl⟩, hS.pick [0, 6] rfl rfl⟩
      · skip
        refine AWP.skip ?_
        refine QThen.nrm ?_
        refine AWP.seqR rfl ?_
        refine ASL.q (v := (.agg [(.int .i64 a37.auto.letters), (.int .i64 a37.auto.states), (.int .i64 a37.auto.start), w14, (.int .i64 a37.final)])) rfl rfl (Light.quiet (kAtA hS (j := 0) rfl rfl aggA_40 sizeA_40 rfl (nlt rfl) rfl)) ?_
        refine ASL.n rfl rfl (hPutA hS (j := 4) rfl rfl sizeA_40 rfl rfl rfl rfl (allC rfl (allC rfl (allC rfl (allC (hS.one (k := 2) rfl) (allC rfl rfl))))) (nlt rfl) ?_); rintro G24 hS
        refine ASL.q (v := (.bool true)) rfl rfl (Light.quiet (opAssign rfl rfl)) ?_
        refine ASL.done ?_
        refine AWP.ret ?_
        obtain rfl := someE hF
        exact QRet.many (vs := [(.agg [(.int .i64 a37.auto.letters), (.int .i64 a37.auto.states), (.int .i64 a37.auto.start), w14, (.int .i64 a37.final)]), (.bool true)]) ⟨resOne.at hS (k := 4) rfl rfl aggA_40 sizeA_40, rfl, trivial⟩ (by simp) ⟨_, ⟨w14, rfl, rfl⟩, hS.pick [2, 5] rfl rfl⟩
    · skip
      refine AWP.seqR rfl ?_
      refine ASL.q (v := (.list 3 (List.map TNode.av p0))) rfl rfl (Light.quiet (opMove rfl rfl)) ?_
      refine ASL.q (v := (.int .i64 (p0.length : Int))) rfl rfl (Light.quiet (opLenMap (f := TNode.av) rfl rfl rfl lenT_29 rfl)) ?_
      refine ASL.q (v := (.int .i64 0)) rfl rfl (Light.quiet (opMove rfl rfl)) ?_
      refine ASL.done ?_
      refine AWP.block ?_
      obtain ⟨o36, hL35, hR37⟩ := bindE hF
      refine AWP.loopF (ω := AV) hL35 (fun s w => [(0, (.list 3 (List.map TNode.av p0))), (1, (.int .i64 p1)), (4, (.ptr b4 0)), (18, (.list 3 (List.map TNode.av p0))), (19, (.int .i64 (p0.length : Int))), (20, (.int .i64 s.2.2.2.2.2))]) (fun s w => [.row 4 w (List.map TEdge.av s.2.2.2.1), .cell b4 [(.int .i64 s.1), (.int .i64 s.2.1), (.int .i64 s.2.2.1), w, (.int .i64 s.2.2.2.2.1)], .snap S]) .nil ⟨rfl, rfl, rfl, rfl, rfl, rfl, trivial⟩ (hS.pick [1, 0, 2] rfl rfl) ?_
      rintro ⟨y26, y27, y28, y29, y32, x20_l0⟩ w30 G38 hS x33 hF hx34
      try dsimp only at hS ⊢
      have hF : impl_ReNfa.b0 p0 p1 y26 y27 y28 y29 y32 x20_l0 = some x33 := hF; unfold impl_ReNfa.b0 at hF
      refine AWP.seqR rfl ?_
      refine ASL.q (v := (.bool (decide (x20_l0 < ((p0.length : Int)))))) rfl rfl (Light.quiet (opInt rfl rfl rfl rfl)) ?_
      refine ASL.done ?_
      refine AWP.seq ?_
      refine AWP.ifP hF rfl (fun hc39 hF => ?_) (fun hc39 hF => ?_)
      · skip
        refine AWP.skip ?_
        refine QThen.nrm ?_
        refine AWP.seq ?_
        refine AWP.block ?_
        refine AWP.seqR rfl ?_
        obtain ⟨a22, ha22, hF⟩ := bindE hF
        refine ASL.q (v := (.rptr [(.int .i64 a22.kind), (.int .i64 a22.a), (.int .i64 a22.b)])) rfl rfl (Light.quiet (kIx (f := TNode.av) ha22 rfl rfl rfl elemA_29 sizeA_65 rfl)) ?_
        refine ASL.q (v := (TNode.av a22)) rfl rfl (Light.quiet (opLoadRA rfl aggA_65 sizeA_65 rfl (nlt rfl) rfl)) ?_
        refine ASL.x rfl rfl (hNewZ hS [(.int .i64 0), (.int .i64 0), (.int .i64 0)] rfl zeroA_65 ⟨.inl rfl, .inl rfl, .inl rfl, trivial⟩ ?_); rintro b7 G40 hK hS
        refine ASL.n rfl rfl (hPutA hS (j := 0) rfl rfl sizeA_65 rfl rfl rfl rfl rfl (nlt rfl) ?_); rintro G42 hS
        refine ASL.done ?_
        refine AWP.seqR rfl ?_
        refine ASL.q (v := (.ptr b7 0)) rfl rfl (Light.quiet (opFieldAddr rfl fieldA_65_0 rfl rfl)) ?_
        refine ASL.q (v := (.int .i64 a22.kind)) rfl rfl (Light.quiet (kAt hS (j := 0) rfl rfl aggA_3 rfl rfl)) ?_
        refine ASL.q (v := (.bool (decide (a22.kind = 3)))) rfl rfl (Light.quiet (opInt rfl rfl rfl rfl)) ?_
        obtain ⟨c27, hc27, hF⟩ := bndE hF
        refine ASL.q (v := (.bool c27)) rfl rfl ((Quiet.cast (Light.quiet (opMove rfl rfl)) (congrArg AV.bool hc27.symm))) ?_
        refine ASL.g (v := (.ptr b7 1)) (.bool c27) true rfl (wT _) rfl (fun hG => by have q0 := hG; subst q0; exact Light.quiet (opFieldAddr rfl fieldA_65_1 rfl rfl)) ?_
        refine ASL.g (v := (.int .i64 a22.a)) (.bool c27) true rfl (wT _) rfl (fun hG => by have q0 := hG; subst q0; exact Light.quiet (kAt hS (j := 0) rfl rfl aggA_3 rfl rfl)) ?_
        refine ASL.g (v := (.int .i64 p1)) (.bool c27) true rfl (wT _) rfl (fun hG => by have q0 := hG; subst q0; exact Light.quiet (opMove rfl rfl)) ?_
        refine ASL.g (v := (.bool (decide (a22.a ≥ p1)))) (.bool c27) true rfl (wT _) rfl (fun hG => by have q0 := hG; subst q0; exact Light.quiet (opInt rfl rfl rfl rfl)) ?_
        refine ASL.q (v := (.bool (c27 && (decide (a22.a ≥ p1))))) rfl rfl (Light.quiet (opPick (b := c27) rfl rfl (by cases c27 <;> rfl))) ?_
        refine ASL.done ?_
        refine AWP.ifB hF rfl (fun hc43 hF => ?_) (fun hc43 hF => ?_)
        · skip
          refine AWP.seqR rfl ?_
          refine ASL.q (v := (.agg [(.int .i64 0), (.int .i64 0), (.int .i64 0), .nil, (.int .i64 0)])) rfl rfl (Light.quiet (opBuildZ (zs := [(.int .i64 0), (.int .i64 0), (.int .i64 0), .nil, (.int .i64 0)]) rfl plan_40 zeroA_40 ⟨.inl rfl, .inl rfl, .inl rfl, .inl rfl, .inl rfl, trivial⟩ rfl)) ?_
          have hS := hNil (s := 4) (f := TEdge.av) hS
          refine ASL.n rfl rfl (hPutA hS (j := 3) rfl rfl sizeA_40 rfl rfl rfl rfl (allC rfl (allC rfl (allC rfl (allC (hS.one (k := 0) rfl) (allC rfl rfl))))) (nlt rfl) ?_); rintro G44 hS
          refine ASL.q (v := (.bool false)) rfl rfl (Light.quiet (opAssign rfl rfl)) ?_
          refine ASL.done ?_
          refine AWP.ret ?_
          refine QBlock.ret ?_
          refine QThen.rt ?_
          refine QThen.rt ?_
          refine QBlock.ret ?_
          refine QThen.rt ?_
          obtain rfl := (hx34 _ (someE hF).symm)
          have hF := hR37
          have hF := sumR hF
          obtain rfl := someE hF
          exact QRet.many (vs := [(.agg [(.int .i64 0), (.int .i64 0), (.int .i64 0), .nil, (.int .i64 0)]), (.bool false)]) ⟨resOne.at hS (k := 3) rfl rfl aggA_40 sizeA_40, rfl, trivial⟩ (by simp) ⟨_, ⟨.nil, rfl, rfl⟩, hS.pick [0, 4] rfl rfl⟩
        · skip
          refine AWP.skip ?_
          refine QBlock.nrm ?_
          refine QThen.nrm ?_
          refine AWP.lastR rfl ?_
          refine ASL.q (v := (.int .i64 (W (x20_l0 + 1)))) rfl rfl (Light.quiet (opInt rfl rfl rfl rfl)) ?_
          refine ASL.q (v := (.int .i64 (W (x20_l0 + 1)))) rfl rfl (Light.quiet (opMove rfl rfl)) ?_
          refine ASL.done ?_
          refine QThen.nrm ?_
          exact ⟨(y26, y27, y28, y29, y32, (W (x20_l0 + 1))), w30, (someE hF).symm, ⟨rfl, rfl, rfl, rfl, rfl, rfl, trivial⟩, (hS.pick [1, 2, 3] rfl rfl)⟩
      · skip
        refine AWP.exit ?_
        refine QThen.ext ?_
        refine QThen.ext ?_
        refine QBlock.hit ?_
        obtain rfl := (hx34 _ (someE hF).symm)
        have hF := hR37
        have hF := sumL hF
        refine QThen.nrm ?_
        exact ⟨y26, y27, y28, y29, y32, w30, ⟨rfl, rfl, rfl, trivial⟩, (hS.pick [0, 1, 2] rfl rfl), hF⟩

set_option maxRecDepth 10000 in
theorem laws_eqEdge_ok (p0 : TEdge) (p1 : TEdge) : PC Try.prog 128 [(TEdge.av p0), (TEdge.av p1)] fun v => v = (.bool (laws_eqEdge p0 p1)) := by
  generalize hF : laws_eqEdge p0 p1 = r
  refine PC.enter Try.func128 rfl Try.ntmps128 (by simp) ?_
  have hS := Sep.void; unfold laws_eqEdge at hF
  refine AWP.seqR rfl ?_
  refine ASL.q (v := (.rptr [(.int .i64 p0.from_), (.int .i64 p0.letter), (.int .i64 p0.to_), (.bool p0.good)])) rfl rfl ((qBoxI (v := (TEdge.av p0)) rfl rfl rfl rfl)) ?_
  refine ASL.q (v := (.rptr [(.int .i64 p1.from_), (.int .i64 p1.letter), (.int .i64 p1.to_), (.bool p1.good)])) rfl rfl ((qBoxI (v := (TEdge.av p1)) rfl rfl rfl rfl)) ?_
  refine ASL.q (v := (.bool false)) rfl rfl (Light.quiet (opAssign rfl rfl)) ?_
  refine ASL.done ?_
  refine AWP.seq ?_
  refine AWP.seqR rfl ?_
  refine ASL.q (v := (.rptr [(.int .i64 p0.from_), (.int .i64 p0.letter), (.int .i64 p0.to_), (.bool p0.good)])) rfl rfl (Light.quiet (opFieldAddrR rfl fieldA_79_0 rfl rfl)) ?_
  refine ASL.q (v := (.int .i64 p0.from_)) rfl rfl (Light.quiet (opLoadR rfl aggA_3 rfl rfl)) ?_
  refine ASL.q (v := (.rptr [(.int .i64 p1.from_), (.int .i64 p1.letter), (.int .i64 p1.to_), (.bool p1.good)])) rfl rfl (Light.quiet (opFieldAddrR rfl fieldA_79_0 rfl rfl)) ?_
  refine ASL.q (v := (.int .i64 p1.from_)) rfl rfl (Light.quiet (opLoadR rfl aggA_3 rfl rfl)) ?_
  refine ASL.q (v := (.bool (decide (p0.from_ ≠ p1.from_)))) rfl rfl (Light.quiet (opInt rfl rfl rfl rfl)) ?_
  refine ASL.done ?_
  refine AWP.ifP hF rfl (fun hc1 hF => ?_) (fun hc1 hF => ?_)
  · skip
    refine AWP.seqR rfl ?_
    refine ASL.q (v := (.bool false)) rfl rfl (Light.quiet (opAssign rfl rfl)) ?_
    refine ASL.done ?_
    refine AWP.ret ?_
    refine QThen.rt ?_
    obtain rfl := hF
    exact QRet.sole (v := (.bool false)) ⟨rfl, trivial⟩ rfl
  · skip
    refine AWP.skip ?_
    refine QThen.nrm ?_
    refine AWP.seq ?_
    refine AWP.seqR rfl ?_
    refine ASL.q (v := (.rptr [(.int .i64 p0.letter), (.int .i64 p0.to_), (.bool p0.good)])) rfl rfl (Light.quiet (opFieldAddrR rfl fieldA_79_1 rfl rfl)) ?_
    refine ASL.q (v := (.int .i64 p0.letter)) rfl rfl (Light.quiet (opLoadR rfl aggA_3 rfl rfl)) ?_
    refine ASL.q (v := (.rptr [(.int .i64 p1.letter), (.int .i64 p1.to_), (.bool p1.good)])) rfl rfl (Light.quiet (opFieldAddrR rfl fieldA_79_1 rfl rfl)) ?_
    refine ASL.q (v := (.int .i64 p1.letter)) rfl rfl (Light.quiet (opLoadR rfl aggA_3 rfl rfl)) ?_
    refine ASL.q (v := (.bool (decide (p0.letter ≠ p1.letter)))) rfl rfl (Light.quiet (opInt rfl rfl rfl rfl)) ?_
    refine ASL.done ?_
    refine AWP.ifP hF rfl (fun hc2 hF => ?_) (fun hc2 hF => ?_)
    · skip
      refine AWP.seqR rfl ?_
      refine ASL.q (v := (.bool false)) rfl rfl (Light.quiet (opAssign rfl rfl)) ?_
      refine ASL.done ?_
      refine AWP.ret ?_
      refine QThen.rt ?_
      obtain rfl := hF
      exact QRet.sole (v := (.bool false)) ⟨rfl, trivial⟩ rfl
    · skip
      refine AWP.skip ?_
      refine QThen.nrm ?_
      refine AWP.seq ?_
      refine AWP.seqR rfl ?_
      refine ASL.q (v := (.rptr [(.int .i64 p0.to_), (.bool p0.good)])) rfl rfl (Light.quiet (opFieldAddrR rfl fieldA_79_2 rfl rfl)) ?_
      refine ASL.q (v := (.int .i64 p0.to_)) rfl rfl (Light.quiet (opLoadR rfl aggA_3 rfl rfl)) ?_
      refine ASL.q (v := (.rptr [(.int .i64 p1.to_), (.bool p1.good)])) rfl rfl (Light.quiet (opFieldAddrR rfl fieldA_79_2 rfl rfl)) ?_
      refine ASL.q (v := (.int .i64 p1.to_)) rfl rfl (Light.quiet (opLoadR rfl aggA_3 rfl rfl)) ?_
      refine ASL.q (v := (.bool (decide (p0.to_ ≠ p1.to_)))) rfl rfl (Light.quiet (opInt rfl rfl rfl rfl)) ?_
      refine ASL.done ?_
      refine AWP.ifP hF rfl (fun hc3 hF => ?_) (fun hc3 hF => ?_)
      · skip
        refine AWP.seqR rfl ?_
        refine ASL.q (v := (.bool false)) rfl rfl (Light.quiet (opAssign rfl rfl)) ?_
        refine ASL.done ?_
        refine AWP.ret ?_
        refine QThen.rt ?_
        obtain rfl := hF
        exact QRet.sole (v := (.bool false)) ⟨rfl, trivial⟩ rfl
      · skip
        refine AWP.skip ?_
        refine QThen.nrm ?_
        refine AWP.seq ?_
        refine AWP.seqR rfl ?_
        refine ASL.q (v := (.rptr [(.bool p0.good)])) rfl rfl (Light.quiet (opFieldAddrR rfl fieldA_79_3 rfl rfl)) ?_
        refine ASL.q (v := (.bool p0.good)) rfl rfl (Light.quiet (opLoadR rfl aggA_4 rfl rfl)) ?_
        refine ASL.q (v := (.rptr [(.bool p1.good)])) rfl rfl (Light.quiet (opFieldAddrR rfl fieldA_79_3 rfl rfl)) ?_
        refine ASL.q (v := (.bool p1.good)) rfl rfl (Light.quiet (opLoadR rfl aggA_4 rfl rfl)) ?_
        refine ASL.q (v := (.bool (!(p0.good == p1.good)))) rfl rfl (Light.quiet (opBoolEq rfl rfl rfl und_4 rfl)) ?_
        refine ASL.done ?_
        refine AWP.ifB hF rfl (fun hc4 hF => ?_) (fun hc4 hF => ?_)
        · skip
          refine AWP.seqR rfl ?_
          refine ASL.q (v := (.bool false)) rfl rfl (Light.quiet (opAssign rfl rfl)) ?_
          refine ASL.done ?_
          refine AWP.ret ?_
          refine QThen.rt ?_
          obtain rfl := hF
          exact QRet.sole (v := (.bool false)) ⟨rfl, trivial⟩ rfl
        · skip
          refine AWP.skip ?_
          refine QThen.nrm ?_
          refine AWP.seqR rfl ?_
          refine ASL.q (v := (.bool true)) rfl rfl (Light.quiet (opAssign rfl rfl)) ?_
          refine ASL.done ?_
          refine AWP.ret ?_
          obtain rfl := hF
          exact QRet.sole (v := (.bool true)) ⟨rfl, trivial⟩ rfl

set_option maxRecDepth 10000 in
theorem laws_eqEdgeS_ok {p0 : (List TEdge)} {p1 : (List TEdge)} {r : Bool} (hF : laws_eqEdgeS p0 p1 = some r) : PC Try.prog 97 [(.list 4 (List.map TEdge.av p0)), (.list 4 (List.map TEdge.av p1))] fun v => v = (.bool r) := by
  refine PC.enter Try.func97 rfl Try.ntmps97 (by simp) ?_
  have hS := Sep.void; unfold laws_eqEdgeS at hF
  refine AWP.seqR rfl ?_
  refine ASL.q (v := (.bool false)) rfl rfl (Light.quiet (opAssign rfl rfl)) ?_
  refine ASL.done ?_
  refine AWP.seq ?_
  refine AWP.seqR rfl ?_
  refine ASL.q (v := (.list 4 (List.map TEdge.av p0))) rfl rfl (Light.quiet (opMove rfl rfl)) ?_
  refine ASL.q (v := (.int .i64 (p0.length : Int))) rfl rfl (Light.quiet (opLenMap (f := TEdge.av) rfl rfl rfl lenT_36 rfl)) ?_
  refine ASL.q (v := (.list 4 (List.map TEdge.av p1))) rfl rfl (Light.quiet (opMove rfl rfl)) ?_
  refine ASL.q (v := (.int .i64 (p1.length : Int))) rfl rfl (Light.quiet (opLenMap (f := TEdge.av) rfl rfl rfl lenT_36 rfl)) ?_
  refine ASL.q (v := (.bool (decide (((p0.length : Int)) ≠ ((p1.length : Int)))))) rfl rfl (Light.quiet (opInt rfl rfl rfl rfl)) ?_
  refine ASL.done ?_
  refine AWP.ifP hF rfl (fun hc1 hF => ?_) (fun hc1 hF => ?_)
  · skip
    refine AWP.seqR rfl ?_
    refine ASL.q (v := (.bool false)) rfl rfl (Light.quiet (opAssign rfl rfl)) ?_
    refine ASL.done ?_
    refine AWP.ret ?_
    refine QThen.rt ?_
    obtain rfl := someE hF
    exact QRet.sole (v := (.bool false)) ⟨rfl, trivial⟩ rfl
  · skip
    refine AWP.skip ?_
    refine QThen.nrm ?_
    refine AWP.seqM (fun e H => E.Told e [] ∧ E.Sep H [] ∧ laws_eqEdgeS.k0 = some r) ?_ ?_
    · rintro e0 G2 ⟨hT, hS, hF⟩; refine AWP.only _ hT ?_; unfold laws_eqEdgeS.k0 at hF
      refine AWP.seqR rfl ?_
      refine ASL.q (v := (.bool true)) rfl rfl (Light.quiet (opAssign rfl rfl)) ?_
      refine ASL.done ?_
      refine AWP.ret ?_
      obtain rfl := someE hF
      exact QRet.sole (v := (.bool true)) ⟨rfl, trivial⟩ rfl
    · skip
      refine AWP.seqR rfl ?_
      refine ASL.q (v := (.int .i64 0)) rfl rfl (Light.quiet (opAssign rfl rfl)) ?_
      refine ASL.done ?_
      refine AWP.block ?_
      obtain ⟨o6, hL5, hR7⟩ := bindE hF
      refine AWP.loopF (ω := Unit) hL5 (fun s w => [(0, (.list 4 (List.map TEdge.av p0))), (1, (.list 4 (List.map TEdge.av p1))), (5, (.int .i64 s))]) (fun s w => []) () ⟨rfl, rfl, rfl, trivial⟩ (hS.pick [] rfl rfl) ?_
      rintro x5_l0 _ G8 hS x3 hF hx4
      try dsimp only at hS ⊢
      have hF : laws_eqEdgeS.b0 p0 p1 x5_l0 = some x3 := hF; unfold laws_eqEdgeS.b0 at hF
      refine AWP.seq ?_
      refine AWP.seqR rfl ?_
      refine ASL.q (v := (.int .i64 x5_l0)) rfl rfl (Light.quiet (opMove rfl rfl)) ?_
      refine ASL.q (v := (.list 4 (List.map TEdge.av p0))) rfl rfl (Light.quiet (opMove rfl rfl)) ?_
      refine ASL.q (v := (.int .i64 (p0.length : Int))) rfl rfl (Light.quiet (opLenMap (f := TEdge.av) rfl rfl rfl lenT_36 rfl)) ?_
      refine ASL.q (v := (.bool (decide (x5_l0 < ((p0.length : Int)))))) rfl rfl (Light.quiet (opInt rfl rfl rfl rfl)) ?_
      refine ASL.done ?_
      refine AWP.ifP hF rfl (fun hc9 hF => ?_) (fun hc9 hF => ?_)
      · skip
        refine AWP.skip ?_
        refine QThen.nrm ?_
        refine AWP.seq ?_
        refine AWP.block ?_
        refine AWP.seqD [(0, false), (1, false), (2, false), (3, false), (4, false), (5, false), (6, false), (7, false), (8, false), (9, false)] mixed (by kernel_rfl) rfl ?_
        refine ARL.q0 (v := (.list 4 (List.map TEdge.av p0))) rfl rfl (Light.quiet (opMove rfl rfl)) ?_
        refine ARL.q0 (v := (.int .i64 x5_l0)) rfl rfl (Light.quiet (opMove rfl rfl)) ?_
        obtain ⟨a19, ha19, hF⟩ := bindE hF
        refine ARL.q0 (v := (.rptr [(.int .i64 a19.from_), (.int .i64 a19.letter), (.int .i64 a19.to_), (.bool a19.good)])) rfl rfl (Light.quiet (kIx (f := TEdge.av) ha19 rfl rfl rfl elemA_36 sizeA_79 rfl)) ?_
        refine ARL.q0 (v := (TEdge.av a19)) rfl rfl (Light.quiet (opLoadRA rfl aggA_79 sizeA_79 rfl (nlt rfl) rfl)) ?_
        refine ARL.q0 (v := (.list 4 (List.map TEdge.av p1))) rfl rfl (Light.quiet (opMove rfl rfl)) ?_
        refine ARL.q0 (v := (.int .i64 x5_l0)) rfl rfl (Light.quiet (opMove rfl rfl)) ?_
        obtain ⟨a23, ha23, hF⟩ := bindE hF
        refine ARL.q0 (v := (.rptr [(.int .i64 a23.from_), (.int .i64 a23.letter), (.int .i64 a23.to_), (.bool a23.good)])) rfl rfl (Light.quiet (kIx (f := TEdge.av) ha23 rfl rfl rfl elemA_36 sizeA_79 rfl)) ?_
        refine ARL.q0 (v := (TEdge.av a23)) rfl rfl (Light.quiet (opLoadRA rfl aggA_79 sizeA_79 rfl (nlt rfl) rfl)) ?_
        refine ARL.q0 (v := (.bool (laws_eqEdge a19 a23))) rfl rfl ((qCall rfl rfl call_128 (laws_eqEdge_ok a19 a23) rfl)) ?_
        refine ARL.q0 (v := (.bool (!(laws_eqEdge a19 a23)))) rfl rfl (Light.quiet (opNot rfl rfl)) ?_
        refine ARL.done ?_
        refine AWP.ifB hF rfl (fun hc10 hF => ?_) (fun hc10 hF => ?_)
        · skip
          refine AWP.seqR rfl ?_
          refine ASL.q (v := (.bool false)) rfl rfl (Light.quiet (opAssign rfl rfl)) ?_
          refine ASL.done ?_
          refine AWP.ret ?_
          refine QBlock.ret ?_
          refine QThen.rt ?_
          refine QThen.rt ?_
          refine QBlock.ret ?_
          refine QThen.rt ?_
          obtain rfl := (hx4 _ (someE hF).symm)
          have hF := hR7
          have hF := sumR hF
          obtain rfl := someE hF
          exact QRet.sole (v := (.bool false)) ⟨rfl, trivial⟩ rfl
        · skip
          refine AWP.skip ?_
          refine QBlock.nrm ?_
          refine QThen.nrm ?_
          refine AWP.lastR rfl ?_
          refine ASL.q (v := (.int .i64 x5_l0)) rfl rfl (Light.quiet (opMove rfl rfl)) ?_
          refine ASL.q (v := (.int .i64 (W (x5_l0 + 1)))) rfl rfl (Light.quiet (opInt rfl rfl rfl rfl)) ?_
          refine ASL.q (v := (.int .i64 (W (x5_l0 + 1)))) rfl rfl (Light.quiet (opAssign rfl rfl)) ?_
          refine ASL.done ?_
          refine QThen.nrm ?_
          exact ⟨(W (x5_l0 + 1)), (), (someE hF).symm, ⟨rfl, rfl, rfl, trivial⟩, (hS.pick [] rfl rfl)⟩
      · skip
        refine AWP.exit ?_
        refine QThen.ext ?_
        refine QThen.ext ?_
        refine QBlock.hit ?_
        obtain rfl := (hx4 _ (someE hF).symm)
        have hF := hR7
        have hF := sumL hF
        refine QThen.nrm ?_
        exact ⟨trivial, (hS.pick [] rfl rfl), hF⟩

set_option maxRecDepth 10000 in
theorem laws_eqAuto_ok {p0 : TAuto} {p1 : TAuto} {r : Bool} (hF : laws_eqAuto p0 p1 = some r) : PC Try.prog 57 [(TAuto.av p0), (TAuto.av p1)] fun v => v = (.bool r) := by
  refine PC.enter Try.func57 rfl Try.ntmps57 (by simp) ?_
  have hS := Sep.void; unfold laws_eqAuto at hF
  refine AWP.seqR rfl ?_
  refine ASL.q (v := (.rptr [(.int .i64 p0.letters), (.int .i64 p0.states), (.int .i64 p0.start), (.list 4 (List.map TEdge.av p0.edges))])) rfl rfl ((qBoxI (v := (TAuto.av p0)) rfl rfl rfl rfl)) ?_
  refine ASL.q (v := (.rptr [(.int .i64 p1.letters), (.int .i64 p1.states), (.int .i64 p1.start), (.list 4 (List.map TEdge.av p1.edges))])) rfl rfl ((qBoxI (v := (TAuto.av p1)) rfl rfl rfl rfl)) ?_
  refine ASL.q (v := (.bool false)) rfl rfl (Light.quiet (opAssign rfl rfl)) ?_
  refine ASL.done ?_
  refine AWP.seq ?_
  refine AWP.seqR rfl ?_
  refine ASL.q (v := (.rptr [(.int .i64 p0.letters), (.int .i64 p0.states), (.int .i64 p0.start), (.list 4 (List.map TEdge.av p0.edges))])) rfl rfl (Light.quiet (opFieldAddrR rfl fieldA_38_0 rfl rfl)) ?_
  refine ASL.q (v := (.int .i64 p0.letters)) rfl rfl (Light.quiet (opLoadR rfl aggA_3 rfl rfl)) ?_
  refine ASL.q (v := (.rptr [(.int .i64 p1.letters), (.int .i64 p1.states), (.int .i64 p1.start), (.list 4 (List.map TEdge.av p1.edges))])) rfl rfl (Light.quiet (opFieldAddrR rfl fieldA_38_0 rfl rfl)) ?_
  refine ASL.q (v := (.int .i64 p1.letters)) rfl rfl (Light.quiet (opLoadR rfl aggA_3 rfl rfl)) ?_
  refine ASL.q (v := (.bool (decide (p0.letters ≠ p1.letters)))) rfl rfl (Light.quiet (opInt rfl rfl rfl rfl)) ?_
  refine ASL.done ?_
  refine AWP.ifP hF rfl (fun hc1 hF => ?_) (fun hc1 hF => ?_)
  · skip
    refine AWP.seqR rfl ?_
    refine ASL.q (v := (.bool false)) rfl rfl (Light.quiet (opAssign rfl rfl)) ?_
    refine ASL.done ?_
    refine AWP.ret ?_
    refine QThen.rt ?_
    obtain rfl := someE hF
    exact QRet.sole (v := (.bool false)) ⟨rfl, trivial⟩ rfl
  · skip
    refine AWP.skip ?_
    refine QThen.nrm ?_
    refine AWP.seq ?_
    refine AWP.seqR rfl ?_
    refine ASL.q (v := (.rptr [(.int .i64 p0.states), (.int .i64 p0.start), (.list 4 (List.map TEdge.av p0.edges))])) rfl rfl (Light.quiet (opFieldAddrR rfl fieldA_38_1 rfl rfl)) ?_
    refine ASL.q (v := (.int .i64 p0.states)) rfl rfl (Light.quiet (opLoadR rfl aggA_3 rfl rfl)) ?_
    refine ASL.q (v := (.rptr [(.int .i64 p1.states), (.int .i64 p1.start), (.list 4 (List.map TEdge.av p1.edges))])) rfl rfl (Light.quiet (opFieldAddrR rfl fieldA_38_1 rfl rfl)) ?_
    refine ASL.q (v := (.int .i64 p1.states)) rfl rfl (Light.quiet (opLoadR rfl aggA_3 rfl rfl)) ?_
    refine ASL.q (v := (.bool (decide (p0.states ≠ p1.states)))) rfl rfl (Light.quiet (opInt rfl rfl rfl rfl)) ?_
    refine ASL.done ?_
    refine AWP.ifP hF rfl (fun hc2 hF => ?_) (fun hc2 hF => ?_)
    · skip
      refine AWP.seqR rfl ?_
      refine ASL.q (v := (.bool false)) rfl rfl (Light.quiet (opAssign rfl rfl)) ?_
      refine ASL.done ?_
      refine AWP.ret ?_
      refine QThen.rt ?_
      obtain rfl := someE hF
      exact QRet.sole (v := (.bool false)) ⟨rfl, trivial⟩ rfl
    · skip
      refine AWP.skip ?_
      refine QThen.nrm ?_
      refine AWP.seq ?_
      refine AWP.seqR rfl ?_
      refine ASL.q (v := (.rptr [(.int .i64 p0.start), (.list 4 (List.map TEdge.av p0.edges))])) rfl rfl (Light.quiet (opFieldAddrR rfl fieldA_38_2 rfl rfl)) ?_
      refine ASL.q (v := (.int .i64 p0.start)) rfl rfl (Light.quiet (opLoadR rfl aggA_3 rfl rfl)) ?_
      refine ASL.q (v := (.rptr [(.int .i64 p1.start), (.list 4 (List.map TEdge.av p1.edges))])) rfl rfl (Light.quiet (opFieldAddrR rfl fieldA_38_2 rfl rfl)) ?_
      refine ASL.q (v := (.int .i64 p1.start)) rfl rfl (Light.quiet (opLoadR rfl aggA_3 rfl rfl)) ?_
      refine ASL.q (v := (.bool (decide (p0.start ≠ p1.start)))) rfl rfl (Light.quiet (opInt rfl rfl rfl rfl)) ?_
      refine ASL.done ?_
      refine AWP.ifP hF rfl (fun hc3 hF => ?_) (fun hc3 hF => ?_)
      · skip
        refine AWP.seqR rfl ?_
        refine ASL.q (v := (.bool false)) rfl rfl (Light.quiet (opAssign rfl rfl)) ?_
        refine ASL.done ?_
        refine AWP.ret ?_
        refine QThen.rt ?_
        obtain rfl := someE hF
        exact QRet.sole (v := (.bool false)) ⟨rfl, trivial⟩ rfl
      · skip
        refine AWP.skip ?_
        refine QThen.nrm ?_
        refine AWP.seq ?_
        refine AWP.seqR rfl ?_
        refine ASL.q (v := (.rptr [(.list 4 (List.map TEdge.av p0.edges))])) rfl rfl (Light.quiet (opFieldAddrR rfl fieldA_38_3 rfl rfl)) ?_
        refine ASL.q (v := (.list 4 (List.map TEdge.av p0.edges))) rfl rfl (Light.quiet (opLoadR rfl aggA_36 rfl rfl)) ?_
        refine ASL.q (v := (.rptr [(.list 4 (List.map TEdge.av p1.edges))])) rfl rfl (Light.quiet (opFieldAddrR rfl fieldA_38_3 rfl rfl)) ?_
        refine ASL.q (v := (.list 4 (List.map TEdge.av p1.edges))) rfl rfl (Light.quiet (opLoadR rfl aggA_36 rfl rfl)) ?_
        obtain ⟨a24, ha24, hF⟩ := bindE hF
        refine ASL.q (v := (.bool a24)) rfl rfl ((qCall rfl rfl call_97 (laws_eqEdgeS_ok ha24) rfl)) ?_
        refine ASL.q (v := (.bool (!a24))) rfl rfl (Light.quiet (opNot rfl rfl)) ?_
        refine ASL.done ?_
        refine AWP.ifB hF rfl (fun hc4 hF => ?_) (fun hc4 hF => ?_)
        · skip
          refine AWP.seqR rfl ?_
          refine ASL.q (v := (.bool false)) rfl rfl (Light.quiet (opAssign rfl rfl)) ?_
          refine ASL.done ?_
          refine AWP.ret ?_
          refine QThen.rt ?_
          obtain rfl := someE hF
          exact QRet.sole (v := (.bool false)) ⟨rfl, trivial⟩ rfl
        · skip
          refine AWP.skip ?_
          refine QThen.nrm ?_
          refine AWP.seqR rfl ?_
          refine ASL.q (v := (.bool true)) rfl rfl (Light.quiet (opAssign rfl rfl)) ?_
          refine ASL.done ?_
          refine AWP.ret ?_
          obtain rfl := someE hF
          exact QRet.sole (v := (.bool true)) ⟨rfl, trivial⟩ rfl

set_option maxRecDepth 10000 in
theorem laws_eqNfa_ok {p0 : TNfa} {p1 : TNfa} {r : Bool} (hF : laws_eqNfa p0 p1 = some r) : PC Try.prog 17 [(TNfa.av p0), (TNfa.av p1)] fun v => v = (.bool r) := by
  refine PC.enter Try.func17 rfl Try.ntmps17 (by simp) ?_
  have hS := Sep.void; unfold laws_eqNfa at hF
  refine AWP.seqR rfl ?_
  refine ASL.q (v := (.rptr [(.int .i64 p0.auto.letters), (.int .i64 p0.auto.states), (.int .i64 p0.auto.start), (.list 4 (List.map TEdge.av p0.auto.edges)), (.int .i64 p0.final)])) rfl rfl ((qBoxI (v := (TNfa.av p0)) rfl rfl rfl rfl)) ?_
  refine ASL.q (v := (.rptr [(.int .i64 p1.auto.letters), (.int .i64 p1.auto.states), (.int .i64 p1.auto.start), (.list 4 (List.map TEdge.av p1.auto.edges)), (.int .i64 p1.final)])) rfl rfl ((qBoxI (v := (TNfa.av p1)) rfl rfl rfl rfl)) ?_
  refine ASL.q (v := (.bool false)) rfl rfl (Light.quiet (opAssign rfl rfl)) ?_
  refine ASL.done ?_
  refine AWP.seq ?_
  refine AWP.seqR rfl ?_
  refine ASL.q (v := (.rptr [(.int .i64 p0.auto.letters), (.int .i64 p0.auto.states), (.int .i64 p0.auto.start), (.list 4 (List.map TEdge.av p0.auto.edges)), (.int .i64 p0.final)])) rfl rfl (Light.quiet (opFieldAddrR rfl fieldA_40_0 rfl rfl)) ?_
  refine ASL.q (v := (TAuto.av p0.auto)) rfl rfl (Light.quiet (opLoadRA rfl aggA_38 sizeA_38 rfl (nlt rfl) rfl)) ?_
  refine ASL.q (v := (.rptr [(.int .i64 p1.auto.letters), (.int .i64 p1.auto.states), (.int .i64 p1.auto.start), (.list 4 (List.map TEdge.av p1.auto.edges)), (.int .i64 p1.final)])) rfl rfl (Light.quiet (opFieldAddrR rfl fieldA_40_0 rfl rfl)) ?_
  refine ASL.q (v := (TAuto.av p1.auto)) rfl rfl (Light.quiet (opLoadRA rfl aggA_38 sizeA_38 rfl (nlt rfl) rfl)) ?_
  obtain ⟨a9, ha9, hF⟩ := bindE hF
  refine ASL.q (v := (.bool a9)) rfl rfl ((qCall rfl rfl call_57 (laws_eqAuto_ok ha9) rfl)) ?_
  refine ASL.q (v := (.bool (!a9))) rfl rfl (Light.quiet (opNot rfl rfl)) ?_
  refine ASL.done ?_
  refine AWP.ifB hF rfl (fun hc1 hF => ?_) (fun hc1 hF => ?_)
  · skip
    refine AWP.seqR rfl ?_
    refine ASL.q (v := (.bool false)) rfl rfl (Light.quiet (opAssign rfl rfl)) ?_
    refine ASL.done ?_
    refine AWP.ret ?_
    refine QThen.rt ?_
    obtain rfl := someE hF
    exact QRet.sole (v := (.bool false)) ⟨rfl, trivial⟩ rfl
  · skip
    refine AWP.skip ?_
    refine QThen.nrm ?_
    refine AWP.seq ?_
    refine AWP.seqR rfl ?_
    refine ASL.q (v := (.rptr [(.int .i64 p0.final)])) rfl rfl (Light.quiet (opFieldAddrR rfl fieldA_40_1 rfl rfl)) ?_
    refine ASL.q (v := (.int .i64 p0.final)) rfl rfl (Light.quiet (opLoadR rfl aggA_3 rfl rfl)) ?_
    refine ASL.q (v := (.rptr [(.int .i64 p1.final)])) rfl rfl (Light.quiet (opFieldAddrR rfl fieldA_40_1 rfl rfl)) ?_
    refine ASL.q (v := (.int .i64 p1.final)) rfl rfl (Light.quiet (opLoadR rfl aggA_3 rfl rfl)) ?_
    refine ASL.q (v := (.bool (decide (p0.final ≠ p1.final)))) rfl rfl (Light.quiet (opInt rfl rfl rfl rfl)) ?_
    refine ASL.done ?_
    refine AWP.ifP hF rfl (fun hc2 hF => ?_) (fun hc2 hF => ?_)
    · skip
      refine AWP.seqR rfl ?_
      refine ASL.q (v := (.bool false)) rfl rfl (Light.quiet (opAssign rfl rfl)) ?_
      refine ASL.done ?_
      refine AWP.ret ?_
      refine QThen.rt ?_
      obtain rfl := someE hF
      exact QRet.sole (v := (.bool false)) ⟨rfl, trivial⟩ rfl
    · skip
      refine AWP.skip ?_
      refine QThen.nrm ?_
      refine AWP.seqR rfl ?_
      refine ASL.q (v := (.bool true)) rfl rfl (Light.quiet (opAssign rfl rfl)) ?_
      refine ASL.done ?_
      refine AWP.ret ?_
      obtain rfl := someE hF
      exact QRet.sole (v := (.bool true)) ⟨rfl, trivial⟩ rfl

set_option maxRecDepth 10000 in
theorem laws_eqNode_ok (p0 : TNode) (p1 : TNode) : PC Try.prog 46 [(TNode.av p0), (TNode.av p1)] fun v => v = (.bool (laws_eqNode p0 p1)) := by
  generalize hF : laws_eqNode p0 p1 = r
  refine PC.enter Try.func46 rfl Try.ntmps46 (by simp) ?_
  have hS := Sep.void; unfold laws_eqNode at hF
  refine AWP.seqR rfl ?_
  refine ASL.q (v := (.rptr [(.int .i64 p0.kind), (.int .i64 p0.a), (.int .i64 p0.b)])) rfl rfl ((qBoxI (v := (TNode.av p0)) rfl rfl rfl rfl)) ?_
  refine ASL.q (v := (.rptr [(.int .i64 p1.kind), (.int .i64 p1.a), (.int .i64 p1.b)])) rfl rfl ((qBoxI (v := (TNode.av p1)) rfl rfl rfl rfl)) ?_
  refine ASL.q (v := (.bool false)) rfl rfl (Light.quiet (opAssign rfl rfl)) ?_
  refine ASL.done ?_
  refine AWP.seq ?_
  refine AWP.seqR rfl ?_
  refine ASL.q (v := (.rptr [(.int .i64 p0.kind), (.int .i64 p0.a), (.int .i64 p0.b)])) rfl rfl (Light.quiet (opFieldAddrR rfl fieldA_65_0 rfl rfl)) ?_
  refine ASL.q (v := (.int .i64 p0.kind)) rfl rfl (Light.quiet (opLoadR rfl aggA_3 rfl rfl)) ?_
  refine ASL.q (v := (.rptr [(.int .i64 p1.kind), (.int .i64 p1.a), (.int .i64 p1.b)])) rfl rfl (Light.quiet (opFieldAddrR rfl fieldA_65_0 rfl rfl)) ?_
  refine ASL.q (v := (.int .i64 p1.kind)) rfl rfl (Light.quiet (opLoadR rfl aggA_3 rfl rfl)) ?_
  refine ASL.q (v := (.bool (decide (p0.kind ≠ p1.kind)))) rfl rfl (Light.quiet (opInt rfl rfl rfl rfl)) ?_
  refine ASL.done ?_
  refine AWP.ifP hF rfl (fun hc1 hF => ?_) (fun hc1 hF => ?_)
  · skip
    refine AWP.seqR rfl ?_
    refine ASL.q (v := (.bool false)) rfl rfl (Light.quiet (opAssign rfl rfl)) ?_
    refine ASL.done ?_
    refine AWP.ret ?_
    refine QThen.rt ?_
    obtain rfl := hF
    exact QRet.sole (v := (.bool false)) ⟨rfl, trivial⟩ rfl
  · skip
    refine AWP.skip ?_
    refine QThen.nrm ?_
    refine AWP.seq ?_
    refine AWP.seqR rfl ?_
    refine ASL.q (v := (.rptr [(.int .i64 p0.a), (.int .i64 p0.b)])) rfl rfl (Light.quiet (opFieldAddrR rfl fieldA_65_1 rfl rfl)) ?_
    refine ASL.q (v := (.int .i64 p0.a)) rfl rfl (Light.quiet (opLoadR rfl aggA_3 rfl rfl)) ?_
    refine ASL.q (v := (.rptr [(.int .i64 p1.a), (.int .i64 p1.b)])) rfl rfl (Light.quiet (opFieldAddrR rfl fieldA_65_1 rfl rfl)) ?_
    refine ASL.q (v := (.int .i64 p1.a)) rfl rfl (Light.quiet (opLoadR rfl aggA_3 rfl rfl)) ?_
    refine ASL.q (v := (.bool (decide (p0.a ≠ p1.a)))) rfl rfl (Light.quiet (opInt rfl rfl rfl rfl)) ?_
    refine ASL.done ?_
    refine AWP.ifP hF rfl (fun hc2 hF => ?_) (fun hc2 hF => ?_)
    · skip
      refine AWP.seqR rfl ?_
      refine ASL.q (v := (.bool false)) rfl rfl (Light.quiet (opAssign rfl rfl)) ?_
      refine ASL.done ?_
      refine AWP.ret ?_
      refine QThen.rt ?_
      obtain rfl := hF
      exact QRet.sole (v := (.bool false)) ⟨rfl, trivial⟩ rfl
    · skip
      refine AWP.skip ?_
      refine QThen.nrm ?_
      refine AWP.seq ?_
      refine AWP.seqR rfl ?_
      refine ASL.q (v := (.rptr [(.int .i64 p0.b)])) rfl rfl (Light.quiet (opFieldAddrR rfl fieldA_65_2 rfl rfl)) ?_
      refine ASL.q (v := (.int .i64 p0.b)) rfl rfl (Light.quiet (opLoadR rfl aggA_3 rfl rfl)) ?_
      refine ASL.q (v := (.rptr [(.int .i64 p1.b)])) rfl rfl (Light.quiet (opFieldAddrR rfl fieldA_65_2 rfl rfl)) ?_
      refine ASL.q (v := (.int .i64 p1.b)) rfl rfl (Light.quiet (opLoadR rfl aggA_3 rfl rfl)) ?_
      refine ASL.q (v := (.bool (decide (p0.b ≠ p1.b)))) rfl rfl (Light.quiet (opInt rfl rfl rfl rfl)) ?_
      refine ASL.done ?_
      refine AWP.ifP hF rfl (fun hc3 hF => ?_) (fun hc3 hF => ?_)
      · skip
        refine AWP.seqR rfl ?_
        refine ASL.q (v := (.bool false)) rfl rfl (Light.quiet (opAssign rfl rfl)) ?_
        refine ASL.done ?_
        refine AWP.ret ?_
        refine QThen.rt ?_
        obtain rfl := hF
        exact QRet.sole (v := (.bool false)) ⟨rfl, trivial⟩ rfl
      · skip
        refine AWP.skip ?_
        refine QThen.nrm ?_
        refine AWP.seqR rfl ?_
        refine ASL.q (v := (.bool true)) rfl rfl (Light.quiet (opAssign rfl rfl)) ?_
        refine ASL.done ?_
        refine AWP.ret ?_
        obtain rfl := hF
        exact QRet.sole (v := (.bool true)) ⟨rfl, trivial⟩ rfl

set_option maxRecDepth 10000 in
theorem laws_eqNodeS_ok {p0 : (List TNode)} {p1 : (List TNode)} {r : Bool} (hF : laws_eqNodeS p0 p1 = some r) : PC Try.prog 11 [(.list 3 (List.map TNode.av p0)), (.list 3 (List.map TNode.av p1))] fun v => v = (.bool r) := by
  refine PC.enter Try.func11 rfl Try.ntmps11 (by simp) ?_
  have hS := Sep.void; unfold laws_eqNodeS at hF
  refine AWP.seqR rfl ?_
  refine ASL.q (v := (.bool false)) rfl rfl (Light.quiet (opAssign rfl rfl)) ?_
  refine ASL.done ?_
  refine AWP.seq ?_
  refine AWP.seqR rfl ?_
  refine ASL.q (v := (.list 3 (List.map TNode.av p0))) rfl rfl (Light.quiet (opMove rfl rfl)) ?_
  refine ASL.q (v := (.int .i64 (p0.length : Int))) rfl rfl (Light.quiet (opLenMap (f := TNode.av) rfl rfl rfl lenT_29 rfl)) ?_
  refine ASL.q (v := (.list 3 (List.map TNode.av p1))) rfl rfl (Light.quiet (opMove rfl rfl)) ?_
  refine ASL.q (v := (.int .i64 (p1.length : Int))) rfl rfl (Light.quiet (opLenMap (f := TNode.av) rfl rfl rfl lenT_29 rfl)) ?_
  refine ASL.q (v := (.bool (decide (((p0.length : Int)) ≠ ((p1.length : Int)))))) rfl rfl (Light.quiet (opInt rfl rfl rfl rfl)) ?_
  refine ASL.done ?_
  refine AWP.ifP hF rfl (fun hc1 hF => ?_) (fun hc1 hF => ?_)
  · skip
    refine AWP.seqR rfl ?_
    refine ASL.q (v := (.bool false)) rfl rfl (Light.quiet (opAssign rfl rfl)) ?_
    refine ASL.done ?_
    refine AWP.ret ?_
    refine QThen.rt ?_
    obtain rfl := someE hF
    exact QRet.sole (v := (.bool false)) ⟨rfl, trivial⟩ rfl
  · skip
    refine AWP.skip ?_
    refine QThen.nrm ?_
    refine AWP.seqM (fun e H => E.Told e [] ∧ E.Sep H [] ∧ laws_eqNodeS.k0 = some r) ?_ ?_
    · rintro e0 G2 ⟨hT, hS, hF⟩; refine AWP.only _ hT ?_; unfold laws_eqNodeS.k0 at hF
      refine AWP.seqR rfl ?_
      refine ASL.q (v := (.bool true)) rfl rfl (Light.quiet (opAssign rfl rfl)) ?_
      refine ASL.done ?_
      refine AWP.ret ?_
      obtain rfl := someE hF
      exact QRet.sole (v := (.bool true)) ⟨rfl, trivial⟩ rfl
    · skip
      refine AWP.seqR rfl ?_
      refine ASL.q (v := (.int .i64 0)) rfl rfl (Light.quiet (opAssign rfl rfl)) ?_
      refine ASL.done ?_
      refine AWP.block ?_
      obtain ⟨o6, hL5, hR7⟩ := bindE hF
      refine AWP.loopF (ω := Unit) hL5 (fun s w => [(0, (.list 3 (List.map TNode.av p0))), (1, (.list 3 (List.map TNode.av p1))), (5, (.int .i64 s))]) (fun s w => []) () ⟨rfl, rfl, rfl, trivial⟩ (hS.pick [] rfl rfl) ?_
      rintro x5_l0 _ G8 hS x3 hF hx4
      try dsimp only at hS ⊢
      have hF : laws_eqNodeS.b0 p0 p1 x5_l0 = some x3 := hF; unfold laws_eqNodeS.b0 at hF
      refine AWP.seq ?_
      refine AWP.seqR rfl ?_
      refine ASL.q (v := (.int .i64 x5_l0)) rfl rfl (Light.quiet (opMove rfl rfl)) ?_
      refine ASL.q (v := (.list 3 (List.map TNode.av p0))) rfl rfl (Light.quiet (opMove rfl rfl)) ?_
      refine ASL.q (v := (.int .i64 (p0.length : Int))) rfl rfl (Light.quiet (opLenMap (f := TNode.av) rfl rfl rfl lenT_29 rfl)) ?_
      refine ASL.q (v := (.bool (decide (x5_l0 < ((p0.length : Int)))))) rfl rfl (Light.quiet (opInt rfl rfl rfl rfl)) ?_
      refine ASL.done ?_
      refine AWP.ifP hF rfl (fun hc9 hF => ?_) (fun hc9 hF => ?_)
      · skip
        refine AWP.skip ?_
        refine QThen.nrm ?_
        refine AWP.seq ?_
        refine AWP.block ?_
        refine AWP.seqD [(0, false), (1, false), (2, false), (3, false), (4, false), (5, false), (6, false), (7, false), (8, false), (9, false)] mixed (by kernel_rfl) rfl ?_
        refine ARL.q0 (v := (.list 3 (List.map TNode.av p0))) rfl rfl (Light.quiet (opMove rfl rfl)) ?_
        refine ARL.q0 (v := (.int .i64 x5_l0)) rfl rfl (Light.quiet (opMove rfl rfl)) ?_
        obtain ⟨a19, ha19, hF⟩ := bindE hF
        refine ARL.q0 (v := (.rptr [(.int .i64 a19.kind), (.int .i64 a19.a), (.int .i64 a19.b)])) rfl rfl (Light.quiet (kIx (f := TNode.av) ha19 rfl rfl rfl elemA_29 sizeA_65 rfl)) ?_
        refine ARL.q0 (v := (TNode.av a19)) rfl rfl (Light.quiet (opLoadRA rfl aggA_65 sizeA_65 rfl (nlt rfl) rfl)) ?_
        refine ARL.q0 (v := (.list 3 (List.map TNode.av p1))) rfl rfl (Light.quiet (opMove rfl rfl)) ?_
        refine ARL.q0 (v := (.int .i64 x5_l0)) rfl rfl (Light.quiet (opMove rfl rfl)) ?_
        obtain ⟨a23, ha23, hF⟩ := bindE hF
        refine ARL.q0 (v := (.rptr [(.int .i64 a23.kind), (.int .i64 a23.a), (.int .i64 a23.b)])) rfl rfl (Light.quiet (kIx (f := TNode.av) ha23 rfl rfl rfl elemA_29 sizeA_65 rfl)) ?_
        refine ARL.q0 (v := (TNode.av a23)) rfl rfl (Light.quiet (opLoadRA rfl aggA_65 sizeA_65 rfl (nlt rfl) rfl)) ?_
        refine ARL.q0 (v := (.bool (laws_eqNode a19 a23))) rfl rfl ((qCall rfl rfl call_46 (laws_eqNode_ok a19 a23) rfl)) ?_
        refine ARL.q0 (v := (.bool (!(laws_eqNode a19 a23)))) rfl rfl (Light.quiet (opNot rfl rfl)) ?_
        refine ARL.done ?_
        refine AWP.ifB hF rfl (fun hc10 hF => ?_) (fun hc10 hF => ?_)
        · skip
          refine AWP.seqR rfl ?_
          refine ASL.q (v := (.bool false)) rfl rfl (Light.quiet (opAssign rfl rfl)) ?_
          refine ASL.done ?_
          refine AWP.ret ?_
          refine QBlock.ret ?_
          refine QThen.rt ?_
          refine QThen.rt ?_
          refine QBlock.ret ?_
          refine QThen.rt ?_
          obtain rfl := (hx4 _ (someE hF).symm)
          have hF := hR7
          have hF := sumR hF
          obtain rfl := someE hF
          exact QRet.sole (v := (.bool false)) ⟨rfl, trivial⟩ rfl
        · skip
          refine AWP.skip ?_
          refine QBlock.nrm ?_
          refine QThen.nrm ?_
          refine AWP.lastR rfl ?_
          refine ASL.q (v := (.int .i64 x5_l0)) rfl rfl (Light.quiet (opMove rfl rfl)) ?_
          refine ASL.q (v := (.int .i64 (W (x5_l0 + 1)))) rfl rfl (Light.quiet (opInt rfl rfl rfl rfl)) ?_
          refine ASL.q (v := (.int .i64 (W (x5_l0 + 1)))) rfl rfl (Light.quiet (opAssign rfl rfl)) ?_
          refine ASL.done ?_
          refine QThen.nrm ?_
          exact ⟨(W (x5_l0 + 1)), (), (someE hF).symm, ⟨rfl, rfl, rfl, trivial⟩, (hS.pick [] rfl rfl)⟩
      · skip
        refine AWP.exit ?_
        refine QThen.ext ?_
        refine QThen.ext ?_
        refine QBlock.hit ?_
        obtain rfl := (hx4 _ (someE hF).symm)
        have hF := hR7
        have hF := sumL hF
        refine QThen.nrm ?_
        exact ⟨trivial, (hS.pick [] rfl rfl), hF⟩

set_option maxRecDepth 10000 in
theorem laws_markNodeS_ok {p0 : (List TNode)} {p1 : Int} {r : (Int × (List TNode))} {vp0 : AV} (hF : laws_markNodeS p0 p1 = some r) : HS Try.prog 12 [vp0, (.int .i64 p1)] [.row 3 vp0 (List.map TNode.av p0)] fun v L' => v = (.int .i64 r.1) ∧ L' = [.row 3 vp0 (List.map TNode.av r.2)] := by
  intro H S hS
  refine HC.enter Try.func12 rfl Try.ntmps12 (by simp) ?_
  simp only [List.cons_append, List.nil_append] at hS
  unfold laws_markNodeS at hF
  refine AWP.seqR rfl ?_
  refine ASL.q (v := (.int .i64 0)) rfl rfl (Light.quiet (opAssign rfl rfl)) ?_
  refine ASL.done ?_
  refine AWP.seqM (fun e H => ∃ x1_1 : Int, ∃ y2 : (List TNode), E.Told e [(1, (.int .i64 x1_1))] ∧ E.Sep H [.row 3 vp0 (List.map TNode.av y2), .snap S] ∧ laws_markNodeS.k0 x1_1 y2 = some r) ?_ ?_
  · rintro e0 G3 ⟨x1_1, y2, hT, hS, hF⟩; refine AWP.only _ hT ?_; unfold laws_markNodeS.k0 at hF
    refine AWP.seqR rfl ?_
    refine ASL.q (v := (.int .i64 x1_1)) rfl rfl (Light.quiet (opMove rfl rfl)) ?_
    refine ASL.q (v := (.int .i64 x1_1)) rfl rfl (Light.quiet (opAssign rfl rfl)) ?_
    refine ASL.done ?_
    refine AWP.ret ?_
    obtain rfl := someE hF
    exact QRet.sole (v := (.int .i64 x1_1)) ⟨rfl, trivial⟩ ⟨_, ⟨rfl, rfl⟩, hS.pick [0, 1] rfl rfl⟩
  · skip
    refine AWP.seqR rfl ?_
    refine ASL.q (v := (.int .i64 0)) rfl rfl (Light.quiet (opAssign rfl rfl)) ?_
    refine ASL.done ?_
    refine AWP.block ?_
    obtain ⟨o8, hL7, hR9⟩ := bindE hF
    refine AWP.loopF (ω := Unit) hL7 (fun s w => [(0, vp0), (1, (.int .i64 s.2.1)), (5, (.int .i64 s.2.2))]) (fun s w => [.row 3 vp0 (List.map TNode.av s.1), .snap S]) () ⟨rfl, rfl, rfl, trivial⟩ (hS.pick [0, 1] rfl rfl) ?_
    rintro ⟨y4, x1_l0, x5_l0⟩ _ G10 hS x5 hF hx6
    try dsimp only at hS ⊢
    have hF : laws_markNodeS.b0 y4 x1_l0 x5_l0 = some x5 := hF; unfold laws_markNodeS.b0 at hF
    refine AWP.seq ?_
    refine AWP.seqR rfl ?_
    refine ASL.q (v := (.int .i64 x5_l0)) rfl rfl (Light.quiet (opMove rfl rfl)) ?_
    refine ASL.q (v := vp0) rfl rfl (Light.quiet (opMove rfl rfl)) ?_
    refine ASL.q (v := (.int .i64 (y4.length : Int))) rfl rfl (Light.quiet (kLen hS (j := 0) rfl rfl rfl rfl lenT_29 rfl)) ?_
    refine ASL.q (v := (.bool (decide (x5_l0 < ((y4.length : Int)))))) rfl rfl (Light.quiet (opInt rfl rfl rfl rfl)) ?_
    refine ASL.done ?_
    refine AWP.ifP hF rfl (fun hc11 hF => ?_) (fun hc11 hF => ?_)
    · skip
      refine AWP.skip ?_
      refine QThen.nrm ?_
      refine AWP.seq ?_
      refine AWP.block ?_
      refine AWP.seqR rfl ?_
      refine ASL.q (v := vp0) rfl rfl (Light.quiet (opMove rfl rfl)) ?_
      refine ASL.q (v := (.int .i64 x5_l0)) rfl rfl (Light.quiet (opMove rfl rfl)) ?_
      refine ASL.q (v := (.int .i64 x1_l0)) rfl rfl (Light.quiet (opMove rfl rfl)) ?_
      obtain ⟨m15, hm15, hF⟩ := bindE hF
      refine ASL.q (v := (ptrTo vp0 m15 3)) rfl rfl (Light.quiet (kIxO hS (j := 0) rfl hm15 rfl rfl rfl elemA_29 sizeA_65)) ?_
      refine ASL.q (v := (ptrOff vp0 m15 3 0)) rfl rfl (Light.quiet (kFldC (p := 0) hS (j := 0) rfl hm15 rfl fieldA_65_0 rfl)) ?_
      refine ASL.n rfl rfl (hStF (f := TNode.av) (g := (fun q : TNode => { q with kind := x1_l0 })) (p := 0) hS (j := 0) rfl hm15 rfl sizeA_3 rfl rfl (fun _ => ⟨_, rfl, nlt rfl, rfl⟩) rfl ?_); rintro G12 hS
      refine ASL.done ?_
      refine AWP.seqR rfl ?_
      refine ASL.q (v := (.int .i64 x1_l0)) rfl rfl (Light.quiet (opMove rfl rfl)) ?_
      refine ASL.q (v := (.int .i64 (W (x1_l0 + 1)))) rfl rfl (Light.quiet (opInt rfl rfl rfl rfl)) ?_
      refine ASL.q (v := (.int .i64 (W (x1_l0 + 1)))) rfl rfl (Light.quiet (opAssign rfl rfl)) ?_
      refine ASL.done ?_
      refine AWP.seqR rfl ?_
      refine ASL.q (v := vp0) rfl rfl (Light.quiet (opMove rfl rfl)) ?_
      refine ASL.q (v := (.int .i64 x5_l0)) rfl rfl (Light.quiet (opMove rfl rfl)) ?_
      refine ASL.q (v := (.int .i64 (W (x1_l0 + 1)))) rfl rfl (Light.quiet (opMove rfl rfl)) ?_
      obtain ⟨m22, hm22, hF⟩ := bindE hF
      refine ASL.q (v := (ptrTo vp0 m22 3)) rfl rfl (Light.quiet (kIxO hS (j := 0) rfl hm22 rfl rfl rfl elemA_29 sizeA_65)) ?_
      refine ASL.q (v := (ptrOff vp0 m22 3 1)) rfl rfl (Light.quiet (kFldC (p := 1) hS (j := 0) rfl hm22 rfl fieldA_65_1 rfl)) ?_
      refine ASL.n rfl rfl (hStF (f := TNode.av) (g := (fun q : TNode => { q with a := (W (x1_l0 + 1)) })) (p := 1) hS (j := 0) rfl hm22 rfl sizeA_3 rfl rfl (fun _ => ⟨_, rfl, nlt rfl, rfl⟩) rfl ?_); rintro G13 hS
      refine ASL.done ?_
      refine AWP.seqR rfl ?_
      refine ASL.q (v := (.int .i64 (W (x1_l0 + 1)))) rfl rfl (Light.quiet (opMove rfl rfl)) ?_
      refine ASL.q (v := (.int .i64 (W (((W (x1_l0 + 1))) + 1)))) rfl rfl (Light.quiet (opInt rfl rfl rfl rfl)) ?_
      refine ASL.q (v := (.int .i64 (W (((W (x1_l0 + 1))) + 1)))) rfl rfl (Light.quiet (opAssign rfl rfl)) ?_
      refine ASL.done ?_
      refine AWP.seqR rfl ?_
      refine ASL.q (v := vp0) rfl rfl (Light.quiet (opMove rfl rfl)) ?_
      refine ASL.q (v := (.int .i64 x5_l0)) rfl rfl (Light.quiet (opMove rfl rfl)) ?_
      refine ASL.q (v := (.int .i64 (W (((W (x1_l0 + 1))) + 1)))) rfl rfl (Light.quiet (opMove rfl rfl)) ?_
      obtain ⟨m29, hm29, hF⟩ := bindE hF
      refine ASL.q (v := (ptrTo vp0 m29 3)) rfl rfl (Light.quiet (kIxO hS (j := 0) rfl hm29 rfl rfl rfl elemA_29 sizeA_65)) ?_
      refine ASL.q (v := (ptrOff vp0 m29 3 2)) rfl rfl (Light.quiet (kFldC (p := 2) hS (j := 0) rfl hm29 rfl fieldA_65_2 rfl)) ?_
      refine ASL.n rfl rfl (hStF (f := TNode.av) (g := (fun q : TNode => { q with b := (W (((W (x1_l0 + 1))) + 1)) })) (p := 2) hS (j := 0) rfl hm29 rfl sizeA_3 rfl rfl (fun _ => ⟨_, rfl, nlt rfl, rfl⟩) rfl ?_); rintro G14 hS
      refine ASL.done ?_
      refine AWP.lastR rfl ?_
      refine ASL.q (v := (.int .i64 (W (((W (x1_l0 + 1))) + 1)))) rfl rfl (Light.quiet (opMove rfl rfl)) ?_
      refine ASL.q (v := (.int .i64 (W (((W (((W (x1_l0 + 1))) + 1))) + 1)))) rfl rfl (Light.quiet (opInt rfl rfl rfl rfl)) ?_
      refine ASL.q (v := (.int .i64 (W (((W (((W (x1_l0 + 1))) + 1))) + 1)))) rfl rfl (Light.quiet (opAssign rfl rfl)) ?_
      refine ASL.done ?_
      refine QBlock.nrm ?_
      refine QThen.nrm ?_
      refine AWP.lastR rfl ?_
      refine ASL.q (v := (.int .i64 x5_l0)) rfl rfl (Light.quiet (opMove rfl rfl)) ?_
      refine ASL.q (v := (.int .i64 (W (x5_l0 + 1)))) rfl rfl (Light.quiet (opInt rfl rfl rfl rfl)) ?_
      refine ASL.q (v := (.int .i64 (W (x5_l0 + 1)))) rfl rfl (Light.quiet (opAssign rfl rfl)) ?_
      refine ASL.done ?_
      refine QThen.nrm ?_
      exact ⟨((((((y4.set m15 ((fun q : TNode => { q with kind := x1_l0 }) (y4.getD m15 default)))).set m22 ((fun q : TNode => { q with a := (W (x1_l0 + 1)) }) (((y4.set m15 ((fun q : TNode => { q with kind := x1_l0 }) (y4.getD m15 default)))).getD m22 default)))).set m29 ((fun q : TNode => { q with b := (W (((W (x1_l0 + 1))) + 1)) }) (((((y4.set m15 ((fun q : TNode => { q with kind := x1_l0 }) (y4.getD m15 default)))).set m22 ((fun q : TNode => { q with a := (W (x1_l0 + 1)) }) (((y4.set m15 ((fun q : TNode => { q with kind := x1_l0 }) (y4.getD m15 default)))).getD m22 default)))).getD m29 default))), (W (((W (((W (x1_l0 + 1))) + 1))) + 1)), (W (x5_l0 + 1))), (), (someE hF).symm, ⟨rfl, rfl, rfl, trivial⟩, (hS.pick [0, 1] rfl rfl)⟩
    · skip
      refine AWP.exit ?_
      refine QThen.ext ?_
      refine QThen.ext ?_
      refine QBlock.hit ?_
      obtain rfl := (hx6 _ (someE hF).symm)
      have hF := hR9
      refine QThen.nrm ?_
      exact ⟨x1_l0, y4, ⟨rfl, trivial⟩, (hS.pick [0, 1] rfl rfl), hF⟩

set_option maxRecDepth 10000 in
theorem laws_markEdgeS_ok {p0 : (List TEdge)} {p1 : Int} {r : (Int × (List TEdge))} {vp0 : AV} (hF : laws_markEdgeS p0 p1 = some r) : HS Try.prog 98 [vp0, (.int .i64 p1)] [.row 4 vp0 (List.map TEdge.av p0)] fun v L' => v = (.int .i64 r.1) ∧ L' = [.row 4 vp0 (List.map TEdge.av r.2)] := by
  intro H S hS
  refine HC.enter Try.func98 rfl Try.ntmps98 (by simp) ?_
  simp only [List.cons_append, List.nil_append] at hS
  unfold laws_markEdgeS at hF
  refine AWP.seqR rfl ?_
  refine ASL.q (v := (.int .i64 0)) rfl rfl (Light.quiet (opAssign rfl rfl)) ?_
  refine ASL.done ?_
  refine AWP.seqM (fun e H => ∃ x1_1 : Int, ∃ y2 : (List TEdge), E.Told e [(1, (.int .i64 x1_1))] ∧ E.Sep H [.row 4 vp0 (List.map TEdge.av y2), .snap S] ∧ laws_markEdgeS.k0 x1_1 y2 = some r) ?_ ?_
  · rintro e0 G3 ⟨x1_1, y2, hT, hS, hF⟩; refine AWP.only _ hT ?_; unfold laws_markEdgeS.k0 at hF
    refine AWP.seqR rfl ?_
    refine ASL.q (v := (.int .i64 x1_1)) rfl rfl (Light.quiet (opMove rfl rfl)) ?_
    refine ASL.q (v := (.int .i64 x1_1)) rfl rfl (Light.quiet (opAssign rfl rfl)) ?_
    refine ASL.done ?_
    refine AWP.ret ?_
    obtain rfl := someE hF
    exact QRet.sole (v := (.int .i64 x1_1)) ⟨rfl, trivial⟩ ⟨_, ⟨rfl, rfl⟩, hS.pick [0, 1] rfl rfl⟩
  · skip
    refine AWP.seqR rfl ?_
    refine ASL.q (v := (.int .i64 0)) rfl rfl (Light.quiet (opAssign rfl rfl)) ?_
    refine ASL.done ?_
    refine AWP.block ?_
    obtain ⟨o8, hL7, hR9⟩ := bindE hF
    refine AWP.loopF (ω := Unit) hL7 (fun s w => [(0, vp0), (1, (.int .i64 s.2.1)), (5, (.int .i64 s.2.2))]) (fun s w => [.row 4 vp0 (List.map TEdge.av s.1), .snap S]) () ⟨rfl, rfl, rfl, trivial⟩ (hS.pick [0, 1] rfl rfl) ?_
    rintro ⟨y4, x1_l0, x5_l0⟩ _ G10 hS x5 hF hx6
    try dsimp only at hS ⊢
    have hF : laws_markEdgeS.b0 y4 x1_l0 x5_l0 = some x5 := hF; unfold laws_markEdgeS.b0 at hF
    refine AWP.seq ?_
    refine AWP.seqR rfl ?_
    refine ASL.q (v := (.int .i64 x5_l0)) rfl rfl (Light.quiet (opMove rfl rfl)) ?_
    refine ASL.q (v := vp0) rfl rfl (Light.quiet (opMove rfl rfl)) ?_
    refine ASL.q (v := (.int .i64 (y4.length : Int))) rfl rfl (Light.quiet (kLen hS (j := 0) rfl rfl rfl rfl lenT_36 rfl)) ?_
    refine ASL.q (v := (.bool (decide (x5_l0 < ((y4.length : Int)))))) rfl rfl (Light.quiet (opInt rfl rfl rfl rfl)) ?_
    refine ASL.done ?_
    refine AWP.ifP hF rfl (fun hc11 hF => ?_) (fun hc11 hF => ?_)
    · skip
      refine AWP.skip ?_
      refine QThen.nrm ?_
      refine AWP.seq ?_
      refine AWP.block ?_
      refine AWP.seqR rfl ?_
      refine ASL.q (v := vp0) rfl rfl (Light.quiet (opMove rfl rfl)) ?_
      refine ASL.q (v := (.int .i64 x5_l0)) rfl rfl (Light.quiet (opMove rfl rfl)) ?_
      refine ASL.q (v := (.int .i64 x1_l0)) rfl rfl (Light.quiet (opMove rfl rfl)) ?_
      obtain ⟨m15, hm15, hF⟩ := bindE hF
      refine ASL.q (v := (ptrTo vp0 m15 4)) rfl rfl (Light.quiet (kIxO hS (j := 0) rfl hm15 rfl rfl rfl elemA_36 sizeA_79)) ?_
      refine ASL.q (v := (ptrOff vp0 m15 4 0)) rfl rfl (Light.quiet (kFldC (p := 0) hS (j := 0) rfl hm15 rfl fieldA_79_0 rfl)) ?_
      refine ASL.n rfl rfl (hStF (f := TEdge.av) (g := (fun q : TEdge => { q with from_ := x1_l0 })) (p := 0) hS (j := 0) rfl hm15 rfl sizeA_3 rfl rfl (fun _ => ⟨_, rfl, nlt rfl, rfl⟩) rfl ?_); rintro G12 hS
      refine ASL.done ?_
      refine AWP.seqR rfl ?_
      refine ASL.q (v := (.int .i64 x1_l0)) rfl rfl (Light.quiet (opMove rfl rfl)) ?_
      refine ASL.q (v := (.int .i64 (W (x1_l0 + 1)))) rfl rfl (Light.quiet (opInt rfl rfl rfl rfl)) ?_
      refine ASL.q (v := (.int .i64 (W (x1_l0 + 1)))) rfl rfl (Light.quiet (opAssign rfl rfl)) ?_
      refine ASL.done ?_
      refine AWP.seqR rfl ?_
      refine ASL.q (v := vp0) rfl rfl (Light.quiet (opMove rfl rfl)) ?_
      refine ASL.q (v := (.int .i64 x5_l0)) rfl rfl (Light.quiet (opMove rfl rfl)) ?_
      refine ASL.q (v := (.int .i64 (W (x1_l0 + 1)))) rfl rfl (Light.quiet (opMove rfl rfl)) ?_
      obtain ⟨m22, hm22, hF⟩ := bindE hF
      refine ASL.q (v := (ptrTo vp0 m22 4)) rfl rfl (Light.quiet (kIxO hS (j := 0) rfl hm22 rfl rfl rfl elemA_36 sizeA_79)) ?_
      refine ASL.q (v := (ptrOff vp0 m22 4 1)) rfl rfl (Light.quiet (kFldC (p := 1) hS (j := 0) rfl hm22 rfl fieldA_79_1 rfl)) ?_
      refine ASL.n rfl rfl (hStF (f := TEdge.av) (g := (fun q : TEdge => { q with letter := (W (x1_l0 + 1)) })) (p := 1) hS (j := 0) rfl hm22 rfl sizeA_3 rfl rfl (fun _ => ⟨_, rfl, nlt rfl, rfl⟩) rfl ?_); rintro G13 hS
      refine ASL.done ?_
      refine AWP.seqR rfl ?_
      refine ASL.q (v := (.int .i64 (W (x1_l0 + 1)))) rfl rfl (Light.quiet (opMove rfl rfl)) ?_
      refine ASL.q (v := (.int .i64 (W (((W (x1_l0 + 1))) + 1)))) rfl rfl (Light.quiet (opInt rfl rfl rfl rfl)) ?_
      refine ASL.q (v := (.int .i64 (W (((W (x1_l0 + 1))) + 1)))) rfl rfl (Light.quiet (opAssign rfl rfl)) ?_
      refine ASL.done ?_
      refine AWP.seqR rfl ?_
      refine ASL.q (v := vp0) rfl rfl (Light.quiet (opMove rfl rfl)) ?_
      refine ASL.q (v := (.int .i64 x5_l0)) rfl rfl (Light.quiet (opMove rfl rfl)) ?_
      refine ASL.q (v := (.int .i64 (W (((W (x1_l0 + 1))) + 1)))) rfl rfl (Light.quiet (opMove rfl rfl)) ?_
      obtain ⟨m29, hm29, hF⟩ := bindE hF
      refine ASL.q (v := (ptrTo vp0 m29 4)) rfl rfl (Light.quiet (kIxO hS (j := 0) rfl hm29 rfl rfl rfl elemA_36 sizeA_79)) ?_
      refine ASL.q (v := (ptrOff vp0 m29 4 2)) rfl rfl (Light.quiet (kFldC (p := 2) hS (j := 0) rfl hm29 rfl fieldA_79_2 rfl)) ?_
      refine ASL.n rfl rfl (hStF (f := TEdge.av) (g := (fun q : TEdge => { q with to_ := (W (((W (x1_l0 + 1))) + 1)) })) (p := 2) hS (j := 0) rfl hm29 rfl sizeA_3 rfl rfl (fun _ => ⟨_, rfl, nlt rfl, rfl⟩) rfl ?_); rintro G14 hS
      refine ASL.done ?_
      refine AWP.seqR rfl ?_
      refine ASL.q (v := (.int .i64 (W (((W (x1_l0 + 1))) + 1)))) rfl rfl (Light.quiet (opMove rfl rfl)) ?_
      refine ASL.q (v := (.int .i64 (W (((W (((W (x1_l0 + 1))) + 1))) + 1)))) rfl rfl (Light.quiet (opInt rfl rfl rfl rfl)) ?_
      refine ASL.q (v := (.int .i64 (W (((W (((W (x1_l0 + 1))) + 1))) + 1)))) rfl rfl (Light.quiet (opAssign rfl rfl)) ?_
      refine ASL.done ?_
      refine AWP.seqR rfl ?_
      refine ASL.q (v := vp0) rfl rfl (Light.quiet (opMove rfl rfl)) ?_
      refine ASL.q (v := (.int .i64 x5_l0)) rfl rfl (Light.quiet (opMove rfl rfl)) ?_
      refine ASL.q (v := (.int .i64 (W (((W (((W (x1_l0 + 1))) + 1))) + 1)))) rfl rfl (Light.quiet (opMove rfl rfl)) ?_
      refine ASL.q (v := (.int .i64 (Int.tmod ((W (((W (((W (x1_l0 + 1))) + 1))) + 1))) 3))) rfl rfl (Light.quiet (opRem rfl rfl rfl (by decide) rfl)) ?_
      refine ASL.q (v := (.bool (decide (((Int.tmod ((W (((W (((W (x1_l0 + 1))) + 1))) + 1))) 3)) = 0)))) rfl rfl (Light.quiet (opInt rfl rfl rfl rfl)) ?_
      obtain ⟨m38, hm38, hF⟩ := bindE hF
      refine ASL.q (v := (ptrTo vp0 m38 4)) rfl rfl (Light.quiet (kIxO hS (j := 0) rfl hm38 rfl rfl rfl elemA_36 sizeA_79)) ?_
      refine ASL.q (v := (ptrOff vp0 m38 4 3)) rfl rfl (Light.quiet (kFldC (p := 3) hS (j := 0) rfl hm38 rfl fieldA_79_3 rfl)) ?_
      refine ASL.n rfl rfl (hStF (f := TEdge.av) (g := (fun q : TEdge => { q with good := (decide (((Int.tmod ((W (((W (((W (x1_l0 + 1))) + 1))) + 1))) 3)) = 0)) })) (p := 3) hS (j := 0) rfl hm38 rfl sizeA_4 rfl rfl (fun _ => ⟨_, rfl, nlt rfl, rfl⟩) rfl ?_); rintro G15 hS
      refine ASL.done ?_
      refine AWP.lastR rfl ?_
      refine ASL.q (v := (.int .i64 (W (((W (((W (x1_l0 + 1))) + 1))) + 1)))) rfl rfl (Light.quiet (opMove rfl rfl)) ?_
      refine ASL.q (v := (.int .i64 (W (((W (((W (((W (x1_l0 + 1))) + 1))) + 1))) + 1)))) rfl rfl (Light.quiet (opInt rfl rfl rfl rfl)) ?_
      refine ASL.q (v := (.int .i64 (W (((W (((W (((W (x1_l0 + 1))) + 1))) + 1))) + 1)))) rfl rfl (Light.quiet (opAssign rfl rfl)) ?_
      refine ASL.done ?_
      refine QBlock.nrm ?_
      refine QThen.nrm ?_
      refine AWP.lastR rfl ?_
      refine ASL.q (v := (.int .i64 x5_l0)) rfl rfl (Light.quiet (opMove rfl rfl)) ?_
      refine ASL.q (v := (.int .i64 (W (x5_l0 + 1)))) rfl rfl (Light.quiet (opInt rfl rfl rfl rfl)) ?_
      refine ASL.q (v := (.int .i64 (W (x5_l0 + 1)))) rfl rfl (Light.quiet (opAssign rfl rfl)) ?_
      refine ASL.done ?_
      refine QThen.nrm ?_
      exact ⟨((((((((y4.set m15 ((fun q : TEdge => { q with from_ := x1_l0 }) (y4.getD m15 default)))).set m22 ((fun q : TEdge => { q with letter := (W (x1_l0 + 1)) }) (((y4.set m15 ((fun q : TEdge => { q with from_ := x1_l0 }) (y4.getD m15 default)))).getD m22 default)))).set m29 ((fun q : TEdge => { q with to_ := (W (((W (x1_l0 + 1))) + 1)) }) (((((y4.set m15 ((fun q : TEdge => { q with from_ := x1_l0 }) (y4.getD m15 default)))).set m22 ((fun q : TEdge => { q with letter := (W (x1_l0 + 1)) }) (((y4.set m15 ((fun q : TEdge => { q with from_ := x1_l0 }) (y4.getD m15 default)))).getD m22 default)))).getD m29 default)))).set m38 ((fun q : TEdge => { q with good := (decide (((Int.tmod ((W (((W (((W (x1_l0 + 1))) + 1))) + 1))) 3)) = 0)) }) (((((((y4.set m15 ((fun q : TEdge => { q with from_ := x1_l0 }) (y4.getD m15 default)))).set m22 ((fun q : TEdge => { q with letter := (W (x1_l0 + 1)) }) (((y4.set m15 ((fun q : TEdge => { q with from_ := x1_l0 }) (y4.getD m15 default)))).getD m22 default)))).set m29 ((fun q : TEdge => { q with to_ := (W (((W (x1_l0 + 1))) + 1)) }) (((((y4.set m15 ((fun q : TEdge => { q with from_ := x1_l0 }) (y4.getD m15 default)))).set m22 ((fun q : TEdge => { q with letter := (W (x1_l0 + 1)) }) (((y4.set m15 ((fun q : TEdge => { q with from_ := x1_l0 }) (y4.getD m15 default)))).getD m22 default)))).getD m29 default)))).getD m38 default))), (W (((W (((W (((W (x1_l0 + 1))) + 1))) + 1))) + 1)), (W (x5_l0 + 1))), (), (someE hF).symm, ⟨rfl, rfl, rfl, trivial⟩, (hS.pick [0, 1] rfl rfl)⟩
    · skip
      refine AWP.exit ?_
      refine QThen.ext ?_
      refine QThen.ext ?_
      refine QBlock.hit ?_
      obtain rfl := (hx6 _ (someE hF).symm)
      have hF := hR9
      refine QThen.nrm ?_
      exact ⟨x1_l0, y4, ⟨rfl, trivial⟩, (hS.pick [0, 1] rfl rfl), hF⟩

set_option maxRecDepth 10000 in
theorem laws_markAuto_ok {p0 : TAuto} {p1 : Int} {r : (Int × TAuto)} {vp0_Edges : AV} (hF : laws_markAuto p0 p1 = some r) : HS Try.prog 58 [(.agg [(.int .i64 p0.letters), (.int .i64 p0.states), (.int .i64 p0.start), vp0_Edges]), (.int .i64 p1)] [.row 4 vp0_Edges (List.map TEdge.av p0.edges)] fun v L' => v = (.int .i64 r.1) ∧ L' = [.row 4 vp0_Edges (List.map TEdge.av r.2.edges)] := by
  intro H S hS
  refine HC.enter Try.func58 rfl Try.ntmps58 (by simp) ?_
  simp only [List.cons_append, List.nil_append] at hS
  unfold laws_markAuto at hF
  refine AWP.seqR rfl ?_
  refine ASL.x rfl rfl (hBox hS rfl rfl rfl ?_); rintro b2 G2 hK hS
  refine ASL.q (v := (.int .i64 0)) rfl rfl (Light.quiet (opAssign rfl rfl)) ?_
  refine ASL.done ?_
  refine AWP.seqR rfl ?_
  refine ASL.q (v := (.ptr b2 3)) rfl rfl (Light.quiet (opFieldAddr rfl fieldA_38_3 rfl rfl)) ?_
  refine ASL.q (v := vp0_Edges) rfl rfl (Light.quiet (kAt hS (j := 0) rfl rfl aggA_36 rfl rfl)) ?_
  refine ASL.q (v := (.int .i64 p1)) rfl rfl (Light.quiet (opMove rfl rfl)) ?_
  obtain ⟨a8, ha8, hF⟩ := bindE hF
  refine ASL.x rfl rfl (hCallS hS [1, 0, 2] (F := [.cell b2 [(.int .i64 p0.letters), (.int .i64 p0.states), (.int .i64 p0.start), vp0_Edges], .snap S]) rfl rfl rfl call_98 (laws_markEdgeS_ok ha8) rfl rfl ?_); rintro _ _ G4 ⟨rfl, rfl⟩ hS
  refine ASL.q (v := (.int .i64 a8.1)) rfl rfl (Light.quiet (opAssign rfl rfl)) ?_
  refine ASL.done ?_
  refine AWP.seqR rfl ?_
  refine ASL.q (v := (.int .i64 a8.1)) rfl rfl (Light.quiet (opMove rfl rfl)) ?_
  refine ASL.q (v := (.int .i64 a8.1)) rfl rfl (Light.quiet (opAssign rfl rfl)) ?_
  refine ASL.done ?_
  refine AWP.ret ?_
  obtain rfl := someE hF
  exact QRet.sole (v := (.int .i64 a8.1)) ⟨rfl, trivial⟩ ⟨_, ⟨rfl, rfl⟩, hS.pick [0, 2] rfl rfl⟩

set_option maxRecDepth 10000 in
theorem laws_markNfa_ok {p0 : TNfa} {p1 : Int} {r : (Int × TNfa)} {vp0_Auto_Edges : AV} (hF : laws_markNfa p0 p1 = some r) : HS Try.prog 18 [(.agg [(.int .i64 p0.auto.letters), (.int .i64 p0.auto.states), (.int .i64 p0.auto.start), vp0_Auto_Edges, (.int .i64 p0.final)]), (.int .i64 p1)] [.row 4 vp0_Auto_Edges (List.map TEdge.av p0.auto.edges)] fun v L' => v = (.int .i64 r.1) ∧ L' = [.row 4 vp0_Auto_Edges (List.map TEdge.av r.2.auto.edges)] := by
  intro H S hS
  refine HC.enter Try.func18 rfl Try.ntmps18 (by simp) ?_
  simp only [List.cons_append, List.nil_append] at hS
  unfold laws_markNfa at hF
  refine AWP.seqR rfl ?_
  refine ASL.x rfl rfl (hBox hS rfl rfl rfl ?_); rintro b2 G2 hK hS
  refine ASL.q (v := (.int .i64 0)) rfl rfl (Light.quiet (opAssign rfl rfl)) ?_
  refine ASL.done ?_
  refine AWP.seqR rfl ?_
  refine ASL.q (v := (.ptr b2 0)) rfl rfl (Light.quiet (opFieldAddr rfl fieldA_40_0 rfl rfl)) ?_
  refine ASL.q (v := (.agg [(.int .i64 p0.auto.letters), (.int .i64 p0.auto.states), (.int .i64 p0.auto.start), vp0_Auto_Edges])) rfl rfl (Light.quiet (kAtA hS (j := 0) rfl rfl aggA_38 sizeA_38 rfl (nlt rfl) rfl)) ?_
  refine ASL.q (v := (.int .i64 p1)) rfl rfl (Light.quiet (opMove rfl rfl)) ?_
  obtain ⟨a8, ha8, hF⟩ := bindE hF
  refine ASL.x rfl rfl (hCallS hS [1, 0, 2] (F := [.cell b2 [(.int .i64 p0.auto.letters), (.int .i64 p0.auto.states), (.int .i64 p0.auto.start), vp0_Auto_Edges, (.int .i64 p0.final)], .snap S]) rfl rfl rfl call_58 (laws_markAuto_ok ha8) rfl rfl ?_); rintro _ _ G4 ⟨rfl, rfl⟩ hS
  refine ASL.q (v := (.int .i64 a8.1)) rfl rfl (Light.quiet (opAssign rfl rfl)) ?_
  refine ASL.done ?_
  refine AWP.seqR rfl ?_
  refine ASL.q (v := (.int .i64 a8.1)) rfl rfl (Light.quiet (opMove rfl rfl)) ?_
  refine ASL.q (v := (.int .i64 a8.1)) rfl rfl (Light.quiet (opAssign rfl rfl)) ?_
  refine ASL.done ?_
  refine AWP.ret ?_
  obtain rfl := someE hF
  exact QRet.sole (v := (.int .i64 a8.1)) ⟨rfl, trivial⟩ ⟨_, ⟨rfl, rfl⟩, hS.pick [0, 2] rfl rfl⟩

set_option maxRecDepth 10000 in
theorem laws_heldEdgeS_ok {p0 : (List TEdge)} {p1 : Int} {r : Int} (hF : laws_heldEdgeS p0 p1 = some r) : PC Try.prog 99 [(.list 4 (List.map TEdge.av p0)), (.int .i64 p1)] fun v => v = (.int .i64 r) := by
  refine PC.enter Try.func99 rfl Try.ntmps99 (by simp) ?_
  have hS := Sep.void; unfold laws_heldEdgeS at hF
  refine AWP.seqR rfl ?_
  refine ASL.q (v := (.int .i64 0)) rfl rfl (Light.quiet (opAssign rfl rfl)) ?_
  refine ASL.done ?_
  refine AWP.seqM (fun e H => ∃ x1_1 : Int, E.Told e [(1, (.int .i64 x1_1))] ∧ E.Sep H [] ∧ laws_heldEdgeS.k0 x1_1 = some r) ?_ ?_
  · rintro e0 G1 ⟨x1_1, hT, hS, hF⟩; refine AWP.only _ hT ?_; unfold laws_heldEdgeS.k0 at hF
    refine AWP.seqR rfl ?_
    refine ASL.q (v := (.int .i64 x1_1)) rfl rfl (Light.quiet (opMove rfl rfl)) ?_
    refine ASL.q (v := (.int .i64 x1_1)) rfl rfl (Light.quiet (opAssign rfl rfl)) ?_
    refine ASL.done ?_
    refine AWP.ret ?_
    obtain rfl := someE hF
    exact QRet.sole (v := (.int .i64 x1_1)) ⟨rfl, trivial⟩ rfl
  · skip
    refine AWP.seqR rfl ?_
    refine ASL.q (v := (.int .i64 0)) rfl rfl (Light.quiet (opAssign rfl rfl)) ?_
    refine ASL.done ?_
    refine AWP.block ?_
    obtain ⟨o5, hL4, hR6⟩ := bindE hF
    refine AWP.loopF (ω := Unit) hL4 (fun s w => [(0, (.list 4 (List.map TEdge.av p0))), (1, (.int .i64 s.1)), (5, (.int .i64 s.2))]) (fun s w => []) () ⟨rfl, rfl, rfl, trivial⟩ (hS.pick [] rfl rfl) ?_
    rintro ⟨x1_l0, x5_l0⟩ _ G7 hS x2 hF hx3
    try dsimp only at hS ⊢
    have hF : laws_heldEdgeS.b0 p0 x1_l0 x5_l0 = some x2 := hF; unfold laws_heldEdgeS.b0 at hF
    refine AWP.seq ?_
    refine AWP.seqR rfl ?_
    refine ASL.q (v := (.int .i64 x5_l0)) rfl rfl (Light.quiet (opMove rfl rfl)) ?_
    refine ASL.q (v := (.list 4 (List.map TEdge.av p0))) rfl rfl (Light.quiet (opMove rfl rfl)) ?_
    refine ASL.q (v := (.int .i64 (p0.length : Int))) rfl rfl (Light.quiet (opLenMap (f := TEdge.av) rfl rfl rfl lenT_36 rfl)) ?_
    refine ASL.q (v := (.bool (decide (x5_l0 < ((p0.length : Int)))))) rfl rfl (Light.quiet (opInt rfl rfl rfl rfl)) ?_
    refine ASL.done ?_
    refine AWP.ifP hF rfl (fun hc8 hF => ?_) (fun hc8 hF => ?_)
    · skip
      refine AWP.skip ?_
      refine QThen.nrm ?_
      refine AWP.seq ?_
      refine AWP.block ?_
      refine AWP.seq ?_
      refine AWP.seqR rfl ?_
      refine ASL.q (v := (.list 4 (List.map TEdge.av p0))) rfl rfl (Light.quiet (opMove rfl rfl)) ?_
      refine ASL.q (v := (.int .i64 x5_l0)) rfl rfl (Light.quiet (opMove rfl rfl)) ?_
      obtain ⟨a14, ha14, hF⟩ := bindE hF
      refine ASL.q (v := (.rptr [(.int .i64 a14.from_), (.int .i64 a14.letter), (.int .i64 a14.to_), (.bool a14.good)])) rfl rfl (Light.quiet (kIx (f := TEdge.av) ha14 rfl rfl rfl elemA_36 sizeA_79 rfl)) ?_
      refine ASL.q (v := (.rptr [(.int .i64 a14.from_), (.int .i64 a14.letter), (.int .i64 a14.to_), (.bool a14.good)])) rfl rfl (Light.quiet (opFieldAddrR rfl fieldA_79_0 rfl rfl)) ?_
      refine ASL.q (v := (.int .i64 a14.from_)) rfl rfl (Light.quiet (opLoadR rfl aggA_3 rfl rfl)) ?_
      refine ASL.q (v := (.int .i64 x1_l0)) rfl rfl (Light.quiet (opMove rfl rfl)) ?_
      refine ASL.q (v := (.bool (decide (a14.from_ ≠ x1_l0)))) rfl rfl (Light.quiet (opInt rfl rfl rfl rfl)) ?_
      refine ASL.done ?_
      refine AWP.ifP hF rfl (fun hc9 hF => ?_) (fun hc9 hF => ?_)
      · skip
        refine AWP.seqR rfl ?_
        refine ASL.q (v := (.int .i64 (-1))) rfl rfl (Light.quiet (opAssign rfl rfl)) ?_
        refine ASL.done ?_
        refine AWP.ret ?_
        refine QThen.rt ?_
        refine QBlock.ret ?_
        refine QThen.rt ?_
        refine QThen.rt ?_
        refine QBlock.ret ?_
        refine QThen.rt ?_
        obtain rfl := (hx3 _ (someE hF).symm)
        have hF := hR6
        have hF := sumR hF
        obtain rfl := someE hF
        exact QRet.sole (v := (.int .i64 (-1))) ⟨rfl, trivial⟩ rfl
      · skip
        refine AWP.skip ?_
        refine QThen.nrm ?_
        refine AWP.seqR rfl ?_
        refine ASL.q (v := (.int .i64 x1_l0)) rfl rfl (Light.quiet (opMove rfl rfl)) ?_
        refine ASL.q (v := (.int .i64 (W (x1_l0 + 1)))) rfl rfl (Light.quiet (opInt rfl rfl rfl rfl)) ?_
        refine ASL.q (v := (.int .i64 (W (x1_l0 + 1)))) rfl rfl (Light.quiet (opAssign rfl rfl)) ?_
        refine ASL.done ?_
        refine AWP.seq ?_
        refine AWP.seqR rfl ?_
        refine ASL.q (v := (.list 4 (List.map TEdge.av p0))) rfl rfl (Light.quiet (opMove rfl rfl)) ?_
        refine ASL.q (v := (.int .i64 x5_l0)) rfl rfl (Light.quiet (opMove rfl rfl)) ?_
        obtain ⟨a23, ha23, hF⟩ := bindE hF
        refine ASL.q (v := (.rptr [(.int .i64 a23.from_), (.int .i64 a23.letter), (.int .i64 a23.to_), (.bool a23.good)])) rfl rfl (Light.quiet (kIx (f := TEdge.av) ha23 rfl rfl rfl elemA_36 sizeA_79 rfl)) ?_
        refine ASL.q (v := (.rptr [(.int .i64 a23.letter), (.int .i64 a23.to_), (.bool a23.good)])) rfl rfl (Light.quiet (opFieldAddrR rfl fieldA_79_1 rfl rfl)) ?_
        refine ASL.q (v := (.int .i64 a23.letter)) rfl rfl (Light.quiet (opLoadR rfl aggA_3 rfl rfl)) ?_
        refine ASL.q (v := (.int .i64 (W (x1_l0 + 1)))) rfl rfl (Light.quiet (opMove rfl rfl)) ?_
        refine ASL.q (v := (.bool (decide (a23.letter ≠ ((W (x1_l0 + 1))))))) rfl rfl (Light.quiet (opInt rfl rfl rfl rfl)) ?_
        refine ASL.done ?_
        refine AWP.ifP hF rfl (fun hc10 hF => ?_) (fun hc10 hF => ?_)
        · skip
          refine AWP.seqR rfl ?_
          refine ASL.q (v := (.int .i64 (-1))) rfl rfl (Light.quiet (opAssign rfl rfl)) ?_
          refine ASL.done ?_
          refine AWP.ret ?_
          refine QThen.rt ?_
          refine QBlock.ret ?_
          refine QThen.rt ?_
          refine QThen.rt ?_
          refine QBlock.ret ?_
          refine QThen.rt ?_
          obtain rfl := (hx3 _ (someE hF).symm)
          have hF := hR6
          have hF := sumR hF
          obtain rfl := someE hF
          exact QRet.sole (v := (.int .i64 (-1))) ⟨rfl, trivial⟩ rfl
        · skip
          refine AWP.skip ?_
          refine QThen.nrm ?_
          refine AWP.seqR rfl ?_
          refine ASL.q (v := (.int .i64 (W (x1_l0 + 1)))) rfl rfl (Light.quiet (opMove rfl rfl)) ?_
          refine ASL.q (v := (.int .i64 (W (((W (x1_l0 + 1))) + 1)))) rfl rfl (Light.quiet (opInt rfl rfl rfl rfl)) ?_
          refine ASL.q (v := (.int .i64 (W (((W (x1_l0 + 1))) + 1)))) rfl rfl (Light.quiet (opAssign rfl rfl)) ?_
          refine ASL.done ?_
          refine AWP.seq ?_
          refine AWP.seqR rfl ?_
          refine ASL.q (v := (.list 4 (List.map TEdge.av p0))) rfl rfl (Light.quiet (opMove rfl rfl)) ?_
          refine ASL.q (v := (.int .i64 x5_l0)) rfl rfl (Light.quiet (opMove rfl rfl)) ?_
          obtain ⟨a32, ha32, hF⟩ := bindE hF
          refine ASL.q (v := (.rptr [(.int .i64 a32.from_), (.int .i64 a32.letter), (.int .i64 a32.to_), (.bool a32.good)])) rfl rfl (Light.quiet (kIx (f := TEdge.av) ha32 rfl rfl rfl elemA_36 sizeA_79 rfl)) ?_
          refine ASL.q (v := (.rptr [(.int .i64 a32.to_), (.bool a32.good)])) rfl rfl (Light.quiet (opFieldAddrR rfl fieldA_79_2 rfl rfl)) ?_
          refine ASL.q (v := (.int .i64 a32.to_)) rfl rfl (Light.quiet (opLoadR rfl aggA_3 rfl rfl)) ?_
          refine ASL.q (v := (.int .i64 (W (((W (x1_l0 + 1))) + 1)))) rfl rfl (Light.quiet (opMove rfl rfl)) ?_
          refine ASL.q (v := (.bool (decide (a32.to_ ≠ ((W (((W (x1_l0 + 1))) + 1))))))) rfl rfl (Light.quiet (opInt rfl rfl rfl rfl)) ?_
          refine ASL.done ?_
          refine AWP.ifP hF rfl (fun hc11 hF => ?_) (fun hc11 hF => ?_)
          · skip
            refine AWP.seqR rfl ?_
            refine ASL.q (v := (.int .i64 (-1))) rfl rfl (Light.quiet (opAssign rfl rfl)) ?_
            refine ASL.done ?_
            refine AWP.ret ?_
            refine QThen.rt ?_
            refine QBlock.ret ?_
            refine QThen.rt ?_
            refine QThen.rt ?_
            refine QBlock.ret ?_
            refine QThen.rt ?_
            obtain rfl := (hx3 _ (someE hF).symm)
            have hF := hR6
            have hF := sumR hF
            obtain rfl := someE hF
            exact QRet.sole (v := (.int .i64 (-1))) ⟨rfl, trivial⟩ rfl
          · skip
            refine AWP.skip ?_
            refine QThen.nrm ?_
            refine AWP.seqR rfl ?_
            refine ASL.q (v := (.int .i64 (W (((W (x1_l0 + 1))) + 1)))) rfl rfl (Light.quiet (opMove rfl rfl)) ?_
            refine ASL.q (v := (.int .i64 (W (((W (((W (x1_l0 + 1))) + 1))) + 1)))) rfl rfl (Light.quiet (opInt rfl rfl rfl rfl)) ?_
            refine ASL.q (v := (.int .i64 (W (((W (((W (x1_l0 + 1))) + 1))) + 1)))) rfl rfl (Light.quiet (opAssign rfl rfl)) ?_
            refine ASL.done ?_
            refine AWP.seq ?_
            refine AWP.seqR rfl ?_
            refine ASL.q (v := (.list 4 (List.map TEdge.av p0))) rfl rfl (Light.quiet (opMove rfl rfl)) ?_
            refine ASL.q (v := (.int .i64 x5_l0)) rfl rfl (Light.quiet (opMove rfl rfl)) ?_
            obtain ⟨a41, ha41, hF⟩ := bindE hF
            refine ASL.q (v := (.rptr [(.int .i64 a41.from_), (.int .i64 a41.letter), (.int .i64 a41.to_), (.bool a41.good)])) rfl rfl (Light.quiet (kIx (f := TEdge.av) ha41 rfl rfl rfl elemA_36 sizeA_79 rfl)) ?_
            refine ASL.q (v := (.rptr [(.bool a41.good)])) rfl rfl (Light.quiet (opFieldAddrR rfl fieldA_79_3 rfl rfl)) ?_
            refine ASL.q (v := (.bool a41.good)) rfl rfl (Light.quiet (opLoadR rfl aggA_4 rfl rfl)) ?_
            refine ASL.q (v := (.int .i64 (W (((W (((W (x1_l0 + 1))) + 1))) + 1)))) rfl rfl (Light.quiet (opMove rfl rfl)) ?_
            refine ASL.q (v := (.int .i64 (Int.tmod ((W (((W (((W (x1_l0 + 1))) + 1))) + 1))) 3))) rfl rfl (Light.quiet (opRem rfl rfl rfl (by decide) rfl)) ?_
            refine ASL.q (v := (.bool (decide (((Int.tmod ((W (((W (((W (x1_l0 + 1))) + 1))) + 1))) 3)) = 0)))) rfl rfl (Light.quiet (opInt rfl rfl rfl rfl)) ?_
            refine ASL.q (v := (.bool (!(a41.good == (decide (((Int.tmod ((W (((W (((W (x1_l0 + 1))) + 1))) + 1))) 3)) = 0)))))) rfl rfl (Light.quiet (opBoolEq rfl rfl rfl und_4 rfl)) ?_
            refine ASL.done ?_
            refine AWP.ifB hF rfl (fun hc12 hF => ?_) (fun hc12 hF => ?_)
            · skip
              refine AWP.seqR rfl ?_
              refine ASL.q (v := (.int .i64 (-1))) rfl rfl (Light.quiet (opAssign rfl rfl)) ?_
              refine ASL.done ?_
              refine AWP.ret ?_
              refine QThen.rt ?_
              refine QBlock.ret ?_
              refine QThen.rt ?_
              refine QThen.rt ?_
              refine QBlock.ret ?_
              refine QThen.rt ?_
              obtain rfl := (hx3 _ (someE hF).symm)
              have hF := hR6
              have hF := sumR hF
              obtain rfl := someE hF
              exact QRet.sole (v := (.int .i64 (-1))) ⟨rfl, trivial⟩ rfl
            · skip
              refine AWP.skip ?_
              refine QThen.nrm ?_
              refine AWP.lastR rfl ?_
              refine ASL.q (v := (.int .i64 (W (((W (((W (x1_l0 + 1))) + 1))) + 1)))) rfl rfl (Light.quiet (opMove rfl rfl)) ?_
              refine ASL.q (v := (.int .i64 (W (((W (((W (((W (x1_l0 + 1))) + 1))) + 1))) + 1)))) rfl rfl (Light.quiet (opInt rfl rfl rfl rfl)) ?_
              refine ASL.q (v := (.int .i64 (W (((W (((W (((W (x1_l0 + 1))) + 1))) + 1))) + 1)))) rfl rfl (Light.quiet (opAssign rfl rfl)) ?_
              refine ASL.done ?_
              refine QBlock.nrm ?_
              refine QThen.nrm ?_
              refine AWP.lastR rfl ?_
              refine ASL.q (v := (.int .i64 x5_l0)) rfl rfl (Light.quiet (opMove rfl rfl)) ?_
              refine ASL.q (v := (.int .i64 (W (x5_l0 + 1)))) rfl rfl (Light.quiet (opInt rfl rfl rfl rfl)) ?_
              refine ASL.q (v := (.int .i64 (W (x5_l0 + 1)))) rfl rfl (Light.quiet (opAssign rfl rfl)) ?_
              refine ASL.done ?_
              refine QThen.nrm ?_
              exact ⟨((W (((W (((W (((W (x1_l0 + 1))) + 1))) + 1))) + 1)), (W (x5_l0 + 1))), (), (someE hF).symm, ⟨rfl, rfl, rfl, trivial⟩, (hS.pick [] rfl rfl)⟩
    · skip
      refine AWP.exit ?_
      refine QThen.ext ?_
      refine QThen.ext ?_
      refine QBlock.hit ?_
      obtain rfl := (hx3 _ (someE hF).symm)
      have hF := hR6
      have hF := sumL hF
      refine QThen.nrm ?_
      exact ⟨x1_l0, ⟨rfl, trivial⟩, (hS.pick [] rfl rfl), hF⟩

set_option maxRecDepth 10000 in
theorem laws_heldAuto_ok {p0 : TAuto} {p1 : Int} {r : Int} (hF : laws_heldAuto p0 p1 = some r) : PC Try.prog 59 [(TAuto.av p0), (.int .i64 p1)] fun v => v = (.int .i64 r) := by
  refine PC.enter Try.func59 rfl Try.ntmps59 (by simp) ?_
  have hS := Sep.void; unfold laws_heldAuto at hF
  refine AWP.seqR rfl ?_
  refine ASL.q (v := (.rptr [(.int .i64 p0.letters), (.int .i64 p0.states), (.int .i64 p0.start), (.list 4 (List.map TEdge.av p0.edges))])) rfl rfl ((qBoxI (v := (TAuto.av p0)) rfl rfl rfl rfl)) ?_
  refine ASL.q (v := (.int .i64 0)) rfl rfl (Light.quiet (opAssign rfl rfl)) ?_
  refine ASL.done ?_
  refine AWP.seqR rfl ?_
  refine ASL.q (v := (.rptr [(.list 4 (List.map TEdge.av p0.edges))])) rfl rfl (Light.quiet (opFieldAddrR rfl fieldA_38_3 rfl rfl)) ?_
  refine ASL.q (v := (.list 4 (List.map TEdge.av p0.edges))) rfl rfl (Light.quiet (opLoadR rfl aggA_36 rfl rfl)) ?_
  refine ASL.q (v := (.int .i64 p1)) rfl rfl (Light.quiet (opMove rfl rfl)) ?_
  obtain ⟨a8, ha8, hF⟩ := bindE hF
  refine ASL.q (v := (.int .i64 a8)) rfl rfl ((qCall rfl rfl call_99 (laws_heldEdgeS_ok ha8) rfl)) ?_
  refine ASL.q (v := (.int .i64 a8)) rfl rfl (Light.quiet (opAssign rfl rfl)) ?_
  refine ASL.done ?_
  refine AWP.seq ?_
  refine AWP.seqR rfl ?_
  refine ASL.q (v := (.int .i64 a8)) rfl rfl (Light.quiet (opMove rfl rfl)) ?_
  refine ASL.q (v := (.bool (decide (a8 < 0)))) rfl rfl (Light.quiet (opInt rfl rfl rfl rfl)) ?_
  refine ASL.done ?_
  refine AWP.ifP hF rfl (fun hc1 hF => ?_) (fun hc1 hF => ?_)
  · skip
    refine AWP.seqR rfl ?_
    refine ASL.q (v := (.int .i64 (-1))) rfl rfl (Light.quiet (opAssign rfl rfl)) ?_
    refine ASL.done ?_
    refine AWP.ret ?_
    refine QThen.rt ?_
    obtain rfl := someE hF
    exact QRet.sole (v := (.int .i64 (-1))) ⟨rfl, trivial⟩ rfl
  · skip
    refine AWP.skip ?_
    refine QThen.nrm ?_
    refine AWP.seqR rfl ?_
    refine ASL.q (v := (.int .i64 a8)) rfl rfl (Light.quiet (opMove rfl rfl)) ?_
    refine ASL.q (v := (.int .i64 a8)) rfl rfl (Light.quiet (opAssign rfl rfl)) ?_
    refine ASL.done ?_
    refine AWP.ret ?_
    obtain rfl := someE hF
    exact QRet.sole (v := (.int .i64 a8)) ⟨rfl, trivial⟩ rfl

set_option maxRecDepth 10000 in
theorem laws_heldNfa_ok {p0 : TNfa} {p1 : Int} {r : Int} (hF : laws_heldNfa p0 p1 = some r) : PC Try.prog 19 [(TNfa.av p0), (.int .i64 p1)] fun v => v = (.int .i64 r) := by
  refine PC.enter Try.func19 rfl Try.ntmps19 (by simp) ?_
  have hS := Sep.void; unfold laws_heldNfa at hF
  refine AWP.seqR rfl ?_
  refine ASL.q (v := (.rptr [(.int .i64 p0.auto.letters), (.int .i64 p0.auto.states), (.int .i64 p0.auto.start), (.list 4 (List.map TEdge.av p0.auto.edges)), (.int .i64 p0.final)])) rfl rfl ((qBoxI (v := (TNfa.av p0)) rfl rfl rfl rfl)) ?_
  refine ASL.q (v := (.int .i64 0)) rfl rfl (Light.quiet (opAssign rfl rfl)) ?_
  refine ASL.done ?_
  refine AWP.seqR rfl ?_
  refine ASL.q (v := (.rptr [(.int .i64 p0.auto.letters), (.int .i64 p0.auto.states), (.int .i64 p0.auto.start), (.list 4 (List.map TEdge.av p0.auto.edges)), (.int .i64 p0.final)])) rfl rfl (Light.quiet (opFieldAddrR rfl fieldA_40_0 rfl rfl)) ?_
  refine ASL.q (v := (TAuto.av p0.auto)) rfl rfl (Light.quiet (opLoadRA rfl aggA_38 sizeA_38 rfl (nlt rfl) rfl)) ?_
  refine ASL.q (v := (.int .i64 p1)) rfl rfl (Light.quiet (opMove rfl rfl)) ?_
  obtain ⟨a8, ha8, hF⟩ := bindE hF
  refine ASL.q (v := (.int .i64 a8)) rfl rfl ((qCall rfl rfl call_59 (laws_heldAuto_ok ha8) rfl)) ?_
  refine ASL.q (v := (.int .i64 a8)) rfl rfl (Light.quiet (opAssign rfl rfl)) ?_
  refine ASL.done ?_
  refine AWP.seq ?_
  refine AWP.seqR rfl ?_
  refine ASL.q (v := (.int .i64 a8)) rfl rfl (Light.quiet (opMove rfl rfl)) ?_
  refine ASL.q (v := (.bool (decide (a8 < 0)))) rfl rfl (Light.quiet (opInt rfl rfl rfl rfl)) ?_
  refine ASL.done ?_
  refine AWP.ifP hF rfl (fun hc1 hF => ?_) (fun hc1 hF => ?_)
  · skip
    refine AWP.seqR rfl ?_
    refine ASL.q (v := (.int .i64 (-1))) rfl rfl (Light.quiet (opAssign rfl rfl)) ?_
    refine ASL.done ?_
    refine AWP.ret ?_
    refine QThen.rt ?_
    obtain rfl := someE hF
    exact QRet.sole (v := (.int .i64 (-1))) ⟨rfl, trivial⟩ rfl
  · skip
    refine AWP.skip ?_
    refine QThen.nrm ?_
    refine AWP.seqR rfl ?_
    refine ASL.q (v := (.int .i64 a8)) rfl rfl (Light.quiet (opMove rfl rfl)) ?_
    refine ASL.q (v := (.int .i64 a8)) rfl rfl (Light.quiet (opAssign rfl rfl)) ?_
    refine ASL.done ?_
    refine AWP.ret ?_
    obtain rfl := someE hF
    exact QRet.sole (v := (.int .i64 a8)) ⟨rfl, trivial⟩ rfl

set_option maxRecDepth 10000 in
theorem laws_FnExactReNfa_ok {K : Nat} {p0 : (List TNode)} {p1 : Int} {r : Bool} (hF : laws_FnExactReNfa K p0 p1 = some r) : PC Try.prog 4 [(.list 3 (List.map TNode.av p0)), (.int .i64 p1)] fun v => v = (.bool r) := by
  refine PC.enter Try.func4 rfl Try.ntmps4 (by simp) ?_
  have hS := Sep.void; unfold laws_FnExactReNfa at hF
  refine AWP.seqR rfl ?_
  refine ASL.q (v := (.bool false)) rfl rfl (Light.quiet (opAssign rfl rfl)) ?_
  refine ASL.done ?_
  refine AWP.seqR rfl ?_
  refine ASL.q (v := (.int .i64 1048576)) rfl rfl (Light.quiet (opAssign rfl rfl)) ?_
  refine ASL.done ?_
  refine AWP.seqR rfl ?_
  refine ASL.q (v := (.list 3 (List.map TNode.av p0))) rfl rfl (Light.quiet (opMove rfl rfl)) ?_
  refine ASL.q (v := (.int .i64 1048576)) rfl rfl (Light.quiet (opMove rfl rfl)) ?_
  refine ASL.q (v := (.int .i64 (laws_szNodeS p0 1048576))) rfl rfl ((qCall rfl rfl call_6 (laws_szNodeS_ok p0 1048576) rfl)) ?_
  refine ASL.q (v := (.int .i64 (laws_szNodeS p0 1048576))) rfl rfl (Light.quiet (opAssign rfl rfl)) ?_
  refine ASL.done ?_
  refine AWP.seq ?_
  refine AWP.seqR rfl ?_
  refine ASL.q (v := (.int .i64 (laws_szNodeS p0 1048576))) rfl rfl (Light.quiet (opMove rfl rfl)) ?_
  refine ASL.q (v := (.bool (decide (((laws_szNodeS p0 1048576)) < 0)))) rfl rfl (Light.quiet (opInt rfl rfl rfl rfl)) ?_
  refine ASL.done ?_
  refine AWP.ifP hF rfl (fun hc1 hF => ?_) (fun hc1 hF => ?_)
  · skip
    refine AWP.seqR rfl ?_
    refine ASL.q (v := (.bool true)) rfl rfl (Light.quiet (opAssign rfl rfl)) ?_
    refine ASL.done ?_
    refine AWP.ret ?_
    refine QThen.rt ?_
    obtain rfl := someE hF
    exact QRet.sole (v := (.bool true)) ⟨rfl, trivial⟩ rfl
  · skip
    refine AWP.skip ?_
    refine QThen.nrm ?_
    refine AWP.seqR rfl ?_
    refine ASL.q (v := (.list 3 (List.map TNode.av p0))) rfl rfl (Light.quiet (opMove rfl rfl)) ?_
    obtain ⟨a23, ha23, hF⟩ := bindE hF
    refine ASL.q (v := (.list 3 (List.map TNode.av a23))) rfl rfl ((qCall rfl rfl call_8 (PO.list (laws_toNodeS_ok ha23)) rfl)) ?_
    refine ASL.q (v := (.int .i64 p1)) rfl rfl (Light.quiet (opMove rfl rfl)) ?_
    obtain ⟨a25, ha25, hF⟩ := bindE hF
    refine ASL.q (v := (.tup [(TNfa.av a25.1), (.bool a25.2)])) rfl rfl ((qCall rfl rfl call_15 (spec_ReNfa_ok ha25) rfl)) ?_
    refine ASL.q (v := (.tup [(TNfa.av a25.1), (.bool a25.2)])) rfl rfl (Light.quiet (opMove rfl rfl)) ?_
    refine ASL.q (v := (TNfa.av a25.1)) rfl rfl (Light.quiet (opExtract rfl rfl rfl)) ?_
    refine ASL.q (v := (.bool a25.2)) rfl rfl (Light.quiet (opExtract rfl rfl rfl)) ?_
    refine ASL.x rfl rfl (hNewZ hS [(.int .i64 0), (.int .i64 0), (.int .i64 0), (.list 4 (List.map TEdge.av [])), (.int .i64 0)] rfl zeroA_40 ⟨.inl rfl, .inl rfl, .inl rfl, .inr ⟨_, rfl, rfl⟩, .inl rfl, trivial⟩ ?_); rintro b6 G2 hK hS
    refine ASL.n rfl rfl (hPutA hS (j := 0) rfl rfl sizeA_40 rfl rfl rfl rfl rfl (nlt rfl) ?_); rintro G4 hS
    refine ASL.q (v := (.bool a25.2)) rfl rfl (Light.quiet (opAssign rfl rfl)) ?_
    refine ASL.done ?_
    refine AWP.seqR rfl ?_
    refine ASL.q (v := (.list 3 (List.map TNode.av p0))) rfl rfl (Light.quiet (opMove rfl rfl)) ?_
    obtain ⟨a29, ha29, hF⟩ := bindE hF
    refine ASL.x rfl rfl (hCallO hS rfl rfl call_8 (laws_toNodeS_ok ha29) rfl ?_); rintro v29 G5 hK hS
    refine ASL.q (v := v29) rfl rfl (Light.quiet (opAssign rfl rfl)) ?_
    refine ASL.done ?_
    refine AWP.seqR rfl ?_
    refine ASL.q (v := v29) rfl rfl (Light.quiet (opMove rfl rfl)) ?_
    refine ASL.q (v := (.int .i64 p1)) rfl rfl (Light.quiet (opMove rfl rfl)) ?_
    obtain ⟨a33, ha33, hF⟩ := bindE hF
    refine ASL.x rfl rfl (hCallSR hS rfl rfl call_16 (impl_ReNfa_ok ha33) ⟨.row (k := 0) rfl, .same _, trivial⟩ (by rintro _ _ G ⟨w7, rfl, rfl⟩ hG; exact ⟨(Scal.tup (ScalC.cons (Scal.agg (ScalC.cons (by constructor) (ScalC.cons (by constructor) (ScalC.cons (by constructor) (ScalC.cons (hG.scR (k := 0) rfl) (ScalC.cons (by constructor) ScalC.nil)))))) (ScalC.cons (by constructor) ScalC.nil))), ⟨(Scal.row (fun _ => by simp only [TEdge.av, cells, List.mem_cons, List.not_mem_nil, or_false]; rintro c hc; rcases hc with rfl | rfl | rfl | rfl <;> constructor)), trivial⟩⟩) ?_); rintro _ _ G9 ⟨w7, rfl, rfl⟩ hK hS
    refine ASL.q (v := (.tup [(.agg [(.int .i64 a33.1.auto.letters), (.int .i64 a33.1.auto.states), (.int .i64 a33.1.auto.start), w7, (.int .i64 a33.1.final)]), (.bool a33.2)])) rfl rfl (Light.quiet (opMove rfl rfl)) ?_
    refine ASL.q (v := (.agg [(.int .i64 a33.1.auto.letters), (.int .i64 a33.1.auto.states), (.int .i64 a33.1.auto.start), w7, (.int .i64 a33.1.final)])) rfl rfl (Light.quiet (opExtract rfl rfl rfl)) ?_
    refine ASL.q (v := (.bool a33.2)) rfl rfl (Light.quiet (opExtract rfl rfl rfl)) ?_
    have hS := hNil (s := 4) (f := TEdge.av) hS
    refine ASL.x rfl rfl (hNewZ hS [(.int .i64 0), (.int .i64 0), (.int .i64 0), .nil, (.int .i64 0)] rfl zeroA_40 ⟨.inl rfl, .inl rfl, .inl rfl, .inl rfl, .inl rfl, trivial⟩ ?_); rintro b9 G10 hK hS
    refine ASL.n rfl rfl (hPutA hS (j := 0) rfl rfl sizeA_40 rfl rfl rfl rfl (allC rfl (allC rfl (allC rfl (allC (hS.one (k := 2) rfl) (allC rfl rfl))))) (nlt rfl) ?_); rintro G13 hS
    refine ASL.q (v := (.bool a33.2)) rfl rfl (Light.quiet (opAssign rfl rfl)) ?_
    refine ASL.done ?_
    refine AWP.seq ?_
    refine AWP.seqR rfl ?_
    refine ASL.q (v := (.agg [(.int .i64 a33.1.auto.letters), (.int .i64 a33.1.auto.states), (.int .i64 a33.1.auto.start), w7, (.int .i64 a33.1.final)])) rfl rfl (Light.quiet (kAtA hS (j := 0) rfl rfl aggA_40 sizeA_40 rfl (nlt rfl) rfl)) ?_
    refine ASL.q (v := (TNfa.av a25.1)) rfl rfl (Light.quiet (kAtA hS (j := 4) rfl rfl aggA_40 sizeA_40 rfl (nlt rfl) rfl)) ?_
    obtain ⟨a38, ha38, hF⟩ := bindE hF
    refine ASL.q (v := (.bool a38)) rfl rfl ((qCallR hS rfl rfl call_17 (laws_eqNfa_ok ha38) ⟨.aggL ⟨.same _, .same _, .same _, .row (k := 2) rfl, .same _, trivial⟩, .same _, trivial⟩ (by constructor))) ?_
    refine ASL.q (v := (.bool (!a38))) rfl rfl (Light.quiet (opNot rfl rfl)) ?_
    obtain ⟨c40, hc40, hF⟩ := bndE hF
    refine ASL.q (v := (.bool c40)) rfl rfl ((Quiet.cast (Light.quiet (opMove rfl rfl)) (congrArg AV.bool hc40.symm))) ?_
    refine ASL.g (v := (.bool a33.2)) (.bool c40) false rfl (wF _) rfl (fun hG => by have q0 := gN hG; subst q0; exact Light.quiet (opMove rfl rfl)) ?_
    refine ASL.g (v := (.bool a25.2)) (.bool c40) false rfl (wF _) rfl (fun hG => by have q0 := gN hG; subst q0; exact Light.quiet (opMove rfl rfl)) ?_
    refine ASL.g (v := (.bool (!(a33.2 == a25.2)))) (.bool c40) false rfl (wF _) rfl (fun hG => by have q0 := gN hG; subst q0; exact Light.quiet (opBoolEq rfl rfl rfl und_4 rfl)) ?_
    refine ASL.q (v := (.bool (c40 || (!(a33.2 == a25.2))))) rfl rfl (Light.quiet (opPick (b := c40) rfl rfl (by cases c40 <;> rfl))) ?_
    refine ASL.done ?_
    refine AWP.ifB hF rfl (fun hc14 hF => ?_) (fun hc14 hF => ?_)
    · skip
      refine AWP.seqR rfl ?_
      refine ASL.q (v := (.bool false)) rfl rfl (Light.quiet (opAssign rfl rfl)) ?_
      refine ASL.done ?_
      refine AWP.ret ?_
      refine QThen.rt ?_
      obtain rfl := someE hF
      exact QRet.sole (v := (.bool false)) ⟨rfl, trivial⟩ rfl
    · skip
      refine AWP.skip ?_
      refine QThen.nrm ?_
      refine AWP.seq ?_
      refine AWP.seqR rfl ?_
      refine ASL.q (v := v29) rfl rfl (Light.quiet (opMove rfl rfl)) ?_
      refine ASL.q (v := (.list 3 (List.map TNode.av p0))) rfl rfl (Light.quiet (opMove rfl rfl)) ?_
      obtain ⟨a47, ha47, hF⟩ := bindE hF
      refine ASL.q (v := (.list 3 (List.map TNode.av a47))) rfl rfl ((qCall rfl rfl call_8 (PO.list (laws_toNodeS_ok ha47)) rfl)) ?_
      obtain ⟨a48, ha48, hF⟩ := bindE hF
      refine ASL.q (v := (.bool a48)) rfl rfl ((qCallR hS rfl rfl call_11 (laws_eqNodeS_ok ha48) ⟨.row (k := 3) rfl, .same _, trivial⟩ (by constructor))) ?_
      refine ASL.q (v := (.bool (!a48))) rfl rfl (Light.quiet (opNot rfl rfl)) ?_
      refine ASL.done ?_
      refine AWP.ifB hF rfl (fun hc15 hF => ?_) (fun hc15 hF => ?_)
      · skip
        refine AWP.seqR rfl ?_
        refine ASL.q (v := (.bool false)) rfl rfl (Light.quiet (opAssign rfl rfl)) ?_
        refine ASL.done ?_
        refine AWP.ret ?_
        refine QThen.rt ?_
        obtain rfl := someE hF
        exact QRet.sole (v := (.bool false)) ⟨rfl, trivial⟩ rfl
      · skip
        refine AWP.skip ?_
        refine QThen.nrm ?_
        refine AWP.seqR rfl ?_
        refine ASL.q (v := (.int .i64 1)) rfl rfl (Light.quiet (opAssign rfl rfl)) ?_
        refine ASL.done ?_
        refine AWP.seqR rfl ?_
        refine ASL.q (v := v29) rfl rfl (Light.quiet (opMove rfl rfl)) ?_
        refine ASL.q (v := (.int .i64 1)) rfl rfl (Light.quiet (opMove rfl rfl)) ?_
        obtain ⟨a52, ha52, hF⟩ := bindE hF
        refine ASL.x rfl rfl (hCallS hS [3, 0, 1, 2, 4] (F := [.cell b9 [(.int .i64 a33.1.auto.letters), (.int .i64 a33.1.auto.states), (.int .i64 a33.1.auto.start), w7, (.int .i64 a33.1.final)], .row 4 .nil (List.map TEdge.av ([])), .row 4 w7 (List.map TEdge.av a33.1.auto.edges), .cell b6 [(.int .i64 a25.1.auto.letters), (.int .i64 a25.1.auto.states), (.int .i64 a25.1.auto.start), (.list 4 (List.map TEdge.av a25.1.auto.edges)), (.int .i64 a25.1.final)]]) rfl rfl rfl call_12 (laws_markNodeS_ok ha52) rfl rfl ?_); rintro _ _ G16 ⟨rfl, rfl⟩ hS
        refine ASL.q (v := (.int .i64 a52.1)) rfl rfl (Light.quiet (opAssign rfl rfl)) ?_
        refine ASL.done ?_
        refine AWP.seq ?_
        refine AWP.seqR rfl ?_
        refine ASL.q (v := (.int .i64 a52.1)) rfl rfl (Light.quiet (opMove rfl rfl)) ?_
        refine ASL.q (v := (.bool (decide (a52.1 < 0)))) rfl rfl (Light.quiet (opInt rfl rfl rfl rfl)) ?_
        obtain ⟨c55, hc55, hF⟩ := bndE hF
        refine ASL.q (v := (.bool c55)) rfl rfl ((Quiet.cast (Light.quiet (opMove rfl rfl)) (congrArg AV.bool hc55.symm))) ?_
        refine ASL.g (v := (.agg [(.int .i64 a33.1.auto.letters), (.int .i64 a33.1.auto.states), (.int .i64 a33.1.auto.start), w7, (.int .i64 a33.1.final)])) (.bool c55) false rfl (wF _) rfl (fun hG => by have q0 := gN hG; subst q0; exact Light.quiet (kAtA hS (j := 1) rfl rfl aggA_40 sizeA_40 rfl (nlt rfl) rfl)) ?_
        refine ASL.g (v := (TNfa.av a25.1)) (.bool c55) false rfl (wF _) rfl (fun hG => by have q0 := gN hG; subst q0; exact Light.quiet (kAtA hS (j := 4) rfl rfl aggA_40 sizeA_40 rfl (nlt rfl) rfl)) ?_
        obtain ⟨a58, ha58, hF⟩ := bindE hF
        refine ASL.g (v := (.bool a58)) (.bool c55) false rfl (wF _) rfl (fun hG => by have q0 := gN hG; subst q0; exact (qCallR hS rfl rfl call_17 (laws_eqNfa_ok (whenE ha58)) ⟨.aggL ⟨.same _, .same _, .same _, .row (k := 3) rfl, .same _, trivial⟩, .same _, trivial⟩ (by constructor))) ?_
        refine ASL.g (v := (.bool (!a58))) (.bool c55) false rfl (wF _) rfl (fun hG => by have q0 := gN hG; subst q0; exact Light.quiet (opNot rfl rfl)) ?_
        refine ASL.q (v := (.bool (c55 || (!a58)))) rfl rfl (Light.quiet (opPick (b := c55) rfl rfl (by cases c55 <;> rfl))) ?_
        obtain ⟨c61, hc61, hF⟩ := bndE hF
        refine ASL.q (v := (.bool c61)) rfl rfl ((Quiet.cast (Light.quiet (opMove rfl rfl)) (congrArg AV.bool hc61.symm))) ?_
        refine ASL.g (v := (.bool a33.2)) (.bool c61) false rfl (wF _) rfl (fun hG => by have q0 := gN hG; subst q0; exact Light.quiet (opMove rfl rfl)) ?_
        refine ASL.g (v := (.bool a25.2)) (.bool c61) false rfl (wF _) rfl (fun hG => by have q0 := gN hG; subst q0; exact Light.quiet (opMove rfl rfl)) ?_
        refine ASL.g (v := (.bool (!(a33.2 == a25.2)))) (.bool c61) false rfl (wF _) rfl (fun hG => by have q0 := gN hG; subst q0; exact Light.quiet (opBoolEq rfl rfl rfl und_4 rfl)) ?_
        refine ASL.q (v := (.bool (c61 || (!(a33.2 == a25.2))))) rfl rfl (Light.quiet (opPick (b := c61) rfl rfl (by cases c61 <;> rfl))) ?_
        refine ASL.done ?_
        refine AWP.ifB hF rfl (fun hc17 hF => ?_) (fun hc17 hF => ?_)
        · skip
          refine AWP.seqR rfl ?_
          refine ASL.q (v := (.bool false)) rfl rfl (Light.quiet (opAssign rfl rfl)) ?_
          refine ASL.done ?_
          refine AWP.ret ?_
          refine QThen.rt ?_
          obtain rfl := someE hF
          exact QRet.sole (v := (.bool false)) ⟨rfl, trivial⟩ rfl
        · skip
          refine AWP.skip ?_
          refine QThen.nrm ?_
          refine AWP.seqR rfl ?_
          refine ASL.q (v := (.int .i64 1)) rfl rfl (Light.quiet (opAssign rfl rfl)) ?_
          refine ASL.done ?_
          refine AWP.seqR rfl ?_
          refine ASL.q (v := (.agg [(.int .i64 a33.1.auto.letters), (.int .i64 a33.1.auto.states), (.int .i64 a33.1.auto.start), w7, (.int .i64 a33.1.final)])) rfl rfl (Light.quiet (kAtA hS (j := 1) rfl rfl aggA_40 sizeA_40 rfl (nlt rfl) rfl)) ?_
          refine ASL.q (v := (.int .i64 1)) rfl rfl (Light.quiet (opMove rfl rfl)) ?_
          obtain ⟨a68, ha68, hF⟩ := bindE hF
          refine ASL.x rfl rfl (hCallS hS [3, 0, 1, 2, 4] (F := [.row 3 v29 (List.map TNode.av a52.2), .cell b9 [(.int .i64 a33.1.auto.letters), (.int .i64 a33.1.auto.states), (.int .i64 a33.1.auto.start), w7, (.int .i64 a33.1.final)], .row 4 .nil (List.map TEdge.av ([])), .cell b6 [(.int .i64 a25.1.auto.letters), (.int .i64 a25.1.auto.states), (.int .i64 a25.1.auto.start), (.list 4 (List.map TEdge.av a25.1.auto.edges)), (.int .i64 a25.1.final)]]) rfl rfl rfl call_18 (laws_markNfa_ok ha68) rfl rfl ?_); rintro _ _ G18 ⟨rfl, rfl⟩ hS
          refine ASL.q (v := (.int .i64 a68.1)) rfl rfl (Light.quiet (opAssign rfl rfl)) ?_
          refine ASL.done ?_
          refine AWP.seqR rfl ?_
          refine ASL.q (v := (.int .i64 1)) rfl rfl (Light.quiet (opAssign rfl rfl)) ?_
          refine ASL.done ?_
          refine AWP.seqR rfl ?_
          refine ASL.q (v := (.agg [(.int .i64 a33.1.auto.letters), (.int .i64 a33.1.auto.states), (.int .i64 a33.1.auto.start), w7, (.int .i64 a33.1.final)])) rfl rfl (Light.quiet (kAtA hS (j := 2) rfl rfl aggA_40 sizeA_40 rfl (nlt rfl) rfl)) ?_
          refine ASL.q (v := (.int .i64 1)) rfl rfl (Light.quiet (opMove rfl rfl)) ?_
          obtain ⟨a71, ha71, hF⟩ := bindE hF
          refine ASL.q (v := (.int .i64 a71)) rfl rfl ((qCallR hS rfl rfl call_19 (laws_heldNfa_ok ha71) ⟨.aggL ⟨.same _, .same _, .same _, .row (k := 0) rfl, .same _, trivial⟩, .same _, trivial⟩ (by constructor))) ?_
          refine ASL.q (v := (.int .i64 a71)) rfl rfl (Light.quiet (opAssign rfl rfl)) ?_
          refine ASL.done ?_
          refine AWP.seq ?_
          refine AWP.seqR rfl ?_
          refine ASL.q (v := (.int .i64 a71)) rfl rfl (Light.quiet (opMove rfl rfl)) ?_
          refine ASL.q (v := (.bool (decide (a71 < 0)))) rfl rfl (Light.quiet (opInt rfl rfl rfl rfl)) ?_
          refine ASL.done ?_
          refine AWP.ifP hF rfl (fun hc19 hF => ?_) (fun hc19 hF => ?_)
          · skip
            refine AWP.seqR rfl ?_
            refine ASL.q (v := (.bool false)) rfl rfl (Light.quiet (opAssign rfl rfl)) ?_
            refine ASL.done ?_
            refine AWP.ret ?_
            refine QThen.rt ?_
            obtain rfl := someE hF
            exact QRet.sole (v := (.bool false)) ⟨rfl, trivial⟩ rfl
          · skip
            refine AWP.skip ?_
            refine QThen.nrm ?_
            refine AWP.seq ?_
            refine AWP.seqR rfl ?_
            refine ASL.q (v := (.int .i64 a71)) rfl rfl (Light.quiet (opMove rfl rfl)) ?_
            refine ASL.q (v := (.int .i64 a68.1)) rfl rfl (Light.quiet (opMove rfl rfl)) ?_
            refine ASL.q (v := (.bool (decide (a71 ≠ a68.1)))) rfl rfl (Light.quiet (opInt rfl rfl rfl rfl)) ?_
            refine ASL.done ?_
            refine AWP.ifP hF rfl (fun hc20 hF => ?_) (fun hc20 hF => ?_)
            · skip
              refine AWP.seqR rfl ?_
              refine ASL.q (v := (.bool false)) rfl rfl (Light.quiet (opAssign rfl rfl)) ?_
              refine ASL.done ?_
              refine AWP.ret ?_
              refine QThen.rt ?_
              obtain rfl := someE hF
              exact QRet.sole (v := (.bool false)) ⟨rfl, trivial⟩ rfl
            · skip
              refine AWP.skip ?_
              refine QThen.nrm ?_
              refine AWP.seqR rfl ?_
              refine ASL.q (v := (.list 3 (List.map TNode.av p0))) rfl rfl (Light.quiet (opMove rfl rfl)) ?_
              obtain ⟨a79, ha79, hF⟩ := bindE hF
              refine ASL.q (v := (.list 3 (List.map TNode.av a79))) rfl rfl ((qCall rfl rfl call_8 (PO.list (laws_toNodeS_ok ha79)) rfl)) ?_
              refine ASL.q (v := (.int .i64 p1)) rfl rfl (Light.quiet (opMove rfl rfl)) ?_
              obtain ⟨a81, ha81, hF⟩ := bindE hF
              refine ASL.x rfl rfl (hCallSR hS rfl rfl call_16 (impl_ReNfa_ok ha81) ⟨.same _, .same _, trivial⟩ (by rintro _ _ G ⟨w21, rfl, rfl⟩ hG; exact ⟨(Scal.tup (ScalC.cons (Scal.agg (ScalC.cons (by constructor) (ScalC.cons (by constructor) (ScalC.cons (by constructor) (ScalC.cons (hG.scR (k := 0) rfl) (ScalC.cons (by constructor) ScalC.nil)))))) (ScalC.cons (by constructor) ScalC.nil))), ⟨(Scal.row (fun _ => by simp only [TEdge.av, cells, List.mem_cons, List.not_mem_nil, or_false]; rintro c hc; rcases hc with rfl | rfl | rfl | rfl <;> constructor)), trivial⟩⟩) ?_); rintro _ _ G23 ⟨w21, rfl, rfl⟩ hK hS
              refine ASL.q (v := (.tup [(.agg [(.int .i64 a81.1.auto.letters), (.int .i64 a81.1.auto.states), (.int .i64 a81.1.auto.start), w21, (.int .i64 a81.1.final)]), (.bool a81.2)])) rfl rfl (Light.quiet (opMove rfl rfl)) ?_
              refine ASL.q (v := (.agg [(.int .i64 a81.1.auto.letters), (.int .i64 a81.1.auto.states), (.int .i64 a81.1.auto.start), w21, (.int .i64 a81.1.final)])) rfl rfl (Light.quiet (opExtract rfl rfl rfl)) ?_
              refine ASL.q (v := (.bool a81.2)) rfl rfl (Light.quiet (opExtract rfl rfl rfl)) ?_
              refine ASL.x rfl rfl (hNewZ hS [(.int .i64 0), (.int .i64 0), (.int .i64 0), (.list 4 (List.map TEdge.av [])), (.int .i64 0)] rfl zeroA_40 ⟨.inl rfl, .inl rfl, .inl rfl, .inr ⟨_, rfl, rfl⟩, .inl rfl, trivial⟩ ?_); rintro b14 G24 hK hS
              refine ASL.n rfl rfl (hPutA hS (j := 0) rfl rfl sizeA_40 rfl rfl rfl rfl (allC rfl (allC rfl (allC rfl (allC (hS.one (k := 1) rfl) (allC rfl rfl))))) (nlt rfl) ?_); rintro G26 hS
              refine ASL.q (v := (.bool a81.2)) rfl rfl (Light.quiet (opAssign rfl rfl)) ?_
              refine ASL.done ?_
              refine AWP.seq ?_
              refine AWP.seqR rfl ?_
              refine ASL.q (v := (.agg [(.int .i64 a81.1.auto.letters), (.int .i64 a81.1.auto.states), (.int .i64 a81.1.auto.start), w21, (.int .i64 a81.1.final)])) rfl rfl (Light.quiet (kAtA hS (j := 0) rfl rfl aggA_40 sizeA_40 rfl (nlt rfl) rfl)) ?_
              refine ASL.q (v := (TNfa.av a25.1)) rfl rfl (Light.quiet (kAtA hS (j := 6) rfl rfl aggA_40 sizeA_40 rfl (nlt rfl) rfl)) ?_
              obtain ⟨a86, ha86, hF⟩ := bindE hF
              refine ASL.q (v := (.bool a86)) rfl rfl ((qCallR hS rfl rfl call_17 (laws_eqNfa_ok ha86) ⟨.aggL ⟨.same _, .same _, .same _, .row (k := 1) rfl, .same _, trivial⟩, .same _, trivial⟩ (by constructor))) ?_
              refine ASL.q (v := (.bool (!a86))) rfl rfl (Light.quiet (opNot rfl rfl)) ?_
              obtain ⟨c88, hc88, hF⟩ := bndE hF
              refine ASL.q (v := (.bool c88)) rfl rfl ((Quiet.cast (Light.quiet (opMove rfl rfl)) (congrArg AV.bool hc88.symm))) ?_
              refine ASL.g (v := (.bool a81.2)) (.bool c88) false rfl (wF _) rfl (fun hG => by have q0 := gN hG; subst q0; exact Light.quiet (opMove rfl rfl)) ?_
              refine ASL.g (v := (.bool a25.2)) (.bool c88) false rfl (wF _) rfl (fun hG => by have q0 := gN hG; subst q0; exact Light.quiet (opMove rfl rfl)) ?_
              refine ASL.g (v := (.bool (!(a81.2 == a25.2)))) (.bool c88) false rfl (wF _) rfl (fun hG => by have q0 := gN hG; subst q0; exact Light.quiet (opBoolEq rfl rfl rfl und_4 rfl)) ?_
              refine ASL.q (v := (.bool (c88 || (!(a81.2 == a25.2))))) rfl rfl (Light.quiet (opPick (b := c88) rfl rfl (by cases c88 <;> rfl))) ?_
              refine ASL.done ?_
              refine AWP.ifB hF rfl (fun hc27 hF => ?_) (fun hc27 hF => ?_)
              · skip
                refine AWP.seqR rfl ?_
                refine ASL.q (v := (.bool false)) rfl rfl (Light.quiet (opAssign rfl rfl)) ?_
                refine ASL.done ?_
                refine AWP.ret ?_
                refine QThen.rt ?_
                obtain rfl := someE hF
                exact QRet.sole (v := (.bool false)) ⟨rfl, trivial⟩ rfl
              · skip
                refine AWP.skip ?_
                refine QThen.nrm ?_
                refine AWP.seqR rfl ?_
                refine ASL.q (v := (.int .i64 1)) rfl rfl (Light.quiet (opAssign rfl rfl)) ?_
                refine ASL.done ?_
                refine AWP.seqR rfl ?_
                refine ASL.q (v := (.agg [(.int .i64 a33.1.auto.letters), (.int .i64 a33.1.auto.states), (.int .i64 a33.1.auto.start), w7, (.int .i64 a33.1.final)])) rfl rfl (Light.quiet (kAtA hS (j := 4) rfl rfl aggA_40 sizeA_40 rfl (nlt rfl) rfl)) ?_
                refine ASL.q (v := (.int .i64 1)) rfl rfl (Light.quiet (opMove rfl rfl)) ?_
                obtain ⟨a95, ha95, hF⟩ := bindE hF
                refine ASL.q (v := (.int .i64 a95)) rfl rfl ((qCallR hS rfl rfl call_19 (laws_heldNfa_ok ha95) ⟨.aggL ⟨.same _, .same _, .same _, .row (k := 2) rfl, .same _, trivial⟩, .same _, trivial⟩ (by constructor))) ?_
                refine ASL.q (v := (.int .i64 a95)) rfl rfl (Light.quiet (opAssign rfl rfl)) ?_
                refine ASL.done ?_
                refine AWP.seq ?_
                refine AWP.seqR rfl ?_
                refine ASL.q (v := (.int .i64 a95)) rfl rfl (Light.quiet (opMove rfl rfl)) ?_
                refine ASL.q (v := (.bool (decide (a95 < 0)))) rfl rfl (Light.quiet (opInt rfl rfl rfl rfl)) ?_
                refine ASL.done ?_
                refine AWP.ifP hF rfl (fun hc28 hF => ?_) (fun hc28 hF => ?_)
                · skip
                  refine AWP.seqR rfl ?_
                  refine ASL.q (v := (.bool false)) rfl rfl (Light.quiet (opAssign rfl rfl)) ?_
                  refine ASL.done ?_
                  refine AWP.ret ?_
                  refine QThen.rt ?_
                  obtain rfl := someE hF
                  exact QRet.sole (v := (.bool false)) ⟨rfl, trivial⟩ rfl
                · skip
                  refine AWP.skip ?_
                  refine QThen.nrm ?_
                  refine AWP.seq ?_
                  refine AWP.seqR rfl ?_
                  refine ASL.q (v := (.int .i64 a95)) rfl rfl (Light.quiet (opMove rfl rfl)) ?_
                  refine ASL.q (v := (.int .i64 a68.1)) rfl rfl (Light.quiet (opMove rfl rfl)) ?_
                  refine ASL.q (v := (.bool (decide (a95 ≠ a68.1)))) rfl rfl (Light.quiet (opInt rfl rfl rfl rfl)) ?_
                  refine ASL.done ?_
                  refine AWP.ifP hF rfl (fun hc29 hF => ?_) (fun hc29 hF => ?_)
                  · skip
                    refine AWP.seqR rfl ?_
                    refine ASL.q (v := (.bool false)) rfl rfl (Light.quiet (opAssign rfl rfl)) ?_
                    refine ASL.done ?_
                    refine AWP.ret ?_
                    refine QThen.rt ?_
                    obtain rfl := someE hF
                    exact QRet.sole (v := (.bool false)) ⟨rfl, trivial⟩ rfl
                  · skip
                    refine AWP.skip ?_
                    refine QThen.nrm ?_
                    refine AWP.seqR rfl ?_
                    refine ASL.q (v := (.bool true)) rfl rfl (Light.quiet (opAssign rfl rfl)) ?_
                    refine ASL.done ?_
                    refine AWP.ret ?_
                    obtain rfl := someE hF
                    exact QRet.sole (v := (.bool true)) ⟨rfl, trivial⟩ rfl

end Go.Proofs.Ythdoebgikbfndaa
