/- Each of these functions of the program comes to just what its plain function says: FnExactLtlPair. -/
import Derived.Test.YtgklefbkneomoaaDLtlPair
import Derived.Test.YtgklefbkneomoaaFa
import Derived.Test.YtgklefbkneomoaaKLtlTemporal
import Derived.Test.YtgklefbkneomoaaKLtlNnf
import Derived.Test.YtgklefbkneomoaaKLtlParse
namespace Go.Proofs.Ytgklefbkneomoaa
open Go Go.RowKit E
set_option linter.unusedVariables false
set_option maxRecDepth 10000 in
theorem spec_l8Moved_ok {p0 : (List TNode)} {p1 : Int} {r : (List TNode)} (hF : spec_l8Moved p0 p1 = some r) : PO Try.prog 36 [(.list 3 (List.map TNode.av p0)), (.int .i64 p1)] 3 (List.map TNode.av r) := by
  refine HC.enter Try.func36 rfl Try.ntmps36 (by simp) ?_
  have hS := Sep.void; unfold spec_l8Moved at hF
  refine AWP.seqR rfl ?_
  have hS := hNil (s := 3) (f := TNode.av) hS
  refine ASL.q (v := .nil) rfl rfl (Light.quiet (opAssign rfl rfl)) ?_
  refine ASL.done ?_
  refine AWP.seqR rfl ?_
  refine ASL.x rfl rfl (hLit (f := TNode.av) (zs := []) hS rfl rfl elemA_26 sizeA_43 zeroA_43 rfl rfl rfl rfl (by simp [cells, TNode.av]) (nlt rfl) ?_); rintro v8 G2 hK hS
  refine ASL.q (v := v8) rfl rfl (Light.quiet (opAssign rfl rfl)) ?_
  refine ASL.done ?_
  refine AWP.seqM (fun e H => ∃ y4 : (List TNode), ∃ w5 : AV, E.Told e [(5, w5)] ∧ E.Sep H [.row 3 w5 (List.map TNode.av y4)] ∧ spec_l8Moved.k0 y4 = some r) ?_ ?_
  · rintro e0 G7 ⟨y4, w5, hT, hS, hF⟩; refine AWP.only _ hT ?_; unfold spec_l8Moved.k0 at hF
    refine AWP.seqR rfl ?_
    refine ASL.q (v := w5) rfl rfl (Light.quiet (opMove rfl rfl)) ?_
    refine ASL.q (v := w5) rfl rfl (Light.quiet (opAssign rfl rfl)) ?_
    refine ASL.done ?_
    refine AWP.ret ?_
    obtain rfl := someE hF
    exact QRet.sole (v := w5) ⟨rfl, trivial⟩ (hS.get (k := 0) rfl)
  · skip
    refine AWP.seqR rfl ?_
    refine ASL.q (v := (.int .i64 0)) rfl rfl (Light.quiet (opAssign rfl rfl)) ?_
    refine ASL.done ?_
    refine AWP.block ?_
    obtain ⟨o14, hL13, hR15⟩ := bindE hF
    refine AWP.loopF (ω := AV) hL13 (fun s w => [(0, (.list 3 (List.map TNode.av p0))), (1, (.int .i64 p1)), (5, w), (6, (.int .i64 s.2))]) (fun s w => [.row 3 w (List.map TNode.av s.1)]) v8 ⟨rfl, rfl, rfl, rfl, trivial⟩ (hS.pick [0] rfl rfl) ?_
    rintro ⟨y8, x6_l0⟩ w9 G16 hS x11 hF hx12
    try dsimp only at hS ⊢
    have hF : spec_l8Moved.b0 p0 p1 y8 x6_l0 = some x11 := hF; unfold spec_l8Moved.b0 at hF
    refine AWP.seq ?_
    refine AWP.seqR rfl ?_
    refine ASL.q (v := (.int .i64 x6_l0)) rfl rfl (Light.quiet (opMove rfl rfl)) ?_
    refine ASL.q (v := (.list 3 (List.map TNode.av p0))) rfl rfl (Light.quiet (opMove rfl rfl)) ?_
    refine ASL.q (v := (.int .i64 (p0.length : Int))) rfl rfl (Light.quiet (opLenMap (f := TNode.av) rfl rfl rfl lenT_26 rfl)) ?_
    refine ASL.q (v := (.bool (decide (x6_l0 < ((p0.length : Int)))))) rfl rfl (Light.quiet (opInt rfl rfl rfl rfl)) ?_
    refine ASL.done ?_
    refine AWP.ifP hF rfl (fun hc17 hF => ?_) (fun hc17 hF => ?_)
    · skip
      refine AWP.skip ?_
      refine QThen.nrm ?_
      refine AWP.seq ?_
      refine AWP.block ?_
      refine AWP.seqR rfl ?_
      refine ASL.q (v := (.list 3 (List.map TNode.av p0))) rfl rfl (Light.quiet (opMove rfl rfl)) ?_
      refine ASL.q (v := (.int .i64 x6_l0)) rfl rfl (Light.quiet (opMove rfl rfl)) ?_
      obtain ⟨a17, ha17, hF⟩ := bindE hF
      refine ASL.q (v := (.rptr [(.int .i64 a17.kind), (.int .i64 a17.a), (.int .i64 a17.b)])) rfl rfl (Light.quiet (kIx (f := TNode.av) ha17 rfl rfl rfl elemA_26 sizeA_43 rfl)) ?_
      refine ASL.q (v := (TNode.av a17)) rfl rfl (Light.quiet (opLoadRA rfl aggA_43 sizeA_43 rfl (nlt rfl) rfl)) ?_
      refine ASL.x rfl rfl (hNewZ hS [(.int .i64 0), (.int .i64 0), (.int .i64 0)] rfl zeroA_43 ⟨.inl rfl, .inl rfl, .inl rfl, trivial⟩ ?_); rintro b7 G18 hK hS
      refine ASL.n rfl rfl (hPutA hS (j := 0) rfl rfl sizeA_43 rfl rfl rfl rfl rfl (nlt rfl) ?_); rintro G20 hS
      refine ASL.done ?_
      refine AWP.seqM (fun e H => ∃ y21 : Int, ∃ y22 : Int, ∃ y23 : Int, E.Told e [(0, (.list 3 (List.map TNode.av p0))), (1, (.int .i64 p1)), (5, w9), (6, (.int .i64 x6_l0)), (7, (.ptr b7 0))] ∧ E.Sep H [.row 3 w9 (List.map TNode.av y8), .cell b7 [(.int .i64 y21), (.int .i64 y22), (.int .i64 y23)]] ∧ spec_l8Moved.k1 y8 p1 x6_l0 y21 y22 y23 = some x11) ?_ ?_
      · rintro e0 G30 ⟨y21, y22, y23, hT, hS, hF⟩; refine AWP.only _ hT ?_; unfold spec_l8Moved.k1 at hF
        refine AWP.seq ?_
        refine AWP.seqR rfl ?_
        refine ASL.q (v := (.ptr b7 0)) rfl rfl (Light.quiet (opFieldAddr rfl fieldA_43_0 rfl rfl)) ?_
        refine ASL.q (v := (.int .i64 y21)) rfl rfl (Light.quiet (kAt hS (j := 1) rfl rfl aggA_3 rfl rfl)) ?_
        refine ASL.q (v := (.int .i64 (spec_l8Parts y21))) rfl rfl ((qCall rfl rfl call_35 (spec_l8Parts_ok y21) rfl)) ?_
        refine ASL.q (v := (.bool (decide (((spec_l8Parts y21)) = 2)))) rfl rfl (Light.quiet (opInt rfl rfl rfl rfl)) ?_
        refine ASL.done ?_
        refine AWP.ifP hF rfl (fun hc24 hF => ?_) (fun hc24 hF => ?_)
        · skip
          refine AWP.lastR rfl ?_
          refine ASL.q (v := (.ptr b7 2)) rfl rfl (Light.quiet (opFieldAddr rfl fieldA_43_2 rfl rfl)) ?_
          refine ASL.q (v := (.int .i64 y23)) rfl rfl (Light.quiet (kAt hS (j := 1) rfl rfl aggA_3 rfl rfl)) ?_
          refine ASL.q (v := (.int .i64 p1)) rfl rfl (Light.quiet (opMove rfl rfl)) ?_
          refine ASL.q (v := (.int .i64 (W (y23 + p1)))) rfl rfl (Light.quiet (opInt rfl rfl rfl rfl)) ?_
          refine ASL.q (v := (.ptr b7 2)) rfl rfl (Light.quiet (opFieldAddr rfl fieldA_43_2 rfl rfl)) ?_
          refine ASL.n rfl rfl (hPut hS (j := 1) rfl rfl sizeA_3 rfl rfl rfl (nlt rfl) ?_); rintro G25 hS
          refine ASL.done ?_
          refine QThen.nrm ?_
          refine AWP.lastR rfl ?_
          refine ASL.q (v := w9) rfl rfl (Light.quiet (opMove rfl rfl)) ?_
          refine ASL.q (v := (.agg [(.int .i64 y21), (.int .i64 y22), (.int .i64 (W (y23 + p1)))])) rfl rfl (Light.quiet (kAtA hS (j := 1) rfl rfl aggA_43 sizeA_43 rfl (nlt rfl) rfl)) ?_
          refine ASL.q (v := (.list 3 (List.map TNode.av [(TNode.mk y21 y22 ((W (y23 + p1))))]))) rfl rfl ((qLit (xs := [(.agg [(.int .i64 y21), (.int .i64 y22), (.int .i64 (W (y23 + p1)))])]) rfl elemA_26 sizeA_43 zeroA_43 rfl rfl rfl rfl (by simp [cells, TNode.av]) (nlt rfl))) ?_
          obtain ⟨z40, hz40, hF⟩ := bindE hF
          refine ASL.x rfl rfl (hApp (f := TNode.av) (ws := [(TNode.mk y21 y22 ((W (y23 + p1))))]) hS (j := 0) rfl hz40 rfl elemA_26 rfl sizeA_43 bytesA_43 zeroA_43 rfl rfl rfl (fun _ => rfl) ?_); rintro v40 G26 hS
          refine ASL.q (v := v40) rfl rfl (Light.quiet (opAssign rfl rfl)) ?_
          refine ASL.done ?_
          refine QBlock.nrm ?_
          refine QThen.nrm ?_
          refine AWP.lastR rfl ?_
          refine ASL.q (v := (.int .i64 x6_l0)) rfl rfl (Light.quiet (opMove rfl rfl)) ?_
          refine ASL.q (v := (.int .i64 (W (x6_l0 + 1)))) rfl rfl (Light.quiet (opInt rfl rfl rfl rfl)) ?_
          refine ASL.q (v := (.int .i64 (W (x6_l0 + 1)))) rfl rfl (Light.quiet (opAssign rfl rfl)) ?_
          refine ASL.done ?_
          refine QThen.nrm ?_
          exact ⟨(z40, (W (x6_l0 + 1))), v40, (someE hF).symm, ⟨rfl, rfl, rfl, rfl, trivial⟩, (hS.pick [0] rfl rfl)⟩
        · skip
          refine AWP.skip ?_
          refine QThen.nrm ?_
          refine AWP.lastR rfl ?_
          refine ASL.q (v := w9) rfl rfl (Light.quiet (opMove rfl rfl)) ?_
          refine ASL.q (v := (.agg [(.int .i64 y21), (.int .i64 y22), (.int .i64 y23)])) rfl rfl (Light.quiet (kAtA hS (j := 1) rfl rfl aggA_43 sizeA_43 rfl (nlt rfl) rfl)) ?_
          refine ASL.q (v := (.list 3 (List.map TNode.av [(TNode.mk y21 y22 y23)]))) rfl rfl ((qLit (xs := [(.agg [(.int .i64 y21), (.int .i64 y22), (.int .i64 y23)])]) rfl elemA_26 sizeA_43 zeroA_43 rfl rfl rfl rfl (by simp [cells, TNode.av]) (nlt rfl))) ?_
          obtain ⟨z40, hz40, hF⟩ := bindE hF
          refine ASL.x rfl rfl (hApp (f := TNode.av) (ws := [(TNode.mk y21 y22 y23)]) hS (j := 0) rfl hz40 rfl elemA_26 rfl sizeA_43 bytesA_43 zeroA_43 rfl rfl rfl (fun _ => rfl) ?_); rintro v40 G28 hS
          refine ASL.q (v := v40) rfl rfl (Light.quiet (opAssign rfl rfl)) ?_
          refine ASL.done ?_
          refine QBlock.nrm ?_
          refine QThen.nrm ?_
          refine AWP.lastR rfl ?_
          refine ASL.q (v := (.int .i64 x6_l0)) rfl rfl (Light.quiet (opMove rfl rfl)) ?_
          refine ASL.q (v := (.int .i64 (W (x6_l0 + 1)))) rfl rfl (Light.quiet (opInt rfl rfl rfl rfl)) ?_
          refine ASL.q (v := (.int .i64 (W (x6_l0 + 1)))) rfl rfl (Light.quiet (opAssign rfl rfl)) ?_
          refine ASL.done ?_
          refine QThen.nrm ?_
          exact ⟨(z40, (W (x6_l0 + 1))), v40, (someE hF).symm, ⟨rfl, rfl, rfl, rfl, trivial⟩, (hS.pick [0] rfl rfl)⟩
      · skip
        refine AWP.seqR rfl ?_
        refine ASL.q (v := (.ptr b7 0)) rfl rfl (Light.quiet (opFieldAddr rfl fieldA_43_0 rfl rfl)) ?_
        refine ASL.q (v := (.int .i64 a17.kind)) rfl rfl (Light.quiet (kAt hS (j := 0) rfl rfl aggA_3 rfl rfl)) ?_
        refine ASL.q (v := (.int .i64 (spec_l8Parts a17.kind))) rfl rfl ((qCall rfl rfl call_35 (spec_l8Parts_ok a17.kind) rfl)) ?_
        refine ASL.q (v := (.bool (decide (((spec_l8Parts a17.kind)) > 0)))) rfl rfl (Light.quiet (opInt rfl rfl rfl rfl)) ?_
        refine ASL.done ?_
        refine AWP.ifP hF rfl (fun hc31 hF => ?_) (fun hc31 hF => ?_)
        · skip
          refine AWP.lastR rfl ?_
          refine ASL.q (v := (.ptr b7 1)) rfl rfl (Light.quiet (opFieldAddr rfl fieldA_43_1 rfl rfl)) ?_
          refine ASL.q (v := (.int .i64 a17.a)) rfl rfl (Light.quiet (kAt hS (j := 0) rfl rfl aggA_3 rfl rfl)) ?_
          refine ASL.q (v := (.int .i64 p1)) rfl rfl (Light.quiet (opMove rfl rfl)) ?_
          refine ASL.q (v := (.int .i64 (W (a17.a + p1)))) rfl rfl (Light.quiet (opInt rfl rfl rfl rfl)) ?_
          refine ASL.q (v := (.ptr b7 1)) rfl rfl (Light.quiet (opFieldAddr rfl fieldA_43_1 rfl rfl)) ?_
          refine ASL.n rfl rfl (hPut hS (j := 0) rfl rfl sizeA_3 rfl rfl rfl (nlt rfl) ?_); rintro G32 hS
          refine ASL.done ?_
          refine QThen.nrm ?_
          exact ⟨a17.kind, (W (a17.a + p1)), a17.b, ⟨rfl, rfl, rfl, rfl, rfl, trivial⟩, (hS.pick [1, 0] rfl rfl), hF⟩
        · skip
          refine AWP.skip ?_
          refine QThen.nrm ?_
          exact ⟨a17.kind, a17.a, a17.b, ⟨rfl, rfl, rfl, rfl, rfl, trivial⟩, (hS.pick [1, 0] rfl rfl), hF⟩
    · skip
      refine AWP.exit ?_
      refine QThen.ext ?_
      refine QThen.ext ?_
      refine QBlock.hit ?_
      obtain rfl := (hx12 _ (someE hF).symm)
      have hF := hR15
      refine QThen.nrm ?_
      exact ⟨y8, w9, ⟨rfl, trivial⟩, (hS.pick [0] rfl rfl), hF⟩

set_option maxRecDepth 10000 in
theorem spec_LtlPair_ok {p0 : Int} {p1 : (List TNode)} {p2 : (List TNode)} {r : ((List TNode) × Bool)} (hF : spec_LtlPair p0 p1 p2 = some r) : HS Try.prog 19 [(.int .i64 p0), (.list 3 (List.map TNode.av p1)), (.list 3 (List.map TNode.av p2))] [] fun v L' => ∃ o0 : AV, v = .tup [o0, (.bool r.2)] ∧ L' = [.row 3 o0 (List.map TNode.av r.1)] := by
  intro H S hS
  refine HC.enter Try.func19 rfl Try.ntmps19 (by simp) ?_
  simp only [List.cons_append, List.nil_append] at hS
  unfold spec_LtlPair at hF
  refine AWP.seqR rfl ?_
  have hS := hNil (s := 3) (f := TNode.av) hS
  refine ASL.q (v := .nil) rfl rfl (Light.quiet (opAssign rfl rfl)) ?_
  refine ASL.q (v := (.bool false)) rfl rfl (Light.quiet (opAssign rfl rfl)) ?_
  refine ASL.done ?_
  refine AWP.seq ?_
  refine AWP.seqR rfl ?_
  refine ASL.q (v := (.int .i64 p0)) rfl rfl (Light.quiet (opMove rfl rfl)) ?_
  refine ASL.q (v := (.int .i64 (spec_l8Parts p0))) rfl rfl ((qCall rfl rfl call_35 (spec_l8Parts_ok p0) rfl)) ?_
  refine ASL.q (v := (.bool (decide (((spec_l8Parts p0)) ≠ 2)))) rfl rfl (Light.quiet (opInt rfl rfl rfl rfl)) ?_
  obtain ⟨c12, hc12, hF⟩ := bndE hF
  refine ASL.q (v := (.bool c12)) rfl rfl ((Quiet.cast (Light.quiet (opMove rfl rfl)) (congrArg AV.bool hc12.symm))) ?_
  refine ASL.g (v := (.list 3 (List.map TNode.av p1))) (.bool c12) false rfl (wF _) rfl (fun hG => by have q0 := gN hG; subst q0; exact Light.quiet (opMove rfl rfl)) ?_
  obtain ⟨a14, ha14, hF⟩ := bindE hF
  refine ASL.g (v := (.bool a14)) (.bool c12) false rfl (wF _) rfl (fun hG => by have q0 := gN hG; subst q0; exact (qCall rfl rfl call_26 (spec_LtlOk_ok (whenE ha14)) rfl)) ?_
  refine ASL.g (v := (.bool (!a14))) (.bool c12) false rfl (wF _) rfl (fun hG => by have q0 := gN hG; subst q0; exact Light.quiet (opNot rfl rfl)) ?_
  refine ASL.q (v := (.bool (c12 || (!a14)))) rfl rfl (Light.quiet (opPick (b := c12) rfl rfl (by cases c12 <;> rfl))) ?_
  obtain ⟨c17, hc17, hF⟩ := bndE hF
  refine ASL.q (v := (.bool c17)) rfl rfl ((Quiet.cast (Light.quiet (opMove rfl rfl)) (congrArg AV.bool hc17.symm))) ?_
  refine ASL.g (v := (.list 3 (List.map TNode.av p2))) (.bool c17) false rfl (wF _) rfl (fun hG => by have q0 := gN hG; subst q0; exact Light.quiet (opMove rfl rfl)) ?_
  obtain ⟨a19, ha19, hF⟩ := bindE hF
  refine ASL.g (v := (.bool a19)) (.bool c17) false rfl (wF _) rfl (fun hG => by have q0 := gN hG; subst q0; exact (qCall rfl rfl call_26 (spec_LtlOk_ok (whenE ha19)) rfl)) ?_
  refine ASL.g (v := (.bool (!a19))) (.bool c17) false rfl (wF _) rfl (fun hG => by have q0 := gN hG; subst q0; exact Light.quiet (opNot rfl rfl)) ?_
  refine ASL.q (v := (.bool (c17 || (!a19)))) rfl rfl (Light.quiet (opPick (b := c17) rfl rfl (by cases c17 <;> rfl))) ?_
  obtain ⟨c22, hc22, hF⟩ := bndE hF
  refine ASL.q (v := (.bool c22)) rfl rfl ((Quiet.cast (Light.quiet (opMove rfl rfl)) (congrArg AV.bool hc22.symm))) ?_
  refine ASL.g (v := (.list 3 (List.map TNode.av p1))) (.bool c22) false rfl (wF _) rfl (fun hG => by have q0 := gN hG; subst q0; exact Light.quiet (opMove rfl rfl)) ?_
  refine ASL.g (v := (.int .i64 (p1.length : Int))) (.bool c22) false rfl (wF _) rfl (fun hG => by have q0 := gN hG; subst q0; exact Light.quiet (opLenMap (f := TNode.av) rfl rfl rfl lenT_26 rfl)) ?_
  refine ASL.g (v := (.list 3 (List.map TNode.av p2))) (.bool c22) false rfl (wF _) rfl (fun hG => by have q0 := gN hG; subst q0; exact Light.quiet (opMove rfl rfl)) ?_
  refine ASL.g (v := (.int .i64 (p2.length : Int))) (.bool c22) false rfl (wF _) rfl (fun hG => by have q0 := gN hG; subst q0; exact Light.quiet (opLenMap (f := TNode.av) rfl rfl rfl lenT_26 rfl)) ?_
  refine ASL.g (v := (.int .i64 (W (((p1.length : Int)) + ((p2.length : Int)))))) (.bool c22) false rfl (wF _) rfl (fun hG => by have q0 := gN hG; subst q0; exact Light.quiet (opInt rfl rfl rfl rfl)) ?_
  refine ASL.g (v := (.bool (decide (((W (((p1.length : Int)) + ((p2.length : Int))))) ≥ 31)))) (.bool c22) false rfl (wF _) rfl (fun hG => by have q0 := gN hG; subst q0; exact Light.quiet (opInt rfl rfl rfl rfl)) ?_
  refine ASL.q (v := (.bool (c22 || (decide (((W (((p1.length : Int)) + ((p2.length : Int))))) ≥ 31))))) rfl rfl (Light.quiet (opPick (b := c22) rfl rfl (by cases c22 <;> rfl))) ?_
  refine ASL.done ?_
  refine AWP.ifB hF rfl (fun hc2 hF => ?_) (fun hc2 hF => ?_)
  · skip
    refine AWP.seqR rfl ?_
    refine ASL.x rfl rfl (hLit (f := TNode.av) (zs := []) hS rfl rfl elemA_26 sizeA_43 zeroA_43 rfl rfl rfl rfl (by simp [cells, TNode.av]) (nlt rfl) ?_); rintro v30 G3 hK hS
    refine ASL.q (v := v30) rfl rfl (Light.quiet (opAssign rfl rfl)) ?_
    refine ASL.q (v := (.bool false)) rfl rfl (Light.quiet (opAssign rfl rfl)) ?_
    refine ASL.done ?_
    refine AWP.ret ?_
    refine QThen.rt ?_
    obtain rfl := someE hF
    exact QRet.many (vs := [v30, (.bool false)]) ⟨rfl, rfl, trivial⟩ (by simp) ⟨_, ⟨v30, rfl, rfl⟩, hS.pick [0, 2] rfl rfl⟩
  · skip
    refine AWP.skip ?_
    refine QThen.nrm ?_
    refine AWP.seqR rfl ?_
    refine ASL.x rfl rfl (hLit (f := TNode.av) (zs := []) hS rfl rfl elemA_26 sizeA_43 zeroA_43 rfl rfl rfl rfl (by simp [cells, TNode.av]) (nlt rfl) ?_); rintro v31 G5 hK hS
    refine ASL.q (v := (.list 3 (List.map TNode.av p1))) rfl rfl (Light.quiet (opMove rfl rfl)) ?_
    obtain ⟨z33, hz33, hF⟩ := bindE hF
    refine ASL.x rfl rfl (hApp (f := TNode.av) (ws := p1) hS (j := 0) rfl hz33 rfl elemA_26 rfl sizeA_43 bytesA_43 zeroA_43 rfl rfl rfl (fun _ => rfl) ?_); rintro v33 G7 hS
    refine ASL.q (v := (.list 3 (List.map TNode.av p2))) rfl rfl (Light.quiet (opMove rfl rfl)) ?_
    refine ASL.q (v := (.list 3 (List.map TNode.av p1))) rfl rfl (Light.quiet (opMove rfl rfl)) ?_
    refine ASL.q (v := (.int .i64 (p1.length : Int))) rfl rfl (Light.quiet (opLenMap (f := TNode.av) rfl rfl rfl lenT_26 rfl)) ?_
    obtain ⟨a37, ha37, hF⟩ := bindE hF
    refine ASL.q (v := (.list 3 (List.map TNode.av a37))) rfl rfl ((qCall rfl rfl call_36 (PO.list (spec_l8Moved_ok ha37)) rfl)) ?_
    obtain ⟨z38, hz38, hF⟩ := bindE hF
    refine ASL.x rfl rfl (hApp (f := TNode.av) (ws := a37) hS (j := 0) rfl hz38 rfl elemA_26 rfl sizeA_43 bytesA_43 zeroA_43 rfl rfl rfl (fun _ => rfl) ?_); rintro v38 G9 hS
    refine ASL.q (v := v38) rfl rfl (Light.quiet (opAssign rfl rfl)) ?_
    refine ASL.done ?_
    refine AWP.seqR rfl ?_
    refine ASL.q (v := v38) rfl rfl (Light.quiet (opMove rfl rfl)) ?_
    refine ASL.q (v := (.int .i64 p0)) rfl rfl (Light.quiet (opMove rfl rfl)) ?_
    refine ASL.q (v := (.list 3 (List.map TNode.av p1))) rfl rfl (Light.quiet (opMove rfl rfl)) ?_
    refine ASL.q (v := (.int .i64 (p1.length : Int))) rfl rfl (Light.quiet (opLenMap (f := TNode.av) rfl rfl rfl lenT_26 rfl)) ?_
    refine ASL.q (v := (.int .i64 (W (((p1.length : Int)) - 1)))) rfl rfl (Light.quiet (opInt rfl rfl rfl rfl)) ?_
    obtain ⟨a44, ha44, hF⟩ := bindE hF
    refine ASL.x rfl rfl (hCallS hS [0, 1, 2] (F := [.row 3 .nil (List.map TNode.av ([])), .snap S]) rfl rfl rfl call_37 (spec_l8Two_ok ha44) rfl rfl ?_); rintro w11 _ G13 ⟨_, rfl, rfl⟩ hS
    refine ASL.q (v := w11) rfl rfl (Light.quiet (opAssign rfl rfl)) ?_
    refine ASL.q (v := (.bool true)) rfl rfl (Light.quiet (opAssign rfl rfl)) ?_
    refine ASL.done ?_
    refine AWP.ret ?_
    obtain rfl := someE hF
    exact QRet.many (vs := [w11, (.bool true)]) ⟨rfl, rfl, trivial⟩ (by simp) ⟨_, ⟨w11, rfl, rfl⟩, hS.pick [0, 2] rfl rfl⟩

set_option maxRecDepth 10000 in
theorem impl_LtlPair_ok {p0 : Int} {p1 : (List TNode)} {p2 : (List TNode)} {r : ((List TNode) × Bool × (List TNode) × (List TNode))} {vp1 : AV} {vp2 : AV} (hF : impl_LtlPair p0 p1 p2 = some r) : HS Try.prog 20 [(.int .i64 p0), vp1, vp2] [.row 3 vp1 (List.map TNode.av p1), .row 3 vp2 (List.map TNode.av p2)] fun v L' => ∃ o0 : AV, v = .tup [o0, (.bool r.2.1)] ∧ L' = [.row 3 o0 (List.map TNode.av r.1), .row 3 vp1 (List.map TNode.av r.2.2.1), .row 3 vp2 (List.map TNode.av r.2.2.2)] := by
  intro H S hS
  refine HC.enter Try.func20 rfl Try.ntmps20 (by simp) ?_
  simp only [List.cons_append, List.nil_append] at hS
  unfold impl_LtlPair at hF
  refine AWP.seqR rfl ?_
  have hS := hNil (s := 3) (f := TNode.av) hS
  refine ASL.q (v := .nil) rfl rfl (Light.quiet (opAssign rfl rfl)) ?_
  refine ASL.q (v := (.bool false)) rfl rfl (Light.quiet (opAssign rfl rfl)) ?_
  refine ASL.done ?_
  refine AWP.seq ?_
  refine AWP.seqR rfl ?_
  refine ASL.q (v := (.int .i64 p0)) rfl rfl (Light.quiet (opMove rfl rfl)) ?_
  refine ASL.q (v := (.bool (decide (p0 ≠ 5)))) rfl rfl (Light.quiet (opInt rfl rfl rfl rfl)) ?_
  obtain ⟨c13, hc13, hF⟩ := bndE hF
  refine ASL.q (v := (.bool c13)) rfl rfl ((Quiet.cast (Light.quiet (opMove rfl rfl)) (congrArg AV.bool hc13.symm))) ?_
  refine ASL.g (v := (.int .i64 p0)) (.bool c13) true rfl (wT _) rfl (fun hG => by have q0 := hG; subst q0; exact Light.quiet (opMove rfl rfl)) ?_
  refine ASL.g (v := (.bool (decide (p0 ≠ 6)))) (.bool c13) true rfl (wT _) rfl (fun hG => by have q0 := hG; subst q0; exact Light.quiet (opInt rfl rfl rfl rfl)) ?_
  refine ASL.q (v := (.bool (c13 && (decide (p0 ≠ 6))))) rfl rfl (Light.quiet (opPick (b := c13) rfl rfl (by cases c13 <;> rfl))) ?_
  obtain ⟨c17, hc17, hF⟩ := bndE hF
  refine ASL.q (v := (.bool c17)) rfl rfl ((Quiet.cast (Light.quiet (opMove rfl rfl)) (congrArg AV.bool hc17.symm))) ?_
  refine ASL.g (v := (.int .i64 p0)) (.bool c17) true rfl (wT _) rfl (fun hG => by have q0 := hG; subst q0; exact Light.quiet (opMove rfl rfl)) ?_
  refine ASL.g (v := (.bool (decide (p0 ≠ 8)))) (.bool c17) true rfl (wT _) rfl (fun hG => by have q0 := hG; subst q0; exact Light.quiet (opInt rfl rfl rfl rfl)) ?_
  refine ASL.q (v := (.bool (c17 && (decide (p0 ≠ 8))))) rfl rfl (Light.quiet (opPick (b := c17) rfl rfl (by cases c17 <;> rfl))) ?_
  obtain ⟨c21, hc21, hF⟩ := bndE hF
  refine ASL.q (v := (.bool c21)) rfl rfl ((Quiet.cast (Light.quiet (opMove rfl rfl)) (congrArg AV.bool hc21.symm))) ?_
  refine ASL.g (v := (.int .i64 p0)) (.bool c21) true rfl (wT _) rfl (fun hG => by have q0 := hG; subst q0; exact Light.quiet (opMove rfl rfl)) ?_
  refine ASL.g (v := (.bool (decide (p0 ≠ 9)))) (.bool c21) true rfl (wT _) rfl (fun hG => by have q0 := hG; subst q0; exact Light.quiet (opInt rfl rfl rfl rfl)) ?_
  refine ASL.q (v := (.bool (c21 && (decide (p0 ≠ 9))))) rfl rfl (Light.quiet (opPick (b := c21) rfl rfl (by cases c21 <;> rfl))) ?_
  obtain ⟨c25, hc25, hF⟩ := bndE hF
  refine ASL.q (v := (.bool c25)) rfl rfl ((Quiet.cast (Light.quiet (opMove rfl rfl)) (congrArg AV.bool hc25.symm))) ?_
  refine ASL.g (v := vp1) (.bool c25) false rfl (wF _) rfl (fun hG => by have q0 := gN hG; subst q0; exact Light.quiet (opMove rfl rfl)) ?_
  obtain ⟨a27, ha27, hF⟩ := bindE hF
  refine ASL.g (v := (.bool a27)) (.bool c25) false rfl (wF _) rfl (fun hG => by have q0 := gN hG; subst q0; exact (qCallR hS rfl rfl call_29 (impl_LtlOk_ok (whenE ha27)) ⟨.row (k := 1) rfl, trivial⟩ (by constructor))) ?_
  refine ASL.g (v := (.bool (!a27))) (.bool c25) false rfl (wF _) rfl (fun hG => by have q0 := gN hG; subst q0; exact Light.quiet (opNot rfl rfl)) ?_
  refine ASL.q (v := (.bool (c25 || (!a27)))) rfl rfl (Light.quiet (opPick (b := c25) rfl rfl (by cases c25 <;> rfl))) ?_
  obtain ⟨c30, hc30, hF⟩ := bndE hF
  refine ASL.q (v := (.bool c30)) rfl rfl ((Quiet.cast (Light.quiet (opMove rfl rfl)) (congrArg AV.bool hc30.symm))) ?_
  refine ASL.g (v := vp2) (.bool c30) false rfl (wF _) rfl (fun hG => by have q0 := gN hG; subst q0; exact Light.quiet (opMove rfl rfl)) ?_
  obtain ⟨a32, ha32, hF⟩ := bindE hF
  refine ASL.g (v := (.bool a32)) (.bool c30) false rfl (wF _) rfl (fun hG => by have q0 := gN hG; subst q0; exact (qCallR hS rfl rfl call_29 (impl_LtlOk_ok (whenE ha32)) ⟨.row (k := 2) rfl, trivial⟩ (by constructor))) ?_
  refine ASL.g (v := (.bool (!a32))) (.bool c30) false rfl (wF _) rfl (fun hG => by have q0 := gN hG; subst q0; exact Light.quiet (opNot rfl rfl)) ?_
  refine ASL.q (v := (.bool (c30 || (!a32)))) rfl rfl (Light.quiet (opPick (b := c30) rfl rfl (by cases c30 <;> rfl))) ?_
  refine ASL.done ?_
  refine AWP.ifB hF rfl (fun hc4 hF => ?_) (fun hc4 hF => ?_)
  · skip
    refine AWP.seqR rfl ?_
    have hS := hNil (s := 3) (f := TNode.av) hS
    refine ASL.q (v := .nil) rfl rfl (Light.quiet (opAssign rfl rfl)) ?_
    refine ASL.q (v := (.bool false)) rfl rfl (Light.quiet (opAssign rfl rfl)) ?_
    refine ASL.done ?_
    refine AWP.ret ?_
    refine QThen.rt ?_
    obtain rfl := someE hF
    exact QRet.many (vs := [.nil, (.bool false)]) ⟨rfl, rfl, trivial⟩ (by simp) ⟨_, ⟨.nil, rfl, rfl⟩, hS.pick [0, 2, 3, 4] rfl rfl⟩
  · skip
    refine AWP.skip ?_
    refine QThen.nrm ?_
    refine AWP.seqR rfl ?_
    refine ASL.q (v := (.agg [(.str ⟨#[]⟩), (.int .i64 0), (.int .i64 0), .nil, .undef])) rfl rfl (Light.quiet (opBuildZ (zs := [(.str ⟨#[]⟩), (.int .i64 0), (.int .i64 0), .nil, .undef]) rfl plan_56 zeroA_56 ⟨.inl rfl, .inl rfl, .inl rfl, .inl rfl, .inl rfl, trivial⟩ rfl)) ?_
    have hS := hNil (s := 3) (f := TNode.av) hS
    refine ASL.x rfl rfl (hBox hS rfl rfl rfl ?_); rintro b36 G6 hK hS
    refine ASL.q (v := (.ptr b36 0)) rfl rfl (Light.quiet (opAssign rfl rfl)) ?_
    refine ASL.done ?_
    refine AWP.seqR rfl ?_
    refine ASL.q (v := (.ptr b36 0)) rfl rfl (Light.quiet (opMove rfl rfl)) ?_
    refine ASL.q (v := (.ptr b36 0)) rfl rfl (Light.quiet (opMove rfl rfl)) ?_
    refine ASL.q (v := (.ptr b36 0)) rfl rfl (Light.quiet (opNil rfl rfl rfl)) ?_
    refine ASL.q (v := (.ptr b36 3)) rfl rfl (Light.quiet (opFieldAddr rfl fieldA_56_3 rfl rfl)) ?_
    refine ASL.q (v := .nil) rfl rfl (Light.quiet (kAt hS (j := 0) rfl rfl aggA_26 rfl rfl)) ?_
    refine ASL.q (v := vp1) rfl rfl (Light.quiet (opMove rfl rfl)) ?_
    obtain ⟨z43, hz43, hF⟩ := bindE hF
    refine ASL.x rfl rfl (hAppO (f := TNode.av) (ws := p1) hS (i := 3) (j := 1) rfl rfl hz43 rfl elemA_26 rfl sizeA_43 bytesA_43 zeroA_43 rfl rfl rfl (fun _ => rfl) ?_); rintro v43 G9 hS
    refine ASL.q (v := (.ptr b36 0)) rfl rfl (Light.quiet (opNil rfl rfl rfl)) ?_
    refine ASL.q (v := (.ptr b36 3)) rfl rfl (Light.quiet (opFieldAddr rfl fieldA_56_3 rfl rfl)) ?_
    refine ASL.n rfl rfl (hPut hS (j := 0) rfl rfl sizeA_26 rfl rfl (hS.one (k := 1) rfl) (nlt rfl) ?_); rintro G11 hS
    refine ASL.done ?_
    refine AWP.seqM (fun e H => ∃ y12 : ByteArray, ∃ y13 : Int, ∃ y14 : Int, ∃ y15 : (List TNode), ∃ w16 : AV, E.Told e [(0, (.int .i64 p0)), (1, vp1), (8, (.ptr b36 0))] ∧ E.Sep H [.row 3 vp1 (List.map TNode.av p1), .row 3 w16 (List.map TNode.av y15), .cell b36 [(.str y12), (.int .i64 y13), (.int .i64 y14), w16, .undef], .row 3 vp2 (List.map TNode.av p2), .snap S] ∧ impl_LtlPair.k0 p0 p1 p2 y12 y13 y14 y15 = some r) ?_ ?_
    · rintro e0 G24 ⟨y12, y13, y14, y15, w16, hT, hS, hF⟩; refine AWP.only _ hT ?_; unfold impl_LtlPair.k0 at hF
      refine AWP.seqR rfl ?_
      refine ASL.q (v := (.ptr b36 0)) rfl rfl (Light.quiet (opMove rfl rfl)) ?_
      refine ASL.q (v := (.int .i64 p0)) rfl rfl (Light.quiet (opMove rfl rfl)) ?_
      refine ASL.q (v := vp1) rfl rfl (Light.quiet (opMove rfl rfl)) ?_
      refine ASL.q (v := (.int .i64 (p1.length : Int))) rfl rfl (Light.quiet (kLen hS (j := 0) rfl rfl rfl rfl lenT_26 rfl)) ?_
      refine ASL.q (v := (.int .i64 (W (((p1.length : Int)) - 1)))) rfl rfl (Light.quiet (opInt rfl rfl rfl rfl)) ?_
      obtain ⟨a92, ha92, hF⟩ := bindE hF
      refine ASL.x rfl rfl (hCallS hS [2, 1, 0, 3, 4] (F := [.row 3 vp1 (List.map TNode.av p1), .row 3 vp2 (List.map TNode.av p2), .snap S]) rfl rfl rfl call_38 (impl_reader_two_ok ha92) rfl rfl ?_); rintro _ _ G20 ⟨w18, rfl, rfl⟩ hS
      refine ASL.done ?_
      refine AWP.seqR rfl ?_
      refine ASL.q (v := (.ptr b36 0)) rfl rfl (Light.quiet (opMove rfl rfl)) ?_
      refine ASL.q (v := (.ptr b36 0)) rfl rfl (Light.quiet (opNil rfl rfl rfl)) ?_
      refine ASL.q (v := (.ptr b36 3)) rfl rfl (Light.quiet (opFieldAddr rfl fieldA_56_3 rfl rfl)) ?_
      refine ASL.q (v := w18) rfl rfl (Light.quiet (kAt hS (j := 0) rfl rfl aggA_26 rfl rfl)) ?_
      obtain ⟨a97, ha97, hF⟩ := bindE hF
      refine ASL.x rfl rfl (hCallS hS [1, 0, 2, 3, 4] (F := [.cell b36 [(.str a92.s), (.int .i64 a92.at_), (.int .i64 a92.code), w18, .undef], .row 3 vp1 (List.map TNode.av p1), .row 3 vp2 (List.map TNode.av p2), .snap S]) rfl rfl rfl call_39 (impl_fitting_ok ha97) rfl rfl ?_); rintro _ _ G23 ⟨w21, rfl, rfl⟩ hS
      refine ASL.q (v := w21) rfl rfl (Light.quiet (opExtract rfl rfl rfl)) ?_
      refine ASL.q (v := (.bool a97.2)) rfl rfl (Light.quiet (opExtract rfl rfl rfl)) ?_
      refine ASL.q (v := w21) rfl rfl (Light.quiet (opAssign rfl rfl)) ?_
      refine ASL.q (v := (.bool a97.2)) rfl rfl (Light.quiet (opAssign rfl rfl)) ?_
      refine ASL.done ?_
      refine AWP.ret ?_
      obtain rfl := someE hF
      exact QRet.many (vs := [w21, (.bool a97.2)]) ⟨rfl, rfl, trivial⟩ (by simp) ⟨_, ⟨w21, rfl, rfl⟩, hS.pick [0, 2, 3, 4] rfl rfl⟩
    · skip
      refine AWP.seqR rfl ?_
      refine ASL.q (v := vp2) rfl rfl (Light.quiet (opMove rfl rfl)) ?_
      refine ASL.q (v := (.int .i64 (p2.length : Int))) rfl rfl (Light.quiet (kLen hS (j := 4) rfl rfl rfl rfl lenT_26 rfl)) ?_
      refine ASL.q (v := (.int .i64 0)) rfl rfl (Light.quiet (opMove rfl rfl)) ?_
      refine ASL.done ?_
      refine AWP.block ?_
      obtain ⟨o34, hL33, hR35⟩ := bindE hF
      refine AWP.loopF (ω := AV) hL33 (fun s w => [(0, (.int .i64 p0)), (1, vp1), (8, (.ptr b36 0)), (46, vp2), (47, (.int .i64 (p2.length : Int))), (48, (.int .i64 s.2.2.2.2))]) (fun s w => [.row 3 vp1 (List.map TNode.av p1), .row 3 w (List.map TNode.av s.2.2.2.1), .cell b36 [(.str s.1), (.int .i64 s.2.1), (.int .i64 s.2.2.1), w, .undef], .row 3 vp2 (List.map TNode.av p2), .snap S]) v43 ⟨rfl, rfl, rfl, rfl, rfl, rfl, trivial⟩ (hS.pick [3, 1, 0, 4, 5] rfl rfl) ?_
      rintro ⟨y25, y26, y27, y28, x48_l0⟩ w29 G36 hS x31 hF hx32
      try dsimp only at hS ⊢
      have hF : impl_LtlPair.b0 p2 p1 y25 y26 y27 y28 x48_l0 = some x31 := hF; unfold impl_LtlPair.b0 at hF
      refine AWP.seqR rfl ?_
      refine ASL.q (v := (.bool (decide (x48_l0 < ((p2.length : Int)))))) rfl rfl (Light.quiet (opInt rfl rfl rfl rfl)) ?_
      refine ASL.done ?_
      refine AWP.seq ?_
      refine AWP.ifP hF rfl (fun hc37 hF => ?_) (fun hc37 hF => ?_)
      · skip
        refine AWP.skip ?_
        refine QThen.nrm ?_
        refine AWP.seq ?_
        refine AWP.block ?_
        refine AWP.seqR rfl ?_
        obtain ⟨a50, ha50, hF⟩ := bindE hF
        refine ASL.q (v := (ptrTo vp2 x48_l0.toNat 3)) rfl rfl (Light.quiet (kIxOx hS (j := 3) rfl ha50 rfl rfl rfl elemA_26 sizeA_43)) ?_
        refine ASL.q (v := (TNode.av a50)) rfl rfl (Light.quiet (kLdA hS (j := 3) rfl ha50 rfl aggA_43 sizeA_43 rfl rfl)) ?_
        refine ASL.x rfl rfl (hNewZ hS [(.int .i64 0), (.int .i64 0), (.int .i64 0)] rfl zeroA_43 ⟨.inl rfl, .inl rfl, .inl rfl, trivial⟩ ?_); rintro b10 G38 hK hS
        refine ASL.n rfl rfl (hPutA hS (j := 0) rfl rfl sizeA_43 rfl rfl rfl rfl rfl (nlt rfl) ?_); rintro G40 hS
        refine ASL.done ?_
        refine AWP.seqM (fun e H => ∃ y41 : Int, ∃ y42 : Int, ∃ y43 : Int, E.Told e [(0, (.int .i64 p0)), (1, vp1), (8, (.ptr b36 0)), (10, (.ptr b10 0)), (46, vp2), (47, (.int .i64 (p2.length : Int))), (48, (.int .i64 x48_l0))] ∧ E.Sep H [.row 3 vp1 (List.map TNode.av p1), .row 3 w29 (List.map TNode.av y28), .cell b36 [(.str y25), (.int .i64 y26), (.int .i64 y27), w29, .undef], .cell b10 [(.int .i64 y41), (.int .i64 y42), (.int .i64 y43)], .row 3 vp2 (List.map TNode.av p2), .snap S] ∧ impl_LtlPair.k1 y28 y25 y26 y27 x48_l0 y41 y42 y43 = some x31) ?_ ?_
        · rintro e0 G47 ⟨y41, y42, y43, hT, hS, hF⟩; refine AWP.only _ hT ?_; unfold impl_LtlPair.k1 at hF
          refine AWP.lastD [(0, false), (1, false), (2, false), (3, false), (4, false), (5, false), (6, false), (7, true), (8, false), (9, false), (10, true)] mixed (by kernel_rfl) rfl ?_
          refine ARL.q0 (v := (.ptr b36 0)) rfl rfl (Light.quiet (opMove rfl rfl)) ?_
          refine ARL.q0 (v := (.ptr b36 0)) rfl rfl (Light.quiet (opMove rfl rfl)) ?_
          refine ARL.q0 (v := (.ptr b36 0)) rfl rfl (Light.quiet (opNil rfl rfl rfl)) ?_
          refine ARL.q0 (v := (.ptr b36 3)) rfl rfl (Light.quiet (opFieldAddr rfl fieldA_56_3 rfl rfl)) ?_
          refine ARL.q (v := w29) rfl rfl (hS.aliveC (k := 2) rfl) (Light.quiet (kAt hS (j := 2) rfl rfl aggA_26 rfl rfl)) ?_
          refine ARL.q (v := (.agg [(.int .i64 y41), (.int .i64 y42), (.int .i64 y43)])) rfl rfl (hS.aliveC (k := 3) rfl) (Light.quiet (kAtA hS (j := 3) rfl rfl aggA_43 sizeA_43 rfl (nlt rfl) rfl)) ?_
          refine ARL.q0 (v := (.list 3 (List.map TNode.av [(TNode.mk y41 y42 y43)]))) rfl rfl ((qLit (xs := [(.agg [(.int .i64 y41), (.int .i64 y42), (.int .i64 y43)])]) rfl elemA_26 sizeA_43 zeroA_43 rfl rfl rfl rfl (by simp [cells, TNode.av]) (nlt rfl))) ?_
          obtain ⟨z83, hz83, hF⟩ := bindE hF
          refine ARL.y rfl rfl rfl rfl (hApp (f := TNode.av) (ws := [(TNode.mk y41 y42 y43)]) hS (j := 1) rfl hz83 rfl elemA_26 rfl sizeA_43 bytesA_43 zeroA_43 rfl rfl rfl (fun _ => rfl) ?_); rintro v83 G44 hS
          refine ARL.q0 (v := (.ptr b36 0)) rfl rfl (Light.quiet (opNil rfl rfl rfl)) ?_
          refine ARL.q0 (v := (.ptr b36 3)) rfl rfl (Light.quiet (opFieldAddr rfl fieldA_56_3 rfl rfl)) ?_
          refine ARL.n rfl rfl rfl rfl (hPut hS (j := 2) rfl rfl sizeA_26 rfl rfl (hS.one (k := 1) rfl) (nlt rfl) ?_); rintro G46 hS
          refine ARL.done ?_
          refine QBlock.nrm ?_
          refine QThen.nrm ?_
          refine AWP.lastR rfl ?_
          refine ASL.q (v := (.int .i64 (W (x48_l0 + 1)))) rfl rfl (Light.quiet (opInt rfl rfl rfl rfl)) ?_
          refine ASL.q (v := (.int .i64 (W (x48_l0 + 1)))) rfl rfl (Light.quiet (opMove rfl rfl)) ?_
          refine ASL.done ?_
          refine QThen.nrm ?_
          exact ⟨(y25, y26, y27, z83, (W (x48_l0 + 1))), v83, (someE hF).symm, ⟨rfl, rfl, rfl, rfl, rfl, rfl, trivial⟩, (hS.pick [0, 1, 2, 4, 5] rfl rfl)⟩
        · skip
          refine AWP.seqR rfl ?_
          refine ASL.q (v := (TNode.av a50)) rfl rfl (Light.quiet (kAtA hS (j := 0) rfl rfl aggA_43 sizeA_43 rfl (nlt rfl) rfl)) ?_
          refine ASL.q (v := (.int .i64 (impl_ltlParts a50))) rfl rfl ((qCall rfl rfl call_34 (impl_ltlParts_ok a50) rfl)) ?_
          refine ASL.done ?_
          refine AWP.block ?_
          refine AWP.seqR rfl ?_
          refine ASL.q (v := (.bool (decide (((impl_ltlParts a50)) = 1)))) rfl rfl (Light.quiet (opInt rfl rfl rfl rfl)) ?_
          refine ASL.q (v := (.bool (decide (((impl_ltlParts a50)) = 1)))) rfl rfl (Light.quiet (opAssign rfl rfl)) ?_
          refine ASL.done ?_
          refine AWP.ifP hF rfl (fun hc48 hF => ?_) (fun hc48 hF => ?_)
          · skip
            refine AWP.lastR rfl ?_
            refine ASL.q (v := (.ptr b10 1)) rfl rfl (Light.quiet (opFieldAddr rfl fieldA_43_1 rfl rfl)) ?_
            refine ASL.q (v := (.int .i64 a50.a)) rfl rfl (Light.quiet (kAt hS (j := 0) rfl rfl aggA_3 rfl rfl)) ?_
            refine ASL.q (v := vp1) rfl rfl (Light.quiet (opMove rfl rfl)) ?_
            refine ASL.q (v := (.int .i64 (p1.length : Int))) rfl rfl (Light.quiet (kLen hS (j := 1) rfl rfl rfl rfl lenT_26 rfl)) ?_
            refine ASL.q (v := (.int .i64 (W (a50.a + ((p1.length : Int)))))) rfl rfl (Light.quiet (opInt rfl rfl rfl rfl)) ?_
            refine ASL.q (v := (.ptr b10 1)) rfl rfl (Light.quiet (opFieldAddr rfl fieldA_43_1 rfl rfl)) ?_
            refine ASL.n rfl rfl (hPut hS (j := 0) rfl rfl sizeA_3 rfl rfl rfl (nlt rfl) ?_); rintro G49 hS
            refine ASL.done ?_
            refine QBlock.nrm ?_
            refine QThen.nrm ?_
            exact ⟨a50.kind, (W (a50.a + ((p1.length : Int)))), a50.b, ⟨rfl, rfl, rfl, rfl, rfl, rfl, rfl, trivial⟩, (hS.pick [1, 2, 3, 0, 4, 5] rfl rfl), hF⟩
          · skip
            refine AWP.seqR rfl ?_
            refine ASL.q (v := (.bool (decide (((impl_ltlParts a50)) = 2)))) rfl rfl (Light.quiet (opInt rfl rfl rfl rfl)) ?_
            refine ASL.q (v := (.bool (decide (((impl_ltlParts a50)) = 2)))) rfl rfl (Light.quiet (opAssign rfl rfl)) ?_
            refine ASL.done ?_
            refine AWP.ifP hF rfl (fun hc50 hF => ?_) (fun hc50 hF => ?_)
            · skip
              refine AWP.seqR rfl ?_
              refine ASL.q (v := (.ptr b10 1)) rfl rfl (Light.quiet (opFieldAddr rfl fieldA_43_1 rfl rfl)) ?_
              refine ASL.q (v := (.int .i64 a50.a)) rfl rfl (Light.quiet (kAt hS (j := 0) rfl rfl aggA_3 rfl rfl)) ?_
              refine ASL.q (v := vp1) rfl rfl (Light.quiet (opMove rfl rfl)) ?_
              refine ASL.q (v := (.int .i64 (p1.length : Int))) rfl rfl (Light.quiet (kLen hS (j := 1) rfl rfl rfl rfl lenT_26 rfl)) ?_
              refine ASL.q (v := (.int .i64 (W (a50.a + ((p1.length : Int)))))) rfl rfl (Light.quiet (opInt rfl rfl rfl rfl)) ?_
              refine ASL.q (v := (.ptr b10 1)) rfl rfl (Light.quiet (opFieldAddr rfl fieldA_43_1 rfl rfl)) ?_
              refine ASL.n rfl rfl (hPut hS (j := 0) rfl rfl sizeA_3 rfl rfl rfl (nlt rfl) ?_); rintro G51 hS
              refine ASL.done ?_
              refine AWP.lastR rfl ?_
              refine ASL.q (v := (.ptr b10 2)) rfl rfl (Light.quiet (opFieldAddr rfl fieldA_43_2 rfl rfl)) ?_
              refine ASL.q (v := (.int .i64 a50.b)) rfl rfl (Light.quiet (kAt hS (j := 0) rfl rfl aggA_3 rfl rfl)) ?_
              refine ASL.q (v := vp1) rfl rfl (Light.quiet (opMove rfl rfl)) ?_
              refine ASL.q (v := (.int .i64 (p1.length : Int))) rfl rfl (Light.quiet (kLen hS (j := 1) rfl rfl rfl rfl lenT_26 rfl)) ?_
              refine ASL.q (v := (.int .i64 (W (a50.b + ((p1.length : Int)))))) rfl rfl (Light.quiet (opInt rfl rfl rfl rfl)) ?_
              refine ASL.q (v := (.ptr b10 2)) rfl rfl (Light.quiet (opFieldAddr rfl fieldA_43_2 rfl rfl)) ?_
              refine ASL.n rfl rfl (hPut hS (j := 0) rfl rfl sizeA_3 rfl rfl rfl (nlt rfl) ?_); rintro G52 hS
              refine ASL.done ?_
              refine QBlock.nrm ?_
              refine QThen.nrm ?_
              exact ⟨a50.kind, (W (a50.a + ((p1.length : Int)))), (W (a50.b + ((p1.length : Int)))), ⟨rfl, rfl, rfl, rfl, rfl, rfl, rfl, trivial⟩, (hS.pick [1, 2, 3, 0, 4, 5] rfl rfl), hF⟩
            · skip
              refine AWP.skip ?_
              refine QBlock.nrm ?_
              refine QThen.nrm ?_
              exact ⟨a50.kind, a50.a, a50.b, ⟨rfl, rfl, rfl, rfl, rfl, rfl, rfl, trivial⟩, (hS.pick [1, 2, 3, 0, 4, 5] rfl rfl), hF⟩
      · skip
        refine AWP.exit ?_
        refine QThen.ext ?_
        refine QThen.ext ?_
        refine QBlock.hit ?_
        obtain rfl := (hx32 _ (someE hF).symm)
        have hF := hR35
        refine QThen.nrm ?_
        exact ⟨y25, y26, y27, y28, w29, ⟨rfl, rfl, rfl, trivial⟩, (hS.pick [0, 1, 2, 3, 4] rfl rfl), hF⟩

set_option maxRecDepth 10000 in
theorem laws_FnExactLtlPair_ok {p0 : Int} {p1 : (List TNode)} {p2 : (List TNode)} {r : Bool} (hF : laws_FnExactLtlPair p0 p1 p2 = some r) : PC Try.prog 5 [(.int .i64 p0), (.list 3 (List.map TNode.av p1)), (.list 3 (List.map TNode.av p2))] fun v => v = (.bool r) := by
  refine PC.enter Try.func5 rfl Try.ntmps5 (by simp) ?_
  have hS := Sep.void; unfold laws_FnExactLtlPair at hF
  refine AWP.seqR rfl ?_
  refine ASL.q (v := (.bool false)) rfl rfl (Light.quiet (opAssign rfl rfl)) ?_
  refine ASL.done ?_
  refine AWP.seqR rfl ?_
  refine ASL.q (v := (.int .i64 1048576)) rfl rfl (Light.quiet (opAssign rfl rfl)) ?_
  refine ASL.done ?_
  refine AWP.seqR rfl ?_
  refine ASL.q (v := (.list 3 (List.map TNode.av p1))) rfl rfl (Light.quiet (opMove rfl rfl)) ?_
  refine ASL.q (v := (.int .i64 1048576)) rfl rfl (Light.quiet (opMove rfl rfl)) ?_
  refine ASL.q (v := (.int .i64 (laws_szNodeS p1 1048576))) rfl rfl ((qCall rfl rfl call_8 (laws_szNodeS_ok p1 1048576) rfl)) ?_
  refine ASL.q (v := (.int .i64 (laws_szNodeS p1 1048576))) rfl rfl (Light.quiet (opAssign rfl rfl)) ?_
  refine ASL.done ?_
  refine AWP.seq ?_
  refine AWP.seqR rfl ?_
  refine ASL.q (v := (.int .i64 (laws_szNodeS p1 1048576))) rfl rfl (Light.quiet (opMove rfl rfl)) ?_
  refine ASL.q (v := (.bool (decide (((laws_szNodeS p1 1048576)) < 0)))) rfl rfl (Light.quiet (opInt rfl rfl rfl rfl)) ?_
  refine ASL.done ?_
  refine AWP.ifP hF rfl (fun hc1 hF => ?_) (fun hc1 hF => ?_)
  · skip
    refine AWP.seqR rfl ?_
    refine ASL.q (v := (.bool true)) rfl rfl (Light.quiet (opAssign rfl rfl)) ?_
    refine ASL.done ?_
    refine AWP.ret ?_
    refine QThen.rt ?_
    obtain rfl := someE hF
    exact QRet.sole (v := (.bool true)) ⟨rfl, trivial⟩ rfl
  · skip
    refine AWP.skip ?_
    refine QThen.nrm ?_
    refine AWP.seqR rfl ?_
    refine ASL.q (v := (.list 3 (List.map TNode.av p2))) rfl rfl (Light.quiet (opMove rfl rfl)) ?_
    refine ASL.q (v := (.int .i64 (laws_szNodeS p1 1048576))) rfl rfl (Light.quiet (opMove rfl rfl)) ?_
    refine ASL.q (v := (.int .i64 (laws_szNodeS p2 ((laws_szNodeS p1 1048576))))) rfl rfl ((qCall rfl rfl call_8 (laws_szNodeS_ok p2 ((laws_szNodeS p1 1048576))) rfl)) ?_
    refine ASL.q (v := (.int .i64 (laws_szNodeS p2 ((laws_szNodeS p1 1048576))))) rfl rfl (Light.quiet (opAssign rfl rfl)) ?_
    refine ASL.done ?_
    refine AWP.seq ?_
    refine AWP.seqR rfl ?_
    refine ASL.q (v := (.int .i64 (laws_szNodeS p2 ((laws_szNodeS p1 1048576))))) rfl rfl (Light.quiet (opMove rfl rfl)) ?_
    refine ASL.q (v := (.bool (decide (((laws_szNodeS p2 ((laws_szNodeS p1 1048576)))) < 0)))) rfl rfl (Light.quiet (opInt rfl rfl rfl rfl)) ?_
    refine ASL.done ?_
    refine AWP.ifP hF rfl (fun hc2 hF => ?_) (fun hc2 hF => ?_)
    · skip
      refine AWP.seqR rfl ?_
      refine ASL.q (v := (.bool true)) rfl rfl (Light.quiet (opAssign rfl rfl)) ?_
      refine ASL.done ?_
      refine AWP.ret ?_
      refine QThen.rt ?_
      obtain rfl := someE hF
      exact QRet.sole (v := (.bool true)) ⟨rfl, trivial⟩ rfl
    · skip
      refine AWP.skip ?_
      refine QThen.nrm ?_
      refine AWP.seqR rfl ?_
      refine ASL.q (v := (.int .i64 p0)) rfl rfl (Light.quiet (opMove rfl rfl)) ?_
      refine ASL.q (v := (.list 3 (List.map TNode.av p1))) rfl rfl (Light.quiet (opMove rfl rfl)) ?_
      obtain ⟨a32, ha32, hF⟩ := bindE hF
      refine ASL.q (v := (.list 3 (List.map TNode.av a32))) rfl rfl ((qCall rfl rfl call_10 (PO.list (laws_toNodeS_ok ha32)) rfl)) ?_
      refine ASL.q (v := (.list 3 (List.map TNode.av p2))) rfl rfl (Light.quiet (opMove rfl rfl)) ?_
      obtain ⟨a34, ha34, hF⟩ := bindE hF
      refine ASL.q (v := (.list 3 (List.map TNode.av a34))) rfl rfl ((qCall rfl rfl call_10 (PO.list (laws_toNodeS_ok ha34)) rfl)) ?_
      obtain ⟨a35, ha35, hF⟩ := bindE hF
      refine ASL.x rfl rfl (hCallS hS [] (F := []) rfl rfl rfl call_19 (spec_LtlPair_ok ha35) rfl rfl ?_); rintro _ _ G5 ⟨w3, rfl, rfl⟩ hS
      refine ASL.q (v := (.tup [w3, (.bool a35.2)])) rfl rfl (Light.quiet (opMove rfl rfl)) ?_
      refine ASL.q (v := w3) rfl rfl (Light.quiet (opExtract rfl rfl rfl)) ?_
      refine ASL.q (v := (.bool a35.2)) rfl rfl (Light.quiet (opExtract rfl rfl rfl)) ?_
      refine ASL.q (v := w3) rfl rfl (Light.quiet (opAssign rfl rfl)) ?_
      refine ASL.q (v := (.bool a35.2)) rfl rfl (Light.quiet (opAssign rfl rfl)) ?_
      refine ASL.done ?_
      refine AWP.seqR rfl ?_
      refine ASL.q (v := (.list 3 (List.map TNode.av p1))) rfl rfl (Light.quiet (opMove rfl rfl)) ?_
      obtain ⟨a39, ha39, hF⟩ := bindE hF
      refine ASL.x rfl rfl (hCallO hS rfl rfl call_10 (laws_toNodeS_ok ha39) rfl ?_); rintro v39 G6 hK hS
      refine ASL.q (v := v39) rfl rfl (Light.quiet (opAssign rfl rfl)) ?_
      refine ASL.done ?_
      refine AWP.seqR rfl ?_
      refine ASL.q (v := (.list 3 (List.map TNode.av p2))) rfl rfl (Light.quiet (opMove rfl rfl)) ?_
      obtain ⟨a41, ha41, hF⟩ := bindE hF
      refine ASL.x rfl rfl (hCallO hS rfl rfl call_10 (laws_toNodeS_ok ha41) rfl ?_); rintro v41 G8 hK hS
      refine ASL.q (v := v41) rfl rfl (Light.quiet (opAssign rfl rfl)) ?_
      refine ASL.done ?_
      refine AWP.seqR rfl ?_
      refine ASL.q (v := (.int .i64 p0)) rfl rfl (Light.quiet (opMove rfl rfl)) ?_
      refine ASL.q (v := v39) rfl rfl (Light.quiet (opMove rfl rfl)) ?_
      refine ASL.q (v := v41) rfl rfl (Light.quiet (opMove rfl rfl)) ?_
      obtain ⟨a46, ha46, hF⟩ := bindE hF
      refine ASL.x rfl rfl (hCallS hS [1, 0, 2] (F := [.row 3 w3 (List.map TNode.av a35.1)]) rfl rfl rfl call_20 (impl_LtlPair_ok ha46) rfl rfl ?_); rintro _ _ G12 ⟨w10, rfl, rfl⟩ hS
      refine ASL.q (v := (.tup [w10, (.bool a46.2.1)])) rfl rfl (Light.quiet (opMove rfl rfl)) ?_
      refine ASL.q (v := w10) rfl rfl (Light.quiet (opExtract rfl rfl rfl)) ?_
      refine ASL.q (v := (.bool a46.2.1)) rfl rfl (Light.quiet (opExtract rfl rfl rfl)) ?_
      refine ASL.q (v := w10) rfl rfl (Light.quiet (opAssign rfl rfl)) ?_
      refine ASL.q (v := (.bool a46.2.1)) rfl rfl (Light.quiet (opAssign rfl rfl)) ?_
      refine ASL.done ?_
      refine AWP.seq ?_
      refine AWP.seqR rfl ?_
      refine ASL.q (v := w10) rfl rfl (Light.quiet (opMove rfl rfl)) ?_
      refine ASL.q (v := w3) rfl rfl (Light.quiet (opMove rfl rfl)) ?_
      obtain ⟨a51, ha51, hF⟩ := bindE hF
      refine ASL.q (v := (.bool a51)) rfl rfl ((qCallR hS rfl rfl call_13 (laws_eqNodeS_ok ha51) ⟨.row (k := 0) rfl, .row (k := 3) rfl, trivial⟩ (by constructor))) ?_
      refine ASL.q (v := (.bool (!a51))) rfl rfl (Light.quiet (opNot rfl rfl)) ?_
      obtain ⟨c53, hc53, hF⟩ := bndE hF
      refine ASL.q (v := (.bool c53)) rfl rfl ((Quiet.cast (Light.quiet (opMove rfl rfl)) (congrArg AV.bool hc53.symm))) ?_
      refine ASL.g (v := (.bool a46.2.1)) (.bool c53) false rfl (wF _) rfl (fun hG => by have q0 := gN hG; subst q0; exact Light.quiet (opMove rfl rfl)) ?_
      refine ASL.g (v := (.bool a35.2)) (.bool c53) false rfl (wF _) rfl (fun hG => by have q0 := gN hG; subst q0; exact Light.quiet (opMove rfl rfl)) ?_
      refine ASL.g (v := (.bool (!(a46.2.1 == a35.2)))) (.bool c53) false rfl (wF _) rfl (fun hG => by have q0 := gN hG; subst q0; exact Light.quiet (opBoolEq rfl rfl rfl und_4 rfl)) ?_
      refine ASL.q (v := (.bool (c53 || (!(a46.2.1 == a35.2))))) rfl rfl (Light.quiet (opPick (b := c53) rfl rfl (by cases c53 <;> rfl))) ?_
      refine ASL.done ?_
      refine AWP.ifB hF rfl (fun hc13 hF => ?_) (fun hc13 hF => ?_)
      · skip
        refine AWP.seqR rfl ?_
        refine ASL.q (v := (.bool false)) rfl rfl (Light.quiet (opAssign rfl rfl)) ?_
        refine ASL.done ?_
        refine AWP.ret ?_
        refine QThen.rt ?_
        obtain rfl := someE hF
        exact QRet.sole (v := (.bool false)) ⟨rfl, trivial⟩ rfl
      · skip
        refine AWP.skip ?_
        refine QThen.nrm ?_
        refine AWP.seq ?_
        refine AWP.seqR rfl ?_
        refine ASL.q (v := v39) rfl rfl (Light.quiet (opMove rfl rfl)) ?_
        refine ASL.q (v := (.list 3 (List.map TNode.av p1))) rfl rfl (Light.quiet (opMove rfl rfl)) ?_
        obtain ⟨a60, ha60, hF⟩ := bindE hF
        refine ASL.q (v := (.list 3 (List.map TNode.av a60))) rfl rfl ((qCall rfl rfl call_10 (PO.list (laws_toNodeS_ok ha60)) rfl)) ?_
        obtain ⟨a61, ha61, hF⟩ := bindE hF
        refine ASL.q (v := (.bool a61)) rfl rfl ((qCallR hS rfl rfl call_13 (laws_eqNodeS_ok ha61) ⟨.row (k := 1) rfl, .same _, trivial⟩ (by constructor))) ?_
        refine ASL.q (v := (.bool (!a61))) rfl rfl (Light.quiet (opNot rfl rfl)) ?_
        refine ASL.done ?_
        refine AWP.ifB hF rfl (fun hc14 hF => ?_) (fun hc14 hF => ?_)
        · skip
          refine AWP.seqR rfl ?_
          refine ASL.q (v := (.bool false)) rfl rfl (Light.quiet (opAssign rfl rfl)) ?_
          refine ASL.done ?_
          refine AWP.ret ?_
          refine QThen.rt ?_
          obtain rfl := someE hF
          exact QRet.sole (v := (.bool false)) ⟨rfl, trivial⟩ rfl
        · skip
          refine AWP.skip ?_
          refine QThen.nrm ?_
          refine AWP.seq ?_
          refine AWP.seqR rfl ?_
          refine ASL.q (v := v41) rfl rfl (Light.quiet (opMove rfl rfl)) ?_
          refine ASL.q (v := (.list 3 (List.map TNode.av p2))) rfl rfl (Light.quiet (opMove rfl rfl)) ?_
          obtain ⟨a65, ha65, hF⟩ := bindE hF
          refine ASL.q (v := (.list 3 (List.map TNode.av a65))) rfl rfl ((qCall rfl rfl call_10 (PO.list (laws_toNodeS_ok ha65)) rfl)) ?_
          obtain ⟨a66, ha66, hF⟩ := bindE hF
          refine ASL.q (v := (.bool a66)) rfl rfl ((qCallR hS rfl rfl call_13 (laws_eqNodeS_ok ha66) ⟨.row (k := 2) rfl, .same _, trivial⟩ (by constructor))) ?_
          refine ASL.q (v := (.bool (!a66))) rfl rfl (Light.quiet (opNot rfl rfl)) ?_
          refine ASL.done ?_
          refine AWP.ifB hF rfl (fun hc15 hF => ?_) (fun hc15 hF => ?_)
          · skip
            refine AWP.seqR rfl ?_
            refine ASL.q (v := (.bool false)) rfl rfl (Light.quiet (opAssign rfl rfl)) ?_
            refine ASL.done ?_
            refine AWP.ret ?_
            refine QThen.rt ?_
            obtain rfl := someE hF
            exact QRet.sole (v := (.bool false)) ⟨rfl, trivial⟩ rfl
          · skip
            refine AWP.skip ?_
            refine QThen.nrm ?_
            refine AWP.seqR rfl ?_
            refine ASL.q (v := (.int .i64 1)) rfl rfl (Light.quiet (opAssign rfl rfl)) ?_
            refine ASL.done ?_
            refine AWP.seqR rfl ?_
            refine ASL.q (v := v39) rfl rfl (Light.quiet (opMove rfl rfl)) ?_
            refine ASL.q (v := (.int .i64 1)) rfl rfl (Light.quiet (opMove rfl rfl)) ?_
            obtain ⟨a70, ha70, hF⟩ := bindE hF
            refine ASL.x rfl rfl (hCallS hS [1, 0, 2, 3] (F := [.row 3 w10 (List.map TNode.av a46.1), .row 3 v41 (List.map TNode.av a46.2.2.2), .row 3 w3 (List.map TNode.av a35.1)]) rfl rfl rfl call_14 (laws_markNodeS_ok ha70) rfl rfl ?_); rintro _ _ G16 ⟨rfl, rfl⟩ hS
            refine ASL.q (v := (.int .i64 a70.1)) rfl rfl (Light.quiet (opAssign rfl rfl)) ?_
            refine ASL.done ?_
            refine AWP.seqR rfl ?_
            refine ASL.q (v := v41) rfl rfl (Light.quiet (opMove rfl rfl)) ?_
            refine ASL.q (v := (.int .i64 a70.1)) rfl rfl (Light.quiet (opMove rfl rfl)) ?_
            obtain ⟨a73, ha73, hF⟩ := bindE hF
            refine ASL.x rfl rfl (hCallS hS [2, 0, 1, 3] (F := [.row 3 v39 (List.map TNode.av a70.2), .row 3 w10 (List.map TNode.av a46.1), .row 3 w3 (List.map TNode.av a35.1)]) rfl rfl rfl call_14 (laws_markNodeS_ok ha73) rfl rfl ?_); rintro _ _ G17 ⟨rfl, rfl⟩ hS
            refine ASL.q (v := (.int .i64 a73.1)) rfl rfl (Light.quiet (opAssign rfl rfl)) ?_
            refine ASL.done ?_
            refine AWP.seq ?_
            refine AWP.seqR rfl ?_
            refine ASL.q (v := (.int .i64 a73.1)) rfl rfl (Light.quiet (opMove rfl rfl)) ?_
            refine ASL.q (v := (.bool (decide (a73.1 < 0)))) rfl rfl (Light.quiet (opInt rfl rfl rfl rfl)) ?_
            obtain ⟨c76, hc76, hF⟩ := bndE hF
            refine ASL.q (v := (.bool c76)) rfl rfl ((Quiet.cast (Light.quiet (opMove rfl rfl)) (congrArg AV.bool hc76.symm))) ?_
            refine ASL.g (v := w10) (.bool c76) false rfl (wF _) rfl (fun hG => by have q0 := gN hG; subst q0; exact Light.quiet (opMove rfl rfl)) ?_
            refine ASL.g (v := w3) (.bool c76) false rfl (wF _) rfl (fun hG => by have q0 := gN hG; subst q0; exact Light.quiet (opMove rfl rfl)) ?_
            obtain ⟨a79, ha79, hF⟩ := bindE hF
            refine ASL.g (v := (.bool a79)) (.bool c76) false rfl (wF _) rfl (fun hG => by have q0 := gN hG; subst q0; exact (qCallR hS rfl rfl call_13 (laws_eqNodeS_ok (whenE ha79)) ⟨.row (k := 2) rfl, .row (k := 3) rfl, trivial⟩ (by constructor))) ?_
            refine ASL.g (v := (.bool (!a79))) (.bool c76) false rfl (wF _) rfl (fun hG => by have q0 := gN hG; subst q0; exact Light.quiet (opNot rfl rfl)) ?_
            refine ASL.q (v := (.bool (c76 || (!a79)))) rfl rfl (Light.quiet (opPick (b := c76) rfl rfl (by cases c76 <;> rfl))) ?_
            obtain ⟨c82, hc82, hF⟩ := bndE hF
            refine ASL.q (v := (.bool c82)) rfl rfl ((Quiet.cast (Light.quiet (opMove rfl rfl)) (congrArg AV.bool hc82.symm))) ?_
            refine ASL.g (v := (.bool a46.2.1)) (.bool c82) false rfl (wF _) rfl (fun hG => by have q0 := gN hG; subst q0; exact Light.quiet (opMove rfl rfl)) ?_
            refine ASL.g (v := (.bool a35.2)) (.bool c82) false rfl (wF _) rfl (fun hG => by have q0 := gN hG; subst q0; exact Light.quiet (opMove rfl rfl)) ?_
            refine ASL.g (v := (.bool (!(a46.2.1 == a35.2)))) (.bool c82) false rfl (wF _) rfl (fun hG => by have q0 := gN hG; subst q0; exact Light.quiet (opBoolEq rfl rfl rfl und_4 rfl)) ?_
            refine ASL.q (v := (.bool (c82 || (!(a46.2.1 == a35.2))))) rfl rfl (Light.quiet (opPick (b := c82) rfl rfl (by cases c82 <;> rfl))) ?_
            refine ASL.done ?_
            refine AWP.ifB hF rfl (fun hc18 hF => ?_) (fun hc18 hF => ?_)
            · skip
              refine AWP.seqR rfl ?_
              refine ASL.q (v := (.bool false)) rfl rfl (Light.quiet (opAssign rfl rfl)) ?_
              refine ASL.done ?_
              refine AWP.ret ?_
              refine QThen.rt ?_
              obtain rfl := someE hF
              exact QRet.sole (v := (.bool false)) ⟨rfl, trivial⟩ rfl
            · skip
              refine AWP.skip ?_
              refine QThen.nrm ?_
              refine AWP.seqR rfl ?_
              refine ASL.q (v := (.int .i64 1)) rfl rfl (Light.quiet (opAssign rfl rfl)) ?_
              refine ASL.done ?_
              refine AWP.seqR rfl ?_
              refine ASL.q (v := w10) rfl rfl (Light.quiet (opMove rfl rfl)) ?_
              refine ASL.q (v := (.int .i64 1)) rfl rfl (Light.quiet (opMove rfl rfl)) ?_
              obtain ⟨a89, ha89, hF⟩ := bindE hF
              refine ASL.x rfl rfl (hCallS hS [2, 0, 1, 3] (F := [.row 3 v41 (List.map TNode.av a73.2), .row 3 v39 (List.map TNode.av a70.2), .row 3 w3 (List.map TNode.av a35.1)]) rfl rfl rfl call_14 (laws_markNodeS_ok ha89) rfl rfl ?_); rintro _ _ G19 ⟨rfl, rfl⟩ hS
              refine ASL.q (v := (.int .i64 a89.1)) rfl rfl (Light.quiet (opAssign rfl rfl)) ?_
              refine ASL.done ?_
              refine AWP.seqR rfl ?_
              refine ASL.q (v := (.int .i64 1)) rfl rfl (Light.quiet (opAssign rfl rfl)) ?_
              refine ASL.done ?_
              refine AWP.seqR rfl ?_
              refine ASL.q (v := w10) rfl rfl (Light.quiet (opMove rfl rfl)) ?_
              refine ASL.q (v := (.int .i64 1)) rfl rfl (Light.quiet (opMove rfl rfl)) ?_
              obtain ⟨a92, ha92, hF⟩ := bindE hF
              refine ASL.q (v := (.int .i64 a92)) rfl rfl ((qCallR hS rfl rfl call_21 (laws_heldNodeS_ok ha92) ⟨.row (k := 0) rfl, .same _, trivial⟩ (by constructor))) ?_
              refine ASL.q (v := (.int .i64 a92)) rfl rfl (Light.quiet (opAssign rfl rfl)) ?_
              refine ASL.done ?_
              refine AWP.seq ?_
              refine AWP.seqR rfl ?_
              refine ASL.q (v := (.int .i64 a92)) rfl rfl (Light.quiet (opMove rfl rfl)) ?_
              refine ASL.q (v := (.bool (decide (a92 < 0)))) rfl rfl (Light.quiet (opInt rfl rfl rfl rfl)) ?_
              refine ASL.done ?_
              refine AWP.ifP hF rfl (fun hc20 hF => ?_) (fun hc20 hF => ?_)
              · skip
                refine AWP.seqR rfl ?_
                refine ASL.q (v := (.bool false)) rfl rfl (Light.quiet (opAssign rfl rfl)) ?_
                refine ASL.done ?_
                refine AWP.ret ?_
                refine QThen.rt ?_
                obtain rfl := someE hF
                exact QRet.sole (v := (.bool false)) ⟨rfl, trivial⟩ rfl
              · skip
                refine AWP.skip ?_
                refine QThen.nrm ?_
                refine AWP.seq ?_
                refine AWP.seqR rfl ?_
                refine ASL.q (v := (.int .i64 a92)) rfl rfl (Light.quiet (opMove rfl rfl)) ?_
                refine ASL.q (v := (.int .i64 a89.1)) rfl rfl (Light.quiet (opMove rfl rfl)) ?_
                refine ASL.q (v := (.bool (decide (a92 ≠ a89.1)))) rfl rfl (Light.quiet (opInt rfl rfl rfl rfl)) ?_
                refine ASL.done ?_
                refine AWP.ifP hF rfl (fun hc21 hF => ?_) (fun hc21 hF => ?_)
                · skip
                  refine AWP.seqR rfl ?_
                  refine ASL.q (v := (.bool false)) rfl rfl (Light.quiet (opAssign rfl rfl)) ?_
                  refine ASL.done ?_
                  refine AWP.ret ?_
                  refine QThen.rt ?_
                  obtain rfl := someE hF
                  exact QRet.sole (v := (.bool false)) ⟨rfl, trivial⟩ rfl
                · skip
                  refine AWP.skip ?_
                  refine QThen.nrm ?_
                  refine AWP.seqR rfl ?_
                  refine ASL.q (v := (.int .i64 p0)) rfl rfl (Light.quiet (opMove rfl rfl)) ?_
                  refine ASL.q (v := (.list 3 (List.map TNode.av p1))) rfl rfl (Light.quiet (opMove rfl rfl)) ?_
                  obtain ⟨a101, ha101, hF⟩ := bindE hF
                  refine ASL.x rfl rfl (hCallO hS rfl rfl call_10 (laws_toNodeS_ok ha101) rfl ?_); rintro v101 G22 hK hS
                  refine ASL.q (v := (.list 3 (List.map TNode.av p2))) rfl rfl (Light.quiet (opMove rfl rfl)) ?_
                  obtain ⟨a103, ha103, hF⟩ := bindE hF
                  refine ASL.x rfl rfl (hCallO hS rfl rfl call_10 (laws_toNodeS_ok ha103) rfl ?_); rintro v103 G24 hK hS
                  obtain ⟨a104, ha104, hF⟩ := bindE hF
                  refine ASL.x rfl rfl (hCallS hS [1, 0, 2, 3, 4, 5] (F := [.row 3 w10 (List.map TNode.av a89.2), .row 3 v41 (List.map TNode.av a73.2), .row 3 v39 (List.map TNode.av a70.2), .row 3 w3 (List.map TNode.av a35.1)]) rfl rfl rfl call_20 (impl_LtlPair_ok ha104) rfl rfl ?_); rintro _ _ G28 ⟨w26, rfl, rfl⟩ hS
                  refine ASL.q (v := (.tup [w26, (.bool a104.2.1)])) rfl rfl (Light.quiet (opMove rfl rfl)) ?_
                  refine ASL.q (v := w26) rfl rfl (Light.quiet (opExtract rfl rfl rfl)) ?_
                  refine ASL.q (v := (.bool a104.2.1)) rfl rfl (Light.quiet (opExtract rfl rfl rfl)) ?_
                  refine ASL.q (v := w26) rfl rfl (Light.quiet (opAssign rfl rfl)) ?_
                  refine ASL.q (v := (.bool a104.2.1)) rfl rfl (Light.quiet (opAssign rfl rfl)) ?_
                  refine ASL.done ?_
                  refine AWP.seq ?_
                  refine AWP.seqR rfl ?_
                  refine ASL.q (v := w26) rfl rfl (Light.quiet (opMove rfl rfl)) ?_
                  refine ASL.q (v := w3) rfl rfl (Light.quiet (opMove rfl rfl)) ?_
                  obtain ⟨a109, ha109, hF⟩ := bindE hF
                  refine ASL.q (v := (.bool a109)) rfl rfl ((qCallR hS rfl rfl call_13 (laws_eqNodeS_ok ha109) ⟨.row (k := 0) rfl, .row (k := 6) rfl, trivial⟩ (by constructor))) ?_
                  refine ASL.q (v := (.bool (!a109))) rfl rfl (Light.quiet (opNot rfl rfl)) ?_
                  obtain ⟨c111, hc111, hF⟩ := bndE hF
                  refine ASL.q (v := (.bool c111)) rfl rfl ((Quiet.cast (Light.quiet (opMove rfl rfl)) (congrArg AV.bool hc111.symm))) ?_
                  refine ASL.g (v := (.bool a104.2.1)) (.bool c111) false rfl (wF _) rfl (fun hG => by have q0 := gN hG; subst q0; exact Light.quiet (opMove rfl rfl)) ?_
                  refine ASL.g (v := (.bool a35.2)) (.bool c111) false rfl (wF _) rfl (fun hG => by have q0 := gN hG; subst q0; exact Light.quiet (opMove rfl rfl)) ?_
                  refine ASL.g (v := (.bool (!(a104.2.1 == a35.2)))) (.bool c111) false rfl (wF _) rfl (fun hG => by have q0 := gN hG; subst q0; exact Light.quiet (opBoolEq rfl rfl rfl und_4 rfl)) ?_
                  refine ASL.q (v := (.bool (c111 || (!(a104.2.1 == a35.2))))) rfl rfl (Light.quiet (opPick (b := c111) rfl rfl (by cases c111 <;> rfl))) ?_
                  refine ASL.done ?_
                  refine AWP.ifB hF rfl (fun hc29 hF => ?_) (fun hc29 hF => ?_)
                  · skip
                    refine AWP.seqR rfl ?_
                    refine ASL.q (v := (.bool false)) rfl rfl (Light.quiet (opAssign rfl rfl)) ?_
                    refine ASL.done ?_
                    refine AWP.ret ?_
                    refine QThen.rt ?_
                    obtain rfl := someE hF
                    exact QRet.sole (v := (.bool false)) ⟨rfl, trivial⟩ rfl
                  · skip
                    refine AWP.skip ?_
                    refine QThen.nrm ?_
                    refine AWP.seqR rfl ?_
                    refine ASL.q (v := (.int .i64 1)) rfl rfl (Light.quiet (opAssign rfl rfl)) ?_
                    refine ASL.done ?_
                    refine AWP.seqR rfl ?_
                    refine ASL.q (v := w10) rfl rfl (Light.quiet (opMove rfl rfl)) ?_
                    refine ASL.q (v := (.int .i64 1)) rfl rfl (Light.quiet (opMove rfl rfl)) ?_
                    obtain ⟨a118, ha118, hF⟩ := bindE hF
                    refine ASL.q (v := (.int .i64 a118)) rfl rfl ((qCallR hS rfl rfl call_21 (laws_heldNodeS_ok ha118) ⟨.row (k := 3) rfl, .same _, trivial⟩ (by constructor))) ?_
                    refine ASL.q (v := (.int .i64 a118)) rfl rfl (Light.quiet (opAssign rfl rfl)) ?_
                    refine ASL.done ?_
                    refine AWP.seq ?_
                    refine AWP.seqR rfl ?_
                    refine ASL.q (v := (.int .i64 a118)) rfl rfl (Light.quiet (opMove rfl rfl)) ?_
                    refine ASL.q (v := (.bool (decide (a118 < 0)))) rfl rfl (Light.quiet (opInt rfl rfl rfl rfl)) ?_
                    refine ASL.done ?_
                    refine AWP.ifP hF rfl (fun hc30 hF => ?_) (fun hc30 hF => ?_)
                    · skip
                      refine AWP.seqR rfl ?_
                      refine ASL.q (v := (.bool false)) rfl rfl (Light.quiet (opAssign rfl rfl)) ?_
                      refine ASL.done ?_
                      refine AWP.ret ?_
                      refine QThen.rt ?_
                      obtain rfl := someE hF
                      exact QRet.sole (v := (.bool false)) ⟨rfl, trivial⟩ rfl
                    · skip
                      refine AWP.skip ?_
                      refine QThen.nrm ?_
                      refine AWP.seq ?_
                      refine AWP.seqR rfl ?_
                      refine ASL.q (v := (.int .i64 a118)) rfl rfl (Light.quiet (opMove rfl rfl)) ?_
                      refine ASL.q (v := (.int .i64 a89.1)) rfl rfl (Light.quiet (opMove rfl rfl)) ?_
                      refine ASL.q (v := (.bool (decide (a118 ≠ a89.1)))) rfl rfl (Light.quiet (opInt rfl rfl rfl rfl)) ?_
                      refine ASL.done ?_
                      refine AWP.ifP hF rfl (fun hc31 hF => ?_) (fun hc31 hF => ?_)
                      · skip
                        refine AWP.seqR rfl ?_
                        refine ASL.q (v := (.bool false)) rfl rfl (Light.quiet (opAssign rfl rfl)) ?_
                        refine ASL.done ?_
                        refine AWP.ret ?_
                        refine QThen.rt ?_
                        obtain rfl := someE hF
                        exact QRet.sole (v := (.bool false)) ⟨rfl, trivial⟩ rfl
                      · skip
                        refine AWP.skip ?_
                        refine QThen.nrm ?_
                        refine AWP.seqR rfl ?_
                        refine ASL.q (v := (.bool true)) rfl rfl (Light.quiet (opAssign rfl rfl)) ?_
                        refine ASL.done ?_
                        refine AWP.ret ?_
                        obtain rfl := someE hF
                        exact QRet.sole (v := (.bool true)) ⟨rfl, trivial⟩ rfl

end Go.Proofs.Ytgklefbkneomoaa
