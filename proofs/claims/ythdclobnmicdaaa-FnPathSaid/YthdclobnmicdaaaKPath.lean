/- Each of these functions of the program comes to just what its plain function says: FnPath. -/
import Derived.Test.YthdclobnmicdaaaKPathp0
namespace Go.Proofs.Ythdclobnmicdaaa
open Go Go.RowKit E
set_option linter.unusedVariables false
set_option maxRecDepth 10000 in
theorem impl_Auto_step_ok {p0 : TAuto} {p1 : Int} {p2 : Int} {r : Int} (hF : impl_Auto_step p0 p1 p2 = some r) : PC Try.prog 68 [(.rptr [(.int .i64 p0.letters), (.int .i64 p0.states), (.int .i64 p0.start), (.list 4 (List.map TEdge.av p0.edges))]), (.int .i64 p1), (.int .i64 p2)] fun v => v = (.int .i64 r) := by
  refine PC.enter Try.func68 rfl Try.ntmps68 (by simp) ?_
  have hS := Sep.void; unfold impl_Auto_step at hF
  refine AWP.seqR rfl ?_
  refine ASL.q (v := (.int .i64 0)) rfl rfl (Light.quiet (opAssign rfl rfl)) ?_
  refine ASL.done ?_
  refine AWP.seqR rfl ?_
  refine ASL.q (v := (.int .i64 0)) rfl rfl (Light.quiet (opAssign rfl rfl)) ?_
  refine ASL.done ?_
  refine AWP.seqM (fun e H => ∃ x7_1 : Int, E.Told e [(7, (.int .i64 x7_1))] ∧ E.Sep H [] ∧ impl_Auto_step.k0 x7_1 = some r) ?_ ?_
  · rintro e0 G1 ⟨x7_1, hT, hS, hF⟩; refine AWP.only _ hT ?_; unfold impl_Auto_step.k0 at hF
    refine AWP.seqR rfl ?_
    refine ASL.q (v := (.int .i64 x7_1)) rfl rfl (Light.quiet (opMove rfl rfl)) ?_
    refine ASL.q (v := (.int .i64 x7_1)) rfl rfl (Light.quiet (opAssign rfl rfl)) ?_
    refine ASL.done ?_
    refine AWP.ret ?_
    obtain rfl := someE hF
    exact QRet.sole (v := (.int .i64 x7_1)) ⟨rfl, trivial⟩ rfl
  · skip
    refine AWP.seqR rfl ?_
    refine ASL.q (v := (.rptr [(.int .i64 p0.letters), (.int .i64 p0.states), (.int .i64 p0.start), (.list 4 (List.map TEdge.av p0.edges))])) rfl rfl (Light.quiet (opMove rfl rfl)) ?_
    refine ASL.q (v := (.rptr [(.int .i64 p0.letters), (.int .i64 p0.states), (.int .i64 p0.start), (.list 4 (List.map TEdge.av p0.edges))])) rfl rfl (Light.quiet (opNil rfl rfl rfl)) ?_
    refine ASL.q (v := (.rptr [(.list 4 (List.map TEdge.av p0.edges))])) rfl rfl (Light.quiet (opFieldAddrR rfl fieldA_29_3 rfl rfl)) ?_
    refine ASL.q (v := (.list 4 (List.map TEdge.av p0.edges))) rfl rfl (Light.quiet (opLoadR rfl aggA_27 rfl rfl)) ?_
    refine ASL.q (v := (.int .i64 (p0.edges.length : Int))) rfl rfl (Light.quiet (opLenMap (f := TEdge.av) rfl rfl rfl lenT_27 rfl)) ?_
    refine ASL.q (v := (.int .i64 0)) rfl rfl (Light.quiet (opMove rfl rfl)) ?_
    refine ASL.done ?_
    refine AWP.block ?_
    obtain ⟨o5, hL4, hR6⟩ := bindE hF
    refine AWP.loopF (ω := Unit) hL4 (fun s w => [(1, (.int .i64 p1)), (2, (.int .i64 p2)), (7, (.int .i64 s.1)), (13, (.list 4 (List.map TEdge.av p0.edges))), (14, (.int .i64 (p0.edges.length : Int))), (15, (.int .i64 s.2))]) (fun s w => []) () ⟨rfl, rfl, rfl, rfl, rfl, rfl, trivial⟩ (hS.pick [] rfl rfl) ?_
    rintro ⟨x7_l0, x15_l0⟩ _ G7 hS x2 hF hx3
    try dsimp only at hS ⊢
    have hF : impl_Auto_step.b0 p0 p2 p1 x7_l0 x15_l0 = some x2 := hF; unfold impl_Auto_step.b0 at hF
    refine AWP.seqR rfl ?_
    refine ASL.q (v := (.bool (decide (x15_l0 < ((p0.edges.length : Int)))))) rfl rfl (Light.quiet (opInt rfl rfl rfl rfl)) ?_
    refine ASL.done ?_
    refine AWP.seq ?_
    refine AWP.ifP hF rfl (fun hc8 hF => ?_) (fun hc8 hF => ?_)
    · skip
      refine AWP.skip ?_
      refine QThen.nrm ?_
      refine AWP.seq ?_
      refine AWP.block ?_
      refine AWP.seqR rfl ?_
      obtain ⟨a17, ha17, hF⟩ := bindE hF
      refine ASL.q (v := (.rptr [(.int .i64 a17.from_), (.int .i64 a17.letter), (.int .i64 a17.to_), (.bool a17.good)])) rfl rfl (Light.quiet (kIx (f := TEdge.av) ha17 rfl rfl rfl elemA_27 sizeA_73 rfl)) ?_
      refine ASL.q (v := (TEdge.av a17)) rfl rfl (Light.quiet (opLoadRA rfl aggA_73 sizeA_73 rfl (nlt rfl) rfl)) ?_
      refine ASL.x rfl rfl (hNewZ hS [(.int .i64 0), (.int .i64 0), (.int .i64 0), (.bool false)] rfl zeroA_73 ⟨.inl rfl, .inl rfl, .inl rfl, .inl rfl, trivial⟩ ?_); rintro b9 G9 hK hS
      refine ASL.n rfl rfl (hPutA hS (j := 0) rfl rfl sizeA_73 rfl rfl rfl rfl rfl (nlt rfl) ?_); rintro G11 hS
      refine ASL.done ?_
      refine AWP.seqR rfl ?_
      refine ASL.q (v := (.ptr b9 1)) rfl rfl (Light.quiet (opFieldAddr rfl fieldA_73_1 rfl rfl)) ?_
      refine ASL.q (v := (.int .i64 a17.letter)) rfl rfl (Light.quiet (kAt hS (j := 0) rfl rfl aggA_3 rfl rfl)) ?_
      refine ASL.q (v := (.int .i64 p2)) rfl rfl (Light.quiet (opMove rfl rfl)) ?_
      refine ASL.q (v := (.bool (decide (a17.letter = p2)))) rfl rfl (Light.quiet (opInt rfl rfl rfl rfl)) ?_
      obtain ⟨c23, hc23, hF⟩ := bndE hF
      refine ASL.q (v := (.bool c23)) rfl rfl ((Quiet.cast (Light.quiet (opMove rfl rfl)) (congrArg AV.bool hc23.symm))) ?_
      refine ASL.g (v := (.int .i64 p1)) (.bool c23) true rfl (wT _) rfl (fun hG => by have q0 := hG; subst q0; exact Light.quiet (opMove rfl rfl)) ?_
      refine ASL.g (v := (.ptr b9 0)) (.bool c23) true rfl (wT _) rfl (fun hG => by have q0 := hG; subst q0; exact Light.quiet (opFieldAddr rfl fieldA_73_0 rfl rfl)) ?_
      refine ASL.g (v := (.int .i64 a17.from_)) (.bool c23) true rfl (wT _) rfl (fun hG => by have q0 := hG; subst q0; exact Light.quiet (kAt hS (j := 0) rfl rfl aggA_3 rfl rfl)) ?_
      refine ASL.g (v := (.bool (impl_has p1 a17.from_))) (.bool c23) true rfl (wT _) rfl (fun hG => by have q0 := hG; subst q0; exact (qCall rfl rfl call_67 (impl_has_ok p1 a17.from_) rfl)) ?_
      refine ASL.q (v := (.bool (c23 && (impl_has p1 a17.from_)))) rfl rfl (Light.quiet (opPick (b := c23) rfl rfl (by cases c23 <;> rfl))) ?_
      refine ASL.done ?_
      refine AWP.ifB hF rfl (fun hc12 hF => ?_) (fun hc12 hF => ?_)
      · skip
        refine AWP.lastR rfl ?_
        refine ASL.q (v := (.int .i64 x7_l0)) rfl rfl (Light.quiet (opMove rfl rfl)) ?_
        refine ASL.q (v := (.ptr b9 2)) rfl rfl (Light.quiet (opFieldAddr rfl fieldA_73_2 rfl rfl)) ?_
        refine ASL.q (v := (.int .i64 a17.to_)) rfl rfl (Light.quiet (kAt hS (j := 0) rfl rfl aggA_3 rfl rfl)) ?_
        refine ASL.q (v := (.int .i64 (impl_only a17.to_))) rfl rfl ((qCall rfl rfl call_58 (impl_only_ok a17.to_) rfl)) ?_
        refine ASL.q (v := (.int .i64 (bOr .i64 x7_l0 ((impl_only a17.to_))))) rfl rfl (Light.quiet (opInt rfl rfl rfl rfl)) ?_
        refine ASL.q (v := (.int .i64 (bOr .i64 x7_l0 ((impl_only a17.to_))))) rfl rfl (Light.quiet (opAssign rfl rfl)) ?_
        refine ASL.done ?_
        refine QBlock.nrm ?_
        refine QThen.nrm ?_
        refine AWP.lastR rfl ?_
        refine ASL.q (v := (.int .i64 (W (x15_l0 + 1)))) rfl rfl (Light.quiet (opInt rfl rfl rfl rfl)) ?_
        refine ASL.q (v := (.int .i64 (W (x15_l0 + 1)))) rfl rfl (Light.quiet (opMove rfl rfl)) ?_
        refine ASL.done ?_
        refine QThen.nrm ?_
        exact ⟨((bOr .i64 x7_l0 ((impl_only a17.to_))), (W (x15_l0 + 1))), (), (someE hF).symm, ⟨rfl, rfl, rfl, rfl, rfl, rfl, trivial⟩, (hS.pick [] rfl rfl)⟩
      · skip
        refine AWP.skip ?_
        refine QBlock.nrm ?_
        refine QThen.nrm ?_
        refine AWP.lastR rfl ?_
        refine ASL.q (v := (.int .i64 (W (x15_l0 + 1)))) rfl rfl (Light.quiet (opInt rfl rfl rfl rfl)) ?_
        refine ASL.q (v := (.int .i64 (W (x15_l0 + 1)))) rfl rfl (Light.quiet (opMove rfl rfl)) ?_
        refine ASL.done ?_
        refine QThen.nrm ?_
        exact ⟨(x7_l0, (W (x15_l0 + 1))), (), (someE hF).symm, ⟨rfl, rfl, rfl, rfl, rfl, rfl, trivial⟩, (hS.pick [] rfl rfl)⟩
    · skip
      refine AWP.exit ?_
      refine QThen.ext ?_
      refine QThen.ext ?_
      refine QBlock.hit ?_
      obtain rfl := (hx3 _ (someE hF).symm)
      have hF := hR6
      refine QThen.nrm ?_
      exact ⟨x7_l0, ⟨rfl, trivial⟩, (hS.pick [] rfl rfl), hF⟩

set_option maxRecDepth 10000 in
theorem impl_Auto_pathWord_ok {p0 : TAuto} {p1 : Int} {p2 : Int} {r : ((List Int) × Bool)} (hF : impl_Auto_pathWord p0 p1 p2 = some r) : HS Try.prog 60 [(.rptr [(.int .i64 p0.letters), (.int .i64 p0.states), (.int .i64 p0.start), (.list 4 (List.map TEdge.av p0.edges))]), (.int .i64 p1), (.int .i64 p2)] [] fun v L' => ∃ o0 : AV, v = .tup [o0, (.bool r.2)] ∧ L' = [.row 1 o0 (List.map (AV.int .i64) r.1)] := by
  intro H S hS
  refine HC.enter Try.func60 rfl Try.ntmps60 (by simp) ?_
  simp only [List.cons_append, List.nil_append] at hS
  unfold impl_Auto_pathWord at hF
  refine AWP.seqR rfl ?_
  have hS := hNil (s := 1) (f := (AV.int .i64)) hS
  refine ASL.q (v := .nil) rfl rfl (Light.quiet (opAssign rfl rfl)) ?_
  refine ASL.q (v := (.bool false)) rfl rfl (Light.quiet (opAssign rfl rfl)) ?_
  refine ASL.done ?_
  refine AWP.seqR rfl ?_
  refine ASL.q (v := (.rptr [(.int .i64 p0.letters), (.int .i64 p0.states), (.int .i64 p0.start), (.list 4 (List.map TEdge.av p0.edges))])) rfl rfl (Light.quiet (opMove rfl rfl)) ?_
  obtain ⟨a18, ha18, hF⟩ := bindE hF
  refine ASL.q (v := (.rptr [(.list 1 (List.map (fun xs : (List Tstep) => AV.list 2 (List.map Tstep.av xs)) a18.next_))])) rfl rfl ((qCall rfl rfl call_49 (impl_Auto_graph_ok ha18) rfl)) ?_
  obtain ⟨a19, ha19, hF⟩ := bindE hF
  refine ASL.q (v := (.rptr [(.list 1 (List.map (fun xs : (List Tstep) => AV.list 2 (List.map Tstep.av xs)) a19.next_))])) rfl rfl ((qCall rfl rfl call_94 (impl_graph_back_ok ha19) rfl)) ?_
  refine ASL.q (v := (.int .i64 p2)) rfl rfl (Light.quiet (opMove rfl rfl)) ?_
  refine ASL.q (v := (.list 1 (List.map (AV.int .i64) [p2]))) rfl rfl ((qLit (xs := [(.int .i64 p2)]) rfl elemA_34 sizeA_3 zeroA_3 rfl rfl rfl rfl (by simp [cells]) (nlt rfl))) ?_
  obtain ⟨a22, ha22, hF⟩ := bindE hF
  refine ASL.q (v := (.list 1 (List.map (AV.int .i64) a22))) rfl rfl ((qCall rfl rfl call_95 (PO.list (impl_graph_far_ok ha22)) rfl)) ?_
  refine ASL.x rfl rfl (hNewZ hS [(.list 1 (List.map (AV.int .i64) []))] rfl zeroA_34 ⟨.inr ⟨_, rfl, rfl⟩, trivial⟩ ?_); rintro b8 G2 hK hS
  refine ASL.n rfl rfl (hPut hS (j := 0) rfl rfl sizeA_34 rfl rfl rfl (nlt rfl) ?_); rintro G4 hS
  refine ASL.done ?_
  refine AWP.seqR rfl ?_
  refine ASL.q (v := (.int .i64 (-1))) rfl rfl (Light.quiet (opAssign rfl rfl)) ?_
  refine ASL.done ?_
  refine AWP.seqM (fun e H => ∃ x9_1 : Int, E.Told e [(0, (.rptr [(.int .i64 p0.letters), (.int .i64 p0.states), (.int .i64 p0.start), (.list 4 (List.map TEdge.av p0.edges))])), (1, (.int .i64 p1)), (8, (.ptr b8 0)), (9, (.int .i64 x9_1))] ∧ E.Sep H [.cell b8 [(.list 1 (List.map (AV.int .i64) a22))], .snap S] ∧ impl_Auto_pathWord.k0 a22 p0 p1 x9_1 = some r) ?_ ?_
  · rintro e0 G40 ⟨x9_1, hT, hS, hF⟩; refine AWP.only _ hT ?_; unfold impl_Auto_pathWord.k0 at hF
    refine AWP.seq ?_
    refine AWP.seqR rfl ?_
    refine ASL.q (v := (.int .i64 x9_1)) rfl rfl (Light.quiet (opMove rfl rfl)) ?_
    refine ASL.q (v := (.bool (decide (x9_1 < 0)))) rfl rfl (Light.quiet (opInt rfl rfl rfl rfl)) ?_
    refine ASL.done ?_
    refine AWP.ifP hF rfl (fun hc5 hF => ?_) (fun hc5 hF => ?_)
    · skip
      refine AWP.seqR rfl ?_
      have hS := hNil (s := 1) (f := (AV.int .i64)) hS
      refine ASL.q (v := .nil) rfl rfl (Light.quiet (opAssign rfl rfl)) ?_
      refine ASL.q (v := (.bool false)) rfl rfl (Light.quiet (opAssign rfl rfl)) ?_
      refine ASL.done ?_
      refine AWP.ret ?_
      refine QThen.rt ?_
      obtain rfl := someE hF
      exact QRet.many (vs := [.nil, (.bool false)]) ⟨rfl, rfl, trivial⟩ (by simp) ⟨_, ⟨.nil, rfl, rfl⟩, hS.pick [0, 2] rfl rfl⟩
    · skip
      refine AWP.skip ?_
      refine QThen.nrm ?_
      refine AWP.frzCell (L' := [.snap S]) hS (k := 0) rfl [(0, (.rptr [(.int .i64 p0.letters), (.int .i64 p0.states), (.int .i64 p0.start), (.list 4 (List.map TEdge.av p0.edges))])), (1, (.int .i64 p1)), (8, (.rptr [(.list 1 (List.map (AV.int .i64) a22))])), (9, (.int .i64 x9_1))] ⟨.inl rfl, .inl rfl, .inr (.inl ⟨rfl, rfl⟩), .inl rfl, trivial⟩ ⟨rfl, trivial⟩ (fun G7 hS => ?_)
      refine AWP.seqR rfl ?_
      refine ASL.q (v := (.fn (.func 104) [] [(.rptr [(.list 1 (List.map (AV.int .i64) a22))])])) rfl rfl (Light.quiet (opFunc rfl rfl)) ?_
      refine ASL.q (v := (.fn (.func 104) [] [(.rptr [(.list 1 (List.map (AV.int .i64) a22))])])) rfl rfl (Light.quiet (opAssign rfl rfl)) ?_
      refine ASL.done ?_
      refine AWP.seqR rfl ?_
      have hS := hNil (s := 1) (f := (AV.int .i64)) hS
      refine ASL.q (v := .nil) rfl rfl (Light.quiet (opAssign rfl rfl)) ?_
      refine ASL.done ?_
      refine AWP.seqR rfl ?_
      refine ASL.q (v := (.int .i64 p1)) rfl rfl (Light.quiet (opMove rfl rfl)) ?_
      refine ASL.q (v := (.fn (.func 104) [] [(.rptr [(.list 1 (List.map (AV.int .i64) a22))])])) rfl rfl (Light.quiet (opMove rfl rfl)) ?_
      refine ASL.q (v := (.int .i64 x9_1)) rfl rfl (Light.quiet (opMove rfl rfl)) ?_
      obtain ⟨a58, ha58, hF⟩ := bindE hF
      refine ASL.q (v := (.int .i64 a58)) rfl rfl ((qCall rfl rfl call_104 (impl_Auto_pathWord_1_ok ha58) rfl)) ?_
      refine ASL.q (v := (.int .i64 (bAnd .i64 p1 a58))) rfl rfl (Light.quiet (opInt rfl rfl rfl rfl)) ?_
      refine ASL.q (v := (.int .i64 (bAnd .i64 p1 a58))) rfl rfl (Light.quiet (opAssign rfl rfl)) ?_
      refine ASL.done ?_
      refine AWP.seqM (fun e H => ∃ y9 : (List Int), ∃ w10 : AV, E.Told e [(13, w10)] ∧ E.Sep H [.row 1 w10 (List.map (AV.int .i64) y9), .snap S] ∧ impl_Auto_pathWord.k1 y9 = some r) ?_ ?_
      · rintro e0 G12 ⟨y9, w10, hT, hS, hF⟩; refine AWP.only _ hT ?_; unfold impl_Auto_pathWord.k1 at hF
        refine AWP.seqR rfl ?_
        refine ASL.q (v := w10) rfl rfl (Light.quiet (opMove rfl rfl)) ?_
        refine ASL.q (v := w10) rfl rfl (Light.quiet (opAssign rfl rfl)) ?_
        refine ASL.q (v := (.bool true)) rfl rfl (Light.quiet (opAssign rfl rfl)) ?_
        refine ASL.done ?_
        refine AWP.ret ?_
        obtain rfl := someE hF
        exact QRet.many (vs := [w10, (.bool true)]) ⟨rfl, rfl, trivial⟩ (by simp) ⟨_, ⟨w10, rfl, rfl⟩, hS.pick [0, 1] rfl rfl⟩
      · skip
        refine AWP.block ?_
        obtain ⟨o19, hL18, hR20⟩ := bindE hF
        refine AWP.loopF (ω := AV) hL18 (fun s w => [(0, (.rptr [(.int .i64 p0.letters), (.int .i64 p0.states), (.int .i64 p0.start), (.list 4 (List.map TEdge.av p0.edges))])), (1, (.int .i64 s.1)), (9, (.int .i64 s.2.1)), (12, (.fn (.func 104) [] [(.rptr [(.list 1 (List.map (AV.int .i64) a22))])])), (13, w)]) (fun s w => [.row 1 w (List.map (AV.int .i64) s.2.2), .snap S]) .nil ⟨rfl, rfl, rfl, rfl, rfl, trivial⟩ (hS.pick [0, 1] rfl rfl) ?_
        rintro ⟨x1_l0, x9_l0, y13⟩ w14 G21 hS x16 hF hx17
        try dsimp only at hS ⊢
        have hF : impl_Auto_pathWord.b0 a22 p0 x1_l0 x9_l0 y13 = some x16 := hF; unfold impl_Auto_pathWord.b0 at hF
        refine AWP.seq ?_
        refine AWP.seqR rfl ?_
        refine ASL.q (v := (.int .i64 x9_l0)) rfl rfl (Light.quiet (opMove rfl rfl)) ?_
        refine ASL.q (v := (.bool (decide (x9_l0 > 0)))) rfl rfl (Light.quiet (opInt rfl rfl rfl rfl)) ?_
        refine ASL.done ?_
        refine AWP.ifP hF rfl (fun hc22 hF => ?_) (fun hc22 hF => ?_)
        · skip
          refine AWP.skip ?_
          refine QThen.nrm ?_
          refine AWP.seqM (fun e H => ∃ x1_3 : Int, ∃ y23 : (List Int), ∃ w24 : AV, E.Told e [(0, (.rptr [(.int .i64 p0.letters), (.int .i64 p0.states), (.int .i64 p0.start), (.list 4 (List.map TEdge.av p0.edges))])), (1, (.int .i64 x1_3)), (9, (.int .i64 x9_l0)), (12, (.fn (.func 104) [] [(.rptr [(.list 1 (List.map (AV.int .i64) a22))])])), (13, w24)] ∧ E.Sep H [.row 1 w24 (List.map (AV.int .i64) y23), .snap S] ∧ impl_Auto_pathWord.k2 x9_l0 x1_3 y23 = some x16) ?_ ?_
          · rintro e0 G26 ⟨x1_3, y23, w24, hT, hS, hF⟩; refine AWP.only _ hT ?_; unfold impl_Auto_pathWord.k2 at hF
            refine AWP.lastR rfl ?_
            refine ASL.q (v := (.int .i64 x9_l0)) rfl rfl (Light.quiet (opMove rfl rfl)) ?_
            refine ASL.q (v := (.int .i64 (W (x9_l0 - 1)))) rfl rfl (Light.quiet (opInt rfl rfl rfl rfl)) ?_
            refine ASL.q (v := (.int .i64 (W (x9_l0 - 1)))) rfl rfl (Light.quiet (opAssign rfl rfl)) ?_
            refine ASL.done ?_
            refine QThen.nrm ?_
            exact ⟨(x1_3, (W (x9_l0 - 1)), y23), w24, (someE hF).symm, ⟨rfl, rfl, rfl, rfl, rfl, trivial⟩, (hS.pick [0, 1] rfl rfl)⟩
          · skip
            refine AWP.block ?_
            refine AWP.seqR rfl ?_
            refine ASL.q (v := (.fn (.func 104) [] [(.rptr [(.list 1 (List.map (AV.int .i64) a22))])])) rfl rfl (Light.quiet (opMove rfl rfl)) ?_
            refine ASL.q (v := (.int .i64 x9_l0)) rfl rfl (Light.quiet (opMove rfl rfl)) ?_
            refine ASL.q (v := (.int .i64 (W (x9_l0 - 1)))) rfl rfl (Light.quiet (opInt rfl rfl rfl rfl)) ?_
            obtain ⟨a67, ha67, hF⟩ := bindE hF
            refine ASL.q (v := (.int .i64 a67)) rfl rfl ((qCall rfl rfl call_104 (impl_Auto_pathWord_1_ok ha67) rfl)) ?_
            refine ASL.q (v := (.int .i64 a67)) rfl rfl (Light.quiet (opAssign rfl rfl)) ?_
            refine ASL.done ?_
            refine AWP.seqR rfl ?_
            refine ASL.q (v := (.rptr [(.int .i64 p0.letters), (.int .i64 p0.states), (.int .i64 p0.start), (.list 4 (List.map TEdge.av p0.edges))])) rfl rfl (Light.quiet (opMove rfl rfl)) ?_
            refine ASL.q (v := (.rptr [(.int .i64 p0.letters), (.int .i64 p0.states), (.int .i64 p0.start), (.list 4 (List.map TEdge.av p0.edges))])) rfl rfl (Light.quiet (opNil rfl rfl rfl)) ?_
            refine ASL.q (v := (.rptr [(.int .i64 p0.letters), (.int .i64 p0.states), (.int .i64 p0.start), (.list 4 (List.map TEdge.av p0.edges))])) rfl rfl (Light.quiet (opFieldAddrR rfl fieldA_29_0 rfl rfl)) ?_
            refine ASL.q (v := (.int .i64 p0.letters)) rfl rfl (Light.quiet (opLoadR rfl aggA_3 rfl rfl)) ?_
            refine ASL.q (v := (.int .i64 0)) rfl rfl (Light.quiet (opMove rfl rfl)) ?_
            refine ASL.done ?_
            refine AWP.block ?_
            obtain ⟨o33, hL32, hR34⟩ := bindE hF
            refine AWP.loopF (ω := AV) hL32 (fun s w => [(0, (.rptr [(.int .i64 p0.letters), (.int .i64 p0.states), (.int .i64 p0.start), (.list 4 (List.map TEdge.av p0.edges))])), (1, (.int .i64 s.1)), (9, (.int .i64 x9_l0)), (12, (.fn (.func 104) [] [(.rptr [(.list 1 (List.map (AV.int .i64) a22))])])), (13, w), (14, (.int .i64 a67)), (71, (.int .i64 p0.letters)), (72, (.int .i64 s.2.2))]) (fun s w => [.row 1 w (List.map (AV.int .i64) s.2.1), .snap S]) w14 ⟨rfl, rfl, rfl, rfl, rfl, rfl, rfl, rfl, trivial⟩ (hS.pick [0, 1] rfl rfl) ?_
            rintro ⟨x1_l1, y27, x72_l1⟩ w28 G35 hS x30 hF hx31
            try dsimp only at hS ⊢
            have hF : impl_Auto_pathWord.b1 p0 a67 x1_l1 y27 x72_l1 = some x30 := hF; unfold impl_Auto_pathWord.b1 at hF
            refine AWP.seqR rfl ?_
            refine ASL.q (v := (.bool (decide (x72_l1 < p0.letters)))) rfl rfl (Light.quiet (opInt rfl rfl rfl rfl)) ?_
            refine ASL.done ?_
            refine AWP.seq ?_
            refine AWP.ifP hF rfl (fun hc36 hF => ?_) (fun hc36 hF => ?_)
            · skip
              refine AWP.skip ?_
              refine QThen.nrm ?_
              refine AWP.seq ?_
              refine AWP.block ?_
              refine AWP.seqR rfl ?_
              refine ASL.q (v := (.int .i64 x72_l1)) rfl rfl (Light.quiet (opMove rfl rfl)) ?_
              refine ASL.q (v := (.int .i64 x72_l1)) rfl rfl (Light.quiet (opAssign rfl rfl)) ?_
              refine ASL.done ?_
              refine AWP.seqR rfl ?_
              refine ASL.q (v := (.rptr [(.int .i64 p0.letters), (.int .i64 p0.states), (.int .i64 p0.start), (.list 4 (List.map TEdge.av p0.edges))])) rfl rfl (Light.quiet (opMove rfl rfl)) ?_
              refine ASL.q (v := (.int .i64 x1_l1)) rfl rfl (Light.quiet (opMove rfl rfl)) ?_
              refine ASL.q (v := (.int .i64 x72_l1)) rfl rfl (Light.quiet (opMove rfl rfl)) ?_
              obtain ⟨a78, ha78, hF⟩ := bindE hF
              refine ASL.q (v := (.int .i64 a78)) rfl rfl ((qCall rfl rfl call_68 (impl_Auto_step_ok ha78) rfl)) ?_
              refine ASL.q (v := (.int .i64 a67)) rfl rfl (Light.quiet (opMove rfl rfl)) ?_
              refine ASL.q (v := (.int .i64 (bAnd .i64 a78 a67))) rfl rfl (Light.quiet (opInt rfl rfl rfl rfl)) ?_
              refine ASL.q (v := (.int .i64 (bAnd .i64 a78 a67))) rfl rfl (Light.quiet (opAssign rfl rfl)) ?_
              refine ASL.done ?_
              refine AWP.seqR rfl ?_
              refine ASL.q (v := (.int .i64 (bAnd .i64 a78 a67))) rfl rfl (Light.quiet (opMove rfl rfl)) ?_
              refine ASL.q (v := (.bool (decide (((bAnd .i64 a78 a67)) ≠ 0)))) rfl rfl (Light.quiet (opInt rfl rfl rfl rfl)) ?_
              refine ASL.done ?_
              refine AWP.ifP hF rfl (fun hc37 hF => ?_) (fun hc37 hF => ?_)
              · skip
                refine AWP.seqR rfl ?_
                refine ASL.q (v := w28) rfl rfl (Light.quiet (opMove rfl rfl)) ?_
                refine ASL.q (v := (.int .i64 x72_l1)) rfl rfl (Light.quiet (opMove rfl rfl)) ?_
                refine ASL.q (v := (.list 1 (List.map (AV.int .i64) [x72_l1]))) rfl rfl ((qLit (xs := [(.int .i64 x72_l1)]) rfl elemA_34 sizeA_3 zeroA_3 rfl rfl rfl rfl (by simp [cells]) (nlt rfl))) ?_
                obtain ⟨z86, hz86, hF⟩ := bindE hF
                refine ASL.x rfl rfl (hApp (f := (AV.int .i64)) (ws := [x72_l1]) hS (j := 0) rfl hz86 rfl elemA_34 rfl sizeA_3 bytesA_3 zeroA_3 rfl rfl rfl (fun _ => rfl) ?_); rintro v86 G38 hS
                refine ASL.q (v := v86) rfl rfl (Light.quiet (opAssign rfl rfl)) ?_
                refine ASL.done ?_
                refine AWP.seqR rfl ?_
                refine ASL.q (v := (.int .i64 (bAnd .i64 a78 a67))) rfl rfl (Light.quiet (opMove rfl rfl)) ?_
                refine ASL.q (v := (.int .i64 (bAnd .i64 a78 a67))) rfl rfl (Light.quiet (opAssign rfl rfl)) ?_
                refine ASL.done ?_
                refine AWP.exit ?_
                refine QBlock.miss rfl ?_
                refine QThen.ext ?_
                refine QThen.ext ?_
                refine QBlock.hit ?_
                obtain rfl := (hx31 _ (someE hF).symm)
                have hF := hR34
                refine QBlock.nrm ?_
                refine QThen.nrm ?_
                exact ⟨(bAnd .i64 a78 a67), z86, v86, ⟨rfl, rfl, rfl, rfl, rfl, trivial⟩, (hS.pick [0, 1] rfl rfl), hF⟩
              · skip
                refine AWP.skip ?_
                refine QBlock.nrm ?_
                refine QThen.nrm ?_
                refine AWP.lastR rfl ?_
                refine ASL.q (v := (.int .i64 (W (x72_l1 + 1)))) rfl rfl (Light.quiet (opInt rfl rfl rfl rfl)) ?_
                refine ASL.q (v := (.int .i64 (W (x72_l1 + 1)))) rfl rfl (Light.quiet (opMove rfl rfl)) ?_
                refine ASL.done ?_
                refine QThen.nrm ?_
                exact ⟨(x1_l1, y27, (W (x72_l1 + 1))), w28, (someE hF).symm, ⟨rfl, rfl, rfl, rfl, rfl, rfl, rfl, rfl, trivial⟩, (hS.pick [0, 1] rfl rfl)⟩
            · skip
              refine AWP.exit ?_
              refine QThen.ext ?_
              refine QThen.ext ?_
              refine QBlock.hit ?_
              obtain rfl := (hx31 _ (someE hF).symm)
              have hF := hR34
              refine QBlock.nrm ?_
              refine QThen.nrm ?_
              exact ⟨x1_l1, y27, w28, ⟨rfl, rfl, rfl, rfl, rfl, trivial⟩, (hS.pick [0, 1] rfl rfl), hF⟩
        · skip
          refine AWP.exit ?_
          refine QThen.ext ?_
          refine QThen.ext ?_
          refine QBlock.hit ?_
          obtain rfl := (hx17 _ (someE hF).symm)
          have hF := hR20
          refine QThen.nrm ?_
          exact ⟨y13, w14, ⟨rfl, trivial⟩, (hS.pick [0, 1] rfl rfl), hF⟩
  · skip
    refine AWP.seqR rfl ?_
    refine ASL.q (v := (.int .i64 p1)) rfl rfl (Light.quiet (opMove rfl rfl)) ?_
    obtain ⟨a24, ha24, hF⟩ := bindE hF
    refine ASL.q (v := (.list 1 (List.map (AV.int .i64) a24))) rfl rfl ((qCall rfl rfl call_87 (PO.list (impl_SetList_ok ha24)) rfl)) ?_
    refine ASL.q (v := (.int .i64 (a24.length : Int))) rfl rfl (Light.quiet (opLenMap (f := (AV.int .i64)) rfl rfl rfl lenT_34 rfl)) ?_
    refine ASL.q (v := (.int .i64 0)) rfl rfl (Light.quiet (opMove rfl rfl)) ?_
    refine ASL.done ?_
    refine AWP.block ?_
    obtain ⟨o44, hL43, hR45⟩ := bindE hF
    refine AWP.loopF (ω := Unit) hL43 (fun s w => [(0, (.rptr [(.int .i64 p0.letters), (.int .i64 p0.states), (.int .i64 p0.start), (.list 4 (List.map TEdge.av p0.edges))])), (1, (.int .i64 p1)), (8, (.ptr b8 0)), (9, (.int .i64 s.1)), (24, (.list 1 (List.map (AV.int .i64) a24))), (25, (.int .i64 (a24.length : Int))), (26, (.int .i64 s.2))]) (fun s w => [.cell b8 [(.list 1 (List.map (AV.int .i64) a22))], .snap S]) () ⟨rfl, rfl, rfl, rfl, rfl, rfl, rfl, trivial⟩ (hS.pick [0, 2] rfl rfl) ?_
    rintro ⟨x9_l2, x26_l2⟩ _ G46 hS x41 hF hx42
    try dsimp only at hS ⊢
    have hF : impl_Auto_pathWord.b2 a24 a22 x9_l2 x26_l2 = some x41 := hF; unfold impl_Auto_pathWord.b2 at hF
    refine AWP.seqR rfl ?_
    refine ASL.q (v := (.bool (decide (x26_l2 < ((a24.length : Int)))))) rfl rfl (Light.quiet (opInt rfl rfl rfl rfl)) ?_
    refine ASL.done ?_
    refine AWP.seq ?_
    refine AWP.ifP hF rfl (fun hc47 hF => ?_) (fun hc47 hF => ?_)
    · skip
      refine AWP.skip ?_
      refine QThen.nrm ?_
      refine AWP.seq ?_
      refine AWP.block ?_
      refine AWP.seqR rfl ?_
      obtain ⟨a28, ha28, hF⟩ := bindE hF
      refine ASL.q (v := (.rptr [(.int .i64 a28)])) rfl rfl (Light.quiet (kIx (f := (AV.int .i64)) ha28 rfl rfl rfl elemA_34 sizeA_3 rfl)) ?_
      refine ASL.q (v := (.int .i64 a28)) rfl rfl (Light.quiet (opLoadR rfl aggA_3 rfl rfl)) ?_
      refine ASL.q (v := (.int .i64 a28)) rfl rfl (Light.quiet (opAssign rfl rfl)) ?_
      refine ASL.done ?_
      refine AWP.seqR rfl ?_
      refine ASL.q (v := (.list 1 (List.map (AV.int .i64) a22))) rfl rfl (Light.quiet (kAt hS (j := 0) rfl rfl aggA_34 rfl rfl)) ?_
      refine ASL.q (v := (.int .i64 a28)) rfl rfl (Light.quiet (opMove rfl rfl)) ?_
      obtain ⟨a32, ha32, hF⟩ := bindE hF
      refine ASL.q (v := (.rptr [(.int .i64 a32)])) rfl rfl (Light.quiet (kIx (f := (AV.int .i64)) ha32 rfl rfl rfl elemA_34 sizeA_3 rfl)) ?_
      refine ASL.q (v := (.int .i64 a32)) rfl rfl (Light.quiet (opLoadR rfl aggA_3 rfl rfl)) ?_
      refine ASL.q (v := (.bool (decide (a32 ≥ 0)))) rfl rfl (Light.quiet (opInt rfl rfl rfl rfl)) ?_
      obtain ⟨c35, hc35, hF⟩ := bndE hF
      refine ASL.q (v := (.bool c35)) rfl rfl ((Quiet.cast (Light.quiet (opMove rfl rfl)) (congrArg AV.bool hc35.symm))) ?_
      refine ASL.g (v := (.int .i64 x9_l2)) (.bool c35) true rfl (wT _) rfl (fun hG => by have q0 := hG; subst q0; exact Light.quiet (opMove rfl rfl)) ?_
      refine ASL.g (v := (.bool (decide (x9_l2 < 0)))) (.bool c35) true rfl (wT _) rfl (fun hG => by have q0 := hG; subst q0; exact Light.quiet (opInt rfl rfl rfl rfl)) ?_
      obtain ⟨c38, hc38, hF⟩ := bndE hF
      refine ASL.g (v := (.bool c38)) (.bool c35) true rfl (wT _) rfl (fun hG => by have q0 := hG; subst q0; exact (Quiet.cast (Light.quiet (opMove rfl rfl)) (congrArg AV.bool hc38.symm))) ?_
      refine ASL.g (v := (.list 1 (List.map (AV.int .i64) a22))) (bif c35 then (.bool c38) else .tup []) false rfl (wGF _ _) rfl (fun hG => by have q0 := gA1 hG; have q1 := gN (gA2 hG); subst q0; subst q1; exact Light.quiet (kAt hS (j := 0) rfl rfl aggA_34 rfl rfl)) ?_
      refine ASL.g (v := (.int .i64 a28)) (bif c35 then (.bool c38) else .tup []) false rfl (wGF _ _) rfl (fun hG => by have q0 := gA1 hG; have q1 := gN (gA2 hG); subst q0; subst q1; exact Light.quiet (opMove rfl rfl)) ?_
      obtain ⟨a41, ha41, hF⟩ := bindE hF
      refine ASL.g (v := (.rptr [(.int .i64 a41)])) (bif c35 then (.bool c38) else .tup []) false rfl (wGF _ _) rfl (fun hG => by have q0 := gA1 hG; have q1 := gN (gA2 hG); subst q0; subst q1; exact Light.quiet (kIx (f := (AV.int .i64)) (whenE ha41) rfl rfl rfl elemA_34 sizeA_3 rfl)) ?_
      refine ASL.g (v := (.int .i64 a41)) (bif c35 then (.bool c38) else .tup []) false rfl (wGF _ _) rfl (fun hG => by have q0 := gA1 hG; have q1 := gN (gA2 hG); subst q0; subst q1; exact Light.quiet (opLoadR rfl aggA_3 rfl rfl)) ?_
      refine ASL.g (v := (.int .i64 x9_l2)) (bif c35 then (.bool c38) else .tup []) false rfl (wGF _ _) rfl (fun hG => by have q0 := gA1 hG; have q1 := gN (gA2 hG); subst q0; subst q1; exact Light.quiet (opMove rfl rfl)) ?_
      refine ASL.g (v := (.bool (decide (a41 < x9_l2)))) (bif c35 then (.bool c38) else .tup []) false rfl (wGF _ _) rfl (fun hG => by have q0 := gA1 hG; have q1 := gN (gA2 hG); subst q0; subst q1; exact Light.quiet (opInt rfl rfl rfl rfl)) ?_
      refine ASL.g (v := (.bool (c38 || (decide (a41 < x9_l2))))) (.bool c35) true rfl (wT _) rfl (fun hG => by have q0 := hG; subst q0; exact Light.quiet (opPick (b := c38) rfl rfl (by cases c38 <;> rfl))) ?_
      refine ASL.q (v := (.bool (c35 && (c38 || (decide (a41 < x9_l2)))))) rfl rfl (Light.quiet (opPick (b := c35) rfl rfl (by cases c35 <;> rfl))) ?_
      refine ASL.done ?_
      refine AWP.ifB hF rfl (fun hc48 hF => ?_) (fun hc48 hF => ?_)
      · skip
        refine AWP.lastR rfl ?_
        refine ASL.q (v := (.list 1 (List.map (AV.int .i64) a22))) rfl rfl (Light.quiet (kAt hS (j := 0) rfl rfl aggA_34 rfl rfl)) ?_
        refine ASL.q (v := (.int .i64 a28)) rfl rfl (Light.quiet (opMove rfl rfl)) ?_
        obtain ⟨a49, ha49, hF⟩ := bindE hF
        refine ASL.q (v := (.rptr [(.int .i64 a49)])) rfl rfl (Light.quiet (kIx (f := (AV.int .i64)) ha49 rfl rfl rfl elemA_34 sizeA_3 rfl)) ?_
        refine ASL.q (v := (.int .i64 a49)) rfl rfl (Light.quiet (opLoadR rfl aggA_3 rfl rfl)) ?_
        refine ASL.q (v := (.int .i64 a49)) rfl rfl (Light.quiet (opAssign rfl rfl)) ?_
        refine ASL.done ?_
        refine QBlock.nrm ?_
        refine QThen.nrm ?_
        refine AWP.lastR rfl ?_
        refine ASL.q (v := (.int .i64 (W (x26_l2 + 1)))) rfl rfl (Light.quiet (opInt rfl rfl rfl rfl)) ?_
        refine ASL.q (v := (.int .i64 (W (x26_l2 + 1)))) rfl rfl (Light.quiet (opMove rfl rfl)) ?_
        refine ASL.done ?_
        refine QThen.nrm ?_
        exact ⟨(a49, (W (x26_l2 + 1))), (), (someE hF).symm, ⟨rfl, rfl, rfl, rfl, rfl, rfl, rfl, trivial⟩, (hS.pick [0, 1] rfl rfl)⟩
      · skip
        refine AWP.skip ?_
        refine QBlock.nrm ?_
        refine QThen.nrm ?_
        refine AWP.lastR rfl ?_
        refine ASL.q (v := (.int .i64 (W (x26_l2 + 1)))) rfl rfl (Light.quiet (opInt rfl rfl rfl rfl)) ?_
        refine ASL.q (v := (.int .i64 (W (x26_l2 + 1)))) rfl rfl (Light.quiet (opMove rfl rfl)) ?_
        refine ASL.done ?_
        refine QThen.nrm ?_
        exact ⟨(x9_l2, (W (x26_l2 + 1))), (), (someE hF).symm, ⟨rfl, rfl, rfl, rfl, rfl, rfl, rfl, trivial⟩, (hS.pick [0, 1] rfl rfl)⟩
    · skip
      refine AWP.exit ?_
      refine QThen.ext ?_
      refine QThen.ext ?_
      refine QBlock.hit ?_
      obtain rfl := (hx42 _ (someE hF).symm)
      have hF := hR45
      refine QThen.nrm ?_
      exact ⟨x9_l2, ⟨rfl, rfl, rfl, rfl, trivial⟩, (hS.pick [0, 1] rfl rfl), hF⟩

set_option maxRecDepth 10000 in
theorem impl_PathWord_ok {p0 : TAuto} {p1 : Int} {p2 : Int} {r : ((List Int) × Bool)} (hF : impl_PathWord p0 p1 p2 = some r) : HS Try.prog 25 [(TAuto.av p0), (.int .i64 p1), (.int .i64 p2)] [] fun v L' => ∃ o0 : AV, v = .tup [o0, (.bool r.2)] ∧ L' = [.row 1 o0 (List.map (AV.int .i64) r.1)] := by
  intro H S hS
  refine HC.enter Try.func25 rfl Try.ntmps25 (by simp) ?_
  simp only [List.cons_append, List.nil_append] at hS
  unfold impl_PathWord at hF
  refine AWP.seqR rfl ?_
  refine ASL.q (v := (.rptr [(.int .i64 p0.letters), (.int .i64 p0.states), (.int .i64 p0.start), (.list 4 (List.map TEdge.av p0.edges))])) rfl rfl ((qBoxI (v := (TAuto.av p0)) rfl rfl rfl rfl)) ?_
  have hS := hNil (s := 1) (f := (AV.int .i64)) hS
  refine ASL.q (v := .nil) rfl rfl (Light.quiet (opAssign rfl rfl)) ?_
  refine ASL.q (v := (.bool false)) rfl rfl (Light.quiet (opAssign rfl rfl)) ?_
  refine ASL.done ?_
  refine AWP.seq ?_
  refine AWP.seqR rfl ?_
  refine ASL.q (v := (TAuto.av p0)) rfl rfl (Light.quiet (opLoadRA rfl aggA_29 sizeA_29 rfl (nlt rfl) rfl)) ?_
  obtain ⟨a9, ha9, hF⟩ := bindE hF
  refine ASL.q (v := (.bool a9)) rfl rfl ((qCall rfl rfl call_43 (impl_AutoOk_ok ha9) rfl)) ?_
  refine ASL.q (v := (.bool (!a9))) rfl rfl (Light.quiet (opNot rfl rfl)) ?_
  obtain ⟨c11, hc11, hF⟩ := bndE hF
  refine ASL.q (v := (.bool c11)) rfl rfl ((Quiet.cast (Light.quiet (opMove rfl rfl)) (congrArg AV.bool hc11.symm))) ?_
  refine ASL.g (v := (.int .i64 p1)) (.bool c11) false rfl (wF _) rfl (fun hG => by have q0 := gN hG; subst q0; exact Light.quiet (opMove rfl rfl)) ?_
  refine ASL.g (v := (.bool (impl_SetOk p1))) (.bool c11) false rfl (wF _) rfl (fun hG => by have q0 := gN hG; subst q0; exact (qCall rfl rfl call_57 (impl_SetOk_ok p1) rfl)) ?_
  refine ASL.g (v := (.bool (!(impl_SetOk p1)))) (.bool c11) false rfl (wF _) rfl (fun hG => by have q0 := gN hG; subst q0; exact Light.quiet (opNot rfl rfl)) ?_
  refine ASL.q (v := (.bool (c11 || (!(impl_SetOk p1))))) rfl rfl (Light.quiet (opPick (b := c11) rfl rfl (by cases c11 <;> rfl))) ?_
  obtain ⟨c16, hc16, hF⟩ := bndE hF
  refine ASL.q (v := (.bool c16)) rfl rfl ((Quiet.cast (Light.quiet (opMove rfl rfl)) (congrArg AV.bool hc16.symm))) ?_
  refine ASL.g (v := (.int .i64 p1)) (.bool c16) false rfl (wF _) rfl (fun hG => by have q0 := gN hG; subst q0; exact Light.quiet (opMove rfl rfl)) ?_
  refine ASL.g (v := (.rptr [(.int .i64 p0.states), (.int .i64 p0.start), (.list 4 (List.map TEdge.av p0.edges))])) (.bool c16) false rfl (wF _) rfl (fun hG => by have q0 := gN hG; subst q0; exact Light.quiet (opFieldAddrR rfl fieldA_29_1 rfl rfl)) ?_
  refine ASL.g (v := (.int .i64 p0.states)) (.bool c16) false rfl (wF _) rfl (fun hG => by have q0 := gN hG; subst q0; exact Light.quiet (opLoadR rfl aggA_3 rfl rfl)) ?_
  refine ASL.g (v := (.int .i64 (impl_only p0.states))) (.bool c16) false rfl (wF _) rfl (fun hG => by have q0 := gN hG; subst q0; exact (qCall rfl rfl call_58 (impl_only_ok p0.states) rfl)) ?_
  refine ASL.g (v := (.bool (decide (p1 ≥ ((impl_only p0.states)))))) (.bool c16) false rfl (wF _) rfl (fun hG => by have q0 := gN hG; subst q0; exact Light.quiet (opInt rfl rfl rfl rfl)) ?_
  refine ASL.q (v := (.bool (c16 || (decide (p1 ≥ ((impl_only p0.states))))))) rfl rfl (Light.quiet (opPick (b := c16) rfl rfl (by cases c16 <;> rfl))) ?_
  obtain ⟨c23, hc23, hF⟩ := bndE hF
  refine ASL.q (v := (.bool c23)) rfl rfl ((Quiet.cast (Light.quiet (opMove rfl rfl)) (congrArg AV.bool hc23.symm))) ?_
  refine ASL.g (v := (.int .i64 p2)) (.bool c23) false rfl (wF _) rfl (fun hG => by have q0 := gN hG; subst q0; exact Light.quiet (opMove rfl rfl)) ?_
  refine ASL.g (v := (.rptr [(.int .i64 p0.states), (.int .i64 p0.start), (.list 4 (List.map TEdge.av p0.edges))])) (.bool c23) false rfl (wF _) rfl (fun hG => by have q0 := gN hG; subst q0; exact Light.quiet (opFieldAddrR rfl fieldA_29_1 rfl rfl)) ?_
  refine ASL.g (v := (.int .i64 p0.states)) (.bool c23) false rfl (wF _) rfl (fun hG => by have q0 := gN hG; subst q0; exact Light.quiet (opLoadR rfl aggA_3 rfl rfl)) ?_
  refine ASL.g (v := (.int .i64 (W (p0.states - 1)))) (.bool c23) false rfl (wF _) rfl (fun hG => by have q0 := gN hG; subst q0; exact Light.quiet (opInt rfl rfl rfl rfl)) ?_
  refine ASL.g (v := (.bool (impl_inRange p2 0 ((W (p0.states - 1)))))) (.bool c23) false rfl (wF _) rfl (fun hG => by have q0 := gN hG; subst q0; exact (qCall rfl rfl call_59 (impl_inRange_ok p2 0 ((W (p0.states - 1)))) rfl)) ?_
  refine ASL.g (v := (.bool (!(impl_inRange p2 0 ((W (p0.states - 1))))))) (.bool c23) false rfl (wF _) rfl (fun hG => by have q0 := gN hG; subst q0; exact Light.quiet (opNot rfl rfl)) ?_
  refine ASL.q (v := (.bool (c23 || (!(impl_inRange p2 0 ((W (p0.states - 1)))))))) rfl rfl (Light.quiet (opPick (b := c23) rfl rfl (by cases c23 <;> rfl))) ?_
  refine ASL.done ?_
  refine AWP.ifB hF rfl (fun hc2 hF => ?_) (fun hc2 hF => ?_)
  · skip
    refine AWP.seqR rfl ?_
    have hS := hNil (s := 1) (f := (AV.int .i64)) hS
    refine ASL.q (v := .nil) rfl rfl (Light.quiet (opAssign rfl rfl)) ?_
    refine ASL.q (v := (.bool false)) rfl rfl (Light.quiet (opAssign rfl rfl)) ?_
    refine ASL.done ?_
    refine AWP.ret ?_
    refine QThen.rt ?_
    obtain rfl := someE hF
    exact QRet.many (vs := [.nil, (.bool false)]) ⟨rfl, rfl, trivial⟩ (by simp) ⟨_, ⟨.nil, rfl, rfl⟩, hS.pick [0, 2] rfl rfl⟩
  · skip
    refine AWP.skip ?_
    refine QThen.nrm ?_
    refine AWP.seqR rfl ?_
    refine ASL.q (v := (.int .i64 p1)) rfl rfl (Light.quiet (opMove rfl rfl)) ?_
    refine ASL.q (v := (.int .i64 p2)) rfl rfl (Light.quiet (opMove rfl rfl)) ?_
    obtain ⟨a33, ha33, hF⟩ := bindE hF
    refine ASL.x rfl rfl (hCallSR hS rfl rfl call_60 (impl_Auto_pathWord_ok ha33) ⟨.same _, .same _, .same _, trivial⟩ (by rintro _ _ G ⟨w4, rfl, rfl⟩ hG; exact ⟨(Scal.tup (ScalC.cons (hG.scR (k := 0) rfl) (ScalC.cons (by constructor) ScalC.nil))), ⟨(Scal.ints _ _), trivial⟩⟩) ?_); rintro _ _ G6 ⟨w4, rfl, rfl⟩ hK hS
    refine ASL.q (v := w4) rfl rfl (Light.quiet (opExtract rfl rfl rfl)) ?_
    refine ASL.q (v := (.bool a33.2)) rfl rfl (Light.quiet (opExtract rfl rfl rfl)) ?_
    refine ASL.q (v := w4) rfl rfl (Light.quiet (opAssign rfl rfl)) ?_
    refine ASL.q (v := (.bool a33.2)) rfl rfl (Light.quiet (opAssign rfl rfl)) ?_
    refine ASL.done ?_
    refine AWP.ret ?_
    obtain rfl := someE hF
    exact QRet.many (vs := [w4, (.bool a33.2)]) ⟨rfl, rfl, trivial⟩ (by simp) ⟨_, ⟨w4, rfl, rfl⟩, hS.pick [0, 2] rfl rfl⟩

set_option maxRecDepth 10000 in
theorem spec_l7Far_ok {p0 : TAuto} {p1 : Int} {r : (List Int)} (hF : spec_l7Far p0 p1 = some r) : PO Try.prog 63 [(TAuto.av p0), (.int .i64 p1)] 1 (List.map (AV.int .i64) r) := by
  refine HC.enter Try.func63 rfl Try.ntmps63 (by simp) ?_
  have hS := Sep.void; unfold spec_l7Far at hF
  refine AWP.seqR rfl ?_
  refine ASL.q (v := (.rptr [(.int .i64 p0.letters), (.int .i64 p0.states), (.int .i64 p0.start), (.list 4 (List.map TEdge.av p0.edges))])) rfl rfl ((qBoxI (v := (TAuto.av p0)) rfl rfl rfl rfl)) ?_
  have hS := hNil (s := 1) (f := (AV.int .i64)) hS
  refine ASL.q (v := .nil) rfl rfl (Light.quiet (opAssign rfl rfl)) ?_
  refine ASL.done ?_
  refine AWP.seqR rfl ?_
  refine ASL.x rfl rfl (hLit (f := (AV.int .i64)) (zs := []) hS rfl rfl elemA_34 sizeA_3 zeroA_3 rfl rfl rfl rfl (by simp [cells]) (nlt rfl) ?_); rintro v11 G2 hK hS
  refine ASL.q (v := v11) rfl rfl (Light.quiet (opAssign rfl rfl)) ?_
  refine ASL.done ?_
  refine AWP.seqM (fun e H => ∃ y4 : (List Int), ∃ w5 : AV, E.Told e [(1, (.int .i64 p1)), (2, (.rptr [(.int .i64 p0.letters), (.int .i64 p0.states), (.int .i64 p0.start), (.list 4 (List.map TEdge.av p0.edges))])), (5, w5)] ∧ E.Sep H [.row 1 w5 (List.map (AV.int .i64) y4)] ∧ spec_l7Far.k0 p1 p0 y4 = some r) ?_ ?_
  · rintro e0 G46 ⟨y4, w5, hT, hS, hF⟩; refine AWP.only _ hT ?_; unfold spec_l7Far.k0 at hF
    refine AWP.seqR rfl ?_
    refine ASL.q (v := w5) rfl rfl (Light.quiet (opMove rfl rfl)) ?_
    refine ASL.q (v := (.int .i64 p1)) rfl rfl (Light.quiet (opMove rfl rfl)) ?_
    obtain ⟨m23, hm23, hF⟩ := bindE hF
    refine ASL.q (v := (ptrTo w5 m23 1)) rfl rfl (Light.quiet (kIxO hS (j := 0) rfl hm23 rfl rfl rfl elemA_34 sizeA_3)) ?_
    refine ASL.n rfl rfl (hSt (f := (AV.int .i64)) (a := 0) hS (j := 0) rfl hm23 rfl sizeA_3 rfl rfl ⟨rfl, rfl, rfl⟩ ?_); rintro G7 hS
    refine ASL.done ?_
    refine AWP.seqR rfl ?_
    refine ASL.q (v := (.int .i64 p1)) rfl rfl (Light.quiet (opMove rfl rfl)) ?_
    refine ASL.x rfl rfl (hLit (f := (AV.int .i64)) (zs := [p1]) hS rfl rfl elemA_34 sizeA_3 zeroA_3 rfl rfl rfl rfl (by simp [cells]) (nlt rfl) ?_); rintro v25 G8 hK hS
    refine ASL.q (v := v25) rfl rfl (Light.quiet (opAssign rfl rfl)) ?_
    refine ASL.done ?_
    refine AWP.seqM (fun e H => ∃ y10 : (List Int), E.Told e [(5, w5)] ∧ E.Sep H [.row 1 w5 (List.map (AV.int .i64) y10)] ∧ spec_l7Far.k1 y10 = some r) ?_ ?_
    · rintro e0 G11 ⟨y10, hT, hS, hF⟩; refine AWP.only _ hT ?_; unfold spec_l7Far.k1 at hF
      refine AWP.seqR rfl ?_
      refine ASL.q (v := w5) rfl rfl (Light.quiet (opMove rfl rfl)) ?_
      refine ASL.q (v := w5) rfl rfl (Light.quiet (opAssign rfl rfl)) ?_
      refine ASL.done ?_
      refine AWP.ret ?_
      obtain rfl := someE hF
      exact QRet.sole (v := w5) ⟨rfl, trivial⟩ (hS.get (k := 0) rfl)
    · skip
      refine AWP.seqR rfl ?_
      refine ASL.q (v := (.int .i64 0)) rfl rfl (Light.quiet (opAssign rfl rfl)) ?_
      refine ASL.done ?_
      refine AWP.block ?_
      obtain ⟨o19, hL18, hR20⟩ := bindE hF
      refine AWP.loopF (ω := AV) hL18 (fun s w => [(2, (.rptr [(.int .i64 p0.letters), (.int .i64 p0.states), (.int .i64 p0.start), (.list 4 (List.map TEdge.av p0.edges))])), (5, w5), (7, w), (8, (.int .i64 s.2.2))]) (fun s w => [.row 1 w5 (List.map (AV.int .i64) s.1), .row 1 w (List.map (AV.int .i64) s.2.1)]) v25 ⟨rfl, rfl, rfl, rfl, trivial⟩ (hS.pick [1, 0] rfl rfl) ?_
      rintro ⟨y12, y13, x8_l0⟩ w14 G21 hS x16 hF hx17
      try dsimp only at hS ⊢
      have hF : spec_l7Far.b0 p0 y12 y13 x8_l0 = some x16 := hF; unfold spec_l7Far.b0 at hF
      refine AWP.seq ?_
      refine AWP.seqR rfl ?_
      refine ASL.q (v := (.int .i64 x8_l0)) rfl rfl (Light.quiet (opMove rfl rfl)) ?_
      refine ASL.q (v := w14) rfl rfl (Light.quiet (opMove rfl rfl)) ?_
      refine ASL.q (v := (.int .i64 (y13.length : Int))) rfl rfl (Light.quiet (kLen hS (j := 1) rfl rfl rfl rfl lenT_34 rfl)) ?_
      refine ASL.q (v := (.bool (decide (x8_l0 < ((y13.length : Int)))))) rfl rfl (Light.quiet (opInt rfl rfl rfl rfl)) ?_
      refine ASL.done ?_
      refine AWP.ifP hF rfl (fun hc22 hF => ?_) (fun hc22 hF => ?_)
      · skip
        refine AWP.skip ?_
        refine QThen.nrm ?_
        refine AWP.seqM (fun e H => ∃ y23 : (List Int), ∃ y24 : (List Int), ∃ w25 : AV, E.Told e [(2, (.rptr [(.int .i64 p0.letters), (.int .i64 p0.states), (.int .i64 p0.start), (.list 4 (List.map TEdge.av p0.edges))])), (5, w5), (7, w25), (8, (.int .i64 x8_l0))] ∧ E.Sep H [.row 1 w5 (List.map (AV.int .i64) y23), .row 1 w25 (List.map (AV.int .i64) y24)] ∧ spec_l7Far.k2 x8_l0 y23 y24 = some x16) ?_ ?_
        · rintro e0 G27 ⟨y23, y24, w25, hT, hS, hF⟩; refine AWP.only _ hT ?_; unfold spec_l7Far.k2 at hF
          refine AWP.lastR rfl ?_
          refine ASL.q (v := (.int .i64 x8_l0)) rfl rfl (Light.quiet (opMove rfl rfl)) ?_
          refine ASL.q (v := (.int .i64 (W (x8_l0 + 1)))) rfl rfl (Light.quiet (opInt rfl rfl rfl rfl)) ?_
          refine ASL.q (v := (.int .i64 (W (x8_l0 + 1)))) rfl rfl (Light.quiet (opAssign rfl rfl)) ?_
          refine ASL.done ?_
          refine QThen.nrm ?_
          exact ⟨(y23, y24, (W (x8_l0 + 1))), w25, (someE hF).symm, ⟨rfl, rfl, rfl, rfl, trivial⟩, (hS.pick [0, 1] rfl rfl)⟩
        · skip
          refine AWP.block ?_
          refine AWP.seqR rfl ?_
          refine ASL.q (v := (.int .i64 0)) rfl rfl (Light.quiet (opAssign rfl rfl)) ?_
          refine ASL.done ?_
          refine AWP.block ?_
          obtain ⟨o35, hL34, hR36⟩ := bindE hF
          refine AWP.loopF (ω := AV) hL34 (fun s w => [(2, (.rptr [(.int .i64 p0.letters), (.int .i64 p0.states), (.int .i64 p0.start), (.list 4 (List.map TEdge.av p0.edges))])), (5, w5), (7, w), (8, (.int .i64 x8_l0)), (9, (.int .i64 s.2.2))]) (fun s w => [.row 1 w5 (List.map (AV.int .i64) s.1), .row 1 w (List.map (AV.int .i64) s.2.1)]) w14 ⟨rfl, rfl, rfl, rfl, rfl, trivial⟩ (hS.pick [0, 1] rfl rfl) ?_
          rintro ⟨y28, y29, x9_l1⟩ w30 G37 hS x32 hF hx33
          try dsimp only at hS ⊢
          have hF : spec_l7Far.b1 p0 x8_l0 y28 y29 x9_l1 = some x32 := hF; unfold spec_l7Far.b1 at hF
          refine AWP.seq ?_
          refine AWP.seqR rfl ?_
          refine ASL.q (v := (.int .i64 x9_l1)) rfl rfl (Light.quiet (opMove rfl rfl)) ?_
          refine ASL.q (v := (.rptr [(.list 4 (List.map TEdge.av p0.edges))])) rfl rfl (Light.quiet (opFieldAddrR rfl fieldA_29_3 rfl rfl)) ?_
          refine ASL.q (v := (.list 4 (List.map TEdge.av p0.edges))) rfl rfl (Light.quiet (opLoadR rfl aggA_27 rfl rfl)) ?_
          refine ASL.q (v := (.int .i64 (p0.edges.length : Int))) rfl rfl (Light.quiet (opLenMap (f := TEdge.av) rfl rfl rfl lenT_27 rfl)) ?_
          refine ASL.q (v := (.bool (decide (x9_l1 < ((p0.edges.length : Int)))))) rfl rfl (Light.quiet (opInt rfl rfl rfl rfl)) ?_
          refine ASL.done ?_
          refine AWP.ifP hF rfl (fun hc38 hF => ?_) (fun hc38 hF => ?_)
          · skip
            refine AWP.skip ?_
            refine QThen.nrm ?_
            refine AWP.seq ?_
            refine AWP.block ?_
            refine AWP.seqR rfl ?_
            refine ASL.q (v := (.rptr [(.list 4 (List.map TEdge.av p0.edges))])) rfl rfl (Light.quiet (opFieldAddrR rfl fieldA_29_3 rfl rfl)) ?_
            refine ASL.q (v := (.list 4 (List.map TEdge.av p0.edges))) rfl rfl (Light.quiet (opLoadR rfl aggA_27 rfl rfl)) ?_
            refine ASL.q (v := (.int .i64 x9_l1)) rfl rfl (Light.quiet (opMove rfl rfl)) ?_
            obtain ⟨a42, ha42, hF⟩ := bindE hF
            refine ASL.q (v := (.rptr [(.int .i64 a42.from_), (.int .i64 a42.letter), (.int .i64 a42.to_), (.bool a42.good)])) rfl rfl (Light.quiet (kIx (f := TEdge.av) ha42 rfl rfl rfl elemA_27 sizeA_73 rfl)) ?_
            refine ASL.q (v := (TEdge.av a42)) rfl rfl (Light.quiet (opLoadRA rfl aggA_73 sizeA_73 rfl (nlt rfl) rfl)) ?_
            refine ASL.x rfl rfl (hNewZ hS [(.int .i64 0), (.int .i64 0), (.int .i64 0), (.bool false)] rfl zeroA_73 ⟨.inl rfl, .inl rfl, .inl rfl, .inl rfl, trivial⟩ ?_); rintro b10 G39 hK hS
            refine ASL.n rfl rfl (hPutA hS (j := 0) rfl rfl sizeA_73 rfl rfl rfl rfl rfl (nlt rfl) ?_); rintro G41 hS
            refine ASL.done ?_
            refine AWP.seqD [(0, false), (1, false), (2, false), (3, false), (4, false), (5, false), (6, false), (7, false), (8, false), (9, false), (10, false), (11, false), (12, false), (13, false), (14, false)] mixed (by kernel_rfl) rfl ?_
            refine ARL.q0 (v := (.ptr b10 2)) rfl rfl (Light.quiet (opFieldAddr rfl fieldA_73_2 rfl rfl)) ?_
            refine ARL.q (v := (.int .i64 a42.to_)) rfl rfl (hS.aliveC (k := 0) rfl) (Light.quiet (kAt hS (j := 0) rfl rfl aggA_3 rfl rfl)) ?_
            refine ARL.q0 (v := w30) rfl rfl (Light.quiet (opMove rfl rfl)) ?_
            refine ARL.q0 (v := (.int .i64 x8_l0)) rfl rfl (Light.quiet (opMove rfl rfl)) ?_
            obtain ⟨a48, ha48, hF⟩ := bindE hF
            refine ARL.q0 (v := (ptrTo w30 x8_l0.toNat 1)) rfl rfl (Light.quiet (kIxOx hS (j := 2) rfl ha48 rfl rfl rfl elemA_34 sizeA_3)) ?_
            refine ARL.q (v := (.int .i64 a48)) rfl rfl (hS.aliveR (k := 2) rfl) (Light.quiet (kLd (f := (AV.int .i64)) hS (j := 2) rfl ha48 rfl aggA_3 rfl (fun _ => rfl))) ?_
            refine ARL.q0 (v := (.bool (decide (a42.to_ = a48)))) rfl rfl (Light.quiet (opInt rfl rfl rfl rfl)) ?_
            obtain ⟨c51, hc51, hF⟩ := bndE hF
            refine ARL.q0 (v := (.bool c51)) rfl rfl ((Quiet.cast (Light.quiet (opMove rfl rfl)) (congrArg AV.bool hc51.symm))) ?_
            refine ARL.g (v := w5) (.bool c51) true rfl (wT _) rfl noneAlive (fun hG => by have q0 := hG; subst q0; exact Light.quiet (opMove rfl rfl)) ?_
            refine ARL.g (v := (.ptr b10 0)) (.bool c51) true rfl (wT _) rfl noneAlive (fun hG => by have q0 := hG; subst q0; exact Light.quiet (opFieldAddr rfl fieldA_73_0 rfl rfl)) ?_
            refine ARL.g (v := (.int .i64 a42.from_)) (.bool c51) true rfl (wT _) rfl (hS.aliveC (k := 0) rfl) (fun hG => by have q0 := hG; subst q0; exact Light.quiet (kAt hS (j := 0) rfl rfl aggA_3 rfl rfl)) ?_
            obtain ⟨a55, ha55, hF⟩ := bindE hF
            refine ARL.g (v := (ptrTo w5 a42.from_.toNat 1)) (.bool c51) true rfl (wT _) rfl noneAlive (fun hG => by have q0 := hG; subst q0; exact Light.quiet (kIxOx hS (j := 1) rfl (whenE ha55) rfl rfl rfl elemA_34 sizeA_3)) ?_
            refine ARL.g (v := (.int .i64 a55)) (.bool c51) true rfl (wT _) rfl (hS.aliveR (k := 1) rfl) (fun hG => by have q0 := hG; subst q0; exact Light.quiet (kLd (f := (AV.int .i64)) hS (j := 1) rfl (whenE ha55) rfl aggA_3 rfl (fun _ => rfl))) ?_
            refine ARL.g (v := (.bool (decide (a55 < 0)))) (.bool c51) true rfl (wT _) rfl noneAlive (fun hG => by have q0 := hG; subst q0; exact Light.quiet (opInt rfl rfl rfl rfl)) ?_
            refine ARL.q0 (v := (.bool (c51 && (decide (a55 < 0))))) rfl rfl (Light.quiet (opPick (b := c51) rfl rfl (by cases c51 <;> rfl))) ?_
            refine ARL.done ?_
            refine AWP.ifB hF rfl (fun hc42 hF => ?_) (fun hc42 hF => ?_)
            · skip
              refine AWP.seqD [(0, false), (1, false), (2, false), (3, false), (4, false), (5, false), (6, false), (7, false), (8, false), (9, false), (10, true)] mixed (by kernel_rfl) rfl ?_
              refine ARL.q0 (v := w5) rfl rfl (Light.quiet (opMove rfl rfl)) ?_
              refine ARL.q0 (v := (.ptr b10 0)) rfl rfl (Light.quiet (opFieldAddr rfl fieldA_73_0 rfl rfl)) ?_
              refine ARL.q (v := (.int .i64 a42.from_)) rfl rfl (hS.aliveC (k := 0) rfl) (Light.quiet (kAt hS (j := 0) rfl rfl aggA_3 rfl rfl)) ?_
              refine ARL.q0 (v := w5) rfl rfl (Light.quiet (opMove rfl rfl)) ?_
              refine ARL.q0 (v := (.ptr b10 2)) rfl rfl (Light.quiet (opFieldAddr rfl fieldA_73_2 rfl rfl)) ?_
              refine ARL.q (v := (.int .i64 a42.to_)) rfl rfl (hS.aliveC (k := 0) rfl) (Light.quiet (kAt hS (j := 0) rfl rfl aggA_3 rfl rfl)) ?_
              obtain ⟨a65, ha65, hF⟩ := bindE hF
              refine ARL.q0 (v := (ptrTo w5 a42.to_.toNat 1)) rfl rfl (Light.quiet (kIxOx hS (j := 1) rfl ha65 rfl rfl rfl elemA_34 sizeA_3)) ?_
              refine ARL.q (v := (.int .i64 a65)) rfl rfl (hS.aliveR (k := 1) rfl) (Light.quiet (kLd (f := (AV.int .i64)) hS (j := 1) rfl ha65 rfl aggA_3 rfl (fun _ => rfl))) ?_
              refine ARL.q0 (v := (.int .i64 (W (a65 + 1)))) rfl rfl (Light.quiet (opInt rfl rfl rfl rfl)) ?_
              obtain ⟨m68, hm68, hF⟩ := bindE hF
              refine ARL.q0 (v := (ptrTo w5 m68 1)) rfl rfl (Light.quiet (kIxO hS (j := 1) rfl hm68 rfl rfl rfl elemA_34 sizeA_3)) ?_
              refine ARL.n rfl rfl rfl rfl (hSt (f := (AV.int .i64)) (a := (W (a65 + 1))) hS (j := 1) rfl hm68 rfl sizeA_3 rfl rfl ⟨rfl, rfl, rfl⟩ ?_); rintro G43 hS
              refine ARL.done ?_
              refine AWP.lastR rfl ?_
              refine ASL.q (v := w30) rfl rfl (Light.quiet (opMove rfl rfl)) ?_
              refine ASL.q (v := (.ptr b10 0)) rfl rfl (Light.quiet (opFieldAddr rfl fieldA_73_0 rfl rfl)) ?_
              refine ASL.q (v := (.int .i64 a42.from_)) rfl rfl (Light.quiet (kAt hS (j := 0) rfl rfl aggA_3 rfl rfl)) ?_
              refine ASL.q (v := (.list 1 (List.map (AV.int .i64) [a42.from_]))) rfl rfl ((qLit (xs := [(.int .i64 a42.from_)]) rfl elemA_34 sizeA_3 zeroA_3 rfl rfl rfl rfl (by simp [cells]) (nlt rfl))) ?_
              obtain ⟨z73, hz73, hF⟩ := bindE hF
              refine ASL.x rfl rfl (hApp (f := (AV.int .i64)) (ws := [a42.from_]) hS (j := 2) rfl hz73 rfl elemA_34 rfl sizeA_3 bytesA_3 zeroA_3 rfl rfl rfl (fun _ => rfl) ?_); rintro v73 G44 hS
              refine ASL.q (v := v73) rfl rfl (Light.quiet (opAssign rfl rfl)) ?_
              refine ASL.done ?_
              refine QBlock.nrm ?_
              refine QThen.nrm ?_
              refine AWP.lastR rfl ?_
              refine ASL.q (v := (.int .i64 x9_l1)) rfl rfl (Light.quiet (opMove rfl rfl)) ?_
              refine ASL.q (v := (.int .i64 (W (x9_l1 + 1)))) rfl rfl (Light.quiet (opInt rfl rfl rfl rfl)) ?_
              refine ASL.q (v := (.int .i64 (W (x9_l1 + 1)))) rfl rfl (Light.quiet (opAssign rfl rfl)) ?_
              refine ASL.done ?_
              refine QThen.nrm ?_
              exact ⟨((y28.set m68 ((W (a65 + 1)))), z73, (W (x9_l1 + 1))), v73, (someE hF).symm, ⟨rfl, rfl, rfl, rfl, rfl, trivial⟩, (hS.pick [1, 2] rfl rfl)⟩
            · skip
              refine AWP.skip ?_
              refine QBlock.nrm ?_
              refine QThen.nrm ?_
              refine AWP.lastR rfl ?_
              refine ASL.q (v := (.int .i64 x9_l1)) rfl rfl (Light.quiet (opMove rfl rfl)) ?_
              refine ASL.q (v := (.int .i64 (W (x9_l1 + 1)))) rfl rfl (Light.quiet (opInt rfl rfl rfl rfl)) ?_
              refine ASL.q (v := (.int .i64 (W (x9_l1 + 1)))) rfl rfl (Light.quiet (opAssign rfl rfl)) ?_
              refine ASL.done ?_
              refine QThen.nrm ?_
              exact ⟨(y28, y29, (W (x9_l1 + 1))), w30, (someE hF).symm, ⟨rfl, rfl, rfl, rfl, rfl, trivial⟩, (hS.pick [1, 2] rfl rfl)⟩
          · skip
            refine AWP.exit ?_
            refine QThen.ext ?_
            refine QThen.ext ?_
            refine QBlock.hit ?_
            obtain rfl := (hx33 _ (someE hF).symm)
            have hF := hR36
            refine QBlock.nrm ?_
            refine QThen.nrm ?_
            exact ⟨y28, y29, w30, ⟨rfl, rfl, rfl, rfl, trivial⟩, (hS.pick [0, 1] rfl rfl), hF⟩
      · skip
        refine AWP.exit ?_
        refine QThen.ext ?_
        refine QThen.ext ?_
        refine QBlock.hit ?_
        obtain rfl := (hx17 _ (someE hF).symm)
        have hF := hR20
        refine QThen.nrm ?_
        exact ⟨y12, ⟨rfl, trivial⟩, (hS.pick [0] rfl rfl), hF⟩
  · skip
    refine AWP.seqR rfl ?_
    refine ASL.q (v := (.int .i64 0)) rfl rfl (Light.quiet (opAssign rfl rfl)) ?_
    refine ASL.done ?_
    refine AWP.block ?_
    obtain ⟨o53, hL52, hR54⟩ := bindE hF
    refine AWP.loopF (ω := AV) hL52 (fun s w => [(1, (.int .i64 p1)), (2, (.rptr [(.int .i64 p0.letters), (.int .i64 p0.states), (.int .i64 p0.start), (.list 4 (List.map TEdge.av p0.edges))])), (5, w), (6, (.int .i64 s.2))]) (fun s w => [.row 1 w (List.map (AV.int .i64) s.1)]) v11 ⟨rfl, rfl, rfl, rfl, trivial⟩ (hS.pick [0] rfl rfl) ?_
    rintro ⟨y47, x6_l2⟩ w48 G55 hS x50 hF hx51
    try dsimp only at hS ⊢
    have hF : spec_l7Far.b2 p0 y47 x6_l2 = some x50 := hF; unfold spec_l7Far.b2 at hF
    refine AWP.seq ?_
    refine AWP.seqR rfl ?_
    refine ASL.q (v := (.int .i64 x6_l2)) rfl rfl (Light.quiet (opMove rfl rfl)) ?_
    refine ASL.q (v := (.rptr [(.int .i64 p0.states), (.int .i64 p0.start), (.list 4 (List.map TEdge.av p0.edges))])) rfl rfl (Light.quiet (opFieldAddrR rfl fieldA_29_1 rfl rfl)) ?_
    refine ASL.q (v := (.int .i64 p0.states)) rfl rfl (Light.quiet (opLoadR rfl aggA_3 rfl rfl)) ?_
    refine ASL.q (v := (.bool (decide (x6_l2 < p0.states)))) rfl rfl (Light.quiet (opInt rfl rfl rfl rfl)) ?_
    refine ASL.done ?_
    refine AWP.ifP hF rfl (fun hc56 hF => ?_) (fun hc56 hF => ?_)
    · skip
      refine AWP.skip ?_
      refine QThen.nrm ?_
      refine AWP.seq ?_
      refine AWP.block ?_
      refine AWP.lastR rfl ?_
      refine ASL.q (v := w48) rfl rfl (Light.quiet (opMove rfl rfl)) ?_
      refine ASL.q (v := (.list 1 (List.map (AV.int .i64) [(-1)]))) rfl rfl ((qLit (xs := [(.int .i64 (-1))]) rfl elemA_34 sizeA_3 zeroA_3 rfl rfl rfl rfl (by simp [cells]) (nlt rfl))) ?_
      obtain ⟨z20, hz20, hF⟩ := bindE hF
      refine ASL.x rfl rfl (hApp (f := (AV.int .i64)) (ws := [(-1)]) hS (j := 0) rfl hz20 rfl elemA_34 rfl sizeA_3 bytesA_3 zeroA_3 rfl rfl rfl (fun _ => rfl) ?_); rintro v20 G57 hS
      refine ASL.q (v := v20) rfl rfl (Light.quiet (opAssign rfl rfl)) ?_
      refine ASL.done ?_
      refine QBlock.nrm ?_
      refine QThen.nrm ?_
      refine AWP.lastR rfl ?_
      refine ASL.q (v := (.int .i64 x6_l2)) rfl rfl (Light.quiet (opMove rfl rfl)) ?_
      refine ASL.q (v := (.int .i64 (W (x6_l2 + 1)))) rfl rfl (Light.quiet (opInt rfl rfl rfl rfl)) ?_
      refine ASL.q (v := (.int .i64 (W (x6_l2 + 1)))) rfl rfl (Light.quiet (opAssign rfl rfl)) ?_
      refine ASL.done ?_
      refine QThen.nrm ?_
      exact ⟨(z20, (W (x6_l2 + 1))), v20, (someE hF).symm, ⟨rfl, rfl, rfl, rfl, trivial⟩, (hS.pick [0] rfl rfl)⟩
    · skip
      refine AWP.exit ?_
      refine QThen.ext ?_
      refine QThen.ext ?_
      refine QBlock.hit ?_
      obtain rfl := (hx51 _ (someE hF).symm)
      have hF := hR54
      refine QThen.nrm ?_
      exact ⟨y47, w48, ⟨rfl, rfl, rfl, trivial⟩, (hS.pick [0] rfl rfl), hF⟩

set_option maxRecDepth 10000 in
theorem spec_l1Bit_ok {p0 : Int} {r : Int} (hF : spec_l1Bit p0 = some r) : PC Try.prog 47 [(.int .i64 p0)] fun v => v = (.int .i64 r) := by
  refine PC.enter Try.func47 rfl Try.ntmps47 (by simp) ?_
  have hS := Sep.void; unfold spec_l1Bit at hF
  refine AWP.seqR rfl ?_
  refine ASL.q (v := (.int .i64 0)) rfl rfl (Light.quiet (opAssign rfl rfl)) ?_
  refine ASL.done ?_
  refine AWP.seqR rfl ?_
  refine ASL.q (v := (.int .i64 p0)) rfl rfl (Light.quiet (opMove rfl rfl)) ?_
  refine ASL.q (v := (.int .i64 (bAnd .i64 p0 31))) rfl rfl (Light.quiet (opInt rfl rfl rfl rfl)) ?_
  obtain ⟨u1, hu1, hF⟩ := bindE hF
  refine ASL.q (v := (.int .i64 (shl .i64 1 ((bAnd .i64 p0 31))))) rfl rfl (Light.quiet (opShl rfl rfl rfl (of_decide_eq_true (chkE hu1)) rfl)) ?_
  refine ASL.q (v := (.int .i64 (shl .i64 1 ((bAnd .i64 p0 31))))) rfl rfl (Light.quiet (opAssign rfl rfl)) ?_
  refine ASL.done ?_
  refine AWP.ret ?_
  obtain rfl := someE hF
  exact QRet.sole (v := (.int .i64 (shl .i64 1 ((bAnd .i64 p0 31))))) ⟨rfl, trivial⟩ rfl

set_option maxRecDepth 10000 in
theorem spec_l1Has_ok {p0 : Int} {p1 : Int} {r : Bool} (hF : spec_l1Has p0 p1 = some r) : PC Try.prog 48 [(.int .i64 p0), (.int .i64 p1)] fun v => v = (.bool r) := by
  refine PC.enter Try.func48 rfl Try.ntmps48 (by simp) ?_
  have hS := Sep.void; unfold spec_l1Has at hF
  refine AWP.seqR rfl ?_
  refine ASL.q (v := (.bool false)) rfl rfl (Light.quiet (opAssign rfl rfl)) ?_
  refine ASL.done ?_
  refine AWP.seqR rfl ?_
  refine ASL.q (v := (.int .i64 p1)) rfl rfl (Light.quiet (opMove rfl rfl)) ?_
  refine ASL.q (v := (.bool (spec_l1In p1 0 30))) rfl rfl ((qCall rfl rfl call_89 (spec_l1In_ok p1 0 30) rfl)) ?_
  obtain ⟨c7, hc7, hF⟩ := bndE hF
  refine ASL.q (v := (.bool c7)) rfl rfl ((Quiet.cast (Light.quiet (opMove rfl rfl)) (congrArg AV.bool hc7.symm))) ?_
  refine ASL.g (v := (.int .i64 p0)) (.bool c7) true rfl (wT _) rfl (fun hG => by have q0 := hG; subst q0; exact Light.quiet (opMove rfl rfl)) ?_
  refine ASL.g (v := (.int .i64 p1)) (.bool c7) true rfl (wT _) rfl (fun hG => by have q0 := hG; subst q0; exact Light.quiet (opMove rfl rfl)) ?_
  obtain ⟨a10, ha10, hF⟩ := bindE hF
  refine ASL.g (v := (.int .i64 a10)) (.bool c7) true rfl (wT _) rfl (fun hG => by have q0 := hG; subst q0; exact (qCall rfl rfl call_47 (spec_l1Bit_ok (whenE ha10)) rfl)) ?_
  refine ASL.g (v := (.int .i64 (bAnd .i64 p0 a10))) (.bool c7) true rfl (wT _) rfl (fun hG => by have q0 := hG; subst q0; exact Light.quiet (opInt rfl rfl rfl rfl)) ?_
  refine ASL.g (v := (.bool (decide (((bAnd .i64 p0 a10)) ≠ 0)))) (.bool c7) true rfl (wT _) rfl (fun hG => by have q0 := hG; subst q0; exact Light.quiet (opInt rfl rfl rfl rfl)) ?_
  refine ASL.q (v := (.bool (c7 && (decide (((bAnd .i64 p0 a10)) ≠ 0))))) rfl rfl (Light.quiet (opPick (b := c7) rfl rfl (by cases c7 <;> rfl))) ?_
  refine ASL.q (v := (.bool (c7 && (decide (((bAnd .i64 p0 a10)) ≠ 0))))) rfl rfl (Light.quiet (opAssign rfl rfl)) ?_
  refine ASL.done ?_
  refine AWP.ret ?_
  obtain rfl := someE hF
  exact QRet.sole (v := (.bool (c7 && (decide (((bAnd .i64 p0 a10)) ≠ 0))))) ⟨rfl, trivial⟩ rfl

set_option maxRecDepth 10000 in
theorem spec_l7Near_ok {p0 : (List Int)} {p1 : Int} {r : (Int × Int)} (hF : spec_l7Near p0 p1 = some r) : PC Try.prog 64 [(.list 1 (List.map (AV.int .i64) p0)), (.int .i64 p1)] fun v => v = .tup [(.int .i64 r.1), (.int .i64 r.2)] := by
  refine PC.enter Try.func64 rfl Try.ntmps64 (by simp) ?_
  have hS := Sep.void; unfold spec_l7Near at hF
  refine AWP.seqR rfl ?_
  refine ASL.q (v := (.int .i64 0)) rfl rfl (Light.quiet (opAssign rfl rfl)) ?_
  refine ASL.q (v := (.int .i64 0)) rfl rfl (Light.quiet (opAssign rfl rfl)) ?_
  refine ASL.done ?_
  refine AWP.seqR rfl ?_
  refine ASL.q (v := (.int .i64 (-1))) rfl rfl (Light.quiet (opAssign rfl rfl)) ?_
  refine ASL.q (v := (.int .i64 0)) rfl rfl (Light.quiet (opAssign rfl rfl)) ?_
  refine ASL.done ?_
  refine AWP.seqM (fun e H => ∃ x6_1 : Int, ∃ x7_1 : Int, E.Told e [(6, (.int .i64 x6_1)), (7, (.int .i64 x7_1))] ∧ E.Sep H [] ∧ spec_l7Near.k0 x6_1 x7_1 = some r) ?_ ?_
  · rintro e0 G1 ⟨x6_1, x7_1, hT, hS, hF⟩; refine AWP.only _ hT ?_; unfold spec_l7Near.k0 at hF
    refine AWP.seqR rfl ?_
    refine ASL.q (v := (.int .i64 x7_1)) rfl rfl (Light.quiet (opMove rfl rfl)) ?_
    refine ASL.q (v := (.int .i64 x6_1)) rfl rfl (Light.quiet (opMove rfl rfl)) ?_
    refine ASL.q (v := (.int .i64 x7_1)) rfl rfl (Light.quiet (opAssign rfl rfl)) ?_
    refine ASL.q (v := (.int .i64 x6_1)) rfl rfl (Light.quiet (opAssign rfl rfl)) ?_
    refine ASL.done ?_
    refine AWP.ret ?_
    obtain rfl := someE hF
    exact QRet.many (vs := [(.int .i64 x7_1), (.int .i64 x6_1)]) ⟨rfl, rfl, trivial⟩ (by simp) rfl
  · skip
    refine AWP.seqR rfl ?_
    refine ASL.q (v := (.int .i64 0)) rfl rfl (Light.quiet (opAssign rfl rfl)) ?_
    refine ASL.done ?_
    refine AWP.block ?_
    obtain ⟨o5, hL4, hR6⟩ := bindE hF
    refine AWP.loopF (ω := Unit) hL4 (fun s w => [(0, (.list 1 (List.map (AV.int .i64) p0))), (1, (.int .i64 p1)), (6, (.int .i64 s.1)), (7, (.int .i64 s.2.1)), (8, (.int .i64 s.2.2))]) (fun s w => []) () ⟨rfl, rfl, rfl, rfl, rfl, trivial⟩ (hS.pick [] rfl rfl) ?_
    rintro ⟨x6_l0, x7_l0, x8_l0⟩ _ G7 hS x2 hF hx3
    try dsimp only at hS ⊢
    have hF : spec_l7Near.b0 p0 p1 x6_l0 x7_l0 x8_l0 = some x2 := hF; unfold spec_l7Near.b0 at hF
    refine AWP.seq ?_
    refine AWP.seqR rfl ?_
    refine ASL.q (v := (.int .i64 x8_l0)) rfl rfl (Light.quiet (opMove rfl rfl)) ?_
    refine ASL.q (v := (.list 1 (List.map (AV.int .i64) p0))) rfl rfl (Light.quiet (opMove rfl rfl)) ?_
    refine ASL.q (v := (.int .i64 (p0.length : Int))) rfl rfl (Light.quiet (opLenMap (f := (AV.int .i64)) rfl rfl rfl lenT_34 rfl)) ?_
    refine ASL.q (v := (.bool (decide (x8_l0 < ((p0.length : Int)))))) rfl rfl (Light.quiet (opInt rfl rfl rfl rfl)) ?_
    refine ASL.done ?_
    refine AWP.ifP hF rfl (fun hc8 hF => ?_) (fun hc8 hF => ?_)
    · skip
      refine AWP.skip ?_
      refine QThen.nrm ?_
      refine AWP.seq ?_
      refine AWP.block ?_
      refine AWP.seq ?_
      refine AWP.seqR rfl ?_
      refine ASL.q (v := (.int .i64 p1)) rfl rfl (Light.quiet (opMove rfl rfl)) ?_
      refine ASL.q (v := (.int .i64 x8_l0)) rfl rfl (Light.quiet (opMove rfl rfl)) ?_
      obtain ⟨a17, ha17, hF⟩ := bindE hF
      refine ASL.q (v := (.bool a17)) rfl rfl ((qCall rfl rfl call_48 (spec_l1Has_ok ha17) rfl)) ?_
      refine ASL.q (v := (.bool (!a17))) rfl rfl (Light.quiet (opNot rfl rfl)) ?_
      obtain ⟨c19, hc19, hF⟩ := bndE hF
      refine ASL.q (v := (.bool c19)) rfl rfl ((Quiet.cast (Light.quiet (opMove rfl rfl)) (congrArg AV.bool hc19.symm))) ?_
      refine ASL.g (v := (.list 1 (List.map (AV.int .i64) p0))) (.bool c19) false rfl (wF _) rfl (fun hG => by have q0 := gN hG; subst q0; exact Light.quiet (opMove rfl rfl)) ?_
      refine ASL.g (v := (.int .i64 x8_l0)) (.bool c19) false rfl (wF _) rfl (fun hG => by have q0 := gN hG; subst q0; exact Light.quiet (opMove rfl rfl)) ?_
      obtain ⟨a22, ha22, hF⟩ := bindE hF
      refine ASL.g (v := (.rptr [(.int .i64 a22)])) (.bool c19) false rfl (wF _) rfl (fun hG => by have q0 := gN hG; subst q0; exact Light.quiet (kIx (f := (AV.int .i64)) (whenE ha22) rfl rfl rfl elemA_34 sizeA_3 rfl)) ?_
      refine ASL.g (v := (.int .i64 a22)) (.bool c19) false rfl (wF _) rfl (fun hG => by have q0 := gN hG; subst q0; exact Light.quiet (opLoadR rfl aggA_3 rfl rfl)) ?_
      refine ASL.g (v := (.bool (decide (a22 < 0)))) (.bool c19) false rfl (wF _) rfl (fun hG => by have q0 := gN hG; subst q0; exact Light.quiet (opInt rfl rfl rfl rfl)) ?_
      refine ASL.q (v := (.bool (c19 || (decide (a22 < 0))))) rfl rfl (Light.quiet (opPick (b := c19) rfl rfl (by cases c19 <;> rfl))) ?_
      obtain ⟨c26, hc26, hF⟩ := bndE hF
      refine ASL.q (v := (.bool c26)) rfl rfl ((Quiet.cast (Light.quiet (opMove rfl rfl)) (congrArg AV.bool hc26.symm))) ?_
      refine ASL.g (v := (.int .i64 x6_l0)) (.bool c26) false rfl (wF _) rfl (fun hG => by have q0 := gN hG; subst q0; exact Light.quiet (opMove rfl rfl)) ?_
      refine ASL.g (v := (.bool (decide (x6_l0 ≥ 0)))) (.bool c26) false rfl (wF _) rfl (fun hG => by have q0 := gN hG; subst q0; exact Light.quiet (opInt rfl rfl rfl rfl)) ?_
      obtain ⟨c29, hc29, hF⟩ := bndE hF
      refine ASL.g (v := (.bool c29)) (.bool c26) false rfl (wF _) rfl (fun hG => by have q0 := gN hG; subst q0; exact (Quiet.cast (Light.quiet (opMove rfl rfl)) (congrArg AV.bool hc29.symm))) ?_
      refine ASL.g (v := (.list 1 (List.map (AV.int .i64) p0))) (bif (!c26) then (.bool c29) else .tup []) true rfl (wGT _ _) rfl (fun hG => by have q0 := gN (gA1 hG); have q1 := gA2 hG; subst q0; subst q1; exact Light.quiet (opMove rfl rfl)) ?_
      refine ASL.g (v := (.int .i64 x8_l0)) (bif (!c26) then (.bool c29) else .tup []) true rfl (wGT _ _) rfl (fun hG => by have q0 := gN (gA1 hG); have q1 := gA2 hG; subst q0; subst q1; exact Light.quiet (opMove rfl rfl)) ?_
      obtain ⟨a32, ha32, hF⟩ := bindE hF
      refine ASL.g (v := (.rptr [(.int .i64 a32)])) (bif (!c26) then (.bool c29) else .tup []) true rfl (wGT _ _) rfl (fun hG => by have q0 := gN (gA1 hG); have q1 := gA2 hG; subst q0; subst q1; exact Light.quiet (kIx (f := (AV.int .i64)) (whenE ha32) rfl rfl rfl elemA_34 sizeA_3 rfl)) ?_
      refine ASL.g (v := (.int .i64 a32)) (bif (!c26) then (.bool c29) else .tup []) true rfl (wGT _ _) rfl (fun hG => by have q0 := gN (gA1 hG); have q1 := gA2 hG; subst q0; subst q1; exact Light.quiet (opLoadR rfl aggA_3 rfl rfl)) ?_
      refine ASL.g (v := (.int .i64 x6_l0)) (bif (!c26) then (.bool c29) else .tup []) true rfl (wGT _ _) rfl (fun hG => by have q0 := gN (gA1 hG); have q1 := gA2 hG; subst q0; subst q1; exact Light.quiet (opMove rfl rfl)) ?_
      refine ASL.g (v := (.bool (decide (a32 > x6_l0)))) (bif (!c26) then (.bool c29) else .tup []) true rfl (wGT _ _) rfl (fun hG => by have q0 := gN (gA1 hG); have q1 := gA2 hG; subst q0; subst q1; exact Light.quiet (opInt rfl rfl rfl rfl)) ?_
      refine ASL.g (v := (.bool (c29 && (decide (a32 > x6_l0))))) (.bool c26) false rfl (wF _) rfl (fun hG => by have q0 := gN hG; subst q0; exact Light.quiet (opPick (b := c29) rfl rfl (by cases c29 <;> rfl))) ?_
      refine ASL.q (v := (.bool (c26 || (c29 && (decide (a32 > x6_l0)))))) rfl rfl (Light.quiet (opPick (b := c26) rfl rfl (by cases c26 <;> rfl))) ?_
      refine ASL.done ?_
      refine AWP.ifB hF rfl (fun hc9 hF => ?_) (fun hc9 hF => ?_)
      · skip
        refine AWP.exit ?_
        refine QThen.ext ?_
        refine QBlock.hit ?_
        refine QThen.nrm ?_
        refine AWP.lastR rfl ?_
        refine ASL.q (v := (.int .i64 x8_l0)) rfl rfl (Light.quiet (opMove rfl rfl)) ?_
        refine ASL.q (v := (.int .i64 (W (x8_l0 + 1)))) rfl rfl (Light.quiet (opInt rfl rfl rfl rfl)) ?_
        refine ASL.q (v := (.int .i64 (W (x8_l0 + 1)))) rfl rfl (Light.quiet (opAssign rfl rfl)) ?_
        refine ASL.done ?_
        refine QThen.nrm ?_
        exact ⟨(x6_l0, x7_l0, (W (x8_l0 + 1))), (), (someE hF).symm, ⟨rfl, rfl, rfl, rfl, rfl, trivial⟩, (hS.pick [] rfl rfl)⟩
      · skip
        refine AWP.skip ?_
        refine QThen.nrm ?_
        refine AWP.seqM (fun e H => ∃ x6_2 : Int, ∃ x7_2 : Int, E.Told e [(0, (.list 1 (List.map (AV.int .i64) p0))), (1, (.int .i64 p1)), (6, (.int .i64 x6_2)), (7, (.int .i64 x7_2)), (8, (.int .i64 x8_l0))] ∧ E.Sep H [] ∧ spec_l7Near.k1 x8_l0 x6_2 x7_2 = some x2) ?_ ?_
        · rintro e0 G10 ⟨x6_2, x7_2, hT, hS, hF⟩; refine AWP.only _ hT ?_; unfold spec_l7Near.k1 at hF
          refine AWP.lastR rfl ?_
          refine ASL.q (v := (.int .i64 x7_2)) rfl rfl (Light.quiet (opMove rfl rfl)) ?_
          refine ASL.q (v := (.int .i64 x8_l0)) rfl rfl (Light.quiet (opMove rfl rfl)) ?_
          obtain ⟨a54, ha54, hF⟩ := bindE hF
          refine ASL.q (v := (.int .i64 a54)) rfl rfl ((qCall rfl rfl call_47 (spec_l1Bit_ok ha54) rfl)) ?_
          refine ASL.q (v := (.int .i64 (bOr .i64 x7_2 a54))) rfl rfl (Light.quiet (opInt rfl rfl rfl rfl)) ?_
          refine ASL.q (v := (.int .i64 (bOr .i64 x7_2 a54))) rfl rfl (Light.quiet (opAssign rfl rfl)) ?_
          refine ASL.done ?_
          refine QBlock.nrm ?_
          refine QThen.nrm ?_
          refine AWP.lastR rfl ?_
          refine ASL.q (v := (.int .i64 x8_l0)) rfl rfl (Light.quiet (opMove rfl rfl)) ?_
          refine ASL.q (v := (.int .i64 (W (x8_l0 + 1)))) rfl rfl (Light.quiet (opInt rfl rfl rfl rfl)) ?_
          refine ASL.q (v := (.int .i64 (W (x8_l0 + 1)))) rfl rfl (Light.quiet (opAssign rfl rfl)) ?_
          refine ASL.done ?_
          refine QThen.nrm ?_
          exact ⟨(x6_2, (bOr .i64 x7_2 a54), (W (x8_l0 + 1))), (), (someE hF).symm, ⟨rfl, rfl, rfl, rfl, rfl, trivial⟩, (hS.pick [] rfl rfl)⟩
        · skip
          refine AWP.seqR rfl ?_
          refine ASL.q (v := (.int .i64 x6_l0)) rfl rfl (Light.quiet (opMove rfl rfl)) ?_
          refine ASL.q (v := (.bool (decide (x6_l0 < 0)))) rfl rfl (Light.quiet (opInt rfl rfl rfl rfl)) ?_
          obtain ⟨c40, hc40, hF⟩ := bndE hF
          refine ASL.q (v := (.bool c40)) rfl rfl ((Quiet.cast (Light.quiet (opMove rfl rfl)) (congrArg AV.bool hc40.symm))) ?_
          refine ASL.g (v := (.list 1 (List.map (AV.int .i64) p0))) (.bool c40) false rfl (wF _) rfl (fun hG => by have q0 := gN hG; subst q0; exact Light.quiet (opMove rfl rfl)) ?_
          refine ASL.g (v := (.int .i64 x8_l0)) (.bool c40) false rfl (wF _) rfl (fun hG => by have q0 := gN hG; subst q0; exact Light.quiet (opMove rfl rfl)) ?_
          obtain ⟨a43, ha43, hF⟩ := bindE hF
          refine ASL.g (v := (.rptr [(.int .i64 a43)])) (.bool c40) false rfl (wF _) rfl (fun hG => by have q0 := gN hG; subst q0; exact Light.quiet (kIx (f := (AV.int .i64)) (whenE ha43) rfl rfl rfl elemA_34 sizeA_3 rfl)) ?_
          refine ASL.g (v := (.int .i64 a43)) (.bool c40) false rfl (wF _) rfl (fun hG => by have q0 := gN hG; subst q0; exact Light.quiet (opLoadR rfl aggA_3 rfl rfl)) ?_
          refine ASL.g (v := (.int .i64 x6_l0)) (.bool c40) false rfl (wF _) rfl (fun hG => by have q0 := gN hG; subst q0; exact Light.quiet (opMove rfl rfl)) ?_
          refine ASL.g (v := (.bool (decide (a43 < x6_l0)))) (.bool c40) false rfl (wF _) rfl (fun hG => by have q0 := gN hG; subst q0; exact Light.quiet (opInt rfl rfl rfl rfl)) ?_
          refine ASL.q (v := (.bool (c40 || (decide (a43 < x6_l0))))) rfl rfl (Light.quiet (opPick (b := c40) rfl rfl (by cases c40 <;> rfl))) ?_
          refine ASL.done ?_
          refine AWP.ifB hF rfl (fun hc11 hF => ?_) (fun hc11 hF => ?_)
          · skip
            refine AWP.seqR rfl ?_
            refine ASL.q (v := (.list 1 (List.map (AV.int .i64) p0))) rfl rfl (Light.quiet (opMove rfl rfl)) ?_
            refine ASL.q (v := (.int .i64 x8_l0)) rfl rfl (Light.quiet (opMove rfl rfl)) ?_
            obtain ⟨a50, ha50, hF⟩ := bindE hF
            refine ASL.q (v := (.rptr [(.int .i64 a50)])) rfl rfl (Light.quiet (kIx (f := (AV.int .i64)) ha50 rfl rfl rfl elemA_34 sizeA_3 rfl)) ?_
            refine ASL.q (v := (.int .i64 a50)) rfl rfl (Light.quiet (opLoadR rfl aggA_3 rfl rfl)) ?_
            refine ASL.q (v := (.int .i64 a50)) rfl rfl (Light.quiet (opAssign rfl rfl)) ?_
            refine ASL.done ?_
            refine AWP.lastR rfl ?_
            refine ASL.q (v := (.int .i64 0)) rfl rfl (Light.quiet (opAssign rfl rfl)) ?_
            refine ASL.done ?_
            refine QThen.nrm ?_
            exact ⟨a50, 0, ⟨rfl, rfl, rfl, rfl, rfl, trivial⟩, (hS.pick [] rfl rfl), hF⟩
          · skip
            refine AWP.skip ?_
            refine QThen.nrm ?_
            exact ⟨x6_l0, x7_l0, ⟨rfl, rfl, rfl, rfl, rfl, trivial⟩, (hS.pick [] rfl rfl), hF⟩
    · skip
      refine AWP.exit ?_
      refine QThen.ext ?_
      refine QThen.ext ?_
      refine QBlock.hit ?_
      obtain rfl := (hx3 _ (someE hF).symm)
      have hF := hR6
      refine QThen.nrm ?_
      exact ⟨x6_l0, x7_l0, ⟨rfl, rfl, trivial⟩, (hS.pick [] rfl rfl), hF⟩

set_option maxRecDepth 10000 in
theorem spec_l4Next_ok {p0 : TAuto} {p1 : Int} {p2 : Int} {r : Int} (hF : spec_l4Next p0 p1 p2 = some r) : PC Try.prog 65 [(TAuto.av p0), (.int .i64 p1), (.int .i64 p2)] fun v => v = (.int .i64 r) := by
  refine PC.enter Try.func65 rfl Try.ntmps65 (by simp) ?_
  have hS := Sep.void; unfold spec_l4Next at hF
  refine AWP.seqR rfl ?_
  refine ASL.q (v := (.rptr [(.int .i64 p0.letters), (.int .i64 p0.states), (.int .i64 p0.start), (.list 4 (List.map TEdge.av p0.edges))])) rfl rfl ((qBoxI (v := (TAuto.av p0)) rfl rfl rfl rfl)) ?_
  refine ASL.q (v := (.int .i64 0)) rfl rfl (Light.quiet (opAssign rfl rfl)) ?_
  refine ASL.done ?_
  refine AWP.seqR rfl ?_
  refine ASL.q (v := (.int .i64 0)) rfl rfl (Light.quiet (opAssign rfl rfl)) ?_
  refine ASL.done ?_
  refine AWP.seqM (fun e H => ∃ x7_1 : Int, E.Told e [(7, (.int .i64 x7_1))] ∧ E.Sep H [] ∧ spec_l4Next.k0 x7_1 = some r) ?_ ?_
  · rintro e0 G1 ⟨x7_1, hT, hS, hF⟩; refine AWP.only _ hT ?_; unfold spec_l4Next.k0 at hF
    refine AWP.seqR rfl ?_
    refine ASL.q (v := (.int .i64 x7_1)) rfl rfl (Light.quiet (opMove rfl rfl)) ?_
    refine ASL.q (v := (.int .i64 x7_1)) rfl rfl (Light.quiet (opAssign rfl rfl)) ?_
    refine ASL.done ?_
    refine AWP.ret ?_
    obtain rfl := someE hF
    exact QRet.sole (v := (.int .i64 x7_1)) ⟨rfl, trivial⟩ rfl
  · skip
    refine AWP.seqR rfl ?_
    refine ASL.q (v := (.int .i64 0)) rfl rfl (Light.quiet (opAssign rfl rfl)) ?_
    refine ASL.done ?_
    refine AWP.block ?_
    obtain ⟨o5, hL4, hR6⟩ := bindE hF
    refine AWP.loopF (ω := Unit) hL4 (fun s w => [(1, (.int .i64 p1)), (2, (.int .i64 p2)), (3, (.rptr [(.int .i64 p0.letters), (.int .i64 p0.states), (.int .i64 p0.start), (.list 4 (List.map TEdge.av p0.edges))])), (7, (.int .i64 s.1)), (8, (.int .i64 s.2))]) (fun s w => []) () ⟨rfl, rfl, rfl, rfl, rfl, trivial⟩ (hS.pick [] rfl rfl) ?_
    rintro ⟨x7_l0, x8_l0⟩ _ G7 hS x2 hF hx3
    try dsimp only at hS ⊢
    have hF : spec_l4Next.b0 p0 p2 p1 x7_l0 x8_l0 = some x2 := hF; unfold spec_l4Next.b0 at hF
    refine AWP.seq ?_
    refine AWP.seqR rfl ?_
    refine ASL.q (v := (.int .i64 x8_l0)) rfl rfl (Light.quiet (opMove rfl rfl)) ?_
    refine ASL.q (v := (.rptr [(.list 4 (List.map TEdge.av p0.edges))])) rfl rfl (Light.quiet (opFieldAddrR rfl fieldA_29_3 rfl rfl)) ?_
    refine ASL.q (v := (.list 4 (List.map TEdge.av p0.edges))) rfl rfl (Light.quiet (opLoadR rfl aggA_27 rfl rfl)) ?_
    refine ASL.q (v := (.int .i64 (p0.edges.length : Int))) rfl rfl (Light.quiet (opLenMap (f := TEdge.av) rfl rfl rfl lenT_27 rfl)) ?_
    refine ASL.q (v := (.bool (decide (x8_l0 < ((p0.edges.length : Int)))))) rfl rfl (Light.quiet (opInt rfl rfl rfl rfl)) ?_
    refine ASL.done ?_
    refine AWP.ifP hF rfl (fun hc8 hF => ?_) (fun hc8 hF => ?_)
    · skip
      refine AWP.skip ?_
      refine QThen.nrm ?_
      refine AWP.seq ?_
      refine AWP.block ?_
      refine AWP.seqR rfl ?_
      refine ASL.q (v := (.rptr [(.list 4 (List.map TEdge.av p0.edges))])) rfl rfl (Light.quiet (opFieldAddrR rfl fieldA_29_3 rfl rfl)) ?_
      refine ASL.q (v := (.list 4 (List.map TEdge.av p0.edges))) rfl rfl (Light.quiet (opLoadR rfl aggA_27 rfl rfl)) ?_
      refine ASL.q (v := (.int .i64 x8_l0)) rfl rfl (Light.quiet (opMove rfl rfl)) ?_
      obtain ⟨a20, ha20, hF⟩ := bindE hF
      refine ASL.q (v := (.rptr [(.int .i64 a20.from_), (.int .i64 a20.letter), (.int .i64 a20.to_), (.bool a20.good)])) rfl rfl (Light.quiet (kIx (f := TEdge.av) ha20 rfl rfl rfl elemA_27 sizeA_73 rfl)) ?_
      refine ASL.q (v := (TEdge.av a20)) rfl rfl (Light.quiet (opLoadRA rfl aggA_73 sizeA_73 rfl (nlt rfl) rfl)) ?_
      refine ASL.x rfl rfl (hNewZ hS [(.int .i64 0), (.int .i64 0), (.int .i64 0), (.bool false)] rfl zeroA_73 ⟨.inl rfl, .inl rfl, .inl rfl, .inl rfl, trivial⟩ ?_); rintro b9 G9 hK hS
      refine ASL.n rfl rfl (hPutA hS (j := 0) rfl rfl sizeA_73 rfl rfl rfl rfl rfl (nlt rfl) ?_); rintro G11 hS
      refine ASL.done ?_
      refine AWP.seqR rfl ?_
      refine ASL.q (v := (.ptr b9 1)) rfl rfl (Light.quiet (opFieldAddr rfl fieldA_73_1 rfl rfl)) ?_
      refine ASL.q (v := (.int .i64 a20.letter)) rfl rfl (Light.quiet (kAt hS (j := 0) rfl rfl aggA_3 rfl rfl)) ?_
      refine ASL.q (v := (.int .i64 p2)) rfl rfl (Light.quiet (opMove rfl rfl)) ?_
      refine ASL.q (v := (.bool (decide (a20.letter = p2)))) rfl rfl (Light.quiet (opInt rfl rfl rfl rfl)) ?_
      obtain ⟨c26, hc26, hF⟩ := bndE hF
      refine ASL.q (v := (.bool c26)) rfl rfl ((Quiet.cast (Light.quiet (opMove rfl rfl)) (congrArg AV.bool hc26.symm))) ?_
      refine ASL.g (v := (.int .i64 p1)) (.bool c26) true rfl (wT _) rfl (fun hG => by have q0 := hG; subst q0; exact Light.quiet (opMove rfl rfl)) ?_
      refine ASL.g (v := (.ptr b9 0)) (.bool c26) true rfl (wT _) rfl (fun hG => by have q0 := hG; subst q0; exact Light.quiet (opFieldAddr rfl fieldA_73_0 rfl rfl)) ?_
      refine ASL.g (v := (.int .i64 a20.from_)) (.bool c26) true rfl (wT _) rfl (fun hG => by have q0 := hG; subst q0; exact Light.quiet (kAt hS (j := 0) rfl rfl aggA_3 rfl rfl)) ?_
      obtain ⟨a30, ha30, hF⟩ := bindE hF
      refine ASL.g (v := (.bool a30)) (.bool c26) true rfl (wT _) rfl (fun hG => by have q0 := hG; subst q0; exact (qCall rfl rfl call_48 (spec_l1Has_ok (whenE ha30)) rfl)) ?_
      refine ASL.q (v := (.bool (c26 && a30))) rfl rfl (Light.quiet (opPick (b := c26) rfl rfl (by cases c26 <;> rfl))) ?_
      refine ASL.done ?_
      refine AWP.ifB hF rfl (fun hc12 hF => ?_) (fun hc12 hF => ?_)
      · skip
        refine AWP.lastR rfl ?_
        refine ASL.q (v := (.int .i64 x7_l0)) rfl rfl (Light.quiet (opMove rfl rfl)) ?_
        refine ASL.q (v := (.ptr b9 2)) rfl rfl (Light.quiet (opFieldAddr rfl fieldA_73_2 rfl rfl)) ?_
        refine ASL.q (v := (.int .i64 a20.to_)) rfl rfl (Light.quiet (kAt hS (j := 0) rfl rfl aggA_3 rfl rfl)) ?_
        obtain ⟨a35, ha35, hF⟩ := bindE hF
        refine ASL.q (v := (.int .i64 a35)) rfl rfl ((qCall rfl rfl call_47 (spec_l1Bit_ok ha35) rfl)) ?_
        refine ASL.q (v := (.int .i64 (bOr .i64 x7_l0 a35))) rfl rfl (Light.quiet (opInt rfl rfl rfl rfl)) ?_
        refine ASL.q (v := (.int .i64 (bOr .i64 x7_l0 a35))) rfl rfl (Light.quiet (opAssign rfl rfl)) ?_
        refine ASL.done ?_
        refine QBlock.nrm ?_
        refine QThen.nrm ?_
        refine AWP.lastR rfl ?_
        refine ASL.q (v := (.int .i64 x8_l0)) rfl rfl (Light.quiet (opMove rfl rfl)) ?_
        refine ASL.q (v := (.int .i64 (W (x8_l0 + 1)))) rfl rfl (Light.quiet (opInt rfl rfl rfl rfl)) ?_
        refine ASL.q (v := (.int .i64 (W (x8_l0 + 1)))) rfl rfl (Light.quiet (opAssign rfl rfl)) ?_
        refine ASL.done ?_
        refine QThen.nrm ?_
        exact ⟨((bOr .i64 x7_l0 a35), (W (x8_l0 + 1))), (), (someE hF).symm, ⟨rfl, rfl, rfl, rfl, rfl, trivial⟩, (hS.pick [] rfl rfl)⟩
      · skip
        refine AWP.skip ?_
        refine QBlock.nrm ?_
        refine QThen.nrm ?_
        refine AWP.lastR rfl ?_
        refine ASL.q (v := (.int .i64 x8_l0)) rfl rfl (Light.quiet (opMove rfl rfl)) ?_
        refine ASL.q (v := (.int .i64 (W (x8_l0 + 1)))) rfl rfl (Light.quiet (opInt rfl rfl rfl rfl)) ?_
        refine ASL.q (v := (.int .i64 (W (x8_l0 + 1)))) rfl rfl (Light.quiet (opAssign rfl rfl)) ?_
        refine ASL.done ?_
        refine QThen.nrm ?_
        exact ⟨(x7_l0, (W (x8_l0 + 1))), (), (someE hF).symm, ⟨rfl, rfl, rfl, rfl, rfl, trivial⟩, (hS.pick [] rfl rfl)⟩
    · skip
      refine AWP.exit ?_
      refine QThen.ext ?_
      refine QThen.ext ?_
      refine QBlock.hit ?_
      obtain rfl := (hx3 _ (someE hF).symm)
      have hF := hR6
      refine QThen.nrm ?_
      exact ⟨x7_l0, ⟨rfl, trivial⟩, (hS.pick [] rfl rfl), hF⟩

set_option maxRecDepth 10000 in
theorem spec_PathWord_ok {p0 : TAuto} {p1 : Int} {p2 : Int} {r : ((List Int) × Bool)} (hF : spec_PathWord p0 p1 p2 = some r) : HS Try.prog 26 [(TAuto.av p0), (.int .i64 p1), (.int .i64 p2)] [] fun v L' => ∃ o0 : AV, v = .tup [o0, (.bool r.2)] ∧ L' = [.row 1 o0 (List.map (AV.int .i64) r.1)] := by
  intro H S hS
  refine HC.enter Try.func26 rfl Try.ntmps26 (by simp) ?_
  simp only [List.cons_append, List.nil_append] at hS
  unfold spec_PathWord at hF
  refine AWP.seqR rfl ?_
  refine ASL.q (v := (.rptr [(.int .i64 p0.letters), (.int .i64 p0.states), (.int .i64 p0.start), (.list 4 (List.map TEdge.av p0.edges))])) rfl rfl ((qBoxI (v := (TAuto.av p0)) rfl rfl rfl rfl)) ?_
  have hS := hNil (s := 1) (f := (AV.int .i64)) hS
  refine ASL.q (v := .nil) rfl rfl (Light.quiet (opAssign rfl rfl)) ?_
  refine ASL.q (v := (.bool false)) rfl rfl (Light.quiet (opAssign rfl rfl)) ?_
  refine ASL.done ?_
  refine AWP.seqR rfl ?_
  refine ASL.x rfl rfl (hLit (f := (AV.int .i64)) (zs := []) hS rfl rfl elemA_34 sizeA_3 zeroA_3 rfl rfl rfl rfl (by simp [cells]) (nlt rfl) ?_); rintro v15 G2 hK hS
  refine ASL.q (v := v15) rfl rfl (Light.quiet (opAssign rfl rfl)) ?_
  refine ASL.done ?_
  refine AWP.seq ?_
  refine AWP.seqR rfl ?_
  refine ASL.q (v := (TAuto.av p0)) rfl rfl (Light.quiet (opLoadRA rfl aggA_29 sizeA_29 rfl (nlt rfl) rfl)) ?_
  obtain ⟨a17, ha17, hF⟩ := bindE hF
  refine ASL.q (v := (.bool a17)) rfl rfl ((qCall rfl rfl call_41 (spec_AutoOk_ok ha17) rfl)) ?_
  refine ASL.q (v := (.bool (!a17))) rfl rfl (Light.quiet (opNot rfl rfl)) ?_
  obtain ⟨c19, hc19, hF⟩ := bndE hF
  refine ASL.q (v := (.bool c19)) rfl rfl ((Quiet.cast (Light.quiet (opMove rfl rfl)) (congrArg AV.bool hc19.symm))) ?_
  refine ASL.g (v := (.int .i64 p1)) (.bool c19) false rfl (wF _) rfl (fun hG => by have q0 := gN hG; subst q0; exact Light.quiet (opMove rfl rfl)) ?_
  refine ASL.g (v := (.rptr [(.int .i64 p0.states), (.int .i64 p0.start), (.list 4 (List.map TEdge.av p0.edges))])) (.bool c19) false rfl (wF _) rfl (fun hG => by have q0 := gN hG; subst q0; exact Light.quiet (opFieldAddrR rfl fieldA_29_1 rfl rfl)) ?_
  refine ASL.g (v := (.int .i64 p0.states)) (.bool c19) false rfl (wF _) rfl (fun hG => by have q0 := gN hG; subst q0; exact Light.quiet (opLoadR rfl aggA_3 rfl rfl)) ?_
  obtain ⟨u4, hu4, hF⟩ := bindE hF
  refine ASL.g (v := (.int .i64 (shl .i64 1 p0.states))) (.bool c19) false rfl (wF _) rfl (fun hG => by have q0 := gN hG; subst q0; exact Light.quiet (opShl rfl rfl rfl (of_decide_eq_true (chkE (whenE hu4))) rfl)) ?_
  refine ASL.g (v := (.int .i64 (W (((shl .i64 1 p0.states)) - 1)))) (.bool c19) false rfl (wF _) rfl (fun hG => by have q0 := gN hG; subst q0; exact Light.quiet (opInt rfl rfl rfl rfl)) ?_
  refine ASL.g (v := (.bool (spec_SetIn p1 ((W (((shl .i64 1 p0.states)) - 1)))))) (.bool c19) false rfl (wF _) rfl (fun hG => by have q0 := gN hG; subst q0; exact (qCall rfl rfl call_61 (spec_SetIn_ok p1 ((W (((shl .i64 1 p0.states)) - 1)))) rfl)) ?_
  refine ASL.g (v := (.bool (!(spec_SetIn p1 ((W (((shl .i64 1 p0.states)) - 1))))))) (.bool c19) false rfl (wF _) rfl (fun hG => by have q0 := gN hG; subst q0; exact Light.quiet (opNot rfl rfl)) ?_
  refine ASL.q (v := (.bool (c19 || (!(spec_SetIn p1 ((W (((shl .i64 1 p0.states)) - 1)))))))) rfl rfl (Light.quiet (opPick (b := c19) rfl rfl (by cases c19 <;> rfl))) ?_
  obtain ⟨c28, hc28, hF⟩ := bndE hF
  refine ASL.q (v := (.bool c28)) rfl rfl ((Quiet.cast (Light.quiet (opMove rfl rfl)) (congrArg AV.bool hc28.symm))) ?_
  refine ASL.g (v := (.int .i64 p2)) (.bool c28) false rfl (wF _) rfl (fun hG => by have q0 := gN hG; subst q0; exact Light.quiet (opMove rfl rfl)) ?_
  refine ASL.g (v := (.rptr [(.int .i64 p0.states), (.int .i64 p0.start), (.list 4 (List.map TEdge.av p0.edges))])) (.bool c28) false rfl (wF _) rfl (fun hG => by have q0 := gN hG; subst q0; exact Light.quiet (opFieldAddrR rfl fieldA_29_1 rfl rfl)) ?_
  refine ASL.g (v := (.int .i64 p0.states)) (.bool c28) false rfl (wF _) rfl (fun hG => by have q0 := gN hG; subst q0; exact Light.quiet (opLoadR rfl aggA_3 rfl rfl)) ?_
  refine ASL.g (v := (.bool (spec_l4State p2 p0.states))) (.bool c28) false rfl (wF _) rfl (fun hG => by have q0 := gN hG; subst q0; exact (qCall rfl rfl call_62 (spec_l4State_ok p2 p0.states) rfl)) ?_
  refine ASL.g (v := (.bool (!(spec_l4State p2 p0.states)))) (.bool c28) false rfl (wF _) rfl (fun hG => by have q0 := gN hG; subst q0; exact Light.quiet (opNot rfl rfl)) ?_
  refine ASL.q (v := (.bool (c28 || (!(spec_l4State p2 p0.states))))) rfl rfl (Light.quiet (opPick (b := c28) rfl rfl (by cases c28 <;> rfl))) ?_
  refine ASL.done ?_
  refine AWP.ifB hF rfl (fun hc5 hF => ?_) (fun hc5 hF => ?_)
  · skip
    refine AWP.seqR rfl ?_
    refine ASL.q (v := v15) rfl rfl (Light.quiet (opMove rfl rfl)) ?_
    refine ASL.q (v := v15) rfl rfl (Light.quiet (opAssign rfl rfl)) ?_
    refine ASL.q (v := (.bool false)) rfl rfl (Light.quiet (opAssign rfl rfl)) ?_
    refine ASL.done ?_
    refine AWP.ret ?_
    refine QThen.rt ?_
    obtain rfl := someE hF
    exact QRet.many (vs := [v15, (.bool false)]) ⟨rfl, rfl, trivial⟩ (by simp) ⟨_, ⟨v15, rfl, rfl⟩, hS.pick [0, 2] rfl rfl⟩
  · skip
    refine AWP.skip ?_
    refine QThen.nrm ?_
    refine AWP.seqR rfl ?_
    refine ASL.q (v := (TAuto.av p0)) rfl rfl (Light.quiet (opLoadRA rfl aggA_29 sizeA_29 rfl (nlt rfl) rfl)) ?_
    refine ASL.q (v := (.int .i64 p2)) rfl rfl (Light.quiet (opMove rfl rfl)) ?_
    obtain ⟨a38, ha38, hF⟩ := bindE hF
    refine ASL.q (v := (.list 1 (List.map (AV.int .i64) a38))) rfl rfl ((qCall rfl rfl call_63 (PO.list (spec_l7Far_ok ha38)) rfl)) ?_
    refine ASL.q (v := (.list 1 (List.map (AV.int .i64) a38))) rfl rfl (Light.quiet (opAssign rfl rfl)) ?_
    refine ASL.done ?_
    refine AWP.seqR rfl ?_
    refine ASL.q (v := (.list 1 (List.map (AV.int .i64) a38))) rfl rfl (Light.quiet (opMove rfl rfl)) ?_
    refine ASL.q (v := (.int .i64 p1)) rfl rfl (Light.quiet (opMove rfl rfl)) ?_
    obtain ⟨a42, ha42, hF⟩ := bindE hF
    refine ASL.q (v := (.tup [(.int .i64 a42.1), (.int .i64 a42.2)])) rfl rfl ((qCall rfl rfl call_64 (spec_l7Near_ok ha42) rfl)) ?_
    refine ASL.q (v := (.tup [(.int .i64 a42.1), (.int .i64 a42.2)])) rfl rfl (Light.quiet (opMove rfl rfl)) ?_
    refine ASL.q (v := (.int .i64 a42.1)) rfl rfl (Light.quiet (opExtract rfl rfl rfl)) ?_
    refine ASL.q (v := (.int .i64 a42.2)) rfl rfl (Light.quiet (opExtract rfl rfl rfl)) ?_
    refine ASL.q (v := (.int .i64 a42.1)) rfl rfl (Light.quiet (opAssign rfl rfl)) ?_
    refine ASL.q (v := (.int .i64 a42.2)) rfl rfl (Light.quiet (opAssign rfl rfl)) ?_
    refine ASL.done ?_
    refine AWP.seq ?_
    refine AWP.seqR rfl ?_
    refine ASL.q (v := (.int .i64 a42.2)) rfl rfl (Light.quiet (opMove rfl rfl)) ?_
    refine ASL.q (v := (.bool (decide (a42.2 < 0)))) rfl rfl (Light.quiet (opInt rfl rfl rfl rfl)) ?_
    refine ASL.done ?_
    refine AWP.ifP hF rfl (fun hc6 hF => ?_) (fun hc6 hF => ?_)
    · skip
      refine AWP.seqR rfl ?_
      refine ASL.q (v := v15) rfl rfl (Light.quiet (opMove rfl rfl)) ?_
      refine ASL.q (v := v15) rfl rfl (Light.quiet (opAssign rfl rfl)) ?_
      refine ASL.q (v := (.bool false)) rfl rfl (Light.quiet (opAssign rfl rfl)) ?_
      refine ASL.done ?_
      refine AWP.ret ?_
      refine QThen.rt ?_
      obtain rfl := someE hF
      exact QRet.many (vs := [v15, (.bool false)]) ⟨rfl, rfl, trivial⟩ (by simp) ⟨_, ⟨v15, rfl, rfl⟩, hS.pick [0, 2] rfl rfl⟩
    · skip
      refine AWP.skip ?_
      refine QThen.nrm ?_
      refine AWP.seqM (fun e H => ∃ y7 : (List Int), ∃ w8 : AV, E.Told e [(8, w8)] ∧ E.Sep H [.row 1 w8 (List.map (AV.int .i64) y7), .snap S] ∧ spec_PathWord.k0 y7 = some r) ?_ ?_
      · rintro e0 G10 ⟨y7, w8, hT, hS, hF⟩; refine AWP.only _ hT ?_; unfold spec_PathWord.k0 at hF
        refine AWP.seqR rfl ?_
        refine ASL.q (v := w8) rfl rfl (Light.quiet (opMove rfl rfl)) ?_
        refine ASL.q (v := w8) rfl rfl (Light.quiet (opAssign rfl rfl)) ?_
        refine ASL.q (v := (.bool true)) rfl rfl (Light.quiet (opAssign rfl rfl)) ?_
        refine ASL.done ?_
        refine AWP.ret ?_
        obtain rfl := someE hF
        exact QRet.many (vs := [w8, (.bool true)]) ⟨rfl, rfl, trivial⟩ (by simp) ⟨_, ⟨w8, rfl, rfl⟩, hS.pick [0, 1] rfl rfl⟩
      · skip
        refine AWP.block ?_
        obtain ⟨o17, hL16, hR18⟩ := bindE hF
        refine AWP.loopF (ω := AV) hL16 (fun s w => [(3, (.rptr [(.int .i64 p0.letters), (.int .i64 p0.states), (.int .i64 p0.start), (.list 4 (List.map TEdge.av p0.edges))])), (8, w), (9, (.list 1 (List.map (AV.int .i64) a38))), (10, (.int .i64 s.2.1)), (11, (.int .i64 s.2.2))]) (fun s w => [.row 1 w (List.map (AV.int .i64) s.1), .snap S]) v15 ⟨rfl, rfl, rfl, rfl, rfl, trivial⟩ (hS.pick [0, 2] rfl rfl) ?_
        rintro ⟨y11, x10_l0, x11_l0⟩ w12 G19 hS x14 hF hx15
        try dsimp only at hS ⊢
        have hF : spec_PathWord.b0 p0 a38 y11 x10_l0 x11_l0 = some x14 := hF; unfold spec_PathWord.b0 at hF
        refine AWP.seq ?_
        refine AWP.seqR rfl ?_
        refine ASL.q (v := (.int .i64 x11_l0)) rfl rfl (Light.quiet (opMove rfl rfl)) ?_
        refine ASL.q (v := (.bool (decide (x11_l0 > 0)))) rfl rfl (Light.quiet (opInt rfl rfl rfl rfl)) ?_
        refine ASL.done ?_
        refine AWP.ifP hF rfl (fun hc20 hF => ?_) (fun hc20 hF => ?_)
        · skip
          refine AWP.skip ?_
          refine QThen.nrm ?_
          refine AWP.block ?_
          refine AWP.seqM (fun e H => ∃ y21 : (List Int), ∃ x10_2 : Int, ∃ w22 : AV, E.Told e [(3, (.rptr [(.int .i64 p0.letters), (.int .i64 p0.states), (.int .i64 p0.start), (.list 4 (List.map TEdge.av p0.edges))])), (8, w22), (9, (.list 1 (List.map (AV.int .i64) a38))), (10, (.int .i64 x10_2)), (11, (.int .i64 x11_l0))] ∧ E.Sep H [.row 1 w22 (List.map (AV.int .i64) y21), .snap S] ∧ spec_PathWord.k1 x11_l0 y21 x10_2 = some x14) ?_ ?_
          · rintro e0 G24 ⟨y21, x10_2, w22, hT, hS, hF⟩; refine AWP.only _ hT ?_; unfold spec_PathWord.k1 at hF
            refine AWP.lastR rfl ?_
            refine ASL.q (v := (.int .i64 x11_l0)) rfl rfl (Light.quiet (opMove rfl rfl)) ?_
            refine ASL.q (v := (.int .i64 (W (x11_l0 - 1)))) rfl rfl (Light.quiet (opInt rfl rfl rfl rfl)) ?_
            refine ASL.q (v := (.int .i64 (W (x11_l0 - 1)))) rfl rfl (Light.quiet (opAssign rfl rfl)) ?_
            refine ASL.done ?_
            refine QBlock.nrm ?_
            refine QThen.nrm ?_
            exact ⟨(y21, x10_2, (W (x11_l0 - 1))), w22, (someE hF).symm, ⟨rfl, rfl, rfl, rfl, rfl, trivial⟩, (hS.pick [0, 1] rfl rfl)⟩
          · skip
            refine AWP.seqR rfl ?_
            refine ASL.q (v := (.int .i64 0)) rfl rfl (Light.quiet (opAssign rfl rfl)) ?_
            refine ASL.done ?_
            refine AWP.block ?_
            obtain ⟨o31, hL30, hR32⟩ := bindE hF
            refine AWP.loopF (ω := AV) hL30 (fun s w => [(3, (.rptr [(.int .i64 p0.letters), (.int .i64 p0.states), (.int .i64 p0.start), (.list 4 (List.map TEdge.av p0.edges))])), (8, w), (9, (.list 1 (List.map (AV.int .i64) a38))), (10, (.int .i64 s.2.1)), (11, (.int .i64 x11_l0)), (12, (.int .i64 s.2.2))]) (fun s w => [.row 1 w (List.map (AV.int .i64) s.1), .snap S]) w12 ⟨rfl, rfl, rfl, rfl, rfl, rfl, trivial⟩ (hS.pick [0, 1] rfl rfl) ?_
            rintro ⟨y25, x10_l1, x12_l1⟩ w26 G33 hS x28 hF hx29
            try dsimp only at hS ⊢
            have hF : spec_PathWord.b1 p0 a38 x11_l0 y25 x10_l1 x12_l1 = some x28 := hF; unfold spec_PathWord.b1 at hF
            refine AWP.seq ?_
            refine AWP.seqR rfl ?_
            refine ASL.q (v := (.int .i64 x12_l1)) rfl rfl (Light.quiet (opMove rfl rfl)) ?_
            refine ASL.q (v := (.rptr [(.int .i64 p0.letters), (.int .i64 p0.states), (.int .i64 p0.start), (.list 4 (List.map TEdge.av p0.edges))])) rfl rfl (Light.quiet (opFieldAddrR rfl fieldA_29_0 rfl rfl)) ?_
            refine ASL.q (v := (.int .i64 p0.letters)) rfl rfl (Light.quiet (opLoadR rfl aggA_3 rfl rfl)) ?_
            refine ASL.q (v := (.bool (decide (x12_l1 < p0.letters)))) rfl rfl (Light.quiet (opInt rfl rfl rfl rfl)) ?_
            refine ASL.done ?_
            refine AWP.ifP hF rfl (fun hc34 hF => ?_) (fun hc34 hF => ?_)
            · skip
              refine AWP.skip ?_
              refine QThen.nrm ?_
              refine AWP.seq ?_
              refine AWP.block ?_
              refine AWP.seqR rfl ?_
              refine ASL.q (v := (.list 1 (List.map (AV.int .i64) a38))) rfl rfl (Light.quiet (opMove rfl rfl)) ?_
              refine ASL.q (v := (TAuto.av p0)) rfl rfl (Light.quiet (opLoadRA rfl aggA_29 sizeA_29 rfl (nlt rfl) rfl)) ?_
              refine ASL.q (v := (.int .i64 x10_l1)) rfl rfl (Light.quiet (opMove rfl rfl)) ?_
              refine ASL.q (v := (.int .i64 x12_l1)) rfl rfl (Light.quiet (opMove rfl rfl)) ?_
              obtain ⟨a61, ha61, hF⟩ := bindE hF
              refine ASL.q (v := (.int .i64 a61)) rfl rfl ((qCall rfl rfl call_65 (spec_l4Next_ok ha61) rfl)) ?_
              obtain ⟨a62, ha62, hF⟩ := bindE hF
              refine ASL.q (v := (.tup [(.int .i64 a62.1), (.int .i64 a62.2)])) rfl rfl ((qCall rfl rfl call_64 (spec_l7Near_ok ha62) rfl)) ?_
              refine ASL.q (v := (.tup [(.int .i64 a62.1), (.int .i64 a62.2)])) rfl rfl (Light.quiet (opMove rfl rfl)) ?_
              refine ASL.q (v := (.int .i64 a62.1)) rfl rfl (Light.quiet (opExtract rfl rfl rfl)) ?_
              refine ASL.q (v := (.int .i64 a62.2)) rfl rfl (Light.quiet (opExtract rfl rfl rfl)) ?_
              refine ASL.q (v := (.int .i64 a62.1)) rfl rfl (Light.quiet (opAssign rfl rfl)) ?_
              refine ASL.q (v := (.int .i64 a62.2)) rfl rfl (Light.quiet (opAssign rfl rfl)) ?_
              refine ASL.done ?_
              refine AWP.seqR rfl ?_
              refine ASL.q (v := (.int .i64 a62.2)) rfl rfl (Light.quiet (opMove rfl rfl)) ?_
              refine ASL.q (v := (.int .i64 x11_l0)) rfl rfl (Light.quiet (opMove rfl rfl)) ?_
              refine ASL.q (v := (.int .i64 (W (x11_l0 - 1)))) rfl rfl (Light.quiet (opInt rfl rfl rfl rfl)) ?_
              refine ASL.q (v := (.bool (decide (a62.2 = ((W (x11_l0 - 1))))))) rfl rfl (Light.quiet (opInt rfl rfl rfl rfl)) ?_
              refine ASL.done ?_
              refine AWP.ifP hF rfl (fun hc35 hF => ?_) (fun hc35 hF => ?_)
              · skip
                refine AWP.seqR rfl ?_
                refine ASL.q (v := w26) rfl rfl (Light.quiet (opMove rfl rfl)) ?_
                refine ASL.q (v := (.int .i64 x12_l1)) rfl rfl (Light.quiet (opMove rfl rfl)) ?_
                refine ASL.q (v := (.list 1 (List.map (AV.int .i64) [x12_l1]))) rfl rfl ((qLit (xs := [(.int .i64 x12_l1)]) rfl elemA_34 sizeA_3 zeroA_3 rfl rfl rfl rfl (by simp [cells]) (nlt rfl))) ?_
                obtain ⟨z72, hz72, hF⟩ := bindE hF
                refine ASL.x rfl rfl (hApp (f := (AV.int .i64)) (ws := [x12_l1]) hS (j := 0) rfl hz72 rfl elemA_34 rfl sizeA_3 bytesA_3 zeroA_3 rfl rfl rfl (fun _ => rfl) ?_); rintro v72 G36 hS
                refine ASL.q (v := v72) rfl rfl (Light.quiet (opAssign rfl rfl)) ?_
                refine ASL.done ?_
                refine AWP.seqR rfl ?_
                refine ASL.q (v := (.int .i64 a62.1)) rfl rfl (Light.quiet (opMove rfl rfl)) ?_
                refine ASL.q (v := (.int .i64 a62.1)) rfl rfl (Light.quiet (opAssign rfl rfl)) ?_
                refine ASL.done ?_
                refine AWP.exit ?_
                refine QBlock.miss rfl ?_
                refine QThen.ext ?_
                refine QThen.ext ?_
                refine QBlock.hit ?_
                obtain rfl := (hx29 _ (someE hF).symm)
                have hF := hR32
                refine QThen.nrm ?_
                exact ⟨z72, a62.1, v72, ⟨rfl, rfl, rfl, rfl, rfl, trivial⟩, (hS.pick [0, 1] rfl rfl), hF⟩
              · skip
                refine AWP.skip ?_
                refine QBlock.nrm ?_
                refine QThen.nrm ?_
                refine AWP.lastR rfl ?_
                refine ASL.q (v := (.int .i64 x12_l1)) rfl rfl (Light.quiet (opMove rfl rfl)) ?_
                refine ASL.q (v := (.int .i64 (W (x12_l1 + 1)))) rfl rfl (Light.quiet (opInt rfl rfl rfl rfl)) ?_
                refine ASL.q (v := (.int .i64 (W (x12_l1 + 1)))) rfl rfl (Light.quiet (opAssign rfl rfl)) ?_
                refine ASL.done ?_
                refine QThen.nrm ?_
                exact ⟨(y25, x10_l1, (W (x12_l1 + 1))), w26, (someE hF).symm, ⟨rfl, rfl, rfl, rfl, rfl, rfl, trivial⟩, (hS.pick [0, 1] rfl rfl)⟩
            · skip
              refine AWP.exit ?_
              refine QThen.ext ?_
              refine QThen.ext ?_
              refine QBlock.hit ?_
              obtain rfl := (hx29 _ (someE hF).symm)
              have hF := hR32
              refine QThen.nrm ?_
              exact ⟨y25, x10_l1, w26, ⟨rfl, rfl, rfl, rfl, rfl, trivial⟩, (hS.pick [0, 1] rfl rfl), hF⟩
        · skip
          refine AWP.exit ?_
          refine QThen.ext ?_
          refine QThen.ext ?_
          refine QBlock.hit ?_
          obtain rfl := (hx15 _ (someE hF).symm)
          have hF := hR18
          refine QThen.nrm ?_
          exact ⟨y11, w12, ⟨rfl, trivial⟩, (hS.pick [0, 1] rfl rfl), hF⟩

set_option maxRecDepth 10000 in
theorem impl_isMember_ok (p0 : Int) : PC Try.prog 66 [(.int .i64 p0)] fun v => v = (.bool (impl_isMember p0)) := by
  generalize hF : impl_isMember p0 = r
  refine PC.enter Try.func66 rfl Try.ntmps66 (by simp) ?_
  have hS := Sep.void; unfold impl_isMember at hF
  refine AWP.seqR rfl ?_
  refine ASL.q (v := (.bool false)) rfl rfl (Light.quiet (opAssign rfl rfl)) ?_
  refine ASL.done ?_
  refine AWP.seqR rfl ?_
  refine ASL.q (v := (.int .i64 p0)) rfl rfl (Light.quiet (opMove rfl rfl)) ?_
  refine ASL.q (v := (.bool (impl_inRange p0 0 30))) rfl rfl ((qCall rfl rfl call_59 (impl_inRange_ok p0 0 30) rfl)) ?_
  refine ASL.q (v := (.bool (impl_inRange p0 0 30))) rfl rfl (Light.quiet (opAssign rfl rfl)) ?_
  refine ASL.done ?_
  refine AWP.ret ?_
  obtain rfl := hF
  exact QRet.sole (v := (.bool (impl_inRange p0 0 30))) ⟨rfl, trivial⟩ rfl

set_option maxRecDepth 10000 in
theorem impl_SetHas_ok (p0 : Int) (p1 : Int) : PC Try.prog 27 [(.int .i64 p0), (.int .i64 p1)] fun v => v = (.bool (impl_SetHas p0 p1)) := by
  generalize hF : impl_SetHas p0 p1 = r
  refine PC.enter Try.func27 rfl Try.ntmps27 (by simp) ?_
  have hS := Sep.void; unfold impl_SetHas at hF
  refine AWP.seqR rfl ?_
  refine ASL.q (v := (.bool false)) rfl rfl (Light.quiet (opAssign rfl rfl)) ?_
  refine ASL.done ?_
  refine AWP.seqR rfl ?_
  refine ASL.q (v := (.int .i64 p0)) rfl rfl (Light.quiet (opMove rfl rfl)) ?_
  refine ASL.q (v := (.bool (impl_SetOk p0))) rfl rfl ((qCall rfl rfl call_57 (impl_SetOk_ok p0) rfl)) ?_
  obtain ⟨c7, hc7, hF⟩ := bndE hF
  refine ASL.q (v := (.bool c7)) rfl rfl ((Quiet.cast (Light.quiet (opMove rfl rfl)) (congrArg AV.bool hc7.symm))) ?_
  refine ASL.g (v := (.int .i64 p1)) (.bool c7) true rfl (wT _) rfl (fun hG => by have q0 := hG; subst q0; exact Light.quiet (opMove rfl rfl)) ?_
  refine ASL.g (v := (.bool (impl_isMember p1))) (.bool c7) true rfl (wT _) rfl (fun hG => by have q0 := hG; subst q0; exact (qCall rfl rfl call_66 (impl_isMember_ok p1) rfl)) ?_
  refine ASL.q (v := (.bool (c7 && (impl_isMember p1)))) rfl rfl (Light.quiet (opPick (b := c7) rfl rfl (by cases c7 <;> rfl))) ?_
  obtain ⟨c11, hc11, hF⟩ := bndE hF
  refine ASL.q (v := (.bool c11)) rfl rfl ((Quiet.cast (Light.quiet (opMove rfl rfl)) (congrArg AV.bool hc11.symm))) ?_
  refine ASL.g (v := (.int .i64 p0)) (.bool c11) true rfl (wT _) rfl (fun hG => by have q0 := hG; subst q0; exact Light.quiet (opMove rfl rfl)) ?_
  refine ASL.g (v := (.int .i64 p1)) (.bool c11) true rfl (wT _) rfl (fun hG => by have q0 := hG; subst q0; exact Light.quiet (opMove rfl rfl)) ?_
  refine ASL.g (v := (.bool (impl_has p0 p1))) (.bool c11) true rfl (wT _) rfl (fun hG => by have q0 := hG; subst q0; exact (qCall rfl rfl call_67 (impl_has_ok p0 p1) rfl)) ?_
  refine ASL.q (v := (.bool (c11 && (impl_has p0 p1)))) rfl rfl (Light.quiet (opPick (b := c11) rfl rfl (by cases c11 <;> rfl))) ?_
  refine ASL.q (v := (.bool (c11 && (impl_has p0 p1)))) rfl rfl (Light.quiet (opAssign rfl rfl)) ?_
  refine ASL.done ?_
  refine AWP.ret ?_
  obtain rfl := hF
  exact QRet.sole (v := (.bool (c11 && (impl_has p0 p1)))) ⟨rfl, trivial⟩ rfl

set_option maxRecDepth 10000 in
theorem impl_AutoNext_ok {p0 : TAuto} {p1 : Int} {p2 : Int} {r : Int} (hF : impl_AutoNext p0 p1 p2 = some r) : PC Try.prog 28 [(TAuto.av p0), (.int .i64 p1), (.int .i64 p2)] fun v => v = (.int .i64 r) := by
  refine PC.enter Try.func28 rfl Try.ntmps28 (by simp) ?_
  have hS := Sep.void; unfold impl_AutoNext at hF
  refine AWP.seqR rfl ?_
  refine ASL.q (v := (.rptr [(.int .i64 p0.letters), (.int .i64 p0.states), (.int .i64 p0.start), (.list 4 (List.map TEdge.av p0.edges))])) rfl rfl ((qBoxI (v := (TAuto.av p0)) rfl rfl rfl rfl)) ?_
  refine ASL.q (v := (.int .i64 0)) rfl rfl (Light.quiet (opAssign rfl rfl)) ?_
  refine ASL.done ?_
  refine AWP.seq ?_
  refine AWP.seqR rfl ?_
  refine ASL.q (v := (.int .i64 p1)) rfl rfl (Light.quiet (opMove rfl rfl)) ?_
  refine ASL.q (v := (.bool (impl_SetOk p1))) rfl rfl ((qCall rfl rfl call_57 (impl_SetOk_ok p1) rfl)) ?_
  refine ASL.q (v := (.bool (!(impl_SetOk p1)))) rfl rfl (Light.quiet (opNot rfl rfl)) ?_
  obtain ⟨c10, hc10, hF⟩ := bndE hF
  refine ASL.q (v := (.bool c10)) rfl rfl ((Quiet.cast (Light.quiet (opMove rfl rfl)) (congrArg AV.bool hc10.symm))) ?_
  refine ASL.g (v := (TAuto.av p0)) (.bool c10) false rfl (wF _) rfl (fun hG => by have q0 := gN hG; subst q0; exact Light.quiet (opLoadRA rfl aggA_29 sizeA_29 rfl (nlt rfl) rfl)) ?_
  obtain ⟨a12, ha12, hF⟩ := bindE hF
  refine ASL.g (v := (.bool a12)) (.bool c10) false rfl (wF _) rfl (fun hG => by have q0 := gN hG; subst q0; exact (qCall rfl rfl call_43 (impl_AutoOk_ok (whenE ha12)) rfl)) ?_
  refine ASL.g (v := (.bool (!a12))) (.bool c10) false rfl (wF _) rfl (fun hG => by have q0 := gN hG; subst q0; exact Light.quiet (opNot rfl rfl)) ?_
  refine ASL.q (v := (.bool (c10 || (!a12)))) rfl rfl (Light.quiet (opPick (b := c10) rfl rfl (by cases c10 <;> rfl))) ?_
  refine ASL.done ?_
  refine AWP.ifB hF rfl (fun hc1 hF => ?_) (fun hc1 hF => ?_)
  · skip
    refine AWP.seqR rfl ?_
    refine ASL.q (v := (.int .i64 0)) rfl rfl (Light.quiet (opAssign rfl rfl)) ?_
    refine ASL.done ?_
    refine AWP.ret ?_
    refine QThen.rt ?_
    obtain rfl := someE hF
    exact QRet.sole (v := (.int .i64 0)) ⟨rfl, trivial⟩ rfl
  · skip
    refine AWP.skip ?_
    refine QThen.nrm ?_
    refine AWP.seqR rfl ?_
    refine ASL.q (v := (.int .i64 p1)) rfl rfl (Light.quiet (opMove rfl rfl)) ?_
    refine ASL.q (v := (.int .i64 p2)) rfl rfl (Light.quiet (opMove rfl rfl)) ?_
    obtain ⟨a17, ha17, hF⟩ := bindE hF
    refine ASL.q (v := (.int .i64 a17)) rfl rfl ((qCall rfl rfl call_68 (impl_Auto_step_ok ha17) rfl)) ?_
    refine ASL.q (v := (.int .i64 a17)) rfl rfl (Light.quiet (opAssign rfl rfl)) ?_
    refine ASL.done ?_
    refine AWP.ret ?_
    obtain rfl := someE hF
    exact QRet.sole (v := (.int .i64 a17)) ⟨rfl, trivial⟩ rfl

set_option maxRecDepth 10000 in
theorem laws_FnPath_ok {p0 : (List Int)} {r : Bool} (hF : laws_FnPath p0 = some r) : PC Try.prog 6 [(.list 1 (List.map (AV.int .u8) p0))] fun v => v = (.bool r) := by
  refine PC.enter Try.func6 rfl Try.ntmps6 (by simp) ?_
  have hS := Sep.void; unfold laws_FnPath at hF
  refine AWP.seqR rfl ?_
  refine ASL.q (v := (.bool false)) rfl rfl (Light.quiet (opAssign rfl rfl)) ?_
  refine ASL.done ?_
  refine AWP.seq ?_
  refine AWP.seqR rfl ?_
  refine ASL.q (v := (.list 1 (List.map (AV.int .u8) p0))) rfl rfl (Light.quiet (opMove rfl rfl)) ?_
  refine ASL.q (v := (.bool (laws_big p0))) rfl rfl ((qCall rfl rfl call_23 (laws_big_ok p0) rfl)) ?_
  refine ASL.done ?_
  refine AWP.ifB hF rfl (fun hc1 hF => ?_) (fun hc1 hF => ?_)
  · skip
    refine AWP.seqR rfl ?_
    refine ASL.q (v := (.bool true)) rfl rfl (Light.quiet (opAssign rfl rfl)) ?_
    refine ASL.done ?_
    refine AWP.ret ?_
    refine QThen.rt ?_
    obtain rfl := someE hF
    exact QRet.sole (v := (.bool true)) ⟨rfl, trivial⟩ rfl
  · skip
    refine AWP.skip ?_
    refine QThen.nrm ?_
    refine AWP.seqR rfl ?_
    refine ASL.q (v := (.list 1 (List.map (AV.int .u8) p0))) rfl rfl (Light.quiet (opMove rfl rfl)) ?_
    obtain ⟨a19, ha19, hF⟩ := bindE hF
    refine ASL.q (v := (.tup [(TAuto.av a19.1), (.int .i64 a19.2.1), (.int .i64 a19.2.2)])) rfl rfl ((qCall rfl rfl call_24 (spec_DrawPathWord_ok ha19) rfl)) ?_
    refine ASL.q (v := (.tup [(TAuto.av a19.1), (.int .i64 a19.2.1), (.int .i64 a19.2.2)])) rfl rfl (Light.quiet (opMove rfl rfl)) ?_
    refine ASL.q (v := (TAuto.av a19.1)) rfl rfl (Light.quiet (opExtract rfl rfl rfl)) ?_
    refine ASL.q (v := (.int .i64 a19.2.1)) rfl rfl (Light.quiet (opExtract rfl rfl rfl)) ?_
    refine ASL.q (v := (.int .i64 a19.2.2)) rfl rfl (Light.quiet (opExtract rfl rfl rfl)) ?_
    refine ASL.x rfl rfl (hNewZ hS [(.int .i64 0), (.int .i64 0), (.int .i64 0), (.list 4 (List.map TEdge.av []))] rfl zeroA_29 ⟨.inl rfl, .inl rfl, .inl rfl, .inr ⟨_, rfl, rfl⟩, trivial⟩ ?_); rintro b3 G2 hK hS
    refine ASL.n rfl rfl (hPutA hS (j := 0) rfl rfl sizeA_29 rfl rfl rfl rfl rfl (nlt rfl) ?_); rintro G4 hS
    refine ASL.q (v := (.int .i64 a19.2.1)) rfl rfl (Light.quiet (opAssign rfl rfl)) ?_
    refine ASL.q (v := (.int .i64 a19.2.2)) rfl rfl (Light.quiet (opAssign rfl rfl)) ?_
    refine ASL.done ?_
    refine AWP.seqR rfl ?_
    refine ASL.q (v := (TAuto.av a19.1)) rfl rfl (Light.quiet (kAtA hS (j := 0) rfl rfl aggA_29 sizeA_29 rfl (nlt rfl) rfl)) ?_
    refine ASL.q (v := (.int .i64 a19.2.1)) rfl rfl (Light.quiet (opMove rfl rfl)) ?_
    refine ASL.q (v := (.int .i64 a19.2.2)) rfl rfl (Light.quiet (opMove rfl rfl)) ?_
    obtain ⟨a27, ha27, hF⟩ := bindE hF
    refine ASL.x rfl rfl (hCallSR hS rfl rfl call_25 (impl_PathWord_ok ha27) ⟨.same _, .same _, .same _, trivial⟩ (by rintro _ _ G ⟨w5, rfl, rfl⟩ hG; exact ⟨(Scal.tup (ScalC.cons (hG.scR (k := 0) rfl) (ScalC.cons (by constructor) ScalC.nil))), ⟨(Scal.ints _ _), trivial⟩⟩) ?_); rintro _ _ G7 ⟨w5, rfl, rfl⟩ hK hS
    refine ASL.q (v := (.tup [w5, (.bool a27.2)])) rfl rfl (Light.quiet (opMove rfl rfl)) ?_
    refine ASL.q (v := w5) rfl rfl (Light.quiet (opExtract rfl rfl rfl)) ?_
    refine ASL.q (v := (.bool a27.2)) rfl rfl (Light.quiet (opExtract rfl rfl rfl)) ?_
    refine ASL.q (v := w5) rfl rfl (Light.quiet (opAssign rfl rfl)) ?_
    refine ASL.q (v := (.bool a27.2)) rfl rfl (Light.quiet (opAssign rfl rfl)) ?_
    refine ASL.done ?_
    refine AWP.seqR rfl ?_
    refine ASL.q (v := (TAuto.av a19.1)) rfl rfl (Light.quiet (kAtA hS (j := 1) rfl rfl aggA_29 sizeA_29 rfl (nlt rfl) rfl)) ?_
    refine ASL.q (v := (.int .i64 a19.2.1)) rfl rfl (Light.quiet (opMove rfl rfl)) ?_
    refine ASL.q (v := (.int .i64 a19.2.2)) rfl rfl (Light.quiet (opMove rfl rfl)) ?_
    obtain ⟨a34, ha34, hF⟩ := bindE hF
    refine ASL.x rfl rfl (hCallSR hS rfl rfl call_26 (spec_PathWord_ok ha34) ⟨.same _, .same _, .same _, trivial⟩ (by rintro _ _ G ⟨w8, rfl, rfl⟩ hG; exact ⟨(Scal.tup (ScalC.cons (hG.scR (k := 0) rfl) (ScalC.cons (by constructor) ScalC.nil))), ⟨(Scal.ints _ _), trivial⟩⟩) ?_); rintro _ _ G10 ⟨w8, rfl, rfl⟩ hK hS
    refine ASL.q (v := (.tup [w8, (.bool a34.2)])) rfl rfl (Light.quiet (opMove rfl rfl)) ?_
    refine ASL.q (v := w8) rfl rfl (Light.quiet (opExtract rfl rfl rfl)) ?_
    refine ASL.q (v := (.bool a34.2)) rfl rfl (Light.quiet (opExtract rfl rfl rfl)) ?_
    refine ASL.q (v := w8) rfl rfl (Light.quiet (opAssign rfl rfl)) ?_
    refine ASL.q (v := (.bool a34.2)) rfl rfl (Light.quiet (opAssign rfl rfl)) ?_
    refine ASL.done ?_
    refine AWP.seq ?_
    refine AWP.seqR rfl ?_
    refine ASL.q (v := (.bool a27.2)) rfl rfl (Light.quiet (opMove rfl rfl)) ?_
    refine ASL.q (v := (.bool a34.2)) rfl rfl (Light.quiet (opMove rfl rfl)) ?_
    refine ASL.q (v := (.bool (!(a27.2 == a34.2)))) rfl rfl (Light.quiet (opBoolEq rfl rfl rfl und_4 rfl)) ?_
    refine ASL.done ?_
    refine AWP.ifB hF rfl (fun hc11 hF => ?_) (fun hc11 hF => ?_)
    · skip
      refine AWP.seqR rfl ?_
      refine ASL.q (v := (.bool false)) rfl rfl (Light.quiet (opAssign rfl rfl)) ?_
      refine ASL.done ?_
      refine AWP.ret ?_
      refine QThen.rt ?_
      obtain rfl := someE hF
      exact QRet.sole (v := (.bool false)) ⟨rfl, trivial⟩ rfl
    · skip
      refine AWP.skip ?_
      refine QThen.nrm ?_
      refine AWP.seq ?_
      refine AWP.seqR rfl ?_
      refine ASL.q (v := (.bool a27.2)) rfl rfl (Light.quiet (opMove rfl rfl)) ?_
      refine ASL.q (v := (.bool (!a27.2))) rfl rfl (Light.quiet (opNot rfl rfl)) ?_
      refine ASL.done ?_
      refine AWP.ifB hF rfl (fun hc12 hF => ?_) (fun hc12 hF => ?_)
      · skip
        refine AWP.seqR rfl ?_
        refine ASL.q (v := w5) rfl rfl (Light.quiet (opMove rfl rfl)) ?_
        refine ASL.q (v := (.int .i64 (a27.1.length : Int))) rfl rfl (Light.quiet (kLen hS (j := 1) rfl rfl rfl rfl lenT_34 rfl)) ?_
        refine ASL.q (v := (.bool (decide (((a27.1.length : Int)) = 0)))) rfl rfl (Light.quiet (opInt rfl rfl rfl rfl)) ?_
        refine ASL.q (v := (.bool (decide (((a27.1.length : Int)) = 0)))) rfl rfl (Light.quiet (opAssign rfl rfl)) ?_
        refine ASL.done ?_
        refine AWP.ret ?_
        refine QThen.rt ?_
        obtain rfl := someE hF
        exact QRet.sole (v := (.bool (decide (((a27.1.length : Int)) = 0)))) ⟨rfl, trivial⟩ rfl
      · skip
        refine AWP.skip ?_
        refine QThen.nrm ?_
        refine AWP.seqR rfl ?_
        refine ASL.q (v := (.int .i64 a19.2.1)) rfl rfl (Light.quiet (opMove rfl rfl)) ?_
        refine ASL.q (v := (.int .i64 a19.2.1)) rfl rfl (Light.quiet (opMove rfl rfl)) ?_
        refine ASL.q (v := (.int .i64 a19.2.1)) rfl rfl (Light.quiet (opAssign rfl rfl)) ?_
        refine ASL.q (v := (.int .i64 a19.2.1)) rfl rfl (Light.quiet (opAssign rfl rfl)) ?_
        refine ASL.done ?_
        refine AWP.seqM (fun e H => ∃ x10_1 : Int, E.Told e [(3, (.ptr b3 0)), (5, (.int .i64 a19.2.2)), (6, w5), (10, (.int .i64 x10_1))] ∧ E.Sep H [.cell b3 [(.int .i64 a19.1.letters), (.int .i64 a19.1.states), (.int .i64 a19.1.start), (.list 4 (List.map TEdge.av a19.1.edges))], .row 1 w5 (List.map (AV.int .i64) a27.1)] ∧ laws_FnPath.k0 a19 a27 x10_1 = some r) ?_ ?_
        · rintro e0 G13 ⟨x10_1, hT, hS, hF⟩; refine AWP.only _ hT ?_; unfold laws_FnPath.k0 at hF
          refine AWP.seqR rfl ?_
          refine ASL.q (v := (.int .i64 x10_1)) rfl rfl (Light.quiet (opMove rfl rfl)) ?_
          refine ASL.q (v := (.int .i64 a19.2.2)) rfl rfl (Light.quiet (opMove rfl rfl)) ?_
          refine ASL.q (v := (.bool (impl_SetHas x10_1 a19.2.2))) rfl rfl ((qCall rfl rfl call_27 (impl_SetHas_ok x10_1 a19.2.2) rfl)) ?_
          obtain ⟨c80, hc80, hF⟩ := bndE hF
          refine ASL.q (v := (.bool c80)) rfl rfl ((Quiet.cast (Light.quiet (opMove rfl rfl)) (congrArg AV.bool hc80.symm))) ?_
          refine ASL.g (v := w5) (.bool c80) true rfl (wT _) rfl (fun hG => by have q0 := hG; subst q0; exact Light.quiet (opMove rfl rfl)) ?_
          refine ASL.g (v := (.int .i64 (a27.1.length : Int))) (.bool c80) true rfl (wT _) rfl (fun hG => by have q0 := hG; subst q0; exact Light.quiet (kLen hS (j := 1) rfl rfl rfl rfl lenT_34 rfl)) ?_
          refine ASL.g (v := (.ptr b3 1)) (.bool c80) true rfl (wT _) rfl (fun hG => by have q0 := hG; subst q0; exact Light.quiet (opFieldAddr rfl fieldA_29_1 rfl rfl)) ?_
          refine ASL.g (v := (.int .i64 a19.1.states)) (.bool c80) true rfl (wT _) rfl (fun hG => by have q0 := hG; subst q0; exact Light.quiet (kAt hS (j := 0) rfl rfl aggA_3 rfl rfl)) ?_
          refine ASL.g (v := (.int .i64 (W (a19.1.states + 1)))) (.bool c80) true rfl (wT _) rfl (fun hG => by have q0 := hG; subst q0; exact Light.quiet (opInt rfl rfl rfl rfl)) ?_
          refine ASL.g (v := (.bool (decide (((a27.1.length : Int)) < ((W (a19.1.states + 1))))))) (.bool c80) true rfl (wT _) rfl (fun hG => by have q0 := hG; subst q0; exact Light.quiet (opInt rfl rfl rfl rfl)) ?_
          refine ASL.q (v := (.bool (c80 && (decide (((a27.1.length : Int)) < ((W (a19.1.states + 1)))))))) rfl rfl (Light.quiet (opPick (b := c80) rfl rfl (by cases c80 <;> rfl))) ?_
          refine ASL.q (v := (.bool (c80 && (decide (((a27.1.length : Int)) < ((W (a19.1.states + 1)))))))) rfl rfl (Light.quiet (opAssign rfl rfl)) ?_
          refine ASL.done ?_
          refine AWP.ret ?_
          obtain rfl := someE hF
          exact QRet.sole (v := (.bool (c80 && (decide (((a27.1.length : Int)) < ((W (a19.1.states + 1)))))))) ⟨rfl, trivial⟩ rfl
        · skip
          refine AWP.seqR rfl ?_
          refine ASL.q (v := (.int .i64 0)) rfl rfl (Light.quiet (opAssign rfl rfl)) ?_
          refine ASL.done ?_
          refine AWP.block ?_
          obtain ⟨o17, hL16, hR18⟩ := bindE hF
          refine AWP.loopF (ω := Unit) hL16 (fun s w => [(3, (.ptr b3 0)), (5, (.int .i64 a19.2.2)), (6, w5), (10, (.int .i64 s.1)), (11, (.int .i64 s.2.1)), (12, (.int .i64 s.2.2))]) (fun s w => [.cell b3 [(.int .i64 a19.1.letters), (.int .i64 a19.1.states), (.int .i64 a19.1.start), (.list 4 (List.map TEdge.av a19.1.edges))], .row 1 w5 (List.map (AV.int .i64) a27.1)]) () ⟨rfl, rfl, rfl, rfl, rfl, rfl, trivial⟩ (hS.pick [2, 1] rfl rfl) ?_
          rintro ⟨x10_l0, x11_l0, x12_l0⟩ _ G19 hS x14 hF hx15
          try dsimp only at hS ⊢
          have hF : laws_FnPath.b0 a27 a19 x10_l0 x11_l0 x12_l0 = some x14 := hF; unfold laws_FnPath.b0 at hF
          refine AWP.seq ?_
          refine AWP.seqR rfl ?_
          refine ASL.q (v := (.int .i64 x12_l0)) rfl rfl (Light.quiet (opMove rfl rfl)) ?_
          refine ASL.q (v := w5) rfl rfl (Light.quiet (opMove rfl rfl)) ?_
          refine ASL.q (v := (.int .i64 (a27.1.length : Int))) rfl rfl (Light.quiet (kLen hS (j := 1) rfl rfl rfl rfl lenT_34 rfl)) ?_
          refine ASL.q (v := (.bool (decide (x12_l0 < ((a27.1.length : Int)))))) rfl rfl (Light.quiet (opInt rfl rfl rfl rfl)) ?_
          refine ASL.done ?_
          refine AWP.ifP hF rfl (fun hc20 hF => ?_) (fun hc20 hF => ?_)
          · skip
            refine AWP.skip ?_
            refine QThen.nrm ?_
            refine AWP.seqM (fun e H => ∃ x10_2 : Int, ∃ x11_2 : Int, E.Told e [(3, (.ptr b3 0)), (5, (.int .i64 a19.2.2)), (6, w5), (10, (.int .i64 x10_2)), (11, (.int .i64 x11_2)), (12, (.int .i64 x12_l0))] ∧ E.Sep H [.cell b3 [(.int .i64 a19.1.letters), (.int .i64 a19.1.states), (.int .i64 a19.1.start), (.list 4 (List.map TEdge.av a19.1.edges))], .row 1 w5 (List.map (AV.int .i64) a27.1)] ∧ laws_FnPath.k1 x12_l0 x10_2 x11_2 = some x14) ?_ ?_
            · rintro e0 G21 ⟨x10_2, x11_2, hT, hS, hF⟩; refine AWP.only _ hT ?_; unfold laws_FnPath.k1 at hF
              refine AWP.lastR rfl ?_
              refine ASL.q (v := (.int .i64 x12_l0)) rfl rfl (Light.quiet (opMove rfl rfl)) ?_
              refine ASL.q (v := (.int .i64 (W (x12_l0 + 1)))) rfl rfl (Light.quiet (opInt rfl rfl rfl rfl)) ?_
              refine ASL.q (v := (.int .i64 (W (x12_l0 + 1)))) rfl rfl (Light.quiet (opAssign rfl rfl)) ?_
              refine ASL.done ?_
              refine QThen.nrm ?_
              exact ⟨(x10_2, x11_2, (W (x12_l0 + 1))), (), (someE hF).symm, ⟨rfl, rfl, rfl, rfl, rfl, rfl, trivial⟩, (hS.pick [0, 1] rfl rfl)⟩
            · skip
              refine AWP.block ?_
              refine AWP.seq ?_
              refine AWP.seqR rfl ?_
              refine ASL.q (v := (.int .i64 x11_l0)) rfl rfl (Light.quiet (opMove rfl rfl)) ?_
              refine ASL.q (v := (.int .i64 a19.2.2)) rfl rfl (Light.quiet (opMove rfl rfl)) ?_
              refine ASL.q (v := (.bool (impl_SetHas x11_l0 a19.2.2))) rfl rfl ((qCall rfl rfl call_27 (impl_SetHas_ok x11_l0 a19.2.2) rfl)) ?_
              refine ASL.done ?_
              refine AWP.ifB hF rfl (fun hc22 hF => ?_) (fun hc22 hF => ?_)
              · skip
                refine AWP.seqR rfl ?_
                refine ASL.q (v := (.bool false)) rfl rfl (Light.quiet (opAssign rfl rfl)) ?_
                refine ASL.done ?_
                refine AWP.ret ?_
                refine QThen.rt ?_
                refine QBlock.ret ?_
                refine QThen.rt ?_
                refine QThen.rt ?_
                refine QBlock.ret ?_
                refine QThen.rt ?_
                obtain rfl := (hx15 _ (someE hF).symm)
                have hF := hR18
                have hF := sumR hF
                obtain rfl := someE hF
                exact QRet.sole (v := (.bool false)) ⟨rfl, trivial⟩ rfl
              · skip
                refine AWP.skip ?_
                refine QThen.nrm ?_
                refine AWP.seqD [(0, false), (1, false), (2, false), (3, false), (4, false), (5, false), (6, false), (7, false)] mixed (by kernel_rfl) rfl ?_
                refine ARL.q (v := (TAuto.av a19.1)) rfl rfl (hS.aliveC (k := 0) rfl) (Light.quiet (kAtA hS (j := 0) rfl rfl aggA_29 sizeA_29 rfl (nlt rfl) rfl)) ?_
                refine ARL.q0 (v := (.int .i64 x10_l0)) rfl rfl (Light.quiet (opMove rfl rfl)) ?_
                refine ARL.q0 (v := w5) rfl rfl (Light.quiet (opMove rfl rfl)) ?_
                refine ARL.q0 (v := (.int .i64 x12_l0)) rfl rfl (Light.quiet (opMove rfl rfl)) ?_
                obtain ⟨a60, ha60, hF⟩ := bindE hF
                refine ARL.q0 (v := (ptrTo w5 x12_l0.toNat 1)) rfl rfl (Light.quiet (kIxOx hS (j := 1) rfl ha60 rfl rfl rfl elemA_34 sizeA_3)) ?_
                refine ARL.q (v := (.int .i64 a60)) rfl rfl (hS.aliveR (k := 1) rfl) (Light.quiet (kLd (f := (AV.int .i64)) hS (j := 1) rfl ha60 rfl aggA_3 rfl (fun _ => rfl))) ?_
                obtain ⟨a62, ha62, hF⟩ := bindE hF
                refine ARL.q0 (v := (.int .i64 a62)) rfl rfl ((qCall rfl rfl call_28 (impl_AutoNext_ok ha62) rfl)) ?_
                refine ARL.q0 (v := (.int .i64 a62)) rfl rfl (Light.quiet (opAssign rfl rfl)) ?_
                refine ARL.done ?_
                refine AWP.seqR rfl ?_
                refine ASL.q (v := (.int .i64 x11_l0)) rfl rfl (Light.quiet (opMove rfl rfl)) ?_
                refine ASL.q (v := (.int .i64 x11_l0)) rfl rfl (Light.quiet (opAssign rfl rfl)) ?_
                refine ASL.done ?_
                refine AWP.seqM (fun e H => ∃ x13_3 : Int, E.Told e [(3, (.ptr b3 0)), (5, (.int .i64 a19.2.2)), (6, w5), (10, (.int .i64 a62)), (12, (.int .i64 x12_l0)), (13, (.int .i64 x13_3))] ∧ E.Sep H [.cell b3 [(.int .i64 a19.1.letters), (.int .i64 a19.1.states), (.int .i64 a19.1.start), (.list 4 (List.map TEdge.av a19.1.edges))], .row 1 w5 (List.map (AV.int .i64) a27.1)] ∧ laws_FnPath.k2 x12_l0 a62 x13_3 = some x14) ?_ ?_
                · rintro e0 G23 ⟨x13_3, hT, hS, hF⟩; refine AWP.only _ hT ?_; unfold laws_FnPath.k2 at hF
                  refine AWP.lastR rfl ?_
                  refine ASL.q (v := (.int .i64 x13_3)) rfl rfl (Light.quiet (opMove rfl rfl)) ?_
                  refine ASL.q (v := (.int .i64 x13_3)) rfl rfl (Light.quiet (opAssign rfl rfl)) ?_
                  refine ASL.done ?_
                  refine QBlock.nrm ?_
                  refine QThen.nrm ?_
                  exact ⟨a62, x13_3, ⟨rfl, rfl, rfl, rfl, rfl, rfl, trivial⟩, (hS.pick [0, 1] rfl rfl), hF⟩
                · skip
                  refine AWP.seqR rfl ?_
                  refine ASL.q (v := (.int .i64 0)) rfl rfl (Light.quiet (opAssign rfl rfl)) ?_
                  refine ASL.done ?_
                  refine AWP.block ?_
                  obtain ⟨o27, hL26, hR28⟩ := bindE hF
                  refine AWP.loopF (ω := Unit) hL26 (fun s w => [(3, (.ptr b3 0)), (5, (.int .i64 a19.2.2)), (6, w5), (10, (.int .i64 a62)), (11, (.int .i64 x11_l0)), (12, (.int .i64 x12_l0)), (13, (.int .i64 s.1)), (14, (.int .i64 s.2))]) (fun s w => [.cell b3 [(.int .i64 a19.1.letters), (.int .i64 a19.1.states), (.int .i64 a19.1.start), (.list 4 (List.map TEdge.av a19.1.edges))], .row 1 w5 (List.map (AV.int .i64) a27.1)]) () ⟨rfl, rfl, rfl, rfl, rfl, rfl, rfl, rfl, trivial⟩ (hS.pick [0, 1] rfl rfl) ?_
                  rintro ⟨x13_l1, x14_l1⟩ _ G29 hS x24 hF hx25
                  try dsimp only at hS ⊢
                  have hF : laws_FnPath.b1 a19 x11_l0 x13_l1 x14_l1 = some x24 := hF; unfold laws_FnPath.b1 at hF
                  refine AWP.seq ?_
                  refine AWP.seqR rfl ?_
                  refine ASL.q (v := (.int .i64 x14_l1)) rfl rfl (Light.quiet (opMove rfl rfl)) ?_
                  refine ASL.q (v := (.ptr b3 0)) rfl rfl (Light.quiet (opFieldAddr rfl fieldA_29_0 rfl rfl)) ?_
                  refine ASL.q (v := (.int .i64 a19.1.letters)) rfl rfl (Light.quiet (kAt hS (j := 0) rfl rfl aggA_3 rfl rfl)) ?_
                  refine ASL.q (v := (.bool (decide (x14_l1 < a19.1.letters)))) rfl rfl (Light.quiet (opInt rfl rfl rfl rfl)) ?_
                  refine ASL.done ?_
                  refine AWP.ifP hF rfl (fun hc30 hF => ?_) (fun hc30 hF => ?_)
                  · skip
                    refine AWP.skip ?_
                    refine QThen.nrm ?_
                    refine AWP.seq ?_
                    refine AWP.block ?_
                    refine AWP.lastR rfl ?_
                    refine ASL.q (v := (.int .i64 x13_l1)) rfl rfl (Light.quiet (opMove rfl rfl)) ?_
                    refine ASL.q (v := (TAuto.av a19.1)) rfl rfl (Light.quiet (kAtA hS (j := 0) rfl rfl aggA_29 sizeA_29 rfl (nlt rfl) rfl)) ?_
                    refine ASL.q (v := (.int .i64 x11_l0)) rfl rfl (Light.quiet (opMove rfl rfl)) ?_
                    refine ASL.q (v := (.int .i64 x14_l1)) rfl rfl (Light.quiet (opMove rfl rfl)) ?_
                    obtain ⟨a74, ha74, hF⟩ := bindE hF
                    refine ASL.q (v := (.int .i64 a74)) rfl rfl ((qCall rfl rfl call_28 (impl_AutoNext_ok ha74) rfl)) ?_
                    refine ASL.q (v := (.int .i64 (bOr .i64 x13_l1 a74))) rfl rfl (Light.quiet (opInt rfl rfl rfl rfl)) ?_
                    refine ASL.q (v := (.int .i64 (bOr .i64 x13_l1 a74))) rfl rfl (Light.quiet (opAssign rfl rfl)) ?_
                    refine ASL.done ?_
                    refine QBlock.nrm ?_
                    refine QThen.nrm ?_
                    refine AWP.lastR rfl ?_
                    refine ASL.q (v := (.int .i64 x14_l1)) rfl rfl (Light.quiet (opMove rfl rfl)) ?_
                    refine ASL.q (v := (.int .i64 (W (x14_l1 + 1)))) rfl rfl (Light.quiet (opInt rfl rfl rfl rfl)) ?_
                    refine ASL.q (v := (.int .i64 (W (x14_l1 + 1)))) rfl rfl (Light.quiet (opAssign rfl rfl)) ?_
                    refine ASL.done ?_
                    refine QThen.nrm ?_
                    exact ⟨((bOr .i64 x13_l1 a74), (W (x14_l1 + 1))), (), (someE hF).symm, ⟨rfl, rfl, rfl, rfl, rfl, rfl, rfl, rfl, trivial⟩, (hS.pick [0, 1] rfl rfl)⟩
                  · skip
                    refine AWP.exit ?_
                    refine QThen.ext ?_
                    refine QThen.ext ?_
                    refine QBlock.hit ?_
                    obtain rfl := (hx25 _ (someE hF).symm)
                    have hF := hR28
                    refine QThen.nrm ?_
                    exact ⟨x13_l1, ⟨rfl, rfl, rfl, rfl, rfl, rfl, trivial⟩, (hS.pick [0, 1] rfl rfl), hF⟩
          · skip
            refine AWP.exit ?_
            refine QThen.ext ?_
            refine QThen.ext ?_
            refine QBlock.hit ?_
            obtain rfl := (hx15 _ (someE hF).symm)
            have hF := hR18
            have hF := sumL hF
            refine QThen.nrm ?_
            exact ⟨x10_l0, ⟨rfl, rfl, rfl, rfl, trivial⟩, (hS.pick [0, 1] rfl rfl), hF⟩

end Go.Proofs.Ythdclobnmicdaaa
