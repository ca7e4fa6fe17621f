/- Each of these functions of the program comes to just what its plain function says: FnExactRankNext. -/
import Derived.Test.YtllpbgcajgbfbaaKRankNextp0
namespace Go.Proofs.Ytllpbgcajgbfbaa
open Go Go.RowKit E
set_option linter.unusedVariables false
set_option maxRecDepth 10000 in
theorem impl_Auto_step_ok {p0 : TAuto} {p1 : Int} {p2 : Int} {r : Int} (hF : impl_Auto_step p0 p1 p2 = some r) : PC Try.prog 65 [(.rptr [(.int .i64 p0.letters), (.int .i64 p0.states), (.int .i64 p0.start), (.list 4 (List.map TEdge.av p0.edges))]), (.int .i64 p1), (.int .i64 p2)] fun v => v = (.int .i64 r) := by
  refine PC.enter Try.func65 rfl Try.ntmps65 (by simp) ?_
  have hS := Sep.void; unfold impl_Auto_step at hF
  refine AWP.seqR rfl ?_
  refine ASL.q (v := (.int .i64 0)) rfl rfl (Light.quiet (opAssign rfl rfl)) ?_
  refine ASL.done ?_
  refine AWP.seqR rfl ?_
  refine ASL.q (v := (.int .i64 0)) rfl rfl (Light.quiet (opAssign rfl rfl)) ?_
  refine ASL.done ?_
  refine AWP.seqM (fun e H => ∃ x7_1 : Int, E.Told e [(7, (.int .i64 x7_1))] ∧ E.Sep H [] ∧ impl_Auto_step.k0 x7_1 = some r) ?_ ?_
  · rintro e0 G1 ⟨x7_1, hT, hS, hF⟩; refine AWP.only _ hT ?_; unfold impl_Auto_step.k0 at hF
    refine AWP.seqR rfl ?_
    refine ASL.q (v := (.int .i64 x7_1)) rfl rfl (Light.quiet (opMove rfl rfl)) ?_
    refine ASL.q (v := (.int .i64 x7_1)) rfl rfl (Light.quiet (opAssign rfl rfl)) ?_
    refine ASL.done ?_
    refine AWP.ret ?_
    obtain rfl := someE hF
    exact QRet.sole (v := (.int .i64 x7_1)) ⟨rfl, trivial⟩ rfl
  · skip
    refine AWP.seqR rfl ?_
    refine ASL.q (v := (.rptr [(.int .i64 p0.letters), (.int .i64 p0.states), (.int .i64 p0.start), (.list 4 (List.map TEdge.av p0.edges))])) rfl rfl (Light.quiet (opMove rfl rfl)) ?_
    refine ASL.q (v := (.rptr [(.int .i64 p0.letters), (.int .i64 p0.states), (.int .i64 p0.start), (.list 4 (List.map TEdge.av p0.edges))])) rfl rfl (Light.quiet (opNil rfl rfl rfl)) ?_
    refine ASL.q (v := (.rptr [(.list 4 (List.map TEdge.av p0.edges))])) rfl rfl (Light.quiet (opFieldAddrR rfl fieldA_33_3 rfl rfl)) ?_
    refine ASL.q (v := (.list 4 (List.map TEdge.av p0.edges))) rfl rfl (Light.quiet (opLoadR rfl aggA_31 rfl rfl)) ?_
    refine ASL.q (v := (.int .i64 (p0.edges.length : Int))) rfl rfl (Light.quiet (opLenMap (f := TEdge.av) rfl rfl rfl lenT_31 rfl)) ?_
    refine ASL.q (v := (.int .i64 0)) rfl rfl (Light.quiet (opMove rfl rfl)) ?_
    refine ASL.done ?_
    refine AWP.block ?_
    obtain ⟨o5, hL4, hR6⟩ := bindE hF
    refine AWP.loopF (ω := Unit) hL4 (fun s w => [(1, (.int .i64 p1)), (2, (.int .i64 p2)), (7, (.int .i64 s.1)), (13, (.list 4 (List.map TEdge.av p0.edges))), (14, (.int .i64 (p0.edges.length : Int))), (15, (.int .i64 s.2))]) (fun s w => []) () ⟨rfl, rfl, rfl, rfl, rfl, rfl, trivial⟩ (hS.pick [] rfl rfl) ?_
    rintro ⟨x7_l0, x15_l0⟩ _ G7 hS x2 hF hx3
    try dsimp only at hS ⊢
    have hF : impl_Auto_step.b0 p0 p2 p1 x7_l0 x15_l0 = some x2 := hF; unfold impl_Auto_step.b0 at hF
    refine AWP.seqR rfl ?_
    refine ASL.q (v := (.bool (decide (x15_l0 < ((p0.edges.length : Int)))))) rfl rfl (Light.quiet (opInt rfl rfl rfl rfl)) ?_
    refine ASL.done ?_
    refine AWP.seq ?_
    refine AWP.ifP hF rfl (fun hc8 hF => ?_) (fun hc8 hF => ?_)
    · skip
      refine AWP.skip ?_
      refine QThen.nrm ?_
      refine AWP.seq ?_
      refine AWP.block ?_
      refine AWP.seqR rfl ?_
      obtain ⟨a17, ha17, hF⟩ := bindE hF
      refine ASL.q (v := (.rptr [(.int .i64 a17.from_), (.int .i64 a17.letter), (.int .i64 a17.to_), (.bool a17.good)])) rfl rfl (Light.quiet (kIx (f := TEdge.av) ha17 rfl rfl rfl elemA_31 sizeA_73 rfl)) ?_
      refine ASL.q (v := (TEdge.av a17)) rfl rfl (Light.quiet (opLoadRA rfl aggA_73 sizeA_73 rfl (nlt rfl) rfl)) ?_
      refine ASL.x rfl rfl (hNewZ hS [(.int .i64 0), (.int .i64 0), (.int .i64 0), (.bool false)] rfl zeroA_73 ⟨.inl rfl, .inl rfl, .inl rfl, .inl rfl, trivial⟩ ?_); rintro b9 G9 hK hS
      refine ASL.n rfl rfl (hPutA hS (j := 0) rfl rfl sizeA_73 rfl rfl rfl rfl rfl (nlt rfl) ?_); rintro G11 hS
      refine ASL.done ?_
      refine AWP.seqR rfl ?_
      refine ASL.q (v := (.ptr b9 1)) rfl rfl (Light.quiet (opFieldAddr rfl fieldA_73_1 rfl rfl)) ?_
      refine ASL.q (v := (.int .i64 a17.letter)) rfl rfl (Light.quiet (kAt hS (j := 0) rfl rfl aggA_3 rfl rfl)) ?_
      refine ASL.q (v := (.int .i64 p2)) rfl rfl (Light.quiet (opMove rfl rfl)) ?_
      refine ASL.q (v := (.bool (decide (a17.letter = p2)))) rfl rfl (Light.quiet (opInt rfl rfl rfl rfl)) ?_
      obtain ⟨c23, hc23, hF⟩ := bndE hF
      refine ASL.q (v := (.bool c23)) rfl rfl ((Quiet.cast (Light.quiet (opMove rfl rfl)) (congrArg AV.bool hc23.symm))) ?_
      refine ASL.g (v := (.int .i64 p1)) (.bool c23) true rfl (wT _) rfl (fun hG => by have q0 := hG; subst q0; exact Light.quiet (opMove rfl rfl)) ?_
      refine ASL.g (v := (.ptr b9 0)) (.bool c23) true rfl (wT _) rfl (fun hG => by have q0 := hG; subst q0; exact Light.quiet (opFieldAddr rfl fieldA_73_0 rfl rfl)) ?_
      refine ASL.g (v := (.int .i64 a17.from_)) (.bool c23) true rfl (wT _) rfl (fun hG => by have q0 := hG; subst q0; exact Light.quiet (kAt hS (j := 0) rfl rfl aggA_3 rfl rfl)) ?_
      refine ASL.g (v := (.bool (impl_has p1 a17.from_))) (.bool c23) true rfl (wT _) rfl (fun hG => by have q0 := hG; subst q0; exact (qCall rfl rfl call_50 (impl_has_ok p1 a17.from_) rfl)) ?_
      refine ASL.q (v := (.bool (c23 && (impl_has p1 a17.from_)))) rfl rfl (Light.quiet (opPick (b := c23) rfl rfl (by cases c23 <;> rfl))) ?_
      refine ASL.done ?_
      refine AWP.ifB hF rfl (fun hc12 hF => ?_) (fun hc12 hF => ?_)
      · skip
        refine AWP.lastR rfl ?_
        refine ASL.q (v := (.int .i64 x7_l0)) rfl rfl (Light.quiet (opMove rfl rfl)) ?_
        refine ASL.q (v := (.ptr b9 2)) rfl rfl (Light.quiet (opFieldAddr rfl fieldA_73_2 rfl rfl)) ?_
        refine ASL.q (v := (.int .i64 a17.to_)) rfl rfl (Light.quiet (kAt hS (j := 0) rfl rfl aggA_3 rfl rfl)) ?_
        refine ASL.q (v := (.int .i64 (impl_only a17.to_))) rfl rfl ((qCall rfl rfl call_49 (impl_only_ok a17.to_) rfl)) ?_
        refine ASL.q (v := (.int .i64 (bOr .i64 x7_l0 ((impl_only a17.to_))))) rfl rfl (Light.quiet (opInt rfl rfl rfl rfl)) ?_
        refine ASL.q (v := (.int .i64 (bOr .i64 x7_l0 ((impl_only a17.to_))))) rfl rfl (Light.quiet (opAssign rfl rfl)) ?_
        refine ASL.done ?_
        refine QBlock.nrm ?_
        refine QThen.nrm ?_
        refine AWP.lastR rfl ?_
        refine ASL.q (v := (.int .i64 (W (x15_l0 + 1)))) rfl rfl (Light.quiet (opInt rfl rfl rfl rfl)) ?_
        refine ASL.q (v := (.int .i64 (W (x15_l0 + 1)))) rfl rfl (Light.quiet (opMove rfl rfl)) ?_
        refine ASL.done ?_
        refine QThen.nrm ?_
        exact ⟨((bOr .i64 x7_l0 ((impl_only a17.to_))), (W (x15_l0 + 1))), (), (someE hF).symm, ⟨rfl, rfl, rfl, rfl, rfl, rfl, trivial⟩, (hS.pick [] rfl rfl)⟩
      · skip
        refine AWP.skip ?_
        refine QBlock.nrm ?_
        refine QThen.nrm ?_
        refine AWP.lastR rfl ?_
        refine ASL.q (v := (.int .i64 (W (x15_l0 + 1)))) rfl rfl (Light.quiet (opInt rfl rfl rfl rfl)) ?_
        refine ASL.q (v := (.int .i64 (W (x15_l0 + 1)))) rfl rfl (Light.quiet (opMove rfl rfl)) ?_
        refine ASL.done ?_
        refine QThen.nrm ?_
        exact ⟨(x7_l0, (W (x15_l0 + 1))), (), (someE hF).symm, ⟨rfl, rfl, rfl, rfl, rfl, rfl, trivial⟩, (hS.pick [] rfl rfl)⟩
    · skip
      refine AWP.exit ?_
      refine QThen.ext ?_
      refine QThen.ext ?_
      refine QBlock.hit ?_
      obtain rfl := (hx3 _ (someE hF).symm)
      have hF := hR6
      refine QThen.nrm ?_
      exact ⟨x7_l0, ⟨rfl, trivial⟩, (hS.pick [] rfl rfl), hF⟩

set_option maxRecDepth 10000 in
theorem impl_rankNext_ok {p0 : TAuto} {p1 : TRankState} {p2 : Int} {r : (List TRankState)} (hF : impl_rankNext p0 p1 p2 = some r) : PO Try.prog 44 [(TAuto.av p0), (TRankState.av p1), (.int .i64 p2)] 2 (List.map TRankState.av r) := by
  refine HC.enter Try.func44 rfl Try.ntmps44 (by simp) ?_
  have hS := Sep.void; unfold impl_rankNext at hF
  refine AWP.seqR rfl ?_
  refine ASL.q (v := (.rptr [(.int .i64 p0.letters), (.int .i64 p0.states), (.int .i64 p0.start), (.list 4 (List.map TEdge.av p0.edges))])) rfl rfl ((qBoxI (v := (TAuto.av p0)) rfl rfl rfl rfl)) ?_
  refine ASL.q (v := (.rptr [(.list 1 (List.map (AV.int .i64) p1.ranks)), (.int .i64 p1.owing)])) rfl rfl ((qBoxI (v := (TRankState.av p1)) rfl rfl rfl rfl)) ?_
  have hS := hNil (s := 2) (f := TRankState.av) hS
  refine ASL.q (v := .nil) rfl rfl (Light.quiet (opAssign rfl rfl)) ?_
  refine ASL.done ?_
  refine AWP.seqR rfl ?_
  refine ASL.q (v := (.list 1 (List.map (fun xs : (List Int) => AV.list 1 (List.map (AV.int .i64) xs)) [[]]))) rfl rfl ((qLitNil (s := 1) rfl rfl elemA_85 sizeA_26 zeroA_26 rfl)) ?_
  refine ASL.q (v := (.list 1 (List.map (fun xs : (List Int) => AV.list 1 (List.map (AV.int .i64) xs)) [[]]))) rfl rfl (Light.quiet (opAssign rfl rfl)) ?_
  refine ASL.done ?_
  refine AWP.seqM (fun e H => ∃ x7_1 : (List (List Int)), E.Told e [(2, (.int .i64 p2)), (3, (.rptr [(.int .i64 p0.letters), (.int .i64 p0.states), (.int .i64 p0.start), (.list 4 (List.map TEdge.av p0.edges))])), (4, (.rptr [(.list 1 (List.map (AV.int .i64) p1.ranks)), (.int .i64 p1.owing)])), (7, (.list 1 (List.map (fun xs : (List Int) => AV.list 1 (List.map (AV.int .i64) xs)) x7_1)))] ∧ E.Sep H [] ∧ impl_rankNext.k0 p1 p0 p2 x7_1 = some r) ?_ ?_
  · rintro e0 G42 ⟨x7_1, hT, hS, hF⟩; refine AWP.only _ hT ?_; unfold impl_rankNext.k0 at hF
    refine AWP.seqR rfl ?_
    refine ASL.q (v := (.rptr [(.int .i64 p0.states), (.int .i64 p0.start), (.list 4 (List.map TEdge.av p0.edges))])) rfl rfl (Light.quiet (opFieldAddrR rfl fieldA_33_1 rfl rfl)) ?_
    refine ASL.q (v := (.int .i64 p0.states)) rfl rfl (Light.quiet (opLoadR rfl aggA_3 rfl rfl)) ?_
    refine ASL.q (v := (.int .i64 (impl_only p0.states))) rfl rfl ((qCall rfl rfl call_49 (impl_only_ok p0.states) rfl)) ?_
    refine ASL.q (v := (.int .i64 (W (((impl_only p0.states)) - 1)))) rfl rfl (Light.quiet (opInt rfl rfl rfl rfl)) ?_
    refine ASL.q (v := (.int .i64 (W (((impl_only p0.states)) - 1)))) rfl rfl (Light.quiet (opAssign rfl rfl)) ?_
    refine ASL.done ?_
    refine AWP.seqM (fun e H => ∃ x14_2 : Int, E.Told e [(7, (.list 1 (List.map (fun xs : (List Int) => AV.list 1 (List.map (AV.int .i64) xs)) x7_1))), (14, (.int .i64 x14_2))] ∧ E.Sep H [] ∧ impl_rankNext.k1 x7_1 x14_2 = some r) ?_ ?_
    · rintro e0 G40 ⟨x14_2, hT, hS, hF⟩; refine AWP.only _ hT ?_; unfold impl_rankNext.k1 at hF
      refine AWP.seqR rfl ?_
      have hS := hNil (s := 2) (f := TRankState.av) hS
      refine ASL.q (v := .nil) rfl rfl (Light.quiet (opAssign rfl rfl)) ?_
      refine ASL.done ?_
      refine AWP.seqM (fun e H => ∃ y3 : (List TRankState), ∃ w4 : AV, E.Told e [(15, w4)] ∧ E.Sep H [.row 2 w4 (List.map TRankState.av y3)] ∧ impl_rankNext.k2 y3 = some r) ?_ ?_
      · rintro e0 G6 ⟨y3, w4, hT, hS, hF⟩; refine AWP.only _ hT ?_; unfold impl_rankNext.k2 at hF
        refine AWP.seqR rfl ?_
        refine ASL.q (v := w4) rfl rfl (Light.quiet (opMove rfl rfl)) ?_
        refine ASL.q (v := w4) rfl rfl (Light.quiet (opAssign rfl rfl)) ?_
        refine ASL.done ?_
        refine AWP.ret ?_
        obtain rfl := someE hF
        exact QRet.sole (v := w4) ⟨rfl, trivial⟩ (hS.get (k := 0) rfl)
      · skip
        refine AWP.seqR rfl ?_
        refine ASL.q (v := (.list 1 (List.map (fun xs : (List Int) => AV.list 1 (List.map (AV.int .i64) xs)) x7_1))) rfl rfl (Light.quiet (opMove rfl rfl)) ?_
        refine ASL.q (v := (.int .i64 (x7_1.length : Int))) rfl rfl (Light.quiet (opLenMap (f := (fun xs : (List Int) => AV.list 1 (List.map (AV.int .i64) xs))) rfl rfl rfl lenT_85 rfl)) ?_
        refine ASL.q (v := (.int .i64 0)) rfl rfl (Light.quiet (opMove rfl rfl)) ?_
        refine ASL.done ?_
        refine AWP.block ?_
        obtain ⟨o13, hL12, hR14⟩ := bindE hF
        refine AWP.loopF (ω := AV) hL12 (fun s w => [(14, (.int .i64 x14_2)), (15, w), (66, (.list 1 (List.map (fun xs : (List Int) => AV.list 1 (List.map (AV.int .i64) xs)) x7_1))), (67, (.int .i64 (x7_1.length : Int))), (68, (.int .i64 s.2))]) (fun s w => [.row 2 w (List.map TRankState.av s.1)]) .nil ⟨rfl, rfl, rfl, rfl, rfl, trivial⟩ (hS.pick [0] rfl rfl) ?_
        rintro ⟨y7, x68_l0⟩ w8 G15 hS x10 hF hx11
        try dsimp only at hS ⊢
        have hF : impl_rankNext.b0 x7_1 x14_2 y7 x68_l0 = some x10 := hF; unfold impl_rankNext.b0 at hF
        refine AWP.seqR rfl ?_
        refine ASL.q (v := (.bool (decide (x68_l0 < ((x7_1.length : Int)))))) rfl rfl (Light.quiet (opInt rfl rfl rfl rfl)) ?_
        refine ASL.done ?_
        refine AWP.seq ?_
        refine AWP.ifP hF rfl (fun hc16 hF => ?_) (fun hc16 hF => ?_)
        · skip
          refine AWP.skip ?_
          refine QThen.nrm ?_
          refine AWP.seqM (fun e H => ∃ y17 : (List TRankState), ∃ w18 : AV, E.Told e [(14, (.int .i64 x14_2)), (15, w18), (66, (.list 1 (List.map (fun xs : (List Int) => AV.list 1 (List.map (AV.int .i64) xs)) x7_1))), (67, (.int .i64 (x7_1.length : Int))), (68, (.int .i64 x68_l0))] ∧ E.Sep H [.row 2 w18 (List.map TRankState.av y17)] ∧ impl_rankNext.k3 x68_l0 y17 = some x10) ?_ ?_
          · rintro e0 G20 ⟨y17, w18, hT, hS, hF⟩; refine AWP.only _ hT ?_; unfold impl_rankNext.k3 at hF
            refine AWP.lastR rfl ?_
            refine ASL.q (v := (.int .i64 (W (x68_l0 + 1)))) rfl rfl (Light.quiet (opInt rfl rfl rfl rfl)) ?_
            refine ASL.q (v := (.int .i64 (W (x68_l0 + 1)))) rfl rfl (Light.quiet (opMove rfl rfl)) ?_
            refine ASL.done ?_
            refine QThen.nrm ?_
            exact ⟨(y17, (W (x68_l0 + 1))), w18, (someE hF).symm, ⟨rfl, rfl, rfl, rfl, rfl, trivial⟩, (hS.pick [0] rfl rfl)⟩
          · skip
            refine AWP.block ?_
            refine AWP.seqR rfl ?_
            obtain ⟨a70, ha70, hF⟩ := bindE hF
            refine ASL.q (v := (.rptr [(.list 1 (List.map (AV.int .i64) a70))])) rfl rfl (Light.quiet (kIx (f := (fun xs : (List Int) => AV.list 1 (List.map (AV.int .i64) xs))) ha70 rfl rfl rfl elemA_85 sizeA_26 rfl)) ?_
            refine ASL.q (v := (.list 1 (List.map (AV.int .i64) a70))) rfl rfl (Light.quiet (opLoadR rfl aggA_26 rfl rfl)) ?_
            refine ASL.q (v := (.list 1 (List.map (AV.int .i64) a70))) rfl rfl (Light.quiet (opAssign rfl rfl)) ?_
            refine ASL.done ?_
            refine AWP.seqR rfl ?_
            refine ASL.q (v := (.list 1 (List.map (AV.int .i64) a70))) rfl rfl (Light.quiet (opMove rfl rfl)) ?_
            refine ASL.q (v := (.agg [(.list 1 (List.map (AV.int .i64) a70)), (.int .i64 0)])) rfl rfl (Light.quiet (opBuildZ (zs := [(.list 1 (List.map (AV.int .i64) [])), (.int .i64 0)]) rfl plan_28 zeroA_28 ⟨.inr ⟨_, rfl, rfl⟩, .inl rfl, trivial⟩ rfl)) ?_
            refine ASL.x rfl rfl (hNewZ hS [(.list 1 (List.map (AV.int .i64) [])), (.int .i64 0)] rfl zeroA_28 ⟨.inr ⟨_, rfl, rfl⟩, .inl rfl, trivial⟩ ?_); rintro b18 G21 hK hS
            refine ASL.n rfl rfl (hPutA hS (j := 0) rfl rfl sizeA_28 rfl rfl rfl rfl rfl (nlt rfl) ?_); rintro G23 hS
            refine ASL.done ?_
            refine AWP.seqM (fun e H => ∃ y24 : (List Int), ∃ y25 : Int, E.Told e [(14, (.int .i64 x14_2)), (15, w8), (18, (.ptr b18 0)), (66, (.list 1 (List.map (fun xs : (List Int) => AV.list 1 (List.map (AV.int .i64) xs)) x7_1))), (67, (.int .i64 (x7_1.length : Int))), (68, (.int .i64 x68_l0))] ∧ E.Sep H [.row 2 w8 (List.map TRankState.av y7), .cell b18 [(.list 1 (List.map (AV.int .i64) y24)), (.int .i64 y25)]] ∧ impl_rankNext.k4 y7 x68_l0 y24 y25 = some x10) ?_ ?_
            · rintro e0 G28 ⟨y24, y25, hT, hS, hF⟩; refine AWP.only _ hT ?_; unfold impl_rankNext.k4 at hF
              refine AWP.lastR rfl ?_
              refine ASL.q (v := w8) rfl rfl (Light.quiet (opMove rfl rfl)) ?_
              refine ASL.q (v := (.agg [(.list 1 (List.map (AV.int .i64) y24)), (.int .i64 y25)])) rfl rfl (Light.quiet (kAtA hS (j := 1) rfl rfl aggA_28 sizeA_28 rfl (nlt rfl) rfl)) ?_
              refine ASL.q (v := (.list 2 (List.map TRankState.av [(TRankState.mk y24 y25)]))) rfl rfl ((qLit (xs := [(.agg [(.list 1 (List.map (AV.int .i64) y24)), (.int .i64 y25)])]) rfl elemA_44 sizeA_28 zeroA_28 rfl rfl rfl rfl (by simp [cells, TRankState.av]) (nlt rfl))) ?_
              obtain ⟨z103, hz103, hF⟩ := bindE hF
              refine ASL.x rfl rfl (hApp (f := TRankState.av) (ws := [(TRankState.mk y24 y25)]) hS (j := 0) rfl hz103 rfl elemA_44 rfl sizeA_28 bytesA_28 zeroA_28 rfl rfl rfl (fun _ => rfl) ?_); rintro v103 G26 hS
              refine ASL.q (v := v103) rfl rfl (Light.quiet (opAssign rfl rfl)) ?_
              refine ASL.done ?_
              refine QBlock.nrm ?_
              refine QThen.nrm ?_
              exact ⟨z103, v103, ⟨rfl, rfl, rfl, rfl, rfl, trivial⟩, (hS.pick [0] rfl rfl), hF⟩
            · skip
              refine AWP.seqR rfl ?_
              refine ASL.q (v := (.list 1 (List.map (AV.int .i64) a70))) rfl rfl (Light.quiet (opMove rfl rfl)) ?_
              refine ASL.q (v := (.int .i64 (a70.length : Int))) rfl rfl (Light.quiet (opLenMap (f := (AV.int .i64)) rfl rfl rfl lenT_26 rfl)) ?_
              refine ASL.q (v := (.int .i64 0)) rfl rfl (Light.quiet (opMove rfl rfl)) ?_
              refine ASL.done ?_
              refine AWP.block ?_
              obtain ⟨o34, hL33, hR35⟩ := bindE hF
              refine AWP.loopF (ω := Unit) hL33 (fun s w => [(14, (.int .i64 x14_2)), (15, w8), (18, (.ptr b18 0)), (66, (.list 1 (List.map (fun xs : (List Int) => AV.list 1 (List.map (AV.int .i64) xs)) x7_1))), (67, (.int .i64 (x7_1.length : Int))), (68, (.int .i64 x68_l0)), (74, (.list 1 (List.map (AV.int .i64) a70))), (75, (.int .i64 (a70.length : Int))), (76, (.int .i64 s.2.2))]) (fun s w => [.row 2 w8 (List.map TRankState.av y7), .cell b18 [(.list 1 (List.map (AV.int .i64) s.1)), (.int .i64 s.2.1)]]) () ⟨rfl, rfl, rfl, rfl, rfl, rfl, rfl, rfl, rfl, trivial⟩ (hS.pick [1, 0] rfl rfl) ?_
              rintro ⟨y29, y30, x76_l1⟩ _ G36 hS x31 hF hx32
              try dsimp only at hS ⊢
              have hF : impl_rankNext.b1 a70 x14_2 y29 y30 x76_l1 = some x31 := hF; unfold impl_rankNext.b1 at hF
              refine AWP.seqR rfl ?_
              refine ASL.q (v := (.bool (decide (x76_l1 < ((a70.length : Int)))))) rfl rfl (Light.quiet (opInt rfl rfl rfl rfl)) ?_
              refine ASL.done ?_
              refine AWP.seq ?_
              refine AWP.ifP hF rfl (fun hc37 hF => ?_) (fun hc37 hF => ?_)
              · skip
                refine AWP.skip ?_
                refine QThen.nrm ?_
                refine AWP.seq ?_
                refine AWP.block ?_
                refine AWP.seqR rfl ?_
                refine ASL.q (v := (.int .i64 x76_l1)) rfl rfl (Light.quiet (opMove rfl rfl)) ?_
                obtain ⟨a79, ha79, hF⟩ := bindE hF
                refine ASL.q (v := (.rptr [(.int .i64 a79)])) rfl rfl (Light.quiet (kIx (f := (AV.int .i64)) ha79 rfl rfl rfl elemA_26 sizeA_3 rfl)) ?_
                refine ASL.q (v := (.int .i64 a79)) rfl rfl (Light.quiet (opLoadR rfl aggA_3 rfl rfl)) ?_
                refine ASL.q (v := (.int .i64 x76_l1)) rfl rfl (Light.quiet (opAssign rfl rfl)) ?_
                refine ASL.q (v := (.int .i64 a79)) rfl rfl (Light.quiet (opAssign rfl rfl)) ?_
                refine ASL.done ?_
                refine AWP.seqR rfl ?_
                refine ASL.q (v := (.int .i64 a79)) rfl rfl (Light.quiet (opMove rfl rfl)) ?_
                refine ASL.q (v := (.bool (decide (a79 ≥ 0)))) rfl rfl (Light.quiet (opInt rfl rfl rfl rfl)) ?_
                obtain ⟨c83, hc83, hF⟩ := bndE hF
                refine ASL.q (v := (.bool c83)) rfl rfl ((Quiet.cast (Light.quiet (opMove rfl rfl)) (congrArg AV.bool hc83.symm))) ?_
                refine ASL.g (v := (.int .i64 a79)) (.bool c83) true rfl (wT _) rfl (fun hG => by have q0 := hG; subst q0; exact Light.quiet (opMove rfl rfl)) ?_
                refine ASL.g (v := (.int .i64 (Int.tmod a79 2))) (.bool c83) true rfl (wT _) rfl (fun hG => by have q0 := hG; subst q0; exact Light.quiet (opRem rfl rfl rfl (by decide) rfl)) ?_
                refine ASL.g (v := (.bool (decide (((Int.tmod a79 2)) = 0)))) (.bool c83) true rfl (wT _) rfl (fun hG => by have q0 := hG; subst q0; exact Light.quiet (opInt rfl rfl rfl rfl)) ?_
                refine ASL.q (v := (.bool (c83 && (decide (((Int.tmod a79 2)) = 0))))) rfl rfl (Light.quiet (opPick (b := c83) rfl rfl (by cases c83 <;> rfl))) ?_
                obtain ⟨c88, hc88, hF⟩ := bndE hF
                refine ASL.q (v := (.bool c88)) rfl rfl ((Quiet.cast (Light.quiet (opMove rfl rfl)) (congrArg AV.bool hc88.symm))) ?_
                refine ASL.g (v := (.int .i64 x14_2)) (.bool c88) true rfl (wT _) rfl (fun hG => by have q0 := hG; subst q0; exact Light.quiet (opMove rfl rfl)) ?_
                refine ASL.g (v := (.int .i64 x76_l1)) (.bool c88) true rfl (wT _) rfl (fun hG => by have q0 := hG; subst q0; exact Light.quiet (opMove rfl rfl)) ?_
                refine ASL.g (v := (.bool (impl_has x14_2 x76_l1))) (.bool c88) true rfl (wT _) rfl (fun hG => by have q0 := hG; subst q0; exact (qCall rfl rfl call_50 (impl_has_ok x14_2 x76_l1) rfl)) ?_
                refine ASL.q (v := (.bool (c88 && (impl_has x14_2 x76_l1)))) rfl rfl (Light.quiet (opPick (b := c88) rfl rfl (by cases c88 <;> rfl))) ?_
                refine ASL.done ?_
                refine AWP.ifB hF rfl (fun hc38 hF => ?_) (fun hc38 hF => ?_)
                · skip
                  refine AWP.lastD [(0, false), (1, false), (2, false), (3, false), (4, false), (5, false), (6, true)] mixed (by kernel_rfl) rfl ?_
                  refine ARL.q0 (v := (.ptr b18 1)) rfl rfl (Light.quiet (opFieldAddr rfl fieldA_28_1 rfl rfl)) ?_
                  refine ARL.q (v := (.int .i64 y30)) rfl rfl (hS.aliveC (k := 1) rfl) (Light.quiet (kAt hS (j := 1) rfl rfl aggA_3 rfl rfl)) ?_
                  refine ARL.q0 (v := (.int .i64 x76_l1)) rfl rfl (Light.quiet (opMove rfl rfl)) ?_
                  refine ARL.q0 (v := (.int .i64 (impl_only x76_l1))) rfl rfl ((qCall rfl rfl call_49 (impl_only_ok x76_l1) rfl)) ?_
                  refine ARL.q0 (v := (.int .i64 (bOr .i64 y30 ((impl_only x76_l1))))) rfl rfl (Light.quiet (opInt rfl rfl rfl rfl)) ?_
                  refine ARL.q0 (v := (.ptr b18 1)) rfl rfl (Light.quiet (opFieldAddr rfl fieldA_28_1 rfl rfl)) ?_
                  refine ARL.n rfl rfl rfl rfl (hPut hS (j := 1) rfl rfl sizeA_3 rfl rfl rfl (nlt rfl) ?_); rintro G39 hS
                  refine ARL.done ?_
                  refine QBlock.nrm ?_
                  refine QThen.nrm ?_
                  refine AWP.lastR rfl ?_
                  refine ASL.q (v := (.int .i64 (W (x76_l1 + 1)))) rfl rfl (Light.quiet (opInt rfl rfl rfl rfl)) ?_
                  refine ASL.q (v := (.int .i64 (W (x76_l1 + 1)))) rfl rfl (Light.quiet (opMove rfl rfl)) ?_
                  refine ASL.done ?_
                  refine QThen.nrm ?_
                  exact ⟨(y29, (bOr .i64 y30 ((impl_only x76_l1))), (W (x76_l1 + 1))), (), (someE hF).symm, ⟨rfl, rfl, rfl, rfl, rfl, rfl, rfl, rfl, rfl, trivial⟩, (hS.pick [0, 1] rfl rfl)⟩
                · skip
                  refine AWP.skip ?_
                  refine QBlock.nrm ?_
                  refine QThen.nrm ?_
                  refine AWP.lastR rfl ?_
                  refine ASL.q (v := (.int .i64 (W (x76_l1 + 1)))) rfl rfl (Light.quiet (opInt rfl rfl rfl rfl)) ?_
                  refine ASL.q (v := (.int .i64 (W (x76_l1 + 1)))) rfl rfl (Light.quiet (opMove rfl rfl)) ?_
                  refine ASL.done ?_
                  refine QThen.nrm ?_
                  exact ⟨(y29, y30, (W (x76_l1 + 1))), (), (someE hF).symm, ⟨rfl, rfl, rfl, rfl, rfl, rfl, rfl, rfl, rfl, trivial⟩, (hS.pick [0, 1] rfl rfl)⟩
              · skip
                refine AWP.exit ?_
                refine QThen.ext ?_
                refine QThen.ext ?_
                refine QBlock.hit ?_
                obtain rfl := (hx32 _ (someE hF).symm)
                have hF := hR35
                refine QThen.nrm ?_
                exact ⟨y29, y30, ⟨rfl, rfl, rfl, rfl, rfl, rfl, trivial⟩, (hS.pick [0, 1] rfl rfl), hF⟩
        · skip
          refine AWP.exit ?_
          refine QThen.ext ?_
          refine QThen.ext ?_
          refine QBlock.hit ?_
          obtain rfl := (hx11 _ (someE hF).symm)
          have hF := hR14
          refine QThen.nrm ?_
          exact ⟨y7, w8, ⟨rfl, trivial⟩, (hS.pick [0] rfl rfl), hF⟩
    · skip
      refine AWP.seqR rfl ?_
      refine ASL.q (v := (.rptr [(.int .i64 p1.owing)])) rfl rfl (Light.quiet (opFieldAddrR rfl fieldA_28_1 rfl rfl)) ?_
      refine ASL.q (v := (.int .i64 p1.owing)) rfl rfl (Light.quiet (opLoadR rfl aggA_3 rfl rfl)) ?_
      refine ASL.q (v := (.bool (decide (p1.owing ≠ 0)))) rfl rfl (Light.quiet (opInt rfl rfl rfl rfl)) ?_
      refine ASL.done ?_
      refine AWP.ifP hF rfl (fun hc41 hF => ?_) (fun hc41 hF => ?_)
      · skip
        refine AWP.lastR rfl ?_
        refine ASL.q (v := (.rptr [(.int .i64 p1.owing)])) rfl rfl (Light.quiet (opFieldAddrR rfl fieldA_28_1 rfl rfl)) ?_
        refine ASL.q (v := (.int .i64 p1.owing)) rfl rfl (Light.quiet (opLoadR rfl aggA_3 rfl rfl)) ?_
        refine ASL.q (v := (.int .i64 p2)) rfl rfl (Light.quiet (opMove rfl rfl)) ?_
        obtain ⟨a65, ha65, hF⟩ := bindE hF
        refine ASL.q (v := (.int .i64 a65)) rfl rfl ((qCall rfl rfl call_65 (impl_Auto_step_ok ha65) rfl)) ?_
        refine ASL.q (v := (.int .i64 a65)) rfl rfl (Light.quiet (opAssign rfl rfl)) ?_
        refine ASL.done ?_
        refine QThen.nrm ?_
        exact ⟨a65, ⟨rfl, rfl, trivial⟩, (hS.pick [] rfl rfl), hF⟩
      · skip
        refine AWP.skip ?_
        refine QThen.nrm ?_
        exact ⟨(W (((impl_only p0.states)) - 1)), ⟨rfl, rfl, trivial⟩, (hS.pick [] rfl rfl), hF⟩
  · skip
    refine AWP.seqR rfl ?_
    refine ASL.q (v := (TAuto.av p0)) rfl rfl (Light.quiet (opLoadRA rfl aggA_33 sizeA_33 rfl (nlt rfl) rfl)) ?_
    refine ASL.q (v := (TRankState.av p1)) rfl rfl (Light.quiet (opLoadRA rfl aggA_28 sizeA_28 rfl (nlt rfl) rfl)) ?_
    refine ASL.q (v := (.int .i64 p2)) rfl rfl (Light.quiet (opMove rfl rfl)) ?_
    obtain ⟨a25, ha25, hF⟩ := bindE hF
    refine ASL.q (v := (.list 1 (List.map (AV.int .i64) a25))) rfl rfl ((qCall rfl rfl call_63 (PO.list (impl_bounds_ok ha25)) rfl)) ?_
    refine ASL.q (v := (.int .i64 (a25.length : Int))) rfl rfl (Light.quiet (opLenMap (f := (AV.int .i64)) rfl rfl rfl lenT_26 rfl)) ?_
    refine ASL.q (v := (.int .i64 0)) rfl rfl (Light.quiet (opMove rfl rfl)) ?_
    refine ASL.done ?_
    refine AWP.block ?_
    obtain ⟨o46, hL45, hR47⟩ := bindE hF
    refine AWP.loopF (ω := Unit) hL45 (fun s w => [(2, (.int .i64 p2)), (3, (.rptr [(.int .i64 p0.letters), (.int .i64 p0.states), (.int .i64 p0.start), (.list 4 (List.map TEdge.av p0.edges))])), (4, (.rptr [(.list 1 (List.map (AV.int .i64) p1.ranks)), (.int .i64 p1.owing)])), (7, (.list 1 (List.map (fun xs : (List Int) => AV.list 1 (List.map (AV.int .i64) xs)) s.1))), (25, (.list 1 (List.map (AV.int .i64) a25))), (26, (.int .i64 (a25.length : Int))), (27, (.int .i64 s.2))]) (fun s w => []) () ⟨rfl, rfl, rfl, rfl, rfl, rfl, rfl, trivial⟩ (hS.pick [] rfl rfl) ?_
    rintro ⟨x7_l2, x27_l2⟩ _ G48 hS x43 hF hx44
    try dsimp only at hS ⊢
    have hF : impl_rankNext.b2 a25 x7_l2 x27_l2 = some x43 := hF; unfold impl_rankNext.b2 at hF
    refine AWP.seqR rfl ?_
    refine ASL.q (v := (.bool (decide (x27_l2 < ((a25.length : Int)))))) rfl rfl (Light.quiet (opInt rfl rfl rfl rfl)) ?_
    refine ASL.done ?_
    refine AWP.seq ?_
    refine AWP.ifP hF rfl (fun hc49 hF => ?_) (fun hc49 hF => ?_)
    · skip
      refine AWP.skip ?_
      refine QThen.nrm ?_
      refine AWP.seqM (fun e H => ∃ x7_6 : (List (List Int)), E.Told e [(2, (.int .i64 p2)), (3, (.rptr [(.int .i64 p0.letters), (.int .i64 p0.states), (.int .i64 p0.start), (.list 4 (List.map TEdge.av p0.edges))])), (4, (.rptr [(.list 1 (List.map (AV.int .i64) p1.ranks)), (.int .i64 p1.owing)])), (7, (.list 1 (List.map (fun xs : (List Int) => AV.list 1 (List.map (AV.int .i64) xs)) x7_6))), (25, (.list 1 (List.map (AV.int .i64) a25))), (26, (.int .i64 (a25.length : Int))), (27, (.int .i64 x27_l2))] ∧ E.Sep H [] ∧ impl_rankNext.k5 x27_l2 x7_6 = some x43) ?_ ?_
      · rintro e0 G50 ⟨x7_6, hT, hS, hF⟩; refine AWP.only _ hT ?_; unfold impl_rankNext.k5 at hF
        refine AWP.lastR rfl ?_
        refine ASL.q (v := (.int .i64 (W (x27_l2 + 1)))) rfl rfl (Light.quiet (opInt rfl rfl rfl rfl)) ?_
        refine ASL.q (v := (.int .i64 (W (x27_l2 + 1)))) rfl rfl (Light.quiet (opMove rfl rfl)) ?_
        refine ASL.done ?_
        refine QThen.nrm ?_
        exact ⟨(x7_6, (W (x27_l2 + 1))), (), (someE hF).symm, ⟨rfl, rfl, rfl, rfl, rfl, rfl, rfl, trivial⟩, (hS.pick [] rfl rfl)⟩
      · skip
        refine AWP.block ?_
        refine AWP.seqR rfl ?_
        obtain ⟨a29, ha29, hF⟩ := bindE hF
        refine ASL.q (v := (.rptr [(.int .i64 a29)])) rfl rfl (Light.quiet (kIx (f := (AV.int .i64)) ha29 rfl rfl rfl elemA_26 sizeA_3 rfl)) ?_
        refine ASL.q (v := (.int .i64 a29)) rfl rfl (Light.quiet (opLoadR rfl aggA_3 rfl rfl)) ?_
        refine ASL.q (v := (.int .i64 a29)) rfl rfl (Light.quiet (opAssign rfl rfl)) ?_
        refine ASL.done ?_
        refine AWP.seqR rfl ?_
        have hS := hNil (s := 1) (f := (fun xs : (List Int) => AV.list 1 (List.map (AV.int .i64) xs))) hS
        refine ASL.q (v := .nil) rfl rfl (Light.quiet (opAssign rfl rfl)) ?_
        refine ASL.done ?_
        refine AWP.seqM (fun e H => ∃ y52 : (List (List Int)), ∃ w53 : AV, E.Told e [(2, (.int .i64 p2)), (3, (.rptr [(.int .i64 p0.letters), (.int .i64 p0.states), (.int .i64 p0.start), (.list 4 (List.map TEdge.av p0.edges))])), (4, (.rptr [(.list 1 (List.map (AV.int .i64) p1.ranks)), (.int .i64 p1.owing)])), (10, w53), (25, (.list 1 (List.map (AV.int .i64) a25))), (26, (.int .i64 (a25.length : Int))), (27, (.int .i64 x27_l2))] ∧ E.Sep H [.row 1 w53 (List.map (fun xs : (List Int) => AV.list 1 (List.map (AV.int .i64) xs)) y52)] ∧ impl_rankNext.k6 x27_l2 y52 = some x43) ?_ ?_
        · rintro e0 G56 ⟨y52, w53, hT, hS, hF⟩; refine AWP.only _ hT ?_; unfold impl_rankNext.k6 at hF
          refine AWP.frz (L' := []) hS (k := 0) rfl [(2, (.int .i64 p2)), (3, (.rptr [(.int .i64 p0.letters), (.int .i64 p0.states), (.int .i64 p0.start), (.list 4 (List.map TEdge.av p0.edges))])), (4, (.rptr [(.list 1 (List.map (AV.int .i64) p1.ranks)), (.int .i64 p1.owing)])), (10, (.list 1 (List.map (fun xs : (List Int) => AV.list 1 (List.map (AV.int .i64) xs)) y52))), (25, (.list 1 (List.map (AV.int .i64) a25))), (26, (.int .i64 (a25.length : Int))), (27, (.int .i64 x27_l2))] ⟨.inl rfl, .inl rfl, .inl rfl, .inr (.inl ⟨rfl, rfl⟩), .inl rfl, .inl rfl, .inl rfl, trivial⟩ trivial (fun G55 hS => ?_)
          refine AWP.lastR rfl ?_
          refine ASL.q (v := (.list 1 (List.map (fun xs : (List Int) => AV.list 1 (List.map (AV.int .i64) xs)) y52))) rfl rfl (Light.quiet (opMove rfl rfl)) ?_
          refine ASL.q (v := (.list 1 (List.map (fun xs : (List Int) => AV.list 1 (List.map (AV.int .i64) xs)) y52))) rfl rfl (Light.quiet (opAssign rfl rfl)) ?_
          refine ASL.done ?_
          refine QBlock.nrm ?_
          refine QThen.nrm ?_
          exact ⟨y52, ⟨rfl, rfl, rfl, rfl, rfl, rfl, rfl, trivial⟩, (hS.pick [] rfl rfl), hF⟩
        · skip
          refine AWP.seqR rfl ?_
          refine ASL.q (v := (.list 1 (List.map (fun xs : (List Int) => AV.list 1 (List.map (AV.int .i64) xs)) x7_l2))) rfl rfl (Light.quiet (opMove rfl rfl)) ?_
          refine ASL.q (v := (.int .i64 (x7_l2.length : Int))) rfl rfl (Light.quiet (opLenMap (f := (fun xs : (List Int) => AV.list 1 (List.map (AV.int .i64) xs))) rfl rfl rfl lenT_85 rfl)) ?_
          refine ASL.q (v := (.int .i64 0)) rfl rfl (Light.quiet (opMove rfl rfl)) ?_
          refine ASL.done ?_
          refine AWP.block ?_
          obtain ⟨o63, hL62, hR64⟩ := bindE hF
          refine AWP.loopF (ω := AV) hL62 (fun s w => [(2, (.int .i64 p2)), (3, (.rptr [(.int .i64 p0.letters), (.int .i64 p0.states), (.int .i64 p0.start), (.list 4 (List.map TEdge.av p0.edges))])), (4, (.rptr [(.list 1 (List.map (AV.int .i64) p1.ranks)), (.int .i64 p1.owing)])), (9, (.int .i64 a29)), (10, w), (25, (.list 1 (List.map (AV.int .i64) a25))), (26, (.int .i64 (a25.length : Int))), (27, (.int .i64 x27_l2)), (31, (.list 1 (List.map (fun xs : (List Int) => AV.list 1 (List.map (AV.int .i64) xs)) x7_l2))), (32, (.int .i64 (x7_l2.length : Int))), (33, (.int .i64 s.2))]) (fun s w => [.row 1 w (List.map (fun xs : (List Int) => AV.list 1 (List.map (AV.int .i64) xs)) s.1)]) .nil ⟨rfl, rfl, rfl, rfl, rfl, rfl, rfl, rfl, rfl, rfl, rfl, trivial⟩ (hS.pick [0] rfl rfl) ?_
          rintro ⟨y57, x33_l3⟩ w58 G65 hS x60 hF hx61
          try dsimp only at hS ⊢
          have hF : impl_rankNext.b3 x7_l2 a29 y57 x33_l3 = some x60 := hF; unfold impl_rankNext.b3 at hF
          refine AWP.seqR rfl ?_
          refine ASL.q (v := (.bool (decide (x33_l3 < ((x7_l2.length : Int)))))) rfl rfl (Light.quiet (opInt rfl rfl rfl rfl)) ?_
          refine ASL.done ?_
          refine AWP.seq ?_
          refine AWP.ifP hF rfl (fun hc66 hF => ?_) (fun hc66 hF => ?_)
          · skip
            refine AWP.skip ?_
            refine QThen.nrm ?_
            refine AWP.seqM (fun e H => ∃ y67 : (List (List Int)), ∃ w68 : AV, E.Told e [(2, (.int .i64 p2)), (3, (.rptr [(.int .i64 p0.letters), (.int .i64 p0.states), (.int .i64 p0.start), (.list 4 (List.map TEdge.av p0.edges))])), (4, (.rptr [(.list 1 (List.map (AV.int .i64) p1.ranks)), (.int .i64 p1.owing)])), (9, (.int .i64 a29)), (10, w68), (25, (.list 1 (List.map (AV.int .i64) a25))), (26, (.int .i64 (a25.length : Int))), (27, (.int .i64 x27_l2)), (31, (.list 1 (List.map (fun xs : (List Int) => AV.list 1 (List.map (AV.int .i64) xs)) x7_l2))), (32, (.int .i64 (x7_l2.length : Int))), (33, (.int .i64 x33_l3))] ∧ E.Sep H [.row 1 w68 (List.map (fun xs : (List Int) => AV.list 1 (List.map (AV.int .i64) xs)) y67)] ∧ impl_rankNext.k7 x33_l3 y67 = some x60) ?_ ?_
            · rintro e0 G70 ⟨y67, w68, hT, hS, hF⟩; refine AWP.only _ hT ?_; unfold impl_rankNext.k7 at hF
              refine AWP.lastR rfl ?_
              refine ASL.q (v := (.int .i64 (W (x33_l3 + 1)))) rfl rfl (Light.quiet (opInt rfl rfl rfl rfl)) ?_
              refine ASL.q (v := (.int .i64 (W (x33_l3 + 1)))) rfl rfl (Light.quiet (opMove rfl rfl)) ?_
              refine ASL.done ?_
              refine QThen.nrm ?_
              exact ⟨(y67, (W (x33_l3 + 1))), w68, (someE hF).symm, ⟨rfl, rfl, rfl, rfl, rfl, rfl, rfl, rfl, rfl, rfl, rfl, trivial⟩, (hS.pick [0] rfl rfl)⟩
            · skip
              refine AWP.block ?_
              refine AWP.seqR rfl ?_
              obtain ⟨a35, ha35, hF⟩ := bindE hF
              refine ASL.q (v := (.rptr [(.list 1 (List.map (AV.int .i64) a35))])) rfl rfl (Light.quiet (kIx (f := (fun xs : (List Int) => AV.list 1 (List.map (AV.int .i64) xs))) ha35 rfl rfl rfl elemA_85 sizeA_26 rfl)) ?_
              refine ASL.q (v := (.list 1 (List.map (AV.int .i64) a35))) rfl rfl (Light.quiet (opLoadR rfl aggA_26 rfl rfl)) ?_
              refine ASL.q (v := (.list 1 (List.map (AV.int .i64) a35))) rfl rfl (Light.quiet (opAssign rfl rfl)) ?_
              refine ASL.done ?_
              refine AWP.seqR rfl ?_
              refine ASL.q (v := (.int .i64 a29)) rfl rfl (Light.quiet (opMove rfl rfl)) ?_
              refine ASL.q (v := (.int .i64 (mn a29 0))) rfl rfl (Light.quiet (opMin (ns := [a29, 0]) rfl rfl rfl rfl)) ?_
              refine ASL.q (v := (.int .i64 (mn a29 0))) rfl rfl (Light.quiet (opAssign rfl rfl)) ?_
              refine ASL.done ?_
              refine AWP.block ?_
              obtain ⟨o77, hL76, hR78⟩ := bindE hF
              refine AWP.loopF (ω := AV) hL76 (fun s w => [(2, (.int .i64 p2)), (3, (.rptr [(.int .i64 p0.letters), (.int .i64 p0.states), (.int .i64 p0.start), (.list 4 (List.map TEdge.av p0.edges))])), (4, (.rptr [(.list 1 (List.map (AV.int .i64) p1.ranks)), (.int .i64 p1.owing)])), (9, (.int .i64 a29)), (10, w), (12, (.list 1 (List.map (AV.int .i64) a35))), (13, (.int .i64 s.2)), (25, (.list 1 (List.map (AV.int .i64) a25))), (26, (.int .i64 (a25.length : Int))), (27, (.int .i64 x27_l2)), (31, (.list 1 (List.map (fun xs : (List Int) => AV.list 1 (List.map (AV.int .i64) xs)) x7_l2))), (32, (.int .i64 (x7_l2.length : Int))), (33, (.int .i64 x33_l3))]) (fun s w => [.row 1 w (List.map (fun xs : (List Int) => AV.list 1 (List.map (AV.int .i64) xs)) s.1)]) w58 ⟨rfl, rfl, rfl, rfl, rfl, rfl, rfl, rfl, rfl, rfl, rfl, rfl, rfl, trivial⟩ (hS.pick [0] rfl rfl) ?_
              rintro ⟨y71, x13_l4⟩ w72 G79 hS x74 hF hx75
              try dsimp only at hS ⊢
              have hF : impl_rankNext.b4 a29 a35 y71 x13_l4 = some x74 := hF; unfold impl_rankNext.b4 at hF
              refine AWP.seq ?_
              refine AWP.seqR rfl ?_
              refine ASL.q (v := (.int .i64 x13_l4)) rfl rfl (Light.quiet (opMove rfl rfl)) ?_
              refine ASL.q (v := (.int .i64 a29)) rfl rfl (Light.quiet (opMove rfl rfl)) ?_
              refine ASL.q (v := (.bool (decide (x13_l4 ≤ a29)))) rfl rfl (Light.quiet (opInt rfl rfl rfl rfl)) ?_
              refine ASL.done ?_
              refine AWP.ifP hF rfl (fun hc80 hF => ?_) (fun hc80 hF => ?_)
              · skip
                refine AWP.skip ?_
                refine QThen.nrm ?_
                refine AWP.seq ?_
                refine AWP.block ?_
                refine AWP.lastR rfl ?_
                refine ASL.q (v := w72) rfl rfl (Light.quiet (opMove rfl rfl)) ?_
                refine ASL.q (v := (.list 1 (List.map (AV.int .i64) a35))) rfl rfl (Light.quiet (opMove rfl rfl)) ?_
                obtain ⟨a46, ha46, hF⟩ := bindE hF
                refine ASL.x rfl rfl (hCallO hS rfl rfl call_64 (slices_Clone_int_int_ok ha46) rfl ?_); rintro v46 G81 hK hS
                refine ASL.q (v := (.int .i64 x13_l4)) rfl rfl (Light.quiet (opMove rfl rfl)) ?_
                refine ASL.q (v := (.list 1 (List.map (AV.int .i64) [x13_l4]))) rfl rfl ((qLit (xs := [(.int .i64 x13_l4)]) rfl elemA_26 sizeA_3 zeroA_3 rfl rfl rfl rfl (by simp [cells]) (nlt rfl))) ?_
                obtain ⟨z49, hz49, hF⟩ := bindE hF
                refine ASL.x rfl rfl (hAppF (f := (AV.int .i64)) (ws := [x13_l4]) hS (j := 0) rfl hz49 rfl elemA_26 rfl sizeA_3 bytesA_3 zeroA_3 rfl rfl rfl (fun _ => rfl) ?_); rintro G83 hB hS
                have hS : Sep G83 [.row 1 w72 (List.map (fun xs : (List Int) => AV.list 1 (List.map (AV.int .i64) xs)) y71)] := hS
                refine ASL.q (v := (.list 1 (List.map (fun xs : (List Int) => AV.list 1 (List.map (AV.int .i64) xs)) [z49]))) rfl rfl ((qLit (xs := [(.list 1 (List.map (AV.int .i64) z49))]) rfl elemA_85 sizeA_26 zeroA_26 rfl rfl rfl rfl (by simp [cells]) (nlt rfl))) ?_
                obtain ⟨z51, hz51, hF⟩ := bindE hF
                refine ASL.x rfl rfl (hApp (f := (fun xs : (List Int) => AV.list 1 (List.map (AV.int .i64) xs))) (ws := [z49]) hS (j := 0) rfl hz51 rfl elemA_85 rfl sizeA_26 bytesA_26 zeroA_26 rfl rfl rfl (fun _ => rfl) ?_); rintro v51 G84 hS
                refine ASL.q (v := v51) rfl rfl (Light.quiet (opAssign rfl rfl)) ?_
                refine ASL.done ?_
                refine QBlock.nrm ?_
                refine QThen.nrm ?_
                refine AWP.lastR rfl ?_
                refine ASL.q (v := (.int .i64 x13_l4)) rfl rfl (Light.quiet (opMove rfl rfl)) ?_
                refine ASL.q (v := (.int .i64 (W (x13_l4 + 1)))) rfl rfl (Light.quiet (opInt rfl rfl rfl rfl)) ?_
                refine ASL.q (v := (.int .i64 (W (x13_l4 + 1)))) rfl rfl (Light.quiet (opAssign rfl rfl)) ?_
                refine ASL.done ?_
                refine QThen.nrm ?_
                exact ⟨(z51, (W (x13_l4 + 1))), v51, (someE hF).symm, ⟨rfl, rfl, rfl, rfl, rfl, rfl, rfl, rfl, rfl, rfl, rfl, rfl, rfl, trivial⟩, (hS.pick [0] rfl rfl)⟩
              · skip
                refine AWP.exit ?_
                refine QThen.ext ?_
                refine QThen.ext ?_
                refine QBlock.hit ?_
                obtain rfl := (hx75 _ (someE hF).symm)
                have hF := hR78
                refine QBlock.nrm ?_
                refine QThen.nrm ?_
                exact ⟨y71, w72, ⟨rfl, rfl, rfl, rfl, rfl, rfl, rfl, rfl, rfl, rfl, rfl, trivial⟩, (hS.pick [0] rfl rfl), hF⟩
          · skip
            refine AWP.exit ?_
            refine QThen.ext ?_
            refine QThen.ext ?_
            refine QBlock.hit ?_
            obtain rfl := (hx61 _ (someE hF).symm)
            have hF := hR64
            refine QThen.nrm ?_
            exact ⟨y57, w58, ⟨rfl, rfl, rfl, rfl, rfl, rfl, rfl, trivial⟩, (hS.pick [0] rfl rfl), hF⟩
    · skip
      refine AWP.exit ?_
      refine QThen.ext ?_
      refine QThen.ext ?_
      refine QBlock.hit ?_
      obtain rfl := (hx44 _ (someE hF).symm)
      have hF := hR47
      refine QThen.nrm ?_
      exact ⟨x7_l2, ⟨rfl, rfl, rfl, rfl, trivial⟩, (hS.pick [] rfl rfl), hF⟩

set_option maxRecDepth 10000 in
theorem impl_RankNext_ok {p0 : TAuto} {p1 : TRankState} {p2 : Int} {r : (List TRankState)} (hF : impl_RankNext p0 p1 p2 = some r) : PO Try.prog 17 [(TAuto.av p0), (TRankState.av p1), (.int .i64 p2)] 2 (List.map TRankState.av r) := by
  refine HC.enter Try.func17 rfl Try.ntmps17 (by simp) ?_
  have hS := Sep.void; unfold impl_RankNext at hF
  refine AWP.seqR rfl ?_
  refine ASL.q (v := (.rptr [(.int .i64 p0.letters), (.int .i64 p0.states), (.int .i64 p0.start), (.list 4 (List.map TEdge.av p0.edges))])) rfl rfl ((qBoxI (v := (TAuto.av p0)) rfl rfl rfl rfl)) ?_
  refine ASL.q (v := (.rptr [(.list 1 (List.map (AV.int .i64) p1.ranks)), (.int .i64 p1.owing)])) rfl rfl ((qBoxI (v := (TRankState.av p1)) rfl rfl rfl rfl)) ?_
  have hS := hNil (s := 2) (f := TRankState.av) hS
  refine ASL.q (v := .nil) rfl rfl (Light.quiet (opAssign rfl rfl)) ?_
  refine ASL.done ?_
  refine AWP.seq ?_
  refine AWP.seqR rfl ?_
  refine ASL.q (v := (TAuto.av p0)) rfl rfl (Light.quiet (opLoadRA rfl aggA_33 sizeA_33 rfl (nlt rfl) rfl)) ?_
  refine ASL.q (v := (TRankState.av p1)) rfl rfl (Light.quiet (opLoadRA rfl aggA_28 sizeA_28 rfl (nlt rfl) rfl)) ?_
  obtain ⟨a9, ha9, hF⟩ := bindE hF
  refine ASL.q (v := (.bool a9)) rfl rfl ((qCall rfl rfl call_20 (impl_RankOk_ok ha9) rfl)) ?_
  refine ASL.q (v := (.bool (!a9))) rfl rfl (Light.quiet (opNot rfl rfl)) ?_
  obtain ⟨c11, hc11, hF⟩ := bndE hF
  refine ASL.q (v := (.bool c11)) rfl rfl ((Quiet.cast (Light.quiet (opMove rfl rfl)) (congrArg AV.bool hc11.symm))) ?_
  refine ASL.g (v := (.int .i64 p2)) (.bool c11) false rfl (wF _) rfl (fun hG => by have q0 := gN hG; subst q0; exact Light.quiet (opMove rfl rfl)) ?_
  refine ASL.g (v := (.rptr [(.int .i64 p0.letters), (.int .i64 p0.states), (.int .i64 p0.start), (.list 4 (List.map TEdge.av p0.edges))])) (.bool c11) false rfl (wF _) rfl (fun hG => by have q0 := gN hG; subst q0; exact Light.quiet (opFieldAddrR rfl fieldA_33_0 rfl rfl)) ?_
  refine ASL.g (v := (.int .i64 p0.letters)) (.bool c11) false rfl (wF _) rfl (fun hG => by have q0 := gN hG; subst q0; exact Light.quiet (opLoadR rfl aggA_3 rfl rfl)) ?_
  refine ASL.g (v := (.int .i64 (W (p0.letters - 1)))) (.bool c11) false rfl (wF _) rfl (fun hG => by have q0 := gN hG; subst q0; exact Light.quiet (opInt rfl rfl rfl rfl)) ?_
  refine ASL.g (v := (.bool (impl_inRange p2 0 ((W (p0.letters - 1)))))) (.bool c11) false rfl (wF _) rfl (fun hG => by have q0 := gN hG; subst q0; exact (qCall rfl rfl call_43 (impl_inRange_ok p2 0 ((W (p0.letters - 1)))) rfl)) ?_
  refine ASL.g (v := (.bool (!(impl_inRange p2 0 ((W (p0.letters - 1))))))) (.bool c11) false rfl (wF _) rfl (fun hG => by have q0 := gN hG; subst q0; exact Light.quiet (opNot rfl rfl)) ?_
  refine ASL.q (v := (.bool (c11 || (!(impl_inRange p2 0 ((W (p0.letters - 1)))))))) rfl rfl (Light.quiet (opPick (b := c11) rfl rfl (by cases c11 <;> rfl))) ?_
  refine ASL.done ?_
  refine AWP.ifB hF rfl (fun hc2 hF => ?_) (fun hc2 hF => ?_)
  · skip
    refine AWP.seqR rfl ?_
    have hS := hNil (s := 2) (f := TRankState.av) hS
    refine ASL.q (v := .nil) rfl rfl (Light.quiet (opAssign rfl rfl)) ?_
    refine ASL.done ?_
    refine AWP.ret ?_
    refine QThen.rt ?_
    obtain rfl := someE hF
    exact QRet.sole (v := .nil) ⟨rfl, trivial⟩ (hS.get (k := 0) rfl)
  · skip
    refine AWP.skip ?_
    refine QThen.nrm ?_
    refine AWP.seqR rfl ?_
    refine ASL.q (v := (TAuto.av p0)) rfl rfl (Light.quiet (opLoadRA rfl aggA_33 sizeA_33 rfl (nlt rfl) rfl)) ?_
    refine ASL.q (v := (TRankState.av p1)) rfl rfl (Light.quiet (opLoadRA rfl aggA_28 sizeA_28 rfl (nlt rfl) rfl)) ?_
    refine ASL.q (v := (.int .i64 p2)) rfl rfl (Light.quiet (opMove rfl rfl)) ?_
    obtain ⟨a22, ha22, hF⟩ := bindE hF
    refine ASL.x rfl rfl (hCallO hS rfl rfl call_44 (impl_rankNext_ok ha22) rfl ?_); rintro v22 G4 hK hS
    refine ASL.q (v := v22) rfl rfl (Light.quiet (opAssign rfl rfl)) ?_
    refine ASL.done ?_
    refine AWP.ret ?_
    obtain rfl := someE hF
    exact QRet.sole (v := v22) ⟨rfl, trivial⟩ (hS.get (k := 0) rfl)

set_option maxRecDepth 10000 in
theorem laws_eqIntS_ok {p0 : (List Int)} {p1 : (List Int)} {r : Bool} (hF : laws_eqIntS p0 p1 = some r) : PC Try.prog 34 [(.list 1 (List.map (AV.int .i64) p0)), (.list 1 (List.map (AV.int .i64) p1))] fun v => v = (.bool r) := by
  refine PC.enter Try.func34 rfl Try.ntmps34 (by simp) ?_
  have hS := Sep.void; unfold laws_eqIntS at hF
  refine AWP.seqR rfl ?_
  refine ASL.q (v := (.bool false)) rfl rfl (Light.quiet (opAssign rfl rfl)) ?_
  refine ASL.done ?_
  refine AWP.seq ?_
  refine AWP.seqR rfl ?_
  refine ASL.q (v := (.list 1 (List.map (AV.int .i64) p0))) rfl rfl (Light.quiet (opMove rfl rfl)) ?_
  refine ASL.q (v := (.int .i64 (p0.length : Int))) rfl rfl (Light.quiet (opLenMap (f := (AV.int .i64)) rfl rfl rfl lenT_26 rfl)) ?_
  refine ASL.q (v := (.list 1 (List.map (AV.int .i64) p1))) rfl rfl (Light.quiet (opMove rfl rfl)) ?_
  refine ASL.q (v := (.int .i64 (p1.length : Int))) rfl rfl (Light.quiet (opLenMap (f := (AV.int .i64)) rfl rfl rfl lenT_26 rfl)) ?_
  refine ASL.q (v := (.bool (decide (((p0.length : Int)) ≠ ((p1.length : Int)))))) rfl rfl (Light.quiet (opInt rfl rfl rfl rfl)) ?_
  refine ASL.done ?_
  refine AWP.ifP hF rfl (fun hc1 hF => ?_) (fun hc1 hF => ?_)
  · skip
    refine AWP.seqR rfl ?_
    refine ASL.q (v := (.bool false)) rfl rfl (Light.quiet (opAssign rfl rfl)) ?_
    refine ASL.done ?_
    refine AWP.ret ?_
    refine QThen.rt ?_
    obtain rfl := someE hF
    exact QRet.sole (v := (.bool false)) ⟨rfl, trivial⟩ rfl
  · skip
    refine AWP.skip ?_
    refine QThen.nrm ?_
    refine AWP.seqM (fun e H => E.Told e [] ∧ E.Sep H [] ∧ laws_eqIntS.k0 = some r) ?_ ?_
    · rintro e0 G2 ⟨hT, hS, hF⟩; refine AWP.only _ hT ?_; unfold laws_eqIntS.k0 at hF
      refine AWP.seqR rfl ?_
      refine ASL.q (v := (.bool true)) rfl rfl (Light.quiet (opAssign rfl rfl)) ?_
      refine ASL.done ?_
      refine AWP.ret ?_
      obtain rfl := someE hF
      exact QRet.sole (v := (.bool true)) ⟨rfl, trivial⟩ rfl
    · skip
      refine AWP.seqR rfl ?_
      refine ASL.q (v := (.int .i64 0)) rfl rfl (Light.quiet (opAssign rfl rfl)) ?_
      refine ASL.done ?_
      refine AWP.block ?_
      obtain ⟨o6, hL5, hR7⟩ := bindE hF
      refine AWP.loopF (ω := Unit) hL5 (fun s w => [(0, (.list 1 (List.map (AV.int .i64) p0))), (1, (.list 1 (List.map (AV.int .i64) p1))), (5, (.int .i64 s))]) (fun s w => []) () ⟨rfl, rfl, rfl, trivial⟩ (hS.pick [] rfl rfl) ?_
      rintro x5_l0 _ G8 hS x3 hF hx4
      try dsimp only at hS ⊢
      have hF : laws_eqIntS.b0 p0 p1 x5_l0 = some x3 := hF; unfold laws_eqIntS.b0 at hF
      refine AWP.seq ?_
      refine AWP.seqR rfl ?_
      refine ASL.q (v := (.int .i64 x5_l0)) rfl rfl (Light.quiet (opMove rfl rfl)) ?_
      refine ASL.q (v := (.list 1 (List.map (AV.int .i64) p0))) rfl rfl (Light.quiet (opMove rfl rfl)) ?_
      refine ASL.q (v := (.int .i64 (p0.length : Int))) rfl rfl (Light.quiet (opLenMap (f := (AV.int .i64)) rfl rfl rfl lenT_26 rfl)) ?_
      refine ASL.q (v := (.bool (decide (x5_l0 < ((p0.length : Int)))))) rfl rfl (Light.quiet (opInt rfl rfl rfl rfl)) ?_
      refine ASL.done ?_
      refine AWP.ifP hF rfl (fun hc9 hF => ?_) (fun hc9 hF => ?_)
      · skip
        refine AWP.skip ?_
        refine QThen.nrm ?_
        refine AWP.seq ?_
        refine AWP.block ?_
        refine AWP.seqD [(0, false), (1, false), (2, false), (3, false), (4, false), (5, false), (6, false), (7, false), (8, false)] mixed (by kernel_rfl) rfl ?_
        refine ARL.q0 (v := (.list 1 (List.map (AV.int .i64) p0))) rfl rfl (Light.quiet (opMove rfl rfl)) ?_
        refine ARL.q0 (v := (.int .i64 x5_l0)) rfl rfl (Light.quiet (opMove rfl rfl)) ?_
        obtain ⟨a19, ha19, hF⟩ := bindE hF
        refine ARL.q0 (v := (.rptr [(.int .i64 a19)])) rfl rfl (Light.quiet (kIx (f := (AV.int .i64)) ha19 rfl rfl rfl elemA_26 sizeA_3 rfl)) ?_
        refine ARL.q0 (v := (.int .i64 a19)) rfl rfl (Light.quiet (opLoadR rfl aggA_3 rfl rfl)) ?_
        refine ARL.q0 (v := (.list 1 (List.map (AV.int .i64) p1))) rfl rfl (Light.quiet (opMove rfl rfl)) ?_
        refine ARL.q0 (v := (.int .i64 x5_l0)) rfl rfl (Light.quiet (opMove rfl rfl)) ?_
        obtain ⟨a23, ha23, hF⟩ := bindE hF
        refine ARL.q0 (v := (.rptr [(.int .i64 a23)])) rfl rfl (Light.quiet (kIx (f := (AV.int .i64)) ha23 rfl rfl rfl elemA_26 sizeA_3 rfl)) ?_
        refine ARL.q0 (v := (.int .i64 a23)) rfl rfl (Light.quiet (opLoadR rfl aggA_3 rfl rfl)) ?_
        refine ARL.q0 (v := (.bool (decide (a19 ≠ a23)))) rfl rfl (Light.quiet (opInt rfl rfl rfl rfl)) ?_
        refine ARL.done ?_
        refine AWP.ifP hF rfl (fun hc10 hF => ?_) (fun hc10 hF => ?_)
        · skip
          refine AWP.seqR rfl ?_
          refine ASL.q (v := (.bool false)) rfl rfl (Light.quiet (opAssign rfl rfl)) ?_
          refine ASL.done ?_
          refine AWP.ret ?_
          refine QBlock.ret ?_
          refine QThen.rt ?_
          refine QThen.rt ?_
          refine QBlock.ret ?_
          refine QThen.rt ?_
          obtain rfl := (hx4 _ (someE hF).symm)
          have hF := hR7
          have hF := sumR hF
          obtain rfl := someE hF
          exact QRet.sole (v := (.bool false)) ⟨rfl, trivial⟩ rfl
        · skip
          refine AWP.skip ?_
          refine QBlock.nrm ?_
          refine QThen.nrm ?_
          refine AWP.lastR rfl ?_
          refine ASL.q (v := (.int .i64 x5_l0)) rfl rfl (Light.quiet (opMove rfl rfl)) ?_
          refine ASL.q (v := (.int .i64 (W (x5_l0 + 1)))) rfl rfl (Light.quiet (opInt rfl rfl rfl rfl)) ?_
          refine ASL.q (v := (.int .i64 (W (x5_l0 + 1)))) rfl rfl (Light.quiet (opAssign rfl rfl)) ?_
          refine ASL.done ?_
          refine QThen.nrm ?_
          exact ⟨(W (x5_l0 + 1)), (), (someE hF).symm, ⟨rfl, rfl, rfl, trivial⟩, (hS.pick [] rfl rfl)⟩
      · skip
        refine AWP.exit ?_
        refine QThen.ext ?_
        refine QThen.ext ?_
        refine QBlock.hit ?_
        obtain rfl := (hx4 _ (someE hF).symm)
        have hF := hR7
        have hF := sumL hF
        refine QThen.nrm ?_
        exact ⟨trivial, (hS.pick [] rfl rfl), hF⟩

set_option maxRecDepth 10000 in
theorem laws_eqRankState_ok {p0 : TRankState} {p1 : TRankState} {r : Bool} (hF : laws_eqRankState p0 p1 = some r) : PC Try.prog 10 [(TRankState.av p0), (TRankState.av p1)] fun v => v = (.bool r) := by
  refine PC.enter Try.func10 rfl Try.ntmps10 (by simp) ?_
  have hS := Sep.void; unfold laws_eqRankState at hF
  refine AWP.seqR rfl ?_
  refine ASL.q (v := (.rptr [(.list 1 (List.map (AV.int .i64) p0.ranks)), (.int .i64 p0.owing)])) rfl rfl ((qBoxI (v := (TRankState.av p0)) rfl rfl rfl rfl)) ?_
  refine ASL.q (v := (.rptr [(.list 1 (List.map (AV.int .i64) p1.ranks)), (.int .i64 p1.owing)])) rfl rfl ((qBoxI (v := (TRankState.av p1)) rfl rfl rfl rfl)) ?_
  refine ASL.q (v := (.bool false)) rfl rfl (Light.quiet (opAssign rfl rfl)) ?_
  refine ASL.done ?_
  refine AWP.seq ?_
  refine AWP.seqR rfl ?_
  refine ASL.q (v := (.rptr [(.list 1 (List.map (AV.int .i64) p0.ranks)), (.int .i64 p0.owing)])) rfl rfl (Light.quiet (opFieldAddrR rfl fieldA_28_0 rfl rfl)) ?_
  refine ASL.q (v := (.list 1 (List.map (AV.int .i64) p0.ranks))) rfl rfl (Light.quiet (opLoadR rfl aggA_26 rfl rfl)) ?_
  refine ASL.q (v := (.rptr [(.list 1 (List.map (AV.int .i64) p1.ranks)), (.int .i64 p1.owing)])) rfl rfl (Light.quiet (opFieldAddrR rfl fieldA_28_0 rfl rfl)) ?_
  refine ASL.q (v := (.list 1 (List.map (AV.int .i64) p1.ranks))) rfl rfl (Light.quiet (opLoadR rfl aggA_26 rfl rfl)) ?_
  obtain ⟨a9, ha9, hF⟩ := bindE hF
  refine ASL.q (v := (.bool a9)) rfl rfl ((qCall rfl rfl call_34 (laws_eqIntS_ok ha9) rfl)) ?_
  refine ASL.q (v := (.bool (!a9))) rfl rfl (Light.quiet (opNot rfl rfl)) ?_
  refine ASL.done ?_
  refine AWP.ifB hF rfl (fun hc1 hF => ?_) (fun hc1 hF => ?_)
  · skip
    refine AWP.seqR rfl ?_
    refine ASL.q (v := (.bool false)) rfl rfl (Light.quiet (opAssign rfl rfl)) ?_
    refine ASL.done ?_
    refine AWP.ret ?_
    refine QThen.rt ?_
    obtain rfl := someE hF
    exact QRet.sole (v := (.bool false)) ⟨rfl, trivial⟩ rfl
  · skip
    refine AWP.skip ?_
    refine QThen.nrm ?_
    refine AWP.seq ?_
    refine AWP.seqR rfl ?_
    refine ASL.q (v := (.rptr [(.int .i64 p0.owing)])) rfl rfl (Light.quiet (opFieldAddrR rfl fieldA_28_1 rfl rfl)) ?_
    refine ASL.q (v := (.int .i64 p0.owing)) rfl rfl (Light.quiet (opLoadR rfl aggA_3 rfl rfl)) ?_
    refine ASL.q (v := (.rptr [(.int .i64 p1.owing)])) rfl rfl (Light.quiet (opFieldAddrR rfl fieldA_28_1 rfl rfl)) ?_
    refine ASL.q (v := (.int .i64 p1.owing)) rfl rfl (Light.quiet (opLoadR rfl aggA_3 rfl rfl)) ?_
    refine ASL.q (v := (.bool (decide (p0.owing ≠ p1.owing)))) rfl rfl (Light.quiet (opInt rfl rfl rfl rfl)) ?_
    refine ASL.done ?_
    refine AWP.ifP hF rfl (fun hc2 hF => ?_) (fun hc2 hF => ?_)
    · skip
      refine AWP.seqR rfl ?_
      refine ASL.q (v := (.bool false)) rfl rfl (Light.quiet (opAssign rfl rfl)) ?_
      refine ASL.done ?_
      refine AWP.ret ?_
      refine QThen.rt ?_
      obtain rfl := someE hF
      exact QRet.sole (v := (.bool false)) ⟨rfl, trivial⟩ rfl
    · skip
      refine AWP.skip ?_
      refine QThen.nrm ?_
      refine AWP.seqR rfl ?_
      refine ASL.q (v := (.bool true)) rfl rfl (Light.quiet (opAssign rfl rfl)) ?_
      refine ASL.done ?_
      refine AWP.ret ?_
      obtain rfl := someE hF
      exact QRet.sole (v := (.bool true)) ⟨rfl, trivial⟩ rfl

set_option maxRecDepth 10000 in
theorem laws_eqRankStateS_ok {p0 : (List TRankState)} {p1 : (List TRankState)} {r : Bool} (hF : laws_eqRankStateS p0 p1 = some r) : PC Try.prog 25 [(.list 2 (List.map TRankState.av p0)), (.list 2 (List.map TRankState.av p1))] fun v => v = (.bool r) := by
  refine PC.enter Try.func25 rfl Try.ntmps25 (by simp) ?_
  have hS := Sep.void; unfold laws_eqRankStateS at hF
  refine AWP.seqR rfl ?_
  refine ASL.q (v := (.bool false)) rfl rfl (Light.quiet (opAssign rfl rfl)) ?_
  refine ASL.done ?_
  refine AWP.seq ?_
  refine AWP.seqR rfl ?_
  refine ASL.q (v := (.list 2 (List.map TRankState.av p0))) rfl rfl (Light.quiet (opMove rfl rfl)) ?_
  refine ASL.q (v := (.int .i64 (p0.length : Int))) rfl rfl (Light.quiet (opLenMap (f := TRankState.av) rfl rfl rfl lenT_44 rfl)) ?_
  refine ASL.q (v := (.list 2 (List.map TRankState.av p1))) rfl rfl (Light.quiet (opMove rfl rfl)) ?_
  refine ASL.q (v := (.int .i64 (p1.length : Int))) rfl rfl (Light.quiet (opLenMap (f := TRankState.av) rfl rfl rfl lenT_44 rfl)) ?_
  refine ASL.q (v := (.bool (decide (((p0.length : Int)) ≠ ((p1.length : Int)))))) rfl rfl (Light.quiet (opInt rfl rfl rfl rfl)) ?_
  refine ASL.done ?_
  refine AWP.ifP hF rfl (fun hc1 hF => ?_) (fun hc1 hF => ?_)
  · skip
    refine AWP.seqR rfl ?_
    refine ASL.q (v := (.bool false)) rfl rfl (Light.quiet (opAssign rfl rfl)) ?_
    refine ASL.done ?_
    refine AWP.ret ?_
    refine QThen.rt ?_
    obtain rfl := someE hF
    exact QRet.sole (v := (.bool false)) ⟨rfl, trivial⟩ rfl
  · skip
    refine AWP.skip ?_
    refine QThen.nrm ?_
    refine AWP.seqM (fun e H => E.Told e [] ∧ E.Sep H [] ∧ laws_eqRankStateS.k0 = some r) ?_ ?_
    · rintro e0 G2 ⟨hT, hS, hF⟩; refine AWP.only _ hT ?_; unfold laws_eqRankStateS.k0 at hF
      refine AWP.seqR rfl ?_
      refine ASL.q (v := (.bool true)) rfl rfl (Light.quiet (opAssign rfl rfl)) ?_
      refine ASL.done ?_
      refine AWP.ret ?_
      obtain rfl := someE hF
      exact QRet.sole (v := (.bool true)) ⟨rfl, trivial⟩ rfl
    · skip
      refine AWP.seqR rfl ?_
      refine ASL.q (v := (.int .i64 0)) rfl rfl (Light.quiet (opAssign rfl rfl)) ?_
      refine ASL.done ?_
      refine AWP.block ?_
      obtain ⟨o6, hL5, hR7⟩ := bindE hF
      refine AWP.loopF (ω := Unit) hL5 (fun s w => [(0, (.list 2 (List.map TRankState.av p0))), (1, (.list 2 (List.map TRankState.av p1))), (5, (.int .i64 s))]) (fun s w => []) () ⟨rfl, rfl, rfl, trivial⟩ (hS.pick [] rfl rfl) ?_
      rintro x5_l0 _ G8 hS x3 hF hx4
      try dsimp only at hS ⊢
      have hF : laws_eqRankStateS.b0 p0 p1 x5_l0 = some x3 := hF; unfold laws_eqRankStateS.b0 at hF
      refine AWP.seq ?_
      refine AWP.seqR rfl ?_
      refine ASL.q (v := (.int .i64 x5_l0)) rfl rfl (Light.quiet (opMove rfl rfl)) ?_
      refine ASL.q (v := (.list 2 (List.map TRankState.av p0))) rfl rfl (Light.quiet (opMove rfl rfl)) ?_
      refine ASL.q (v := (.int .i64 (p0.length : Int))) rfl rfl (Light.quiet (opLenMap (f := TRankState.av) rfl rfl rfl lenT_44 rfl)) ?_
      refine ASL.q (v := (.bool (decide (x5_l0 < ((p0.length : Int)))))) rfl rfl (Light.quiet (opInt rfl rfl rfl rfl)) ?_
      refine ASL.done ?_
      refine AWP.ifP hF rfl (fun hc9 hF => ?_) (fun hc9 hF => ?_)
      · skip
        refine AWP.skip ?_
        refine QThen.nrm ?_
        refine AWP.seq ?_
        refine AWP.block ?_
        refine AWP.seqD [(0, false), (1, false), (2, false), (3, false), (4, false), (5, false), (6, false), (7, false), (8, false), (9, false)] mixed (by kernel_rfl) rfl ?_
        refine ARL.q0 (v := (.list 2 (List.map TRankState.av p0))) rfl rfl (Light.quiet (opMove rfl rfl)) ?_
        refine ARL.q0 (v := (.int .i64 x5_l0)) rfl rfl (Light.quiet (opMove rfl rfl)) ?_
        obtain ⟨a19, ha19, hF⟩ := bindE hF
        refine ARL.q0 (v := (.rptr [(.list 1 (List.map (AV.int .i64) a19.ranks)), (.int .i64 a19.owing)])) rfl rfl (Light.quiet (kIx (f := TRankState.av) ha19 rfl rfl rfl elemA_44 sizeA_28 rfl)) ?_
        refine ARL.q0 (v := (TRankState.av a19)) rfl rfl (Light.quiet (opLoadRA rfl aggA_28 sizeA_28 rfl (nlt rfl) rfl)) ?_
        refine ARL.q0 (v := (.list 2 (List.map TRankState.av p1))) rfl rfl (Light.quiet (opMove rfl rfl)) ?_
        refine ARL.q0 (v := (.int .i64 x5_l0)) rfl rfl (Light.quiet (opMove rfl rfl)) ?_
        obtain ⟨a23, ha23, hF⟩ := bindE hF
        refine ARL.q0 (v := (.rptr [(.list 1 (List.map (AV.int .i64) a23.ranks)), (.int .i64 a23.owing)])) rfl rfl (Light.quiet (kIx (f := TRankState.av) ha23 rfl rfl rfl elemA_44 sizeA_28 rfl)) ?_
        refine ARL.q0 (v := (TRankState.av a23)) rfl rfl (Light.quiet (opLoadRA rfl aggA_28 sizeA_28 rfl (nlt rfl) rfl)) ?_
        obtain ⟨a25, ha25, hF⟩ := bindE hF
        refine ARL.q0 (v := (.bool a25)) rfl rfl ((qCall rfl rfl call_10 (laws_eqRankState_ok ha25) rfl)) ?_
        refine ARL.q0 (v := (.bool (!a25))) rfl rfl (Light.quiet (opNot rfl rfl)) ?_
        refine ARL.done ?_
        refine AWP.ifB hF rfl (fun hc10 hF => ?_) (fun hc10 hF => ?_)
        · skip
          refine AWP.seqR rfl ?_
          refine ASL.q (v := (.bool false)) rfl rfl (Light.quiet (opAssign rfl rfl)) ?_
          refine ASL.done ?_
          refine AWP.ret ?_
          refine QBlock.ret ?_
          refine QThen.rt ?_
          refine QThen.rt ?_
          refine QBlock.ret ?_
          refine QThen.rt ?_
          obtain rfl := (hx4 _ (someE hF).symm)
          have hF := hR7
          have hF := sumR hF
          obtain rfl := someE hF
          exact QRet.sole (v := (.bool false)) ⟨rfl, trivial⟩ rfl
        · skip
          refine AWP.skip ?_
          refine QBlock.nrm ?_
          refine QThen.nrm ?_
          refine AWP.lastR rfl ?_
          refine ASL.q (v := (.int .i64 x5_l0)) rfl rfl (Light.quiet (opMove rfl rfl)) ?_
          refine ASL.q (v := (.int .i64 (W (x5_l0 + 1)))) rfl rfl (Light.quiet (opInt rfl rfl rfl rfl)) ?_
          refine ASL.q (v := (.int .i64 (W (x5_l0 + 1)))) rfl rfl (Light.quiet (opAssign rfl rfl)) ?_
          refine ASL.done ?_
          refine QThen.nrm ?_
          exact ⟨(W (x5_l0 + 1)), (), (someE hF).symm, ⟨rfl, rfl, rfl, trivial⟩, (hS.pick [] rfl rfl)⟩
      · skip
        refine AWP.exit ?_
        refine QThen.ext ?_
        refine QThen.ext ?_
        refine QBlock.hit ?_
        obtain rfl := (hx4 _ (someE hF).symm)
        have hF := hR7
        have hF := sumL hF
        refine QThen.nrm ?_
        exact ⟨trivial, (hS.pick [] rfl rfl), hF⟩

set_option maxRecDepth 10000 in
theorem laws_eqEdge_ok (p0 : TEdge) (p1 : TEdge) : PC Try.prog 57 [(TEdge.av p0), (TEdge.av p1)] fun v => v = (.bool (laws_eqEdge p0 p1)) := by
  generalize hF : laws_eqEdge p0 p1 = r
  refine PC.enter Try.func57 rfl Try.ntmps57 (by simp) ?_
  have hS := Sep.void; unfold laws_eqEdge at hF
  refine AWP.seqR rfl ?_
  refine ASL.q (v := (.rptr [(.int .i64 p0.from_), (.int .i64 p0.letter), (.int .i64 p0.to_), (.bool p0.good)])) rfl rfl ((qBoxI (v := (TEdge.av p0)) rfl rfl rfl rfl)) ?_
  refine ASL.q (v := (.rptr [(.int .i64 p1.from_), (.int .i64 p1.letter), (.int .i64 p1.to_), (.bool p1.good)])) rfl rfl ((qBoxI (v := (TEdge.av p1)) rfl rfl rfl rfl)) ?_
  refine ASL.q (v := (.bool false)) rfl rfl (Light.quiet (opAssign rfl rfl)) ?_
  refine ASL.done ?_
  refine AWP.seq ?_
  refine AWP.seqR rfl ?_
  refine ASL.q (v := (.rptr [(.int .i64 p0.from_), (.int .i64 p0.letter), (.int .i64 p0.to_), (.bool p0.good)])) rfl rfl (Light.quiet (opFieldAddrR rfl fieldA_73_0 rfl rfl)) ?_
  refine ASL.q (v := (.int .i64 p0.from_)) rfl rfl (Light.quiet (opLoadR rfl aggA_3 rfl rfl)) ?_
  refine ASL.q (v := (.rptr [(.int .i64 p1.from_), (.int .i64 p1.letter), (.int .i64 p1.to_), (.bool p1.good)])) rfl rfl (Light.quiet (opFieldAddrR rfl fieldA_73_0 rfl rfl)) ?_
  refine ASL.q (v := (.int .i64 p1.from_)) rfl rfl (Light.quiet (opLoadR rfl aggA_3 rfl rfl)) ?_
  refine ASL.q (v := (.bool (decide (p0.from_ ≠ p1.from_)))) rfl rfl (Light.quiet (opInt rfl rfl rfl rfl)) ?_
  refine ASL.done ?_
  refine AWP.ifP hF rfl (fun hc1 hF => ?_) (fun hc1 hF => ?_)
  · skip
    refine AWP.seqR rfl ?_
    refine ASL.q (v := (.bool false)) rfl rfl (Light.quiet (opAssign rfl rfl)) ?_
    refine ASL.done ?_
    refine AWP.ret ?_
    refine QThen.rt ?_
    obtain rfl := hF
    exact QRet.sole (v := (.bool false)) ⟨rfl, trivial⟩ rfl
  · skip
    refine AWP.skip ?_
    refine QThen.nrm ?_
    refine AWP.seq ?_
    refine AWP.seqR rfl ?_
    refine ASL.q (v := (.rptr [(.int .i64 p0.letter), (.int .i64 p0.to_), (.bool p0.good)])) rfl rfl (Light.quiet (opFieldAddrR rfl fieldA_73_1 rfl rfl)) ?_
    refine ASL.q (v := (.int .i64 p0.letter)) rfl rfl (Light.quiet (opLoadR rfl aggA_3 rfl rfl)) ?_
    refine ASL.q (v := (.rptr [(.int .i64 p1.letter), (.int .i64 p1.to_), (.bool p1.good)])) rfl rfl (Light.quiet (opFieldAddrR rfl fieldA_73_1 rfl rfl)) ?_
    refine ASL.q (v := (.int .i64 p1.letter)) rfl rfl (Light.quiet (opLoadR rfl aggA_3 rfl rfl)) ?_
    refine ASL.q (v := (.bool (decide (p0.letter ≠ p1.letter)))) rfl rfl (Light.quiet (opInt rfl rfl rfl rfl)) ?_
    refine ASL.done ?_
    refine AWP.ifP hF rfl (fun hc2 hF => ?_) (fun hc2 hF => ?_)
    · skip
      refine AWP.seqR rfl ?_
      refine ASL.q (v := (.bool false)) rfl rfl (Light.quiet (opAssign rfl rfl)) ?_
      refine ASL.done ?_
      refine AWP.ret ?_
      refine QThen.rt ?_
      obtain rfl := hF
      exact QRet.sole (v := (.bool false)) ⟨rfl, trivial⟩ rfl
    · skip
      refine AWP.skip ?_
      refine QThen.nrm ?_
      refine AWP.seq ?_
      refine AWP.seqR rfl ?_
      refine ASL.q (v := (.rptr [(.int .i64 p0.to_), (.bool p0.good)])) rfl rfl (Light.quiet (opFieldAddrR rfl fieldA_73_2 rfl rfl)) ?_
      refine ASL.q (v := (.int .i64 p0.to_)) rfl rfl (Light.quiet (opLoadR rfl aggA_3 rfl rfl)) ?_
      refine ASL.q (v := (.rptr [(.int .i64 p1.to_), (.bool p1.good)])) rfl rfl (Light.quiet (opFieldAddrR rfl fieldA_73_2 rfl rfl)) ?_
      refine ASL.q (v := (.int .i64 p1.to_)) rfl rfl (Light.quiet (opLoadR rfl aggA_3 rfl rfl)) ?_
      refine ASL.q (v := (.bool (decide (p0.to_ ≠ p1.to_)))) rfl rfl (Light.quiet (opInt rfl rfl rfl rfl)) ?_
      refine ASL.done ?_
      refine AWP.ifP hF rfl (fun hc3 hF => ?_) (fun hc3 hF => ?_)
      · skip
        refine AWP.seqR rfl ?_
        refine ASL.q (v := (.bool false)) rfl rfl (Light.quiet (opAssign rfl rfl)) ?_
        refine ASL.done ?_
        refine AWP.ret ?_
        refine QThen.rt ?_
        obtain rfl := hF
        exact QRet.sole (v := (.bool false)) ⟨rfl, trivial⟩ rfl
      · skip
        refine AWP.skip ?_
        refine QThen.nrm ?_
        refine AWP.seq ?_
        refine AWP.seqR rfl ?_
        refine ASL.q (v := (.rptr [(.bool p0.good)])) rfl rfl (Light.quiet (opFieldAddrR rfl fieldA_73_3 rfl rfl)) ?_
        refine ASL.q (v := (.bool p0.good)) rfl rfl (Light.quiet (opLoadR rfl aggA_4 rfl rfl)) ?_
        refine ASL.q (v := (.rptr [(.bool p1.good)])) rfl rfl (Light.quiet (opFieldAddrR rfl fieldA_73_3 rfl rfl)) ?_
        refine ASL.q (v := (.bool p1.good)) rfl rfl (Light.quiet (opLoadR rfl aggA_4 rfl rfl)) ?_
        refine ASL.q (v := (.bool (!(p0.good == p1.good)))) rfl rfl (Light.quiet (opBoolEq rfl rfl rfl und_4 rfl)) ?_
        refine ASL.done ?_
        refine AWP.ifB hF rfl (fun hc4 hF => ?_) (fun hc4 hF => ?_)
        · skip
          refine AWP.seqR rfl ?_
          refine ASL.q (v := (.bool false)) rfl rfl (Light.quiet (opAssign rfl rfl)) ?_
          refine ASL.done ?_
          refine AWP.ret ?_
          refine QThen.rt ?_
          obtain rfl := hF
          exact QRet.sole (v := (.bool false)) ⟨rfl, trivial⟩ rfl
        · skip
          refine AWP.skip ?_
          refine QThen.nrm ?_
          refine AWP.seqR rfl ?_
          refine ASL.q (v := (.bool true)) rfl rfl (Light.quiet (opAssign rfl rfl)) ?_
          refine ASL.done ?_
          refine AWP.ret ?_
          obtain rfl := hF
          exact QRet.sole (v := (.bool true)) ⟨rfl, trivial⟩ rfl

set_option maxRecDepth 10000 in
theorem laws_eqEdgeS_ok {p0 : (List TEdge)} {p1 : (List TEdge)} {r : Bool} (hF : laws_eqEdgeS p0 p1 = some r) : PC Try.prog 35 [(.list 4 (List.map TEdge.av p0)), (.list 4 (List.map TEdge.av p1))] fun v => v = (.bool r) := by
  refine PC.enter Try.func35 rfl Try.ntmps35 (by simp) ?_
  have hS := Sep.void; unfold laws_eqEdgeS at hF
  refine AWP.seqR rfl ?_
  refine ASL.q (v := (.bool false)) rfl rfl (Light.quiet (opAssign rfl rfl)) ?_
  refine ASL.done ?_
  refine AWP.seq ?_
  refine AWP.seqR rfl ?_
  refine ASL.q (v := (.list 4 (List.map TEdge.av p0))) rfl rfl (Light.quiet (opMove rfl rfl)) ?_
  refine ASL.q (v := (.int .i64 (p0.length : Int))) rfl rfl (Light.quiet (opLenMap (f := TEdge.av) rfl rfl rfl lenT_31 rfl)) ?_
  refine ASL.q (v := (.list 4 (List.map TEdge.av p1))) rfl rfl (Light.quiet (opMove rfl rfl)) ?_
  refine ASL.q (v := (.int .i64 (p1.length : Int))) rfl rfl (Light.quiet (opLenMap (f := TEdge.av) rfl rfl rfl lenT_31 rfl)) ?_
  refine ASL.q (v := (.bool (decide (((p0.length : Int)) ≠ ((p1.length : Int)))))) rfl rfl (Light.quiet (opInt rfl rfl rfl rfl)) ?_
  refine ASL.done ?_
  refine AWP.ifP hF rfl (fun hc1 hF => ?_) (fun hc1 hF => ?_)
  · skip
    refine AWP.seqR rfl ?_
    refine ASL.q (v := (.bool false)) rfl rfl (Light.quiet (opAssign rfl rfl)) ?_
    refine ASL.done ?_
    refine AWP.ret ?_
    refine QThen.rt ?_
    obtain rfl := someE hF
    exact QRet.sole (v := (.bool false)) ⟨rfl, trivial⟩ rfl
  · skip
    refine AWP.skip ?_
    refine QThen.nrm ?_
    refine AWP.seqM (fun e H => E.Told e [] ∧ E.Sep H [] ∧ laws_eqEdgeS.k0 = some r) ?_ ?_
    · rintro e0 G2 ⟨hT, hS, hF⟩; refine AWP.only _ hT ?_; unfold laws_eqEdgeS.k0 at hF
      refine AWP.seqR rfl ?_
      refine ASL.q (v := (.bool true)) rfl rfl (Light.quiet (opAssign rfl rfl)) ?_
      refine ASL.done ?_
      refine AWP.ret ?_
      obtain rfl := someE hF
      exact QRet.sole (v := (.bool true)) ⟨rfl, trivial⟩ rfl
    · skip
      refine AWP.seqR rfl ?_
      refine ASL.q (v := (.int .i64 0)) rfl rfl (Light.quiet (opAssign rfl rfl)) ?_
      refine ASL.done ?_
      refine AWP.block ?_
      obtain ⟨o6, hL5, hR7⟩ := bindE hF
      refine AWP.loopF (ω := Unit) hL5 (fun s w => [(0, (.list 4 (List.map TEdge.av p0))), (1, (.list 4 (List.map TEdge.av p1))), (5, (.int .i64 s))]) (fun s w => []) () ⟨rfl, rfl, rfl, trivial⟩ (hS.pick [] rfl rfl) ?_
      rintro x5_l0 _ G8 hS x3 hF hx4
      try dsimp only at hS ⊢
      have hF : laws_eqEdgeS.b0 p0 p1 x5_l0 = some x3 := hF; unfold laws_eqEdgeS.b0 at hF
      refine AWP.seq ?_
      refine AWP.seqR rfl ?_
      refine ASL.q (v := (.int .i64 x5_l0)) rfl rfl (Light.quiet (opMove rfl rfl)) ?_
      refine ASL.q (v := (.list 4 (List.map TEdge.av p0))) rfl rfl (Light.quiet (opMove rfl rfl)) ?_
      refine ASL.q (v := (.int .i64 (p0.length : Int))) rfl rfl (Light.quiet (opLenMap (f := TEdge.av) rfl rfl rfl lenT_31 rfl)) ?_
      refine ASL.q (v := (.bool (decide (x5_l0 < ((p0.length : Int)))))) rfl rfl (Light.quiet (opInt rfl rfl rfl rfl)) ?_
      refine ASL.done ?_
      refine AWP.ifP hF rfl (fun hc9 hF => ?_) (fun hc9 hF => ?_)
      · skip
        refine AWP.skip ?_
        refine QThen.nrm ?_
        refine AWP.seq ?_
        refine AWP.block ?_
        refine AWP.seqD [(0, false), (1, false), (2, false), (3, false), (4, false), (5, false), (6, false), (7, false), (8, false), (9, false)] mixed (by kernel_rfl) rfl ?_
        refine ARL.q0 (v := (.list 4 (List.map TEdge.av p0))) rfl rfl (Light.quiet (opMove rfl rfl)) ?_
        refine ARL.q0 (v := (.int .i64 x5_l0)) rfl rfl (Light.quiet (opMove rfl rfl)) ?_
        obtain ⟨a19, ha19, hF⟩ := bindE hF
        refine ARL.q0 (v := (.rptr [(.int .i64 a19.from_), (.int .i64 a19.letter), (.int .i64 a19.to_), (.bool a19.good)])) rfl rfl (Light.quiet (kIx (f := TEdge.av) ha19 rfl rfl rfl elemA_31 sizeA_73 rfl)) ?_
        refine ARL.q0 (v := (TEdge.av a19)) rfl rfl (Light.quiet (opLoadRA rfl aggA_73 sizeA_73 rfl (nlt rfl) rfl)) ?_
        refine ARL.q0 (v := (.list 4 (List.map TEdge.av p1))) rfl rfl (Light.quiet (opMove rfl rfl)) ?_
        refine ARL.q0 (v := (.int .i64 x5_l0)) rfl rfl (Light.quiet (opMove rfl rfl)) ?_
        obtain ⟨a23, ha23, hF⟩ := bindE hF
        refine ARL.q0 (v := (.rptr [(.int .i64 a23.from_), (.int .i64 a23.letter), (.int .i64 a23.to_), (.bool a23.good)])) rfl rfl (Light.quiet (kIx (f := TEdge.av) ha23 rfl rfl rfl elemA_31 sizeA_73 rfl)) ?_
        refine ARL.q0 (v := (TEdge.av a23)) rfl rfl (Light.quiet (opLoadRA rfl aggA_73 sizeA_73 rfl (nlt rfl) rfl)) ?_
        refine ARL.q0 (v := (.bool (laws_eqEdge a19 a23))) rfl rfl ((qCall rfl rfl call_57 (laws_eqEdge_ok a19 a23) rfl)) ?_
        refine ARL.q0 (v := (.bool (!(laws_eqEdge a19 a23)))) rfl rfl (Light.quiet (opNot rfl rfl)) ?_
        refine ARL.done ?_
        refine AWP.ifB hF rfl (fun hc10 hF => ?_) (fun hc10 hF => ?_)
        · skip
          refine AWP.seqR rfl ?_
          refine ASL.q (v := (.bool false)) rfl rfl (Light.quiet (opAssign rfl rfl)) ?_
          refine ASL.done ?_
          refine AWP.ret ?_
          refine QBlock.ret ?_
          refine QThen.rt ?_
          refine QThen.rt ?_
          refine QBlock.ret ?_
          refine QThen.rt ?_
          obtain rfl := (hx4 _ (someE hF).symm)
          have hF := hR7
          have hF := sumR hF
          obtain rfl := someE hF
          exact QRet.sole (v := (.bool false)) ⟨rfl, trivial⟩ rfl
        · skip
          refine AWP.skip ?_
          refine QBlock.nrm ?_
          refine QThen.nrm ?_
          refine AWP.lastR rfl ?_
          refine ASL.q (v := (.int .i64 x5_l0)) rfl rfl (Light.quiet (opMove rfl rfl)) ?_
          refine ASL.q (v := (.int .i64 (W (x5_l0 + 1)))) rfl rfl (Light.quiet (opInt rfl rfl rfl rfl)) ?_
          refine ASL.q (v := (.int .i64 (W (x5_l0 + 1)))) rfl rfl (Light.quiet (opAssign rfl rfl)) ?_
          refine ASL.done ?_
          refine QThen.nrm ?_
          exact ⟨(W (x5_l0 + 1)), (), (someE hF).symm, ⟨rfl, rfl, rfl, trivial⟩, (hS.pick [] rfl rfl)⟩
      · skip
        refine AWP.exit ?_
        refine QThen.ext ?_
        refine QThen.ext ?_
        refine QBlock.hit ?_
        obtain rfl := (hx4 _ (someE hF).symm)
        have hF := hR7
        have hF := sumL hF
        refine QThen.nrm ?_
        exact ⟨trivial, (hS.pick [] rfl rfl), hF⟩

set_option maxRecDepth 10000 in
theorem laws_eqAuto_ok {p0 : TAuto} {p1 : TAuto} {r : Bool} (hF : laws_eqAuto p0 p1 = some r) : PC Try.prog 11 [(TAuto.av p0), (TAuto.av p1)] fun v => v = (.bool r) := by
  refine PC.enter Try.func11 rfl Try.ntmps11 (by simp) ?_
  have hS := Sep.void; unfold laws_eqAuto at hF
  refine AWP.seqR rfl ?_
  refine ASL.q (v := (.rptr [(.int .i64 p0.letters), (.int .i64 p0.states), (.int .i64 p0.start), (.list 4 (List.map TEdge.av p0.edges))])) rfl rfl ((qBoxI (v := (TAuto.av p0)) rfl rfl rfl rfl)) ?_
  refine ASL.q (v := (.rptr [(.int .i64 p1.letters), (.int .i64 p1.states), (.int .i64 p1.start), (.list 4 (List.map TEdge.av p1.edges))])) rfl rfl ((qBoxI (v := (TAuto.av p1)) rfl rfl rfl rfl)) ?_
  refine ASL.q (v := (.bool false)) rfl rfl (Light.quiet (opAssign rfl rfl)) ?_
  refine ASL.done ?_
  refine AWP.seq ?_
  refine AWP.seqR rfl ?_
  refine ASL.q (v := (.rptr [(.int .i64 p0.letters), (.int .i64 p0.states), (.int .i64 p0.start), (.list 4 (List.map TEdge.av p0.edges))])) rfl rfl (Light.quiet (opFieldAddrR rfl fieldA_33_0 rfl rfl)) ?_
  refine ASL.q (v := (.int .i64 p0.letters)) rfl rfl (Light.quiet (opLoadR rfl aggA_3 rfl rfl)) ?_
  refine ASL.q (v := (.rptr [(.int .i64 p1.letters), (.int .i64 p1.states), (.int .i64 p1.start), (.list 4 (List.map TEdge.av p1.edges))])) rfl rfl (Light.quiet (opFieldAddrR rfl fieldA_33_0 rfl rfl)) ?_
  refine ASL.q (v := (.int .i64 p1.letters)) rfl rfl (Light.quiet (opLoadR rfl aggA_3 rfl rfl)) ?_
  refine ASL.q (v := (.bool (decide (p0.letters ≠ p1.letters)))) rfl rfl (Light.quiet (opInt rfl rfl rfl rfl)) ?_
  refine ASL.done ?_
  refine AWP.ifP hF rfl (fun hc1 hF => ?_) (fun hc1 hF => ?_)
  · skip
    refine AWP.seqR rfl ?_
    refine ASL.q (v := (.bool false)) rfl rfl (Light.quiet (opAssign rfl rfl)) ?_
    refine ASL.done ?_
    refine AWP.ret ?_
    refine QThen.rt ?_
    obtain rfl := someE hF
    exact QRet.sole (v := (.bool false)) ⟨rfl, trivial⟩ rfl
  · skip
    refine AWP.skip ?_
    refine QThen.nrm ?_
    refine AWP.seq ?_
    refine AWP.seqR rfl ?_
    refine ASL.q (v := (.rptr [(.int .i64 p0.states), (.int .i64 p0.start), (.list 4 (List.map TEdge.av p0.edges))])) rfl rfl (Light.quiet (opFieldAddrR rfl fieldA_33_1 rfl rfl)) ?_
    refine ASL.q (v := (.int .i64 p0.states)) rfl rfl (Light.quiet (opLoadR rfl aggA_3 rfl rfl)) ?_
    refine ASL.q (v := (.rptr [(.int .i64 p1.states), (.int .i64 p1.start), (.list 4 (List.map TEdge.av p1.edges))])) rfl rfl (Light.quiet (opFieldAddrR rfl fieldA_33_1 rfl rfl)) ?_
    refine ASL.q (v := (.int .i64 p1.states)) rfl rfl (Light.quiet (opLoadR rfl aggA_3 rfl rfl)) ?_
    refine ASL.q (v := (.bool (decide (p0.states ≠ p1.states)))) rfl rfl (Light.quiet (opInt rfl rfl rfl rfl)) ?_
    refine ASL.done ?_
    refine AWP.ifP hF rfl (fun hc2 hF => ?_) (fun hc2 hF => ?_)
    · skip
      refine AWP.seqR rfl ?_
      refine ASL.q (v := (.bool false)) rfl rfl (Light.quiet (opAssign rfl rfl)) ?_
      refine ASL.done ?_
      refine AWP.ret ?_
      refine QThen.rt ?_
      obtain rfl := someE hF
      exact QRet.sole (v := (.bool false)) ⟨rfl, trivial⟩ rfl
    · skip
      refine AWP.skip ?_
      refine QThen.nrm ?_
      refine AWP.seq ?_
      refine AWP.seqR rfl ?_
      refine ASL.q (v := (.rptr [(.int .i64 p0.start), (.list 4 (List.map TEdge.av p0.edges))])) rfl rfl (Light.quiet (opFieldAddrR rfl fieldA_33_2 rfl rfl)) ?_
      refine ASL.q (v := (.int .i64 p0.start)) rfl rfl (Light.quiet (opLoadR rfl aggA_3 rfl rfl)) ?_
      refine ASL.q (v := (.rptr [(.int .i64 p1.start), (.list 4 (List.map TEdge.av p1.edges))])) rfl rfl (Light.quiet (opFieldAddrR rfl fieldA_33_2 rfl rfl)) ?_
      refine ASL.q (v := (.int .i64 p1.start)) rfl rfl (Light.quiet (opLoadR rfl aggA_3 rfl rfl)) ?_
      refine ASL.q (v := (.bool (decide (p0.start ≠ p1.start)))) rfl rfl (Light.quiet (opInt rfl rfl rfl rfl)) ?_
      refine ASL.done ?_
      refine AWP.ifP hF rfl (fun hc3 hF => ?_) (fun hc3 hF => ?_)
      · skip
        refine AWP.seqR rfl ?_
        refine ASL.q (v := (.bool false)) rfl rfl (Light.quiet (opAssign rfl rfl)) ?_
        refine ASL.done ?_
        refine AWP.ret ?_
        refine QThen.rt ?_
        obtain rfl := someE hF
        exact QRet.sole (v := (.bool false)) ⟨rfl, trivial⟩ rfl
      · skip
        refine AWP.skip ?_
        refine QThen.nrm ?_
        refine AWP.seq ?_
        refine AWP.seqR rfl ?_
        refine ASL.q (v := (.rptr [(.list 4 (List.map TEdge.av p0.edges))])) rfl rfl (Light.quiet (opFieldAddrR rfl fieldA_33_3 rfl rfl)) ?_
        refine ASL.q (v := (.list 4 (List.map TEdge.av p0.edges))) rfl rfl (Light.quiet (opLoadR rfl aggA_31 rfl rfl)) ?_
        refine ASL.q (v := (.rptr [(.list 4 (List.map TEdge.av p1.edges))])) rfl rfl (Light.quiet (opFieldAddrR rfl fieldA_33_3 rfl rfl)) ?_
        refine ASL.q (v := (.list 4 (List.map TEdge.av p1.edges))) rfl rfl (Light.quiet (opLoadR rfl aggA_31 rfl rfl)) ?_
        obtain ⟨a24, ha24, hF⟩ := bindE hF
        refine ASL.q (v := (.bool a24)) rfl rfl ((qCall rfl rfl call_35 (laws_eqEdgeS_ok ha24) rfl)) ?_
        refine ASL.q (v := (.bool (!a24))) rfl rfl (Light.quiet (opNot rfl rfl)) ?_
        refine ASL.done ?_
        refine AWP.ifB hF rfl (fun hc4 hF => ?_) (fun hc4 hF => ?_)
        · skip
          refine AWP.seqR rfl ?_
          refine ASL.q (v := (.bool false)) rfl rfl (Light.quiet (opAssign rfl rfl)) ?_
          refine ASL.done ?_
          refine AWP.ret ?_
          refine QThen.rt ?_
          obtain rfl := someE hF
          exact QRet.sole (v := (.bool false)) ⟨rfl, trivial⟩ rfl
        · skip
          refine AWP.skip ?_
          refine QThen.nrm ?_
          refine AWP.seqR rfl ?_
          refine ASL.q (v := (.bool true)) rfl rfl (Light.quiet (opAssign rfl rfl)) ?_
          refine ASL.done ?_
          refine AWP.ret ?_
          obtain rfl := someE hF
          exact QRet.sole (v := (.bool true)) ⟨rfl, trivial⟩ rfl

set_option maxRecDepth 10000 in
theorem laws_markEdgeS_ok {p0 : (List TEdge)} {p1 : Int} {r : (Int × (List TEdge))} {vp0 : AV} (hF : laws_markEdgeS p0 p1 = some r) : HS Try.prog 36 [vp0, (.int .i64 p1)] [.row 4 vp0 (List.map TEdge.av p0)] fun v L' => v = (.int .i64 r.1) ∧ L' = [.row 4 vp0 (List.map TEdge.av r.2)] := by
  intro H S hS
  refine HC.enter Try.func36 rfl Try.ntmps36 (by simp) ?_
  simp only [List.cons_append, List.nil_append] at hS
  unfold laws_markEdgeS at hF
  refine AWP.seqR rfl ?_
  refine ASL.q (v := (.int .i64 0)) rfl rfl (Light.quiet (opAssign rfl rfl)) ?_
  refine ASL.done ?_
  refine AWP.seqM (fun e H => ∃ x1_1 : Int, ∃ y2 : (List TEdge), E.Told e [(1, (.int .i64 x1_1))] ∧ E.Sep H [.row 4 vp0 (List.map TEdge.av y2), .snap S] ∧ laws_markEdgeS.k0 x1_1 y2 = some r) ?_ ?_
  · rintro e0 G3 ⟨x1_1, y2, hT, hS, hF⟩; refine AWP.only _ hT ?_; unfold laws_markEdgeS.k0 at hF
    refine AWP.seqR rfl ?_
    refine ASL.q (v := (.int .i64 x1_1)) rfl rfl (Light.quiet (opMove rfl rfl)) ?_
    refine ASL.q (v := (.int .i64 x1_1)) rfl rfl (Light.quiet (opAssign rfl rfl)) ?_
    refine ASL.done ?_
    refine AWP.ret ?_
    obtain rfl := someE hF
    exact QRet.sole (v := (.int .i64 x1_1)) ⟨rfl, trivial⟩ ⟨_, ⟨rfl, rfl⟩, hS.pick [0, 1] rfl rfl⟩
  · skip
    refine AWP.seqR rfl ?_
    refine ASL.q (v := (.int .i64 0)) rfl rfl (Light.quiet (opAssign rfl rfl)) ?_
    refine ASL.done ?_
    refine AWP.block ?_
    obtain ⟨o8, hL7, hR9⟩ := bindE hF
    refine AWP.loopF (ω := Unit) hL7 (fun s w => [(0, vp0), (1, (.int .i64 s.2.1)), (5, (.int .i64 s.2.2))]) (fun s w => [.row 4 vp0 (List.map TEdge.av s.1), .snap S]) () ⟨rfl, rfl, rfl, trivial⟩ (hS.pick [0, 1] rfl rfl) ?_
    rintro ⟨y4, x1_l0, x5_l0⟩ _ G10 hS x5 hF hx6
    try dsimp only at hS ⊢
    have hF : laws_markEdgeS.b0 y4 x1_l0 x5_l0 = some x5 := hF; unfold laws_markEdgeS.b0 at hF
    refine AWP.seq ?_
    refine AWP.seqR rfl ?_
    refine ASL.q (v := (.int .i64 x5_l0)) rfl rfl (Light.quiet (opMove rfl rfl)) ?_
    refine ASL.q (v := vp0) rfl rfl (Light.quiet (opMove rfl rfl)) ?_
    refine ASL.q (v := (.int .i64 (y4.length : Int))) rfl rfl (Light.quiet (kLen hS (j := 0) rfl rfl rfl rfl lenT_31 rfl)) ?_
    refine ASL.q (v := (.bool (decide (x5_l0 < ((y4.length : Int)))))) rfl rfl (Light.quiet (opInt rfl rfl rfl rfl)) ?_
    refine ASL.done ?_
    refine AWP.ifP hF rfl (fun hc11 hF => ?_) (fun hc11 hF => ?_)
    · skip
      refine AWP.skip ?_
      refine QThen.nrm ?_
      refine AWP.seq ?_
      refine AWP.block ?_
      refine AWP.seqR rfl ?_
      refine ASL.q (v := vp0) rfl rfl (Light.quiet (opMove rfl rfl)) ?_
      refine ASL.q (v := (.int .i64 x5_l0)) rfl rfl (Light.quiet (opMove rfl rfl)) ?_
      refine ASL.q (v := (.int .i64 x1_l0)) rfl rfl (Light.quiet (opMove rfl rfl)) ?_
      obtain ⟨m15, hm15, hF⟩ := bindE hF
      refine ASL.q (v := (ptrTo vp0 m15 4)) rfl rfl (Light.quiet (kIxO hS (j := 0) rfl hm15 rfl rfl rfl elemA_31 sizeA_73)) ?_
      refine ASL.q (v := (ptrOff vp0 m15 4 0)) rfl rfl (Light.quiet (kFldC (p := 0) hS (j := 0) rfl hm15 rfl fieldA_73_0 rfl)) ?_
      refine ASL.n rfl rfl (hStF (f := TEdge.av) (g := (fun q : TEdge => { q with from_ := x1_l0 })) (p := 0) hS (j := 0) rfl hm15 rfl sizeA_3 rfl rfl (fun _ => ⟨_, rfl, nlt rfl, rfl⟩) rfl ?_); rintro G12 hS
      refine ASL.done ?_
      refine AWP.seqR rfl ?_
      refine ASL.q (v := (.int .i64 x1_l0)) rfl rfl (Light.quiet (opMove rfl rfl)) ?_
      refine ASL.q (v := (.int .i64 (W (x1_l0 + 1)))) rfl rfl (Light.quiet (opInt rfl rfl rfl rfl)) ?_
      refine ASL.q (v := (.int .i64 (W (x1_l0 + 1)))) rfl rfl (Light.quiet (opAssign rfl rfl)) ?_
      refine ASL.done ?_
      refine AWP.seqR rfl ?_
      refine ASL.q (v := vp0) rfl rfl (Light.quiet (opMove rfl rfl)) ?_
      refine ASL.q (v := (.int .i64 x5_l0)) rfl rfl (Light.quiet (opMove rfl rfl)) ?_
      refine ASL.q (v := (.int .i64 (W (x1_l0 + 1)))) rfl rfl (Light.quiet (opMove rfl rfl)) ?_
      obtain ⟨m22, hm22, hF⟩ := bindE hF
      refine ASL.q (v := (ptrTo vp0 m22 4)) rfl rfl (Light.quiet (kIxO hS (j := 0) rfl hm22 rfl rfl rfl elemA_31 sizeA_73)) ?_
      refine ASL.q (v := (ptrOff vp0 m22 4 1)) rfl rfl (Light.quiet (kFldC (p := 1) hS (j := 0) rfl hm22 rfl fieldA_73_1 rfl)) ?_
      refine ASL.n rfl rfl (hStF (f := TEdge.av) (g := (fun q : TEdge => { q with letter := (W (x1_l0 + 1)) })) (p := 1) hS (j := 0) rfl hm22 rfl sizeA_3 rfl rfl (fun _ => ⟨_, rfl, nlt rfl, rfl⟩) rfl ?_); rintro G13 hS
      refine ASL.done ?_
      refine AWP.seqR rfl ?_
      refine ASL.q (v := (.int .i64 (W (x1_l0 + 1)))) rfl rfl (Light.quiet (opMove rfl rfl)) ?_
      refine ASL.q (v := (.int .i64 (W (((W (x1_l0 + 1))) + 1)))) rfl rfl (Light.quiet (opInt rfl rfl rfl rfl)) ?_
      refine ASL.q (v := (.int .i64 (W (((W (x1_l0 + 1))) + 1)))) rfl rfl (Light.quiet (opAssign rfl rfl)) ?_
      refine ASL.done ?_
      refine AWP.seqR rfl ?_
      refine ASL.q (v := vp0) rfl rfl (Light.quiet (opMove rfl rfl)) ?_
      refine ASL.q (v := (.int .i64 x5_l0)) rfl rfl (Light.quiet (opMove rfl rfl)) ?_
      refine ASL.q (v := (.int .i64 (W (((W (x1_l0 + 1))) + 1)))) rfl rfl (Light.quiet (opMove rfl rfl)) ?_
      obtain ⟨m29, hm29, hF⟩ := bindE hF
      refine ASL.q (v := (ptrTo vp0 m29 4)) rfl rfl (Light.quiet (kIxO hS (j := 0) rfl hm29 rfl rfl rfl elemA_31 sizeA_73)) ?_
      refine ASL.q (v := (ptrOff vp0 m29 4 2)) rfl rfl (Light.quiet (kFldC (p := 2) hS (j := 0) rfl hm29 rfl fieldA_73_2 rfl)) ?_
      refine ASL.n rfl rfl (hStF (f := TEdge.av) (g := (fun q : TEdge => { q with to_ := (W (((W (x1_l0 + 1))) + 1)) })) (p := 2) hS (j := 0) rfl hm29 rfl sizeA_3 rfl rfl (fun _ => ⟨_, rfl, nlt rfl, rfl⟩) rfl ?_); rintro G14 hS
      refine ASL.done ?_
      refine AWP.seqR rfl ?_
      refine ASL.q (v := (.int .i64 (W (((W (x1_l0 + 1))) + 1)))) rfl rfl (Light.quiet (opMove rfl rfl)) ?_
      refine ASL.q (v := (.int .i64 (W (((W (((W (x1_l0 + 1))) + 1))) + 1)))) rfl rfl (Light.quiet (opInt rfl rfl rfl rfl)) ?_
      refine ASL.q (v := (.int .i64 (W (((W (((W (x1_l0 + 1))) + 1))) + 1)))) rfl rfl (Light.quiet (opAssign rfl rfl)) ?_
      refine ASL.done ?_
      refine AWP.seqR rfl ?_
      refine ASL.q (v := vp0) rfl rfl (Light.quiet (opMove rfl rfl)) ?_
      refine ASL.q (v := (.int .i64 x5_l0)) rfl rfl (Light.quiet (opMove rfl rfl)) ?_
      refine ASL.q (v := (.int .i64 (W (((W (((W (x1_l0 + 1))) + 1))) + 1)))) rfl rfl (Light.quiet (opMove rfl rfl)) ?_
      refine ASL.q (v := (.int .i64 (Int.tmod ((W (((W (((W (x1_l0 + 1))) + 1))) + 1))) 3))) rfl rfl (Light.quiet (opRem rfl rfl rfl (by decide) rfl)) ?_
      refine ASL.q (v := (.bool (decide (((Int.tmod ((W (((W (((W (x1_l0 + 1))) + 1))) + 1))) 3)) = 0)))) rfl rfl (Light.quiet (opInt rfl rfl rfl rfl)) ?_
      obtain ⟨m38, hm38, hF⟩ := bindE hF
      refine ASL.q (v := (ptrTo vp0 m38 4)) rfl rfl (Light.quiet (kIxO hS (j := 0) rfl hm38 rfl rfl rfl elemA_31 sizeA_73)) ?_
      refine ASL.q (v := (ptrOff vp0 m38 4 3)) rfl rfl (Light.quiet (kFldC (p := 3) hS (j := 0) rfl hm38 rfl fieldA_73_3 rfl)) ?_
      refine ASL.n rfl rfl (hStF (f := TEdge.av) (g := (fun q : TEdge => { q with good := (decide (((Int.tmod ((W (((W (((W (x1_l0 + 1))) + 1))) + 1))) 3)) = 0)) })) (p := 3) hS (j := 0) rfl hm38 rfl sizeA_4 rfl rfl (fun _ => ⟨_, rfl, nlt rfl, rfl⟩) rfl ?_); rintro G15 hS
      refine ASL.done ?_
      refine AWP.lastR rfl ?_
      refine ASL.q (v := (.int .i64 (W (((W (((W (x1_l0 + 1))) + 1))) + 1)))) rfl rfl (Light.quiet (opMove rfl rfl)) ?_
      refine ASL.q (v := (.int .i64 (W (((W (((W (((W (x1_l0 + 1))) + 1))) + 1))) + 1)))) rfl rfl (Light.quiet (opInt rfl rfl rfl rfl)) ?_
      refine ASL.q (v := (.int .i64 (W (((W (((W (((W (x1_l0 + 1))) + 1))) + 1))) + 1)))) rfl rfl (Light.quiet (opAssign rfl rfl)) ?_
      refine ASL.done ?_
      refine QBlock.nrm ?_
      refine QThen.nrm ?_
      refine AWP.lastR rfl ?_
      refine ASL.q (v := (.int .i64 x5_l0)) rfl rfl (Light.quiet (opMove rfl rfl)) ?_
      refine ASL.q (v := (.int .i64 (W (x5_l0 + 1)))) rfl rfl (Light.quiet (opInt rfl rfl rfl rfl)) ?_
      refine ASL.q (v := (.int .i64 (W (x5_l0 + 1)))) rfl rfl (Light.quiet (opAssign rfl rfl)) ?_
      refine ASL.done ?_
      refine QThen.nrm ?_
      exact ⟨((((((((y4.set m15 ((fun q : TEdge => { q with from_ := x1_l0 }) (y4.getD m15 default)))).set m22 ((fun q : TEdge => { q with letter := (W (x1_l0 + 1)) }) (((y4.set m15 ((fun q : TEdge => { q with from_ := x1_l0 }) (y4.getD m15 default)))).getD m22 default)))).set m29 ((fun q : TEdge => { q with to_ := (W (((W (x1_l0 + 1))) + 1)) }) (((((y4.set m15 ((fun q : TEdge => { q with from_ := x1_l0 }) (y4.getD m15 default)))).set m22 ((fun q : TEdge => { q with letter := (W (x1_l0 + 1)) }) (((y4.set m15 ((fun q : TEdge => { q with from_ := x1_l0 }) (y4.getD m15 default)))).getD m22 default)))).getD m29 default)))).set m38 ((fun q : TEdge => { q with good := (decide (((Int.tmod ((W (((W (((W (x1_l0 + 1))) + 1))) + 1))) 3)) = 0)) }) (((((((y4.set m15 ((fun q : TEdge => { q with from_ := x1_l0 }) (y4.getD m15 default)))).set m22 ((fun q : TEdge => { q with letter := (W (x1_l0 + 1)) }) (((y4.set m15 ((fun q : TEdge => { q with from_ := x1_l0 }) (y4.getD m15 default)))).getD m22 default)))).set m29 ((fun q : TEdge => { q with to_ := (W (((W (x1_l0 + 1))) + 1)) }) (((((y4.set m15 ((fun q : TEdge => { q with from_ := x1_l0 }) (y4.getD m15 default)))).set m22 ((fun q : TEdge => { q with letter := (W (x1_l0 + 1)) }) (((y4.set m15 ((fun q : TEdge => { q with from_ := x1_l0 }) (y4.getD m15 default)))).getD m22 default)))).getD m29 default)))).getD m38 default))), (W (((W (((W (((W (x1_l0 + 1))) + 1))) + 1))) + 1)), (W (x5_l0 + 1))), (), (someE hF).symm, ⟨rfl, rfl, rfl, trivial⟩, (hS.pick [0, 1] rfl rfl)⟩
    · skip
      refine AWP.exit ?_
      refine QThen.ext ?_
      refine QThen.ext ?_
      refine QBlock.hit ?_
      obtain rfl := (hx6 _ (someE hF).symm)
      have hF := hR9
      refine QThen.nrm ?_
      exact ⟨x1_l0, y4, ⟨rfl, trivial⟩, (hS.pick [0, 1] rfl rfl), hF⟩

set_option maxRecDepth 10000 in
theorem laws_markAuto_ok {p0 : TAuto} {p1 : Int} {r : (Int × TAuto)} {vp0_Edges : AV} (hF : laws_markAuto p0 p1 = some r) : HS Try.prog 12 [(.agg [(.int .i64 p0.letters), (.int .i64 p0.states), (.int .i64 p0.start), vp0_Edges]), (.int .i64 p1)] [.row 4 vp0_Edges (List.map TEdge.av p0.edges)] fun v L' => v = (.int .i64 r.1) ∧ L' = [.row 4 vp0_Edges (List.map TEdge.av r.2.edges)] := by
  intro H S hS
  refine HC.enter Try.func12 rfl Try.ntmps12 (by simp) ?_
  simp only [List.cons_append, List.nil_append] at hS
  unfold laws_markAuto at hF
  refine AWP.seqR rfl ?_
  refine ASL.x rfl rfl (hBox hS rfl rfl rfl ?_); rintro b2 G2 hK hS
  refine ASL.q (v := (.int .i64 0)) rfl rfl (Light.quiet (opAssign rfl rfl)) ?_
  refine ASL.done ?_
  refine AWP.seqR rfl ?_
  refine ASL.q (v := (.ptr b2 3)) rfl rfl (Light.quiet (opFieldAddr rfl fieldA_33_3 rfl rfl)) ?_
  refine ASL.q (v := vp0_Edges) rfl rfl (Light.quiet (kAt hS (j := 0) rfl rfl aggA_31 rfl rfl)) ?_
  refine ASL.q (v := (.int .i64 p1)) rfl rfl (Light.quiet (opMove rfl rfl)) ?_
  obtain ⟨a8, ha8, hF⟩ := bindE hF
  refine ASL.x rfl rfl (hCallS hS [1, 0, 2] (F := [.cell b2 [(.int .i64 p0.letters), (.int .i64 p0.states), (.int .i64 p0.start), vp0_Edges], .snap S]) rfl rfl rfl call_36 (laws_markEdgeS_ok ha8) rfl rfl ?_); rintro _ _ G4 ⟨rfl, rfl⟩ hS
  refine ASL.q (v := (.int .i64 a8.1)) rfl rfl (Light.quiet (opAssign rfl rfl)) ?_
  refine ASL.done ?_
  refine AWP.seqR rfl ?_
  refine ASL.q (v := (.int .i64 a8.1)) rfl rfl (Light.quiet (opMove rfl rfl)) ?_
  refine ASL.q (v := (.int .i64 a8.1)) rfl rfl (Light.quiet (opAssign rfl rfl)) ?_
  refine ASL.done ?_
  refine AWP.ret ?_
  obtain rfl := someE hF
  exact QRet.sole (v := (.int .i64 a8.1)) ⟨rfl, trivial⟩ ⟨_, ⟨rfl, rfl⟩, hS.pick [0, 2] rfl rfl⟩

set_option maxRecDepth 10000 in
theorem laws_markIntS_ok {p0 : (List Int)} {p1 : Int} {r : (Int × (List Int))} {vp0 : AV} (hF : laws_markIntS p0 p1 = some r) : HS Try.prog 37 [vp0, (.int .i64 p1)] [.row 1 vp0 (List.map (AV.int .i64) p0)] fun v L' => v = (.int .i64 r.1) ∧ L' = [.row 1 vp0 (List.map (AV.int .i64) r.2)] := by
  intro H S hS
  refine HC.enter Try.func37 rfl Try.ntmps37 (by simp) ?_
  simp only [List.cons_append, List.nil_append] at hS
  unfold laws_markIntS at hF
  refine AWP.seqR rfl ?_
  refine ASL.q (v := (.int .i64 0)) rfl rfl (Light.quiet (opAssign rfl rfl)) ?_
  refine ASL.done ?_
  refine AWP.seqM (fun e H => ∃ x1_1 : Int, ∃ y2 : (List Int), E.Told e [(1, (.int .i64 x1_1))] ∧ E.Sep H [.row 1 vp0 (List.map (AV.int .i64) y2), .snap S] ∧ laws_markIntS.k0 x1_1 y2 = some r) ?_ ?_
  · rintro e0 G3 ⟨x1_1, y2, hT, hS, hF⟩; refine AWP.only _ hT ?_; unfold laws_markIntS.k0 at hF
    refine AWP.seqR rfl ?_
    refine ASL.q (v := (.int .i64 x1_1)) rfl rfl (Light.quiet (opMove rfl rfl)) ?_
    refine ASL.q (v := (.int .i64 x1_1)) rfl rfl (Light.quiet (opAssign rfl rfl)) ?_
    refine ASL.done ?_
    refine AWP.ret ?_
    obtain rfl := someE hF
    exact QRet.sole (v := (.int .i64 x1_1)) ⟨rfl, trivial⟩ ⟨_, ⟨rfl, rfl⟩, hS.pick [0, 1] rfl rfl⟩
  · skip
    refine AWP.seqR rfl ?_
    refine ASL.q (v := (.int .i64 0)) rfl rfl (Light.quiet (opAssign rfl rfl)) ?_
    refine ASL.done ?_
    refine AWP.block ?_
    obtain ⟨o8, hL7, hR9⟩ := bindE hF
    refine AWP.loopF (ω := Unit) hL7 (fun s w => [(0, vp0), (1, (.int .i64 s.2.1)), (5, (.int .i64 s.2.2))]) (fun s w => [.row 1 vp0 (List.map (AV.int .i64) s.1), .snap S]) () ⟨rfl, rfl, rfl, trivial⟩ (hS.pick [0, 1] rfl rfl) ?_
    rintro ⟨y4, x1_l0, x5_l0⟩ _ G10 hS x5 hF hx6
    try dsimp only at hS ⊢
    have hF : laws_markIntS.b0 y4 x1_l0 x5_l0 = some x5 := hF; unfold laws_markIntS.b0 at hF
    refine AWP.seq ?_
    refine AWP.seqR rfl ?_
    refine ASL.q (v := (.int .i64 x5_l0)) rfl rfl (Light.quiet (opMove rfl rfl)) ?_
    refine ASL.q (v := vp0) rfl rfl (Light.quiet (opMove rfl rfl)) ?_
    refine ASL.q (v := (.int .i64 (y4.length : Int))) rfl rfl (Light.quiet (kLen hS (j := 0) rfl rfl rfl rfl lenT_26 rfl)) ?_
    refine ASL.q (v := (.bool (decide (x5_l0 < ((y4.length : Int)))))) rfl rfl (Light.quiet (opInt rfl rfl rfl rfl)) ?_
    refine ASL.done ?_
    refine AWP.ifP hF rfl (fun hc11 hF => ?_) (fun hc11 hF => ?_)
    · skip
      refine AWP.skip ?_
      refine QThen.nrm ?_
      refine AWP.seq ?_
      refine AWP.block ?_
      refine AWP.seqR rfl ?_
      refine ASL.q (v := vp0) rfl rfl (Light.quiet (opMove rfl rfl)) ?_
      refine ASL.q (v := (.int .i64 x5_l0)) rfl rfl (Light.quiet (opMove rfl rfl)) ?_
      refine ASL.q (v := (.int .i64 x1_l0)) rfl rfl (Light.quiet (opMove rfl rfl)) ?_
      obtain ⟨m15, hm15, hF⟩ := bindE hF
      refine ASL.q (v := (ptrTo vp0 m15 1)) rfl rfl (Light.quiet (kIxO hS (j := 0) rfl hm15 rfl rfl rfl elemA_26 sizeA_3)) ?_
      refine ASL.n rfl rfl (hSt (f := (AV.int .i64)) (a := x1_l0) hS (j := 0) rfl hm15 rfl sizeA_3 rfl rfl ⟨rfl, rfl, rfl⟩ ?_); rintro G12 hS
      refine ASL.done ?_
      refine AWP.lastR rfl ?_
      refine ASL.q (v := (.int .i64 x1_l0)) rfl rfl (Light.quiet (opMove rfl rfl)) ?_
      refine ASL.q (v := (.int .i64 (W (x1_l0 + 1)))) rfl rfl (Light.quiet (opInt rfl rfl rfl rfl)) ?_
      refine ASL.q (v := (.int .i64 (W (x1_l0 + 1)))) rfl rfl (Light.quiet (opAssign rfl rfl)) ?_
      refine ASL.done ?_
      refine QBlock.nrm ?_
      refine QThen.nrm ?_
      refine AWP.lastR rfl ?_
      refine ASL.q (v := (.int .i64 x5_l0)) rfl rfl (Light.quiet (opMove rfl rfl)) ?_
      refine ASL.q (v := (.int .i64 (W (x5_l0 + 1)))) rfl rfl (Light.quiet (opInt rfl rfl rfl rfl)) ?_
      refine ASL.q (v := (.int .i64 (W (x5_l0 + 1)))) rfl rfl (Light.quiet (opAssign rfl rfl)) ?_
      refine ASL.done ?_
      refine QThen.nrm ?_
      exact ⟨((y4.set m15 x1_l0), (W (x1_l0 + 1)), (W (x5_l0 + 1))), (), (someE hF).symm, ⟨rfl, rfl, rfl, trivial⟩, (hS.pick [0, 1] rfl rfl)⟩
    · skip
      refine AWP.exit ?_
      refine QThen.ext ?_
      refine QThen.ext ?_
      refine QBlock.hit ?_
      obtain rfl := (hx6 _ (someE hF).symm)
      have hF := hR9
      refine QThen.nrm ?_
      exact ⟨x1_l0, y4, ⟨rfl, trivial⟩, (hS.pick [0, 1] rfl rfl), hF⟩

set_option maxRecDepth 10000 in
theorem laws_markRankState_ok {p0 : TRankState} {p1 : Int} {r : (Int × TRankState)} {vp0_Ranks : AV} (hF : laws_markRankState p0 p1 = some r) : HS Try.prog 13 [(.agg [vp0_Ranks, (.int .i64 p0.owing)]), (.int .i64 p1)] [.row 1 vp0_Ranks (List.map (AV.int .i64) p0.ranks)] fun v L' => v = (.int .i64 r.1) ∧ L' = [.row 1 vp0_Ranks (List.map (AV.int .i64) r.2.ranks)] := by
  intro H S hS
  refine HC.enter Try.func13 rfl Try.ntmps13 (by simp) ?_
  simp only [List.cons_append, List.nil_append] at hS
  unfold laws_markRankState at hF
  refine AWP.seqR rfl ?_
  refine ASL.x rfl rfl (hBox hS rfl rfl rfl ?_); rintro b2 G2 hK hS
  refine ASL.q (v := (.int .i64 0)) rfl rfl (Light.quiet (opAssign rfl rfl)) ?_
  refine ASL.done ?_
  refine AWP.seqR rfl ?_
  refine ASL.q (v := (.ptr b2 0)) rfl rfl (Light.quiet (opFieldAddr rfl fieldA_28_0 rfl rfl)) ?_
  refine ASL.q (v := vp0_Ranks) rfl rfl (Light.quiet (kAt hS (j := 0) rfl rfl aggA_26 rfl rfl)) ?_
  refine ASL.q (v := (.int .i64 p1)) rfl rfl (Light.quiet (opMove rfl rfl)) ?_
  obtain ⟨a8, ha8, hF⟩ := bindE hF
  refine ASL.x rfl rfl (hCallS hS [1, 0, 2] (F := [.cell b2 [vp0_Ranks, (.int .i64 p0.owing)], .snap S]) rfl rfl rfl call_37 (laws_markIntS_ok ha8) rfl rfl ?_); rintro _ _ G4 ⟨rfl, rfl⟩ hS
  refine ASL.q (v := (.int .i64 a8.1)) rfl rfl (Light.quiet (opAssign rfl rfl)) ?_
  refine ASL.done ?_
  refine AWP.seqR rfl ?_
  refine ASL.q (v := (.int .i64 a8.1)) rfl rfl (Light.quiet (opMove rfl rfl)) ?_
  refine ASL.q (v := (.int .i64 a8.1)) rfl rfl (Light.quiet (opAssign rfl rfl)) ?_
  refine ASL.done ?_
  refine AWP.ret ?_
  obtain rfl := someE hF
  exact QRet.sole (v := (.int .i64 a8.1)) ⟨rfl, trivial⟩ ⟨_, ⟨rfl, rfl⟩, hS.pick [0, 2] rfl rfl⟩

set_option maxRecDepth 10000 in
theorem laws_heldIntS_ok {p0 : (List Int)} {p1 : Int} {r : Int} (hF : laws_heldIntS p0 p1 = some r) : PC Try.prog 38 [(.list 1 (List.map (AV.int .i64) p0)), (.int .i64 p1)] fun v => v = (.int .i64 r) := by
  refine PC.enter Try.func38 rfl Try.ntmps38 (by simp) ?_
  have hS := Sep.void; unfold laws_heldIntS at hF
  refine AWP.seqR rfl ?_
  refine ASL.q (v := (.int .i64 0)) rfl rfl (Light.quiet (opAssign rfl rfl)) ?_
  refine ASL.done ?_
  refine AWP.seqM (fun e H => ∃ x1_1 : Int, E.Told e [(1, (.int .i64 x1_1))] ∧ E.Sep H [] ∧ laws_heldIntS.k0 x1_1 = some r) ?_ ?_
  · rintro e0 G1 ⟨x1_1, hT, hS, hF⟩; refine AWP.only _ hT ?_; unfold laws_heldIntS.k0 at hF
    refine AWP.seqR rfl ?_
    refine ASL.q (v := (.int .i64 x1_1)) rfl rfl (Light.quiet (opMove rfl rfl)) ?_
    refine ASL.q (v := (.int .i64 x1_1)) rfl rfl (Light.quiet (opAssign rfl rfl)) ?_
    refine ASL.done ?_
    refine AWP.ret ?_
    obtain rfl := someE hF
    exact QRet.sole (v := (.int .i64 x1_1)) ⟨rfl, trivial⟩ rfl
  · skip
    refine AWP.seqR rfl ?_
    refine ASL.q (v := (.int .i64 0)) rfl rfl (Light.quiet (opAssign rfl rfl)) ?_
    refine ASL.done ?_
    refine AWP.block ?_
    obtain ⟨o5, hL4, hR6⟩ := bindE hF
    refine AWP.loopF (ω := Unit) hL4 (fun s w => [(0, (.list 1 (List.map (AV.int .i64) p0))), (1, (.int .i64 s.1)), (5, (.int .i64 s.2))]) (fun s w => []) () ⟨rfl, rfl, rfl, trivial⟩ (hS.pick [] rfl rfl) ?_
    rintro ⟨x1_l0, x5_l0⟩ _ G7 hS x2 hF hx3
    try dsimp only at hS ⊢
    have hF : laws_heldIntS.b0 p0 x1_l0 x5_l0 = some x2 := hF; unfold laws_heldIntS.b0 at hF
    refine AWP.seq ?_
    refine AWP.seqR rfl ?_
    refine ASL.q (v := (.int .i64 x5_l0)) rfl rfl (Light.quiet (opMove rfl rfl)) ?_
    refine ASL.q (v := (.list 1 (List.map (AV.int .i64) p0))) rfl rfl (Light.quiet (opMove rfl rfl)) ?_
    refine ASL.q (v := (.int .i64 (p0.length : Int))) rfl rfl (Light.quiet (opLenMap (f := (AV.int .i64)) rfl rfl rfl lenT_26 rfl)) ?_
    refine ASL.q (v := (.bool (decide (x5_l0 < ((p0.length : Int)))))) rfl rfl (Light.quiet (opInt rfl rfl rfl rfl)) ?_
    refine ASL.done ?_
    refine AWP.ifP hF rfl (fun hc8 hF => ?_) (fun hc8 hF => ?_)
    · skip
      refine AWP.skip ?_
      refine QThen.nrm ?_
      refine AWP.seq ?_
      refine AWP.block ?_
      refine AWP.seq ?_
      refine AWP.seqR rfl ?_
      refine ASL.q (v := (.list 1 (List.map (AV.int .i64) p0))) rfl rfl (Light.quiet (opMove rfl rfl)) ?_
      refine ASL.q (v := (.int .i64 x5_l0)) rfl rfl (Light.quiet (opMove rfl rfl)) ?_
      obtain ⟨a14, ha14, hF⟩ := bindE hF
      refine ASL.q (v := (.rptr [(.int .i64 a14)])) rfl rfl (Light.quiet (kIx (f := (AV.int .i64)) ha14 rfl rfl rfl elemA_26 sizeA_3 rfl)) ?_
      refine ASL.q (v := (.int .i64 a14)) rfl rfl (Light.quiet (opLoadR rfl aggA_3 rfl rfl)) ?_
      refine ASL.q (v := (.int .i64 x1_l0)) rfl rfl (Light.quiet (opMove rfl rfl)) ?_
      refine ASL.q (v := (.bool (decide (a14 ≠ x1_l0)))) rfl rfl (Light.quiet (opInt rfl rfl rfl rfl)) ?_
      refine ASL.done ?_
      refine AWP.ifP hF rfl (fun hc9 hF => ?_) (fun hc9 hF => ?_)
      · skip
        refine AWP.seqR rfl ?_
        refine ASL.q (v := (.int .i64 (-1))) rfl rfl (Light.quiet (opAssign rfl rfl)) ?_
        refine ASL.done ?_
        refine AWP.ret ?_
        refine QThen.rt ?_
        refine QBlock.ret ?_
        refine QThen.rt ?_
        refine QThen.rt ?_
        refine QBlock.ret ?_
        refine QThen.rt ?_
        obtain rfl := (hx3 _ (someE hF).symm)
        have hF := hR6
        have hF := sumR hF
        obtain rfl := someE hF
        exact QRet.sole (v := (.int .i64 (-1))) ⟨rfl, trivial⟩ rfl
      · skip
        refine AWP.skip ?_
        refine QThen.nrm ?_
        refine AWP.lastR rfl ?_
        refine ASL.q (v := (.int .i64 x1_l0)) rfl rfl (Light.quiet (opMove rfl rfl)) ?_
        refine ASL.q (v := (.int .i64 (W (x1_l0 + 1)))) rfl rfl (Light.quiet (opInt rfl rfl rfl rfl)) ?_
        refine ASL.q (v := (.int .i64 (W (x1_l0 + 1)))) rfl rfl (Light.quiet (opAssign rfl rfl)) ?_
        refine ASL.done ?_
        refine QBlock.nrm ?_
        refine QThen.nrm ?_
        refine AWP.lastR rfl ?_
        refine ASL.q (v := (.int .i64 x5_l0)) rfl rfl (Light.quiet (opMove rfl rfl)) ?_
        refine ASL.q (v := (.int .i64 (W (x5_l0 + 1)))) rfl rfl (Light.quiet (opInt rfl rfl rfl rfl)) ?_
        refine ASL.q (v := (.int .i64 (W (x5_l0 + 1)))) rfl rfl (Light.quiet (opAssign rfl rfl)) ?_
        refine ASL.done ?_
        refine QThen.nrm ?_
        exact ⟨((W (x1_l0 + 1)), (W (x5_l0 + 1))), (), (someE hF).symm, ⟨rfl, rfl, rfl, trivial⟩, (hS.pick [] rfl rfl)⟩
    · skip
      refine AWP.exit ?_
      refine QThen.ext ?_
      refine QThen.ext ?_
      refine QBlock.hit ?_
      obtain rfl := (hx3 _ (someE hF).symm)
      have hF := hR6
      have hF := sumL hF
      refine QThen.nrm ?_
      exact ⟨x1_l0, ⟨rfl, trivial⟩, (hS.pick [] rfl rfl), hF⟩

set_option maxRecDepth 10000 in
theorem laws_heldRankStateS_ok {p0 : (List TRankState)} {p1 : Int} {r : Int} (hF : laws_heldRankStateS p0 p1 = some r) : PC Try.prog 27 [(.list 2 (List.map TRankState.av p0)), (.int .i64 p1)] fun v => v = (.int .i64 r) := by
  refine PC.enter Try.func27 rfl Try.ntmps27 (by simp) ?_
  have hS := Sep.void; unfold laws_heldRankStateS at hF
  refine AWP.seqR rfl ?_
  refine ASL.q (v := (.int .i64 0)) rfl rfl (Light.quiet (opAssign rfl rfl)) ?_
  refine ASL.done ?_
  refine AWP.seqM (fun e H => ∃ x1_1 : Int, E.Told e [(1, (.int .i64 x1_1))] ∧ E.Sep H [] ∧ laws_heldRankStateS.k0 x1_1 = some r) ?_ ?_
  · rintro e0 G1 ⟨x1_1, hT, hS, hF⟩; refine AWP.only _ hT ?_; unfold laws_heldRankStateS.k0 at hF
    refine AWP.seqR rfl ?_
    refine ASL.q (v := (.int .i64 x1_1)) rfl rfl (Light.quiet (opMove rfl rfl)) ?_
    refine ASL.q (v := (.int .i64 x1_1)) rfl rfl (Light.quiet (opAssign rfl rfl)) ?_
    refine ASL.done ?_
    refine AWP.ret ?_
    obtain rfl := someE hF
    exact QRet.sole (v := (.int .i64 x1_1)) ⟨rfl, trivial⟩ rfl
  · skip
    refine AWP.seqR rfl ?_
    refine ASL.q (v := (.int .i64 0)) rfl rfl (Light.quiet (opAssign rfl rfl)) ?_
    refine ASL.done ?_
    refine AWP.block ?_
    obtain ⟨o5, hL4, hR6⟩ := bindE hF
    refine AWP.loopF (ω := Unit) hL4 (fun s w => [(0, (.list 2 (List.map TRankState.av p0))), (1, (.int .i64 s.1)), (5, (.int .i64 s.2))]) (fun s w => []) () ⟨rfl, rfl, rfl, trivial⟩ (hS.pick [] rfl rfl) ?_
    rintro ⟨x1_l0, x5_l0⟩ _ G7 hS x2 hF hx3
    try dsimp only at hS ⊢
    have hF : laws_heldRankStateS.b0 p0 x1_l0 x5_l0 = some x2 := hF; unfold laws_heldRankStateS.b0 at hF
    refine AWP.seq ?_
    refine AWP.seqR rfl ?_
    refine ASL.q (v := (.int .i64 x5_l0)) rfl rfl (Light.quiet (opMove rfl rfl)) ?_
    refine ASL.q (v := (.list 2 (List.map TRankState.av p0))) rfl rfl (Light.quiet (opMove rfl rfl)) ?_
    refine ASL.q (v := (.int .i64 (p0.length : Int))) rfl rfl (Light.quiet (opLenMap (f := TRankState.av) rfl rfl rfl lenT_44 rfl)) ?_
    refine ASL.q (v := (.bool (decide (x5_l0 < ((p0.length : Int)))))) rfl rfl (Light.quiet (opInt rfl rfl rfl rfl)) ?_
    refine ASL.done ?_
    refine AWP.ifP hF rfl (fun hc8 hF => ?_) (fun hc8 hF => ?_)
    · skip
      refine AWP.skip ?_
      refine QThen.nrm ?_
      refine AWP.seq ?_
      refine AWP.block ?_
      refine AWP.seqR rfl ?_
      refine ASL.q (v := (.list 2 (List.map TRankState.av p0))) rfl rfl (Light.quiet (opMove rfl rfl)) ?_
      refine ASL.q (v := (.int .i64 x5_l0)) rfl rfl (Light.quiet (opMove rfl rfl)) ?_
      obtain ⟨a14, ha14, hF⟩ := bindE hF
      refine ASL.q (v := (.rptr [(.list 1 (List.map (AV.int .i64) a14.ranks)), (.int .i64 a14.owing)])) rfl rfl (Light.quiet (kIx (f := TRankState.av) ha14 rfl rfl rfl elemA_44 sizeA_28 rfl)) ?_
      refine ASL.q (v := (.rptr [(.list 1 (List.map (AV.int .i64) a14.ranks)), (.int .i64 a14.owing)])) rfl rfl (Light.quiet (opFieldAddrR rfl fieldA_28_0 rfl rfl)) ?_
      refine ASL.q (v := (.list 1 (List.map (AV.int .i64) a14.ranks))) rfl rfl (Light.quiet (opLoadR rfl aggA_26 rfl rfl)) ?_
      refine ASL.q (v := (.int .i64 x1_l0)) rfl rfl (Light.quiet (opMove rfl rfl)) ?_
      obtain ⟨a18, ha18, hF⟩ := bindE hF
      refine ASL.q (v := (.int .i64 a18)) rfl rfl ((qCall rfl rfl call_38 (laws_heldIntS_ok ha18) rfl)) ?_
      refine ASL.q (v := (.int .i64 a18)) rfl rfl (Light.quiet (opAssign rfl rfl)) ?_
      refine ASL.done ?_
      refine AWP.seq ?_
      refine AWP.seqR rfl ?_
      refine ASL.q (v := (.int .i64 a18)) rfl rfl (Light.quiet (opMove rfl rfl)) ?_
      refine ASL.q (v := (.bool (decide (a18 < 0)))) rfl rfl (Light.quiet (opInt rfl rfl rfl rfl)) ?_
      refine ASL.done ?_
      refine AWP.ifP hF rfl (fun hc9 hF => ?_) (fun hc9 hF => ?_)
      · skip
        refine AWP.seqR rfl ?_
        refine ASL.q (v := (.int .i64 (-1))) rfl rfl (Light.quiet (opAssign rfl rfl)) ?_
        refine ASL.done ?_
        refine AWP.ret ?_
        refine QThen.rt ?_
        refine QBlock.ret ?_
        refine QThen.rt ?_
        refine QThen.rt ?_
        refine QBlock.ret ?_
        refine QThen.rt ?_
        obtain rfl := (hx3 _ (someE hF).symm)
        have hF := hR6
        have hF := sumR hF
        obtain rfl := someE hF
        exact QRet.sole (v := (.int .i64 (-1))) ⟨rfl, trivial⟩ rfl
      · skip
        refine AWP.skip ?_
        refine QThen.nrm ?_
        refine AWP.seq ?_
        refine AWP.seqR rfl ?_
        refine ASL.q (v := (.list 2 (List.map TRankState.av p0))) rfl rfl (Light.quiet (opMove rfl rfl)) ?_
        refine ASL.q (v := (.int .i64 x5_l0)) rfl rfl (Light.quiet (opMove rfl rfl)) ?_
        obtain ⟨a23, ha23, hF⟩ := bindE hF
        refine ASL.q (v := (.rptr [(.list 1 (List.map (AV.int .i64) a23.ranks)), (.int .i64 a23.owing)])) rfl rfl (Light.quiet (kIx (f := TRankState.av) ha23 rfl rfl rfl elemA_44 sizeA_28 rfl)) ?_
        refine ASL.q (v := (.rptr [(.int .i64 a23.owing)])) rfl rfl (Light.quiet (opFieldAddrR rfl fieldA_28_1 rfl rfl)) ?_
        refine ASL.q (v := (.int .i64 a23.owing)) rfl rfl (Light.quiet (opLoadR rfl aggA_3 rfl rfl)) ?_
        refine ASL.q (v := (.int .i64 a18)) rfl rfl (Light.quiet (opMove rfl rfl)) ?_
        refine ASL.q (v := (.bool (decide (a23.owing ≠ a18)))) rfl rfl (Light.quiet (opInt rfl rfl rfl rfl)) ?_
        refine ASL.done ?_
        refine AWP.ifP hF rfl (fun hc10 hF => ?_) (fun hc10 hF => ?_)
        · skip
          refine AWP.seqR rfl ?_
          refine ASL.q (v := (.int .i64 (-1))) rfl rfl (Light.quiet (opAssign rfl rfl)) ?_
          refine ASL.done ?_
          refine AWP.ret ?_
          refine QThen.rt ?_
          refine QBlock.ret ?_
          refine QThen.rt ?_
          refine QThen.rt ?_
          refine QBlock.ret ?_
          refine QThen.rt ?_
          obtain rfl := (hx3 _ (someE hF).symm)
          have hF := hR6
          have hF := sumR hF
          obtain rfl := someE hF
          exact QRet.sole (v := (.int .i64 (-1))) ⟨rfl, trivial⟩ rfl
        · skip
          refine AWP.skip ?_
          refine QThen.nrm ?_
          refine AWP.lastR rfl ?_
          refine ASL.q (v := (.int .i64 a18)) rfl rfl (Light.quiet (opMove rfl rfl)) ?_
          refine ASL.q (v := (.int .i64 (W (a18 + 1)))) rfl rfl (Light.quiet (opInt rfl rfl rfl rfl)) ?_
          refine ASL.q (v := (.int .i64 (W (a18 + 1)))) rfl rfl (Light.quiet (opAssign rfl rfl)) ?_
          refine ASL.done ?_
          refine QBlock.nrm ?_
          refine QThen.nrm ?_
          refine AWP.lastR rfl ?_
          refine ASL.q (v := (.int .i64 x5_l0)) rfl rfl (Light.quiet (opMove rfl rfl)) ?_
          refine ASL.q (v := (.int .i64 (W (x5_l0 + 1)))) rfl rfl (Light.quiet (opInt rfl rfl rfl rfl)) ?_
          refine ASL.q (v := (.int .i64 (W (x5_l0 + 1)))) rfl rfl (Light.quiet (opAssign rfl rfl)) ?_
          refine ASL.done ?_
          refine QThen.nrm ?_
          exact ⟨((W (a18 + 1)), (W (x5_l0 + 1))), (), (someE hF).symm, ⟨rfl, rfl, rfl, trivial⟩, (hS.pick [] rfl rfl)⟩
    · skip
      refine AWP.exit ?_
      refine QThen.ext ?_
      refine QThen.ext ?_
      refine QBlock.hit ?_
      obtain rfl := (hx3 _ (someE hF).symm)
      have hF := hR6
      have hF := sumL hF
      refine QThen.nrm ?_
      exact ⟨x1_l0, ⟨rfl, trivial⟩, (hS.pick [] rfl rfl), hF⟩


end Go.Proofs.Ytllpbgcajgbfbaa
