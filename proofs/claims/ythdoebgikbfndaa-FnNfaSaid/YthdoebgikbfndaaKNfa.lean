/- Each of these functions of the program comes to just what its plain function says: FnNfa. -/
import Derived.Test.YthdoebgikbfndaaKNfap1
namespace Go.Proofs.Ythdoebgikbfndaa
open Go Go.RowKit E
set_option linter.unusedVariables false
set_option maxRecDepth 10000 in
theorem impl_headOk_ok (p0 : Int) (p1 : Int) (p2 : Int) : PC Try.prog 104 [(.int .i64 p0), (.int .i64 p1), (.int .i64 p2)] fun v => v = (.bool (impl_headOk p0 p1 p2)) := by
  generalize hF : impl_headOk p0 p1 p2 = r
  refine PC.enter Try.func104 rfl Try.ntmps104 (by simp) ?_
  have hS := Sep.void; unfold impl_headOk at hF
  refine AWP.seqR rfl ?_
  refine ASL.q (v := (.bool false)) rfl rfl (Light.quiet (opAssign rfl rfl)) ?_
  refine ASL.done ?_
  refine AWP.seqR rfl ?_
  refine ASL.q (v := (.int .i64 p0)) rfl rfl (Light.quiet (opMove rfl rfl)) ?_
  refine ASL.q (v := (.bool (impl_isLetters p0))) rfl rfl ((qCall rfl rfl call_54 (impl_isLetters_ok p0) rfl)) ?_
  obtain ⟨c9, hc9, hF⟩ := bndE hF
  refine ASL.q (v := (.bool c9)) rfl rfl ((Quiet.cast (Light.quiet (opMove rfl rfl)) (congrArg AV.bool hc9.symm))) ?_
  refine ASL.g (v := (.int .i64 p1)) (.bool c9) true rfl (wT _) rfl (fun hG => by have q0 := hG; subst q0; exact Light.quiet (opMove rfl rfl)) ?_
  refine ASL.g (v := (.bool (impl_inRange p1 0 31))) (.bool c9) true rfl (wT _) rfl (fun hG => by have q0 := hG; subst q0; exact (qCall rfl rfl call_78 (impl_inRange_ok p1 0 31) rfl)) ?_
  refine ASL.q (v := (.bool (c9 && (impl_inRange p1 0 31)))) rfl rfl (Light.quiet (opPick (b := c9) rfl rfl (by cases c9 <;> rfl))) ?_
  obtain ⟨c13, hc13, hF⟩ := bndE hF
  refine ASL.q (v := (.bool c13)) rfl rfl ((Quiet.cast (Light.quiet (opMove rfl rfl)) (congrArg AV.bool hc13.symm))) ?_
  refine ASL.g (v := (.int .i64 p2)) (.bool c13) true rfl (wT _) rfl (fun hG => by have q0 := hG; subst q0; exact Light.quiet (opMove rfl rfl)) ?_
  refine ASL.g (v := (.bool (impl_SetOk p2))) (.bool c13) true rfl (wT _) rfl (fun hG => by have q0 := hG; subst q0; exact (qCall rfl rfl call_68 (impl_SetOk_ok p2) rfl)) ?_
  refine ASL.q (v := (.bool (c13 && (impl_SetOk p2)))) rfl rfl (Light.quiet (opPick (b := c13) rfl rfl (by cases c13 <;> rfl))) ?_
  obtain ⟨c17, hc17, hF⟩ := bndE hF
  refine ASL.q (v := (.bool c17)) rfl rfl ((Quiet.cast (Light.quiet (opMove rfl rfl)) (congrArg AV.bool hc17.symm))) ?_
  refine ASL.g (v := (.int .i64 p2)) (.bool c17) true rfl (wT _) rfl (fun hG => by have q0 := hG; subst q0; exact Light.quiet (opMove rfl rfl)) ?_
  refine ASL.g (v := (.int .i64 p1)) (.bool c17) true rfl (wT _) rfl (fun hG => by have q0 := hG; subst q0; exact Light.quiet (opMove rfl rfl)) ?_
  refine ASL.g (v := (.int .i64 (impl_only p1))) (.bool c17) true rfl (wT _) rfl (fun hG => by have q0 := hG; subst q0; exact (qCall rfl rfl call_39 (impl_only_ok p1) rfl)) ?_
  refine ASL.g (v := (.bool (decide (p2 < ((impl_only p1)))))) (.bool c17) true rfl (wT _) rfl (fun hG => by have q0 := hG; subst q0; exact Light.quiet (opInt rfl rfl rfl rfl)) ?_
  refine ASL.q (v := (.bool (c17 && (decide (p2 < ((impl_only p1))))))) rfl rfl (Light.quiet (opPick (b := c17) rfl rfl (by cases c17 <;> rfl))) ?_
  refine ASL.q (v := (.bool (c17 && (decide (p2 < ((impl_only p1))))))) rfl rfl (Light.quiet (opAssign rfl rfl)) ?_
  refine ASL.done ?_
  refine AWP.ret ?_
  obtain rfl := hF
  exact QRet.sole (v := (.bool (c17 && (decide (p2 < ((impl_only p1))))))) ⟨rfl, trivial⟩ rfl

set_option maxRecDepth 10000 in
theorem impl_AutoOk_ok {p0 : TAuto} {r : Bool} (hF : impl_AutoOk p0 = some r) : PC Try.prog 67 [(TAuto.av p0)] fun v => v = (.bool r) := by
  refine PC.enter Try.func67 rfl Try.ntmps67 (by simp) ?_
  have hS := Sep.void; unfold impl_AutoOk at hF
  refine AWP.seqR rfl ?_
  refine ASL.q (v := (.rptr [(.int .i64 p0.letters), (.int .i64 p0.states), (.int .i64 p0.start), (.list 4 (List.map TEdge.av p0.edges))])) rfl rfl ((qBoxI (v := (TAuto.av p0)) rfl rfl rfl rfl)) ?_
  refine ASL.q (v := (.bool false)) rfl rfl (Light.quiet (opAssign rfl rfl)) ?_
  refine ASL.done ?_
  refine AWP.seq ?_
  refine AWP.seqR rfl ?_
  refine ASL.q (v := (.rptr [(.int .i64 p0.letters), (.int .i64 p0.states), (.int .i64 p0.start), (.list 4 (List.map TEdge.av p0.edges))])) rfl rfl (Light.quiet (opFieldAddrR rfl fieldA_38_0 rfl rfl)) ?_
  refine ASL.q (v := (.int .i64 p0.letters)) rfl rfl (Light.quiet (opLoadR rfl aggA_3 rfl rfl)) ?_
  refine ASL.q (v := (.rptr [(.int .i64 p0.states), (.int .i64 p0.start), (.list 4 (List.map TEdge.av p0.edges))])) rfl rfl (Light.quiet (opFieldAddrR rfl fieldA_38_1 rfl rfl)) ?_
  refine ASL.q (v := (.int .i64 p0.states)) rfl rfl (Light.quiet (opLoadR rfl aggA_3 rfl rfl)) ?_
  refine ASL.q (v := (.rptr [(.int .i64 p0.start), (.list 4 (List.map TEdge.av p0.edges))])) rfl rfl (Light.quiet (opFieldAddrR rfl fieldA_38_2 rfl rfl)) ?_
  refine ASL.q (v := (.int .i64 p0.start)) rfl rfl (Light.quiet (opLoadR rfl aggA_3 rfl rfl)) ?_
  refine ASL.q (v := (.bool (impl_headOk p0.letters p0.states p0.start))) rfl rfl ((qCall rfl rfl call_104 (impl_headOk_ok p0.letters p0.states p0.start) rfl)) ?_
  refine ASL.q (v := (.bool (!(impl_headOk p0.letters p0.states p0.start)))) rfl rfl (Light.quiet (opNot rfl rfl)) ?_
  obtain ⟨c13, hc13, hF⟩ := bndE hF
  refine ASL.q (v := (.bool c13)) rfl rfl ((Quiet.cast (Light.quiet (opMove rfl rfl)) (congrArg AV.bool hc13.symm))) ?_
  refine ASL.g (v := (.rptr [(.list 4 (List.map TEdge.av p0.edges))])) (.bool c13) false rfl (wF _) rfl (fun hG => by have q0 := gN hG; subst q0; exact Light.quiet (opFieldAddrR rfl fieldA_38_3 rfl rfl)) ?_
  refine ASL.g (v := (.list 4 (List.map TEdge.av p0.edges))) (.bool c13) false rfl (wF _) rfl (fun hG => by have q0 := gN hG; subst q0; exact Light.quiet (opLoadR rfl aggA_36 rfl rfl)) ?_
  refine ASL.g (v := (.int .i64 (p0.edges.length : Int))) (.bool c13) false rfl (wF _) rfl (fun hG => by have q0 := gN hG; subst q0; exact Light.quiet (opLenMap (f := TEdge.av) rfl rfl rfl lenT_36 rfl)) ?_
  refine ASL.g (v := (.bool (decide (((p0.edges.length : Int)) > 2000)))) (.bool c13) false rfl (wF _) rfl (fun hG => by have q0 := gN hG; subst q0; exact Light.quiet (opInt rfl rfl rfl rfl)) ?_
  refine ASL.q (v := (.bool (c13 || (decide (((p0.edges.length : Int)) > 2000))))) rfl rfl (Light.quiet (opPick (b := c13) rfl rfl (by cases c13 <;> rfl))) ?_
  refine ASL.done ?_
  refine AWP.ifB hF rfl (fun hc1 hF => ?_) (fun hc1 hF => ?_)
  · skip
    refine AWP.seqR rfl ?_
    refine ASL.q (v := (.bool false)) rfl rfl (Light.quiet (opAssign rfl rfl)) ?_
    refine ASL.done ?_
    refine AWP.ret ?_
    refine QThen.rt ?_
    obtain rfl := someE hF
    exact QRet.sole (v := (.bool false)) ⟨rfl, trivial⟩ rfl
  · skip
    refine AWP.skip ?_
    refine QThen.nrm ?_
    refine AWP.seqM (fun e H => E.Told e [] ∧ E.Sep H [] ∧ impl_AutoOk.k0 = some r) ?_ ?_
    · rintro e0 G2 ⟨hT, hS, hF⟩; refine AWP.only _ hT ?_; unfold impl_AutoOk.k0 at hF
      refine AWP.seqR rfl ?_
      refine ASL.q (v := (.bool true)) rfl rfl (Light.quiet (opAssign rfl rfl)) ?_
      refine ASL.done ?_
      refine AWP.ret ?_
      obtain rfl := someE hF
      exact QRet.sole (v := (.bool true)) ⟨rfl, trivial⟩ rfl
    · skip
      refine AWP.seqR rfl ?_
      refine ASL.q (v := (.rptr [(.list 4 (List.map TEdge.av p0.edges))])) rfl rfl (Light.quiet (opFieldAddrR rfl fieldA_38_3 rfl rfl)) ?_
      refine ASL.q (v := (.list 4 (List.map TEdge.av p0.edges))) rfl rfl (Light.quiet (opLoadR rfl aggA_36 rfl rfl)) ?_
      refine ASL.q (v := (.int .i64 (p0.edges.length : Int))) rfl rfl (Light.quiet (opLenMap (f := TEdge.av) rfl rfl rfl lenT_36 rfl)) ?_
      refine ASL.q (v := (.int .i64 0)) rfl rfl (Light.quiet (opMove rfl rfl)) ?_
      refine ASL.done ?_
      refine AWP.block ?_
      obtain ⟨o6, hL5, hR7⟩ := bindE hF
      refine AWP.loopF (ω := Unit) hL5 (fun s w => [(1, (.rptr [(.int .i64 p0.letters), (.int .i64 p0.states), (.int .i64 p0.start), (.list 4 (List.map TEdge.av p0.edges))])), (20, (.list 4 (List.map TEdge.av p0.edges))), (21, (.int .i64 (p0.edges.length : Int))), (22, (.int .i64 s))]) (fun s w => []) () ⟨rfl, rfl, rfl, rfl, trivial⟩ (hS.pick [] rfl rfl) ?_
      rintro x22_l0 _ G8 hS x3 hF hx4
      try dsimp only at hS ⊢
      have hF : impl_AutoOk.b0 p0 x22_l0 = some x3 := hF; unfold impl_AutoOk.b0 at hF
      refine AWP.seqR rfl ?_
      refine ASL.q (v := (.bool (decide (x22_l0 < ((p0.edges.length : Int)))))) rfl rfl (Light.quiet (opInt rfl rfl rfl rfl)) ?_
      refine ASL.done ?_
      refine AWP.seq ?_
      refine AWP.ifP hF rfl (fun hc9 hF => ?_) (fun hc9 hF => ?_)
      · skip
        refine AWP.skip ?_
        refine QThen.nrm ?_
        refine AWP.seq ?_
        refine AWP.block ?_
        refine AWP.seqR rfl ?_
        refine ASL.q (v := (.int .i64 x22_l0)) rfl rfl (Light.quiet (opMove rfl rfl)) ?_
        obtain ⟨a25, ha25, hF⟩ := bindE hF
        refine ASL.q (v := (.rptr [(.int .i64 a25.from_), (.int .i64 a25.letter), (.int .i64 a25.to_), (.bool a25.good)])) rfl rfl (Light.quiet (kIx (f := TEdge.av) ha25 rfl rfl rfl elemA_36 sizeA_79 rfl)) ?_
        refine ASL.q (v := (TEdge.av a25)) rfl rfl (Light.quiet (opLoadRA rfl aggA_79 sizeA_79 rfl (nlt rfl) rfl)) ?_
        refine ASL.x rfl rfl (hNewZ hS [(.int .i64 0), (.int .i64 0), (.int .i64 0), (.bool false)] rfl zeroA_79 ⟨.inl rfl, .inl rfl, .inl rfl, .inl rfl, trivial⟩ ?_); rintro b4 G10 hK hS
        refine ASL.q (v := (.int .i64 x22_l0)) rfl rfl (Light.quiet (opAssign rfl rfl)) ?_
        refine ASL.n rfl rfl (hPutA hS (j := 0) rfl rfl sizeA_79 rfl rfl rfl rfl rfl (nlt rfl) ?_); rintro G12 hS
        refine ASL.done ?_
        refine AWP.seq ?_
        refine AWP.seqR rfl ?_
        refine ASL.q (v := (.ptr b4 0)) rfl rfl (Light.quiet (opFieldAddr rfl fieldA_79_0 rfl rfl)) ?_
        refine ASL.q (v := (.int .i64 a25.from_)) rfl rfl (Light.quiet (kAt hS (j := 0) rfl rfl aggA_3 rfl rfl)) ?_
        refine ASL.q (v := (.rptr [(.int .i64 p0.states), (.int .i64 p0.start), (.list 4 (List.map TEdge.av p0.edges))])) rfl rfl (Light.quiet (opFieldAddrR rfl fieldA_38_1 rfl rfl)) ?_
        refine ASL.q (v := (.int .i64 p0.states)) rfl rfl (Light.quiet (opLoadR rfl aggA_3 rfl rfl)) ?_
        refine ASL.q (v := (.int .i64 (W (p0.states - 1)))) rfl rfl (Light.quiet (opInt rfl rfl rfl rfl)) ?_
        refine ASL.q (v := (.bool (impl_inRange a25.from_ 0 ((W (p0.states - 1)))))) rfl rfl ((qCall rfl rfl call_78 (impl_inRange_ok a25.from_ 0 ((W (p0.states - 1)))) rfl)) ?_
        refine ASL.q (v := (.bool (!(impl_inRange a25.from_ 0 ((W (p0.states - 1))))))) rfl rfl (Light.quiet (opNot rfl rfl)) ?_
        obtain ⟨c34, hc34, hF⟩ := bndE hF
        refine ASL.q (v := (.bool c34)) rfl rfl ((Quiet.cast (Light.quiet (opMove rfl rfl)) (congrArg AV.bool hc34.symm))) ?_
        refine ASL.g (v := (.ptr b4 2)) (.bool c34) false rfl (wF _) rfl (fun hG => by have q0 := gN hG; subst q0; exact Light.quiet (opFieldAddr rfl fieldA_79_2 rfl rfl)) ?_
        refine ASL.g (v := (.int .i64 a25.to_)) (.bool c34) false rfl (wF _) rfl (fun hG => by have q0 := gN hG; subst q0; exact Light.quiet (kAt hS (j := 0) rfl rfl aggA_3 rfl rfl)) ?_
        refine ASL.g (v := (.rptr [(.int .i64 p0.states), (.int .i64 p0.start), (.list 4 (List.map TEdge.av p0.edges))])) (.bool c34) false rfl (wF _) rfl (fun hG => by have q0 := gN hG; subst q0; exact Light.quiet (opFieldAddrR rfl fieldA_38_1 rfl rfl)) ?_
        refine ASL.g (v := (.int .i64 p0.states)) (.bool c34) false rfl (wF _) rfl (fun hG => by have q0 := gN hG; subst q0; exact Light.quiet (opLoadR rfl aggA_3 rfl rfl)) ?_
        refine ASL.g (v := (.int .i64 (W (p0.states - 1)))) (.bool c34) false rfl (wF _) rfl (fun hG => by have q0 := gN hG; subst q0; exact Light.quiet (opInt rfl rfl rfl rfl)) ?_
        refine ASL.g (v := (.bool (impl_inRange a25.to_ 0 ((W (p0.states - 1)))))) (.bool c34) false rfl (wF _) rfl (fun hG => by have q0 := gN hG; subst q0; exact (qCall rfl rfl call_78 (impl_inRange_ok a25.to_ 0 ((W (p0.states - 1)))) rfl)) ?_
        refine ASL.g (v := (.bool (!(impl_inRange a25.to_ 0 ((W (p0.states - 1))))))) (.bool c34) false rfl (wF _) rfl (fun hG => by have q0 := gN hG; subst q0; exact Light.quiet (opNot rfl rfl)) ?_
        refine ASL.q (v := (.bool (c34 || (!(impl_inRange a25.to_ 0 ((W (p0.states - 1)))))))) rfl rfl (Light.quiet (opPick (b := c34) rfl rfl (by cases c34 <;> rfl))) ?_
        obtain ⟨c43, hc43, hF⟩ := bndE hF
        refine ASL.q (v := (.bool c43)) rfl rfl ((Quiet.cast (Light.quiet (opMove rfl rfl)) (congrArg AV.bool hc43.symm))) ?_
        refine ASL.g (v := (.ptr b4 1)) (.bool c43) false rfl (wF _) rfl (fun hG => by have q0 := gN hG; subst q0; exact Light.quiet (opFieldAddr rfl fieldA_79_1 rfl rfl)) ?_
        refine ASL.g (v := (.int .i64 a25.letter)) (.bool c43) false rfl (wF _) rfl (fun hG => by have q0 := gN hG; subst q0; exact Light.quiet (kAt hS (j := 0) rfl rfl aggA_3 rfl rfl)) ?_
        refine ASL.g (v := (.rptr [(.int .i64 p0.letters), (.int .i64 p0.states), (.int .i64 p0.start), (.list 4 (List.map TEdge.av p0.edges))])) (.bool c43) false rfl (wF _) rfl (fun hG => by have q0 := gN hG; subst q0; exact Light.quiet (opFieldAddrR rfl fieldA_38_0 rfl rfl)) ?_
        refine ASL.g (v := (.int .i64 p0.letters)) (.bool c43) false rfl (wF _) rfl (fun hG => by have q0 := gN hG; subst q0; exact Light.quiet (opLoadR rfl aggA_3 rfl rfl)) ?_
        refine ASL.g (v := (.int .i64 (W (p0.letters - 1)))) (.bool c43) false rfl (wF _) rfl (fun hG => by have q0 := gN hG; subst q0; exact Light.quiet (opInt rfl rfl rfl rfl)) ?_
        refine ASL.g (v := (.bool (impl_inRange a25.letter 0 ((W (p0.letters - 1)))))) (.bool c43) false rfl (wF _) rfl (fun hG => by have q0 := gN hG; subst q0; exact (qCall rfl rfl call_78 (impl_inRange_ok a25.letter 0 ((W (p0.letters - 1)))) rfl)) ?_
        refine ASL.g (v := (.bool (!(impl_inRange a25.letter 0 ((W (p0.letters - 1))))))) (.bool c43) false rfl (wF _) rfl (fun hG => by have q0 := gN hG; subst q0; exact Light.quiet (opNot rfl rfl)) ?_
        refine ASL.q (v := (.bool (c43 || (!(impl_inRange a25.letter 0 ((W (p0.letters - 1)))))))) rfl rfl (Light.quiet (opPick (b := c43) rfl rfl (by cases c43 <;> rfl))) ?_
        refine ASL.done ?_
        refine AWP.ifB hF rfl (fun hc13 hF => ?_) (fun hc13 hF => ?_)
        · skip
          refine AWP.seqR rfl ?_
          refine ASL.q (v := (.bool false)) rfl rfl (Light.quiet (opAssign rfl rfl)) ?_
          refine ASL.done ?_
          refine AWP.ret ?_
          refine QThen.rt ?_
          refine QBlock.ret ?_
          refine QThen.rt ?_
          refine QThen.rt ?_
          refine QBlock.ret ?_
          refine QThen.rt ?_
          obtain rfl := (hx4 _ (someE hF).symm)
          have hF := hR7
          have hF := sumR hF
          obtain rfl := someE hF
          exact QRet.sole (v := (.bool false)) ⟨rfl, trivial⟩ rfl
        · skip
          refine AWP.skip ?_
          refine QThen.nrm ?_
          refine AWP.seqD [(0, false), (1, false), (2, false), (3, false), (4, false), (5, false), (6, false), (7, false), (8, false), (9, false), (10, false), (11, false), (12, false)] mixed (by kernel_rfl) rfl ?_
          refine ARL.q0 (v := (.int .i64 x22_l0)) rfl rfl (Light.quiet (opMove rfl rfl)) ?_
          refine ARL.q0 (v := (.bool (decide (x22_l0 > 0)))) rfl rfl (Light.quiet (opInt rfl rfl rfl rfl)) ?_
          obtain ⟨c54, hc54, hF⟩ := bndE hF
          refine ARL.q0 (v := (.bool c54)) rfl rfl ((Quiet.cast (Light.quiet (opMove rfl rfl)) (congrArg AV.bool hc54.symm))) ?_
          refine ARL.g (v := (.rptr [(.list 4 (List.map TEdge.av p0.edges))])) (.bool c54) true rfl (wT _) rfl noneAlive (fun hG => by have q0 := hG; subst q0; exact Light.quiet (opFieldAddrR rfl fieldA_38_3 rfl rfl)) ?_
          refine ARL.g (v := (.list 4 (List.map TEdge.av p0.edges))) (.bool c54) true rfl (wT _) rfl noneAlive (fun hG => by have q0 := hG; subst q0; exact Light.quiet (opLoadR rfl aggA_36 rfl rfl)) ?_
          refine ARL.g (v := (.int .i64 x22_l0)) (.bool c54) true rfl (wT _) rfl noneAlive (fun hG => by have q0 := hG; subst q0; exact Light.quiet (opMove rfl rfl)) ?_
          refine ARL.g (v := (.int .i64 (W (x22_l0 - 1)))) (.bool c54) true rfl (wT _) rfl noneAlive (fun hG => by have q0 := hG; subst q0; exact Light.quiet (opInt rfl rfl rfl rfl)) ?_
          obtain ⟨a59, ha59, hF⟩ := bindE hF
          refine ARL.g (v := (.rptr [(.int .i64 a59.from_), (.int .i64 a59.letter), (.int .i64 a59.to_), (.bool a59.good)])) (.bool c54) true rfl (wT _) rfl noneAlive (fun hG => by have q0 := hG; subst q0; exact Light.quiet (kIx (f := TEdge.av) (whenE ha59) rfl rfl rfl elemA_36 sizeA_79 rfl)) ?_
          refine ARL.g (v := (TEdge.av a59)) (.bool c54) true rfl (wT _) rfl noneAlive (fun hG => by have q0 := hG; subst q0; exact Light.quiet (opLoadRA rfl aggA_79 sizeA_79 rfl (nlt rfl) rfl)) ?_
          refine ARL.g (v := (TEdge.av a25)) (.bool c54) true rfl (wT _) rfl (hS.aliveC (k := 0) rfl) (fun hG => by have q0 := hG; subst q0; exact Light.quiet (kAtA hS (j := 0) rfl rfl aggA_79 sizeA_79 rfl (nlt rfl) rfl)) ?_
          obtain ⟨a62, ha62, hF⟩ := bindE hF
          refine ARL.g (v := (.int .i64 a62)) (.bool c54) true rfl (wT _) rfl noneAlive (fun hG => by have q0 := hG; subst q0; exact (qCall rfl rfl call_105 (impl_compareEdges_ok (whenE ha62)) rfl)) ?_
          refine ARL.g (v := (.bool (decide (a62 ≥ 0)))) (.bool c54) true rfl (wT _) rfl noneAlive (fun hG => by have q0 := hG; subst q0; exact Light.quiet (opInt rfl rfl rfl rfl)) ?_
          refine ARL.q0 (v := (.bool (c54 && (decide (a62 ≥ 0))))) rfl rfl (Light.quiet (opPick (b := c54) rfl rfl (by cases c54 <;> rfl))) ?_
          refine ARL.done ?_
          refine AWP.ifB hF rfl (fun hc14 hF => ?_) (fun hc14 hF => ?_)
          · skip
            refine AWP.seqR rfl ?_
            refine ASL.q (v := (.bool false)) rfl rfl (Light.quiet (opAssign rfl rfl)) ?_
            refine ASL.done ?_
            refine AWP.ret ?_
            refine QBlock.ret ?_
            refine QThen.rt ?_
            refine QThen.rt ?_
            refine QBlock.ret ?_
            refine QThen.rt ?_
            obtain rfl := (hx4 _ (someE hF).symm)
            have hF := hR7
            have hF := sumR hF
            obtain rfl := someE hF
            exact QRet.sole (v := (.bool false)) ⟨rfl, trivial⟩ rfl
          · skip
            refine AWP.skip ?_
            refine QBlock.nrm ?_
            refine QThen.nrm ?_
            refine AWP.lastR rfl ?_
            refine ASL.q (v := (.int .i64 (W (x22_l0 + 1)))) rfl rfl (Light.quiet (opInt rfl rfl rfl rfl)) ?_
            refine ASL.q (v := (.int .i64 (W (x22_l0 + 1)))) rfl rfl (Light.quiet (opMove rfl rfl)) ?_
            refine ASL.done ?_
            refine QThen.nrm ?_
            exact ⟨(W (x22_l0 + 1)), (), (someE hF).symm, ⟨rfl, rfl, rfl, rfl, trivial⟩, (hS.pick [] rfl rfl)⟩
      · skip
        refine AWP.exit ?_
        refine QThen.ext ?_
        refine QThen.ext ?_
        refine QBlock.hit ?_
        obtain rfl := (hx4 _ (someE hF).symm)
        have hF := hR7
        have hF := sumL hF
        refine QThen.nrm ?_
        exact ⟨trivial, (hS.pick [] rfl rfl), hF⟩

set_option maxRecDepth 10000 in
theorem impl_NfaOk_ok {p0 : TNfa} {r : Bool} (hF : impl_NfaOk p0 = some r) : PC Try.prog 25 [(TNfa.av p0)] fun v => v = (.bool r) := by
  refine PC.enter Try.func25 rfl Try.ntmps25 (by simp) ?_
  have hS := Sep.void; unfold impl_NfaOk at hF
  refine AWP.seqR rfl ?_
  refine ASL.q (v := (.rptr [(.int .i64 p0.auto.letters), (.int .i64 p0.auto.states), (.int .i64 p0.auto.start), (.list 4 (List.map TEdge.av p0.auto.edges)), (.int .i64 p0.final)])) rfl rfl ((qBoxI (v := (TNfa.av p0)) rfl rfl rfl rfl)) ?_
  refine ASL.q (v := (.bool false)) rfl rfl (Light.quiet (opAssign rfl rfl)) ?_
  refine ASL.done ?_
  refine AWP.seqM (fun e H => E.Told e [(1, (.rptr [(.int .i64 p0.auto.letters), (.int .i64 p0.auto.states), (.int .i64 p0.auto.start), (.list 4 (List.map TEdge.av p0.auto.edges)), (.int .i64 p0.final)]))] ∧ E.Sep H [] ∧ impl_NfaOk.k0 p0 = some r) ?_ ?_
  · rintro e0 G1 ⟨hT, hS, hF⟩; refine AWP.only _ hT ?_; unfold impl_NfaOk.k0 at hF
    refine AWP.seqD [(0, false), (1, false), (2, false), (3, false), (4, false), (5, false), (6, false), (7, false), (8, false), (9, false), (10, false), (11, false), (12, false), (13, false), (14, false), (15, false), (16, false), (17, false)] mixed (by kernel_rfl) rfl ?_
    refine ARL.q0 (v := (.rptr [(.int .i64 p0.auto.letters), (.int .i64 p0.auto.states), (.int .i64 p0.auto.start), (.list 4 (List.map TEdge.av p0.auto.edges)), (.int .i64 p0.final)])) rfl rfl (Light.quiet (opFieldAddrR rfl fieldA_40_0 rfl rfl)) ?_
    refine ARL.q0 (v := (TAuto.av p0.auto)) rfl rfl (Light.quiet (opLoadRA rfl aggA_38 sizeA_38 rfl (nlt rfl) rfl)) ?_
    obtain ⟨a18, ha18, hF⟩ := bindE hF
    refine ARL.q0 (v := (.bool a18)) rfl rfl ((qCall rfl rfl call_67 (impl_AutoOk_ok ha18) rfl)) ?_
    refine ARL.q0 (v := (.bool a18)) rfl rfl (Light.quiet (opMove rfl rfl)) ?_
    refine ARL.g (v := (.rptr [(.int .i64 p0.final)])) (.bool a18) true rfl (wT _) rfl noneAlive (fun hG => by have q0 := hG; subst q0; exact Light.quiet (opFieldAddrR rfl fieldA_40_1 rfl rfl)) ?_
    refine ARL.g (v := (.int .i64 p0.final)) (.bool a18) true rfl (wT _) rfl noneAlive (fun hG => by have q0 := hG; subst q0; exact Light.quiet (opLoadR rfl aggA_3 rfl rfl)) ?_
    refine ARL.g (v := (.bool (impl_SetOk p0.final))) (.bool a18) true rfl (wT _) rfl noneAlive (fun hG => by have q0 := hG; subst q0; exact (qCall rfl rfl call_68 (impl_SetOk_ok p0.final) rfl)) ?_
    refine ARL.q0 (v := (.bool (a18 && (impl_SetOk p0.final)))) rfl rfl (Light.quiet (opPick (b := a18) rfl rfl (by cases a18 <;> rfl))) ?_
    obtain ⟨c24, hc24, hF⟩ := bndE hF
    refine ARL.q0 (v := (.bool c24)) rfl rfl ((Quiet.cast (Light.quiet (opMove rfl rfl)) (congrArg AV.bool hc24.symm))) ?_
    refine ARL.g (v := (.rptr [(.int .i64 p0.final)])) (.bool c24) true rfl (wT _) rfl noneAlive (fun hG => by have q0 := hG; subst q0; exact Light.quiet (opFieldAddrR rfl fieldA_40_1 rfl rfl)) ?_
    refine ARL.g (v := (.int .i64 p0.final)) (.bool c24) true rfl (wT _) rfl noneAlive (fun hG => by have q0 := hG; subst q0; exact Light.quiet (opLoadR rfl aggA_3 rfl rfl)) ?_
    refine ARL.g (v := (.rptr [(.int .i64 p0.auto.letters), (.int .i64 p0.auto.states), (.int .i64 p0.auto.start), (.list 4 (List.map TEdge.av p0.auto.edges)), (.int .i64 p0.final)])) (.bool c24) true rfl (wT _) rfl noneAlive (fun hG => by have q0 := hG; subst q0; exact Light.quiet (opFieldAddrR rfl fieldA_40_0 rfl rfl)) ?_
    refine ARL.g (v := (.rptr [(.int .i64 p0.auto.states), (.int .i64 p0.auto.start), (.list 4 (List.map TEdge.av p0.auto.edges)), (.int .i64 p0.final)])) (.bool c24) true rfl (wT _) rfl noneAlive (fun hG => by have q0 := hG; subst q0; exact Light.quiet (opFieldAddrR rfl fieldA_38_1 rfl rfl)) ?_
    refine ARL.g (v := (.int .i64 p0.auto.states)) (.bool c24) true rfl (wT _) rfl noneAlive (fun hG => by have q0 := hG; subst q0; exact Light.quiet (opLoadR rfl aggA_3 rfl rfl)) ?_
    refine ARL.g (v := (.int .i64 (impl_only p0.auto.states))) (.bool c24) true rfl (wT _) rfl noneAlive (fun hG => by have q0 := hG; subst q0; exact (qCall rfl rfl call_39 (impl_only_ok p0.auto.states) rfl)) ?_
    refine ARL.g (v := (.bool (decide (p0.final < ((impl_only p0.auto.states)))))) (.bool c24) true rfl (wT _) rfl noneAlive (fun hG => by have q0 := hG; subst q0; exact Light.quiet (opInt rfl rfl rfl rfl)) ?_
    refine ARL.q0 (v := (.bool (c24 && (decide (p0.final < ((impl_only p0.auto.states))))))) rfl rfl (Light.quiet (opPick (b := c24) rfl rfl (by cases c24 <;> rfl))) ?_
    refine ARL.q0 (v := (.bool (c24 && (decide (p0.final < ((impl_only p0.auto.states))))))) rfl rfl (Light.quiet (opAssign rfl rfl)) ?_
    refine ARL.done ?_
    refine AWP.ret ?_
    obtain rfl := someE hF
    exact QRet.sole (v := (.bool (c24 && (decide (p0.final < ((impl_only p0.auto.states))))))) ⟨rfl, trivial⟩ rfl
  · skip
    refine AWP.seqR rfl ?_
    refine ASL.q (v := (.rptr [(.int .i64 p0.auto.letters), (.int .i64 p0.auto.states), (.int .i64 p0.auto.start), (.list 4 (List.map TEdge.av p0.auto.edges)), (.int .i64 p0.final)])) rfl rfl (Light.quiet (opFieldAddrR rfl fieldA_40_0 rfl rfl)) ?_
    refine ASL.q (v := (.rptr [(.list 4 (List.map TEdge.av p0.auto.edges)), (.int .i64 p0.final)])) rfl rfl (Light.quiet (opFieldAddrR rfl fieldA_38_3 rfl rfl)) ?_
    refine ASL.q (v := (.list 4 (List.map TEdge.av p0.auto.edges))) rfl rfl (Light.quiet (opLoadR rfl aggA_36 rfl rfl)) ?_
    refine ASL.q (v := (.int .i64 (p0.auto.edges.length : Int))) rfl rfl (Light.quiet (opLenMap (f := TEdge.av) rfl rfl rfl lenT_36 rfl)) ?_
    refine ASL.q (v := (.int .i64 0)) rfl rfl (Light.quiet (opMove rfl rfl)) ?_
    refine ASL.done ?_
    refine AWP.block ?_
    obtain ⟨o5, hL4, hR6⟩ := bindE hF
    refine AWP.loopF (ω := Unit) hL4 (fun s w => [(1, (.rptr [(.int .i64 p0.auto.letters), (.int .i64 p0.auto.states), (.int .i64 p0.auto.start), (.list 4 (List.map TEdge.av p0.auto.edges)), (.int .i64 p0.final)])), (7, (.list 4 (List.map TEdge.av p0.auto.edges))), (8, (.int .i64 (p0.auto.edges.length : Int))), (9, (.int .i64 s))]) (fun s w => []) () ⟨rfl, rfl, rfl, rfl, trivial⟩ (hS.pick [] rfl rfl) ?_
    rintro x9_l0 _ G7 hS x2 hF hx3
    try dsimp only at hS ⊢
    have hF : impl_NfaOk.b0 p0 x9_l0 = some x2 := hF; unfold impl_NfaOk.b0 at hF
    refine AWP.seqR rfl ?_
    refine ASL.q (v := (.bool (decide (x9_l0 < ((p0.auto.edges.length : Int)))))) rfl rfl (Light.quiet (opInt rfl rfl rfl rfl)) ?_
    refine ASL.done ?_
    refine AWP.seq ?_
    refine AWP.ifP hF rfl (fun hc8 hF => ?_) (fun hc8 hF => ?_)
    · skip
      refine AWP.skip ?_
      refine QThen.nrm ?_
      refine AWP.seq ?_
      refine AWP.block ?_
      refine AWP.seqR rfl ?_
      obtain ⟨a11, ha11, hF⟩ := bindE hF
      refine ASL.q (v := (.rptr [(.int .i64 a11.from_), (.int .i64 a11.letter), (.int .i64 a11.to_), (.bool a11.good)])) rfl rfl (Light.quiet (kIx (f := TEdge.av) ha11 rfl rfl rfl elemA_36 sizeA_79 rfl)) ?_
      refine ASL.q (v := (TEdge.av a11)) rfl rfl (Light.quiet (opLoadRA rfl aggA_79 sizeA_79 rfl (nlt rfl) rfl)) ?_
      refine ASL.x rfl rfl (hNewZ hS [(.int .i64 0), (.int .i64 0), (.int .i64 0), (.bool false)] rfl zeroA_79 ⟨.inl rfl, .inl rfl, .inl rfl, .inl rfl, trivial⟩ ?_); rintro b4 G9 hK hS
      refine ASL.n rfl rfl (hPutA hS (j := 0) rfl rfl sizeA_79 rfl rfl rfl rfl rfl (nlt rfl) ?_); rintro G11 hS
      refine ASL.done ?_
      refine AWP.seqR rfl ?_
      refine ASL.q (v := (.ptr b4 3)) rfl rfl (Light.quiet (opFieldAddr rfl fieldA_79_3 rfl rfl)) ?_
      refine ASL.q (v := (.bool a11.good)) rfl rfl (Light.quiet (kAt hS (j := 0) rfl rfl aggA_4 rfl rfl)) ?_
      refine ASL.done ?_
      refine AWP.ifB hF rfl (fun hc12 hF => ?_) (fun hc12 hF => ?_)
      · skip
        refine AWP.seqR rfl ?_
        refine ASL.q (v := (.bool false)) rfl rfl (Light.quiet (opAssign rfl rfl)) ?_
        refine ASL.done ?_
        refine AWP.ret ?_
        refine QBlock.ret ?_
        refine QThen.rt ?_
        refine QThen.rt ?_
        refine QBlock.ret ?_
        refine QThen.rt ?_
        obtain rfl := (hx3 _ (someE hF).symm)
        have hF := hR6
        have hF := sumR hF
        obtain rfl := someE hF
        exact QRet.sole (v := (.bool false)) ⟨rfl, trivial⟩ rfl
      · skip
        refine AWP.skip ?_
        refine QBlock.nrm ?_
        refine QThen.nrm ?_
        refine AWP.lastR rfl ?_
        refine ASL.q (v := (.int .i64 (W (x9_l0 + 1)))) rfl rfl (Light.quiet (opInt rfl rfl rfl rfl)) ?_
        refine ASL.q (v := (.int .i64 (W (x9_l0 + 1)))) rfl rfl (Light.quiet (opMove rfl rfl)) ?_
        refine ASL.done ?_
        refine QThen.nrm ?_
        exact ⟨(W (x9_l0 + 1)), (), (someE hF).symm, ⟨rfl, rfl, rfl, rfl, trivial⟩, (hS.pick [] rfl rfl)⟩
    · skip
      refine AWP.exit ?_
      refine QThen.ext ?_
      refine QThen.ext ?_
      refine QBlock.hit ?_
      obtain rfl := (hx3 _ (someE hF).symm)
      have hF := hR6
      have hF := sumL hF
      refine QThen.nrm ?_
      exact ⟨⟨rfl, trivial⟩, (hS.pick [] rfl rfl), hF⟩

set_option maxRecDepth 10000 in
theorem impl_ReNfa_ok {p0 : (List TNode)} {p1 : Int} {r : (TNfa × Bool)} (hF : impl_ReNfa p0 p1 = some r) : HS Try.prog 16 [(.list 3 (List.map TNode.av p0)), (.int .i64 p1)] [] fun v L' => ∃ o0_Auto_Edges : AV, v = .tup [(.agg [(.int .i64 r.1.auto.letters), (.int .i64 r.1.auto.states), (.int .i64 r.1.auto.start), o0_Auto_Edges, (.int .i64 r.1.final)]), (.bool r.2)] ∧ L' = [.row 4 o0_Auto_Edges (List.map TEdge.av r.1.auto.edges)] := by
  intro H S hS
  refine HC.enter Try.func16 rfl Try.ntmps16 (by simp) ?_
  simp only [List.cons_append, List.nil_append] at hS
  unfold impl_ReNfa at hF
  refine AWP.seqR rfl ?_
  have hS := hNil (s := 4) (f := TEdge.av) hS
  refine ASL.x rfl rfl (hNewZ hS [(.int .i64 0), (.int .i64 0), (.int .i64 0), .nil, (.int .i64 0)] rfl zeroA_40 ⟨.inl rfl, .inl rfl, .inl rfl, .inl rfl, .inl rfl, trivial⟩ ?_); rintro b4 G1 hK hS
  refine ASL.q (v := (.bool false)) rfl rfl (Light.quiet (opAssign rfl rfl)) ?_
  refine ASL.done ?_
  refine AWP.seq ?_
  refine AWP.seqR rfl ?_
  refine ASL.q (v := (.int .i64 p1)) rfl rfl (Light.quiet (opMove rfl rfl)) ?_
  refine ASL.q (v := (.bool (impl_isLetters p1))) rfl rfl ((qCall rfl rfl call_54 (impl_isLetters_ok p1) rfl)) ?_
  refine ASL.q (v := (.bool (!(impl_isLetters p1)))) rfl rfl (Light.quiet (opNot rfl rfl)) ?_
  obtain ⟨c12, hc12, hF⟩ := bndE hF
  refine ASL.q (v := (.bool c12)) rfl rfl ((Quiet.cast (Light.quiet (opMove rfl rfl)) (congrArg AV.bool hc12.symm))) ?_
  refine ASL.g (v := (.list 3 (List.map TNode.av p0))) (.bool c12) false rfl (wF _) rfl (fun hG => by have q0 := gN hG; subst q0; exact Light.quiet (opMove rfl rfl)) ?_
  obtain ⟨a14, ha14, hF⟩ := bindE hF
  refine ASL.g (v := (.bool a14)) (.bool c12) false rfl (wF _) rfl (fun hG => by have q0 := gN hG; subst q0; exact (qCall rfl rfl call_55 (impl_ReOk_ok (whenE ha14)) rfl)) ?_
  refine ASL.g (v := (.bool (!a14))) (.bool c12) false rfl (wF _) rfl (fun hG => by have q0 := gN hG; subst q0; exact Light.quiet (opNot rfl rfl)) ?_
  refine ASL.q (v := (.bool (c12 || (!a14)))) rfl rfl (Light.quiet (opPick (b := c12) rfl rfl (by cases c12 <;> rfl))) ?_
  refine ASL.done ?_
  refine AWP.ifB hF rfl (fun hc4 hF => ?_) (fun hc4 hF => ?_)
  · skip
    refine AWP.seqR rfl ?_
    refine ASL.q (v := (.agg [(.int .i64 0), (.int .i64 0), (.int .i64 0), .nil, (.int .i64 0)])) rfl rfl (Light.quiet (opBuildZ (zs := [(.int .i64 0), (.int .i64 0), (.int .i64 0), .nil, (.int .i64 0)]) rfl plan_40 zeroA_40 ⟨.inl rfl, .inl rfl, .inl rfl, .inl rfl, .inl rfl, trivial⟩ rfl)) ?_
    have hS := hNil (s := 4) (f := TEdge.av) hS
    refine ASL.n rfl rfl (hPutA hS (j := 1) rfl rfl sizeA_40 rfl rfl rfl rfl (allC rfl (allC rfl (allC rfl (allC (hS.one (k := 0) rfl) (allC rfl rfl))))) (nlt rfl) ?_); rintro G5 hS
    refine ASL.q (v := (.bool false)) rfl rfl (Light.quiet (opAssign rfl rfl)) ?_
    refine ASL.done ?_
    refine AWP.ret ?_
    refine QThen.rt ?_
    obtain rfl := someE hF
    exact QRet.many (vs := [(.agg [(.int .i64 0), (.int .i64 0), (.int .i64 0), .nil, (.int .i64 0)]), (.bool false)]) ⟨resOne.at hS (k := 1) rfl rfl aggA_40 sizeA_40, rfl, trivial⟩ (by simp) ⟨_, ⟨.nil, rfl, rfl⟩, hS.pick [0, 3] rfl rfl⟩
  · skip
    refine AWP.skip ?_
    refine QThen.nrm ?_
    refine AWP.seqM (fun e H => ∃ y7 : Int, ∃ y8 : Int, ∃ y9 : Int, ∃ y10 : (List TEdge), ∃ y13 : Int, ∃ w11 : AV, E.Told e [(0, (.list 3 (List.map TNode.av p0))), (1, (.int .i64 p1)), (4, (.ptr b4 0))] ∧ E.Sep H [.row 4 w11 (List.map TEdge.av y10), .cell b4 [(.int .i64 y7), (.int .i64 y8), (.int .i64 y9), w11, (.int .i64 y13)], .snap S] ∧ impl_ReNfa.k0 p0 p1 y7 y8 y9 y10 y13 = some r) ?_ ?_
    · rintro e0 G25 ⟨y7, y8, y9, y10, y13, w11, hT, hS, hF⟩; refine AWP.only _ hT ?_; unfold impl_ReNfa.k0 at hF
      refine AWP.seqR rfl ?_
      refine ASL.q (v := (.list 3 (List.map TNode.av p0))) rfl rfl (Light.quiet (opMove rfl rfl)) ?_
      refine ASL.q (v := (.int .i64 p1)) rfl rfl (Light.quiet (opMove rfl rfl)) ?_
      obtain ⟨a37, ha37, hF⟩ := bindE hF
      refine ASL.x rfl rfl (hCallSR hS rfl rfl call_56 (impl_nfaOf_ok ha37) ⟨.same _, .same _, trivial⟩ (by rintro _ _ G ⟨w14, rfl, rfl⟩ hG; exact ⟨(Scal.agg (ScalC.cons (by constructor) (ScalC.cons (by constructor) (ScalC.cons (by constructor) (ScalC.cons (hG.scR (k := 0) rfl) (ScalC.cons (by constructor) ScalC.nil)))))), ⟨(Scal.row (fun _ => by simp only [TEdge.av, cells, List.mem_cons, List.not_mem_nil, or_false]; rintro c hc; rcases hc with rfl | rfl | rfl | rfl <;> constructor)), trivial⟩⟩) ?_); rintro _ _ G16 ⟨w14, rfl, rfl⟩ hK hS
      have hS := hNil (s := 4) (f := TEdge.av) hS
      refine ASL.x rfl rfl (hNewZ hS [(.int .i64 0), (.int .i64 0), (.int .i64 0), .nil, (.int .i64 0)] rfl zeroA_40 ⟨.inl rfl, .inl rfl, .inl rfl, .inl rfl, .inl rfl, trivial⟩ ?_); rintro b8 G17 hK hS
      refine ASL.n rfl rfl (hPutA hS (j := 0) rfl rfl sizeA_40 rfl rfl rfl rfl (allC rfl (allC rfl (allC rfl (allC (hS.one (k := 2) rfl) (allC rfl rfl))))) (nlt rfl) ?_); rintro G20 hS
      refine ASL.done ?_
      refine AWP.seq ?_
      refine AWP.seqR rfl ?_
      refine ASL.q (v := (.agg [(.int .i64 a37.auto.letters), (.int .i64 a37.auto.states), (.int .i64 a37.auto.start), w14, (.int .i64 a37.final)])) rfl rfl (Light.quiet (kAtA hS (j := 0) rfl rfl aggA_40 sizeA_40 rfl (nlt rfl) rfl)) ?_
      obtain ⟨a39, ha39, hF⟩ := bindE hF
      refine ASL.q (v := (.bool a39)) rfl rfl ((qCallR hS rfl rfl call_25 (impl_NfaOk_ok ha39) ⟨.aggL ⟨.same _, .same _, .same _, .row (k := 2) rfl, .same _, trivial⟩, trivial⟩ (by constructor))) ?_
      refine ASL.q (v := (.bool (!a39))) rfl rfl (Light.quiet (opNot rfl rfl)) ?_
      refine ASL.done ?_
      refine AWP.ifB hF rfl (fun hc21 hF => ?_) (fun hc21 hF => ?_)
      · skip
        refine AWP.seqR rfl ?_
        refine ASL.q (v := (.agg [(.int .i64 0), (.int .i64 0), (.int .i64 0), .nil, (.int .i64 0)])) rfl rfl (Light.quiet (opBuildZ (zs := [(.int .i64 0), (.int .i64 0), (.int .i64 0), .nil, (.int .i64 0)]) rfl plan_40 zeroA_40 ⟨.inl rfl, .inl rfl, .inl rfl, .inl rfl, .inl rfl, trivial⟩ rfl)) ?_
        have hS := hNil (s := 4) (f := TEdge.av) hS
        refine ASL.n rfl rfl (hPutA hS (j := 5) rfl rfl sizeA_40 rfl rfl rfl rfl (allC rfl (allC rfl (allC rfl (allC (hS.one (k := 0) rfl) (allC rfl rfl))))) (nlt rfl) ?_); rintro G22 hS
        refine ASL.q (v := (.bool false)) rfl rfl (Light.quiet (opAssign rfl rfl)) ?_
        refine ASL.done ?_
        refine AWP.ret ?_
        refine QThen.rt ?_
        obtain rfl := someE hF
        exact QRet.many (vs := [(.agg [(.int .i64 0), (.int .i64 0), (.int .i64 0), .nil, (.int .i64 0)]), (.bool false)]) ⟨resOne.at hS (k := 5) rfl rfl aggA_40 sizeA_40, rfl, trivial⟩ (by simp) ⟨_, ⟨.nil, rfl, rfl⟩, hS.pick [0, 6] rfl rfl⟩
      · skip
        refine AWP.skip ?_
        refine QThen.nrm ?_
        refine AWP.seqR rfl ?_
        refine ASL.q (v := (.agg [(.int .i64 a37.auto.letters), (.int .i64 a37.auto.states), (.int .i64 a37.auto.start), w14, (.int .i64 a37.final)])) rfl rfl (Light.quiet (kAtA hS (j := 0) rfl rfl aggA_40 sizeA_40 rfl (nlt rfl) rfl)) ?_
        refine ASL.n rfl rfl (hPutA hS (j := 4) rfl rfl sizeA_40 rfl rfl rfl rfl (allC rfl (allC rfl (allC rfl (allC (hS.one (k := 2) rfl) (allC rfl rfl))))) (nlt rfl) ?_); rintro G24 hS
        refine ASL.q (v := (.bool true)) rfl rfl (Light.quiet (opAssign rfl rfl)) ?_
        refine ASL.done ?_
        refine AWP.ret ?_
        obtain rfl := someE hF
        exact QRet.many (vs := [(.agg [(.int .i64 a37.auto.letters), (.int .i64 a37.auto.states), (.int .i64 a37.auto.start), w14, (.int .i64 a37.final)]), (.bool true)]) ⟨resOne.at hS (k := 4) rfl rfl aggA_40 sizeA_40, rfl, trivial⟩ (by simp) ⟨_, ⟨w14, rfl, rfl⟩, hS.pick [2, 5] rfl rfl⟩
    · skip
      refine AWP.seqR rfl ?_
      refine ASL.q (v := (.list 3 (List.map TNode.av p0))) rfl rfl (Light.quiet (opMove rfl rfl)) ?_
      refine ASL.q (v := (.int .i64 (p0.length : Int))) rfl rfl (Light.quiet (opLenMap (f := TNode.av) rfl rfl rfl lenT_29 rfl)) ?_
      refine ASL.q (v := (.int .i64 0)) rfl rfl (Light.quiet (opMove rfl rfl)) ?_
      refine ASL.done ?_
      refine AWP.block ?_
      obtain ⟨o36, hL35, hR37⟩ := bindE hF
      refine AWP.loopF (ω := AV) hL35 (fun s w => [(0, (.list 3 (List.map TNode.av p0))), (1, (.int .i64 p1)), (4, (.ptr b4 0)), (18, (.list 3 (List.map TNode.av p0))), (19, (.int .i64 (p0.length : Int))), (20, (.int .i64 s.2.2.2.2.2))]) (fun s w => [.row 4 w (List.map TEdge.av s.2.2.2.1), .cell b4 [(.int .i64 s.1), (.int .i64 s.2.1), (.int .i64 s.2.2.1), w, (.int .i64 s.2.2.2.2.1)], .snap S]) .nil ⟨rfl, rfl, rfl, rfl, rfl, rfl, trivial⟩ (hS.pick [1, 0, 2] rfl rfl) ?_
      rintro ⟨y26, y27, y28, y29, y32, x20_l0⟩ w30 G38 hS x33 hF hx34
      try dsimp only at hS ⊢
      have hF : impl_ReNfa.b0 p0 p1 y26 y27 y28 y29 y32 x20_l0 = some x33 := hF; unfold impl_ReNfa.b0 at hF
      refine AWP.seqR rfl ?_
      refine ASL.q (v := (.bool (decide (x20_l0 < ((p0.length : Int)))))) rfl rfl (Light.quiet (opInt rfl rfl rfl rfl)) ?_
      refine ASL.done ?_
      refine AWP.seq ?_
      refine AWP.ifP hF rfl (fun hc39 hF => ?_) (fun hc39 hF => ?_)
      · skip
        refine AWP.skip ?_
        refine QThen.nrm ?_
        refine AWP.seq ?_
        refine AWP.block ?_
        refine AWP.seqR rfl ?_
        obtain ⟨a22, ha22, hF⟩ := bindE hF
        refine ASL.q (v := (.rptr [(.int .i64 a22.kind), (.int .i64 a22.a), (.int .i64 a22.b)])) rfl rfl (Light.quiet (kIx (f := TNode.av) ha22 rfl rfl rfl elemA_29 sizeA_65 rfl)) ?_
        refine ASL.q (v := (TNode.av a22)) rfl rfl (Light.quiet (opLoadRA rfl aggA_65 sizeA_65 rfl (nlt rfl) rfl)) ?_
        refine ASL.x rfl rfl (hNewZ hS [(.int .i64 0), (.int .i64 0), (.int .i64 0)] rfl zeroA_65 ⟨.inl rfl, .inl rfl, .inl rfl, trivial⟩ ?_); rintro b7 G40 hK hS
        refine ASL.n rfl rfl (hPutA hS (j := 0) rfl rfl sizeA_65 rfl rfl rfl rfl rfl (nlt rfl) ?_); rintro G42 hS
        refine ASL.done ?_
        refine AWP.seqR rfl ?_
        refine ASL.q (v := (.ptr b7 0)) rfl rfl (Light.quiet (opFieldAddr rfl fieldA_65_0 rfl rfl)) ?_
        refine ASL.q (v := (.int .i64 a22.kind)) rfl rfl (Light.quiet (kAt hS (j := 0) rfl rfl aggA_3 rfl rfl)) ?_
        refine ASL.q (v := (.bool (decide (a22.kind = 3)))) rfl rfl (Light.quiet (opInt rfl rfl rfl rfl)) ?_
        obtain ⟨c27, hc27, hF⟩ := bndE hF
        refine ASL.q (v := (.bool c27)) rfl rfl ((Quiet.cast (Light.quiet (opMove rfl rfl)) (congrArg AV.bool hc27.symm))) ?_
        refine ASL.g (v := (.ptr b7 1)) (.bool c27) true rfl (wT _) rfl (fun hG => by have q0 := hG; subst q0; exact Light.quiet (opFieldAddr rfl fieldA_65_1 rfl rfl)) ?_
        refine ASL.g (v := (.int .i64 a22.a)) (.bool c27) true rfl (wT _) rfl (fun hG => by have q0 := hG; subst q0; exact Light.quiet (kAt hS (j := 0) rfl rfl aggA_3 rfl rfl)) ?_
        refine ASL.g (v := (.int .i64 p1)) (.bool c27) true rfl (wT _) rfl (fun hG => by have q0 := hG; subst q0; exact Light.quiet (opMove rfl rfl)) ?_
        refine ASL.g (v := (.bool (decide (a22.a ≥ p1)))) (.bool c27) true rfl (wT _) rfl (fun hG => by have q0 := hG; subst q0; exact Light.quiet (opInt rfl rfl rfl rfl)) ?_
        refine ASL.q (v := (.bool (c27 && (decide (a22.a ≥ p1))))) rfl rfl (Light.quiet (opPick (b := c27) rfl rfl (by cases c27 <;> rfl))) ?_
        refine ASL.done ?_
        refine AWP.ifB hF rfl (fun hc43 hF => ?_) (fun hc43 hF => ?_)
        · skip
          refine AWP.seqR rfl ?_
          refine ASL.q (v := (.agg [(.int .i64 0), (.int .i64 0), (.int .i64 0), .nil, (.int .i64 0)])) rfl rfl (Light.quiet (opBuildZ (zs := [(.int .i64 0), (.int .i64 0), (.int .i64 0), .nil, (.int .i64 0)]) rfl plan_40 zeroA_40 ⟨.inl rfl, .inl rfl, .inl rfl, .inl rfl, .inl rfl, trivial⟩ rfl)) ?_
          have hS := hNil (s := 4) (f := TEdge.av) hS
          refine ASL.n rfl rfl (hPutA hS (j := 3) rfl rfl sizeA_40 rfl rfl rfl rfl (allC rfl (allC rfl (allC rfl (allC (hS.one (k := 0) rfl) (allC rfl rfl))))) (nlt rfl) ?_); rintro G44 hS
          refine ASL.q (v := (.bool false)) rfl rfl (Light.quiet (opAssign rfl rfl)) ?_
          refine ASL.done ?_
          refine AWP.ret ?_
          refine QBlock.ret ?_
          refine QThen.rt ?_
          refine QThen.rt ?_
          refine QBlock.ret ?_
          refine QThen.rt ?_
          obtain rfl := (hx34 _ (someE hF).symm)
          have hF := hR37
          have hF := sumR hF
          obtain rfl := someE hF
          exact QRet.many (vs := [(.agg [(.int .i64 0), (.int .i64 0), (.int .i64 0), .nil, (.int .i64 0)]), (.bool false)]) ⟨resOne.at hS (k := 3) rfl rfl aggA_40 sizeA_40, rfl, trivial⟩ (by simp) ⟨_, ⟨.nil, rfl, rfl⟩, hS.pick [0, 4] rfl rfl⟩
        · skip
          refine AWP.skip ?_
          refine QBlock.nrm ?_
          refine QThen.nrm ?_
          refine AWP.lastR rfl ?_
          refine ASL.q (v := (.int .i64 (W (x20_l0 + 1)))) rfl rfl (Light.quiet (opInt rfl rfl rfl rfl)) ?_
          refine ASL.q (v := (.int .i64 (W (x20_l0 + 1)))) rfl rfl (Light.quiet (opMove rfl rfl)) ?_
          refine ASL.done ?_
          refine QThen.nrm ?_
          exact ⟨(y26, y27, y28, y29, y32, (W (x20_l0 + 1))), w30, (someE hF).symm, ⟨rfl, rfl, rfl, rfl, rfl, rfl, trivial⟩, (hS.pick [1, 2, 3] rfl rfl)⟩
      · skip
        refine AWP.exit ?_
        refine QThen.ext ?_
        refine QThen.ext ?_
        refine QBlock.hit ?_
        obtain rfl := (hx34 _ (someE hF).symm)
        have hF := hR37
        have hF := sumL hF
        refine QThen.nrm ?_
        exact ⟨y26, y27, y28, y29, y32, w30, ⟨rfl, rfl, rfl, trivial⟩, (hS.pick [0, 1, 2] rfl rfl), hF⟩

set_option maxRecDepth 10000 in
theorem spec_l1Bit_ok {p0 : Int} {r : Int} (hF : spec_l1Bit p0 = some r) : PC Try.prog 75 [(.int .i64 p0)] fun v => v = (.int .i64 r) := by
  refine PC.enter Try.func75 rfl Try.ntmps75 (by simp) ?_
  have hS := Sep.void; unfold spec_l1Bit at hF
  refine AWP.seqR rfl ?_
  refine ASL.q (v := (.int .i64 0)) rfl rfl (Light.quiet (opAssign rfl rfl)) ?_
  refine ASL.done ?_
  refine AWP.seqR rfl ?_
  refine ASL.q (v := (.int .i64 p0)) rfl rfl (Light.quiet (opMove rfl rfl)) ?_
  refine ASL.q (v := (.int .i64 (bAnd .i64 p0 31))) rfl rfl (Light.quiet (opInt rfl rfl rfl rfl)) ?_
  obtain ⟨u1, hu1, hF⟩ := bindE hF
  refine ASL.q (v := (.int .i64 (shl .i64 1 ((bAnd .i64 p0 31))))) rfl rfl (Light.quiet (opShl rfl rfl rfl (of_decide_eq_true (chkE hu1)) rfl)) ?_
  refine ASL.q (v := (.int .i64 (shl .i64 1 ((bAnd .i64 p0 31))))) rfl rfl (Light.quiet (opAssign rfl rfl)) ?_
  refine ASL.done ?_
  refine AWP.ret ?_
  obtain rfl := someE hF
  exact QRet.sole (v := (.int .i64 (shl .i64 1 ((bAnd .i64 p0 31))))) ⟨rfl, trivial⟩ rfl

set_option maxRecDepth 10000 in
theorem spec_l11Null.body_ok {p0 : (List TNode)} {p1 : Int} {r : Bool} {rec_spec_l11Null : (List TNode) → Int → Option Bool} (ih_spec_l11Null : ∀ {p0 : (List TNode)} {p1 : Int} {r : Bool} , rec_spec_l11Null p0 p1 = some r → PC Try.prog 89 [(.list 3 (List.map TNode.av p0)), (.int .i64 p1)] fun v => v = (.bool r)) (hF : spec_l11Null.body rec_spec_l11Null p0 p1 = some r) : PC Try.prog 89 [(.list 3 (List.map TNode.av p0)), (.int .i64 p1)] fun v => v = (.bool r) := by
  refine PC.enter Try.func89 rfl Try.ntmps89 (by simp) ?_
  have hS := Sep.void; unfold spec_l11Null.body at hF
  refine AWP.seqR rfl ?_
  refine ASL.q (v := (.bool false)) rfl rfl (Light.quiet (opAssign rfl rfl)) ?_
  refine ASL.done ?_
  refine AWP.seqR rfl ?_
  refine ASL.q (v := (.list 3 (List.map TNode.av p0))) rfl rfl (Light.quiet (opMove rfl rfl)) ?_
  refine ASL.q (v := (.int .i64 p1)) rfl rfl (Light.quiet (opMove rfl rfl)) ?_
  obtain ⟨a8, ha8, hF⟩ := bindE hF
  refine ASL.q (v := (.rptr [(.int .i64 a8.kind), (.int .i64 a8.a), (.int .i64 a8.b)])) rfl rfl (Light.quiet (kIx (f := TNode.av) ha8 rfl rfl rfl elemA_29 sizeA_65 rfl)) ?_
  refine ASL.q (v := (TNode.av a8)) rfl rfl (Light.quiet (opLoadRA rfl aggA_65 sizeA_65 rfl (nlt rfl) rfl)) ?_
  refine ASL.x rfl rfl (hNewZ hS [(.int .i64 0), (.int .i64 0), (.int .i64 0)] rfl zeroA_65 ⟨.inl rfl, .inl rfl, .inl rfl, trivial⟩ ?_); rintro b5 G1 hK hS
  refine ASL.n rfl rfl (hPutA hS (j := 0) rfl rfl sizeA_65 rfl rfl rfl rfl rfl (nlt rfl) ?_); rintro G3 hS
  refine ASL.done ?_
  refine AWP.seq ?_
  refine AWP.seqR rfl ?_
  refine ASL.q (v := (.ptr b5 0)) rfl rfl (Light.quiet (opFieldAddr rfl fieldA_65_0 rfl rfl)) ?_
  refine ASL.q (v := (.int .i64 a8.kind)) rfl rfl (Light.quiet (kAt hS (j := 0) rfl rfl aggA_3 rfl rfl)) ?_
  refine ASL.done ?_
  refine AWP.block ?_
  refine AWP.seqM (fun e H => ∃ x12_1 : Bool, E.Told e [(0, (.list 3 (List.map TNode.av p0))), (5, (.ptr b5 0)), (11, (.int .i64 a8.kind)), (12, (.bool x12_1))] ∧ E.Sep H [.cell b5 [(.int .i64 a8.kind), (.int .i64 a8.a), (.int .i64 a8.b)]] ∧ spec_l11Null.k0 a8 rec_spec_l11Null p0 x12_1 = some r) ?_ ?_
  · rintro e0 G7 ⟨x12_1, hT, hS, hF⟩; refine AWP.only _ hT ?_; unfold spec_l11Null.k0 at hF
    refine AWP.ifB hF rfl (fun hc4 hF => ?_) (fun hc4 hF => ?_)
    · skip
      refine AWP.seqR rfl ?_
      refine ASL.q (v := (.bool true)) rfl rfl (Light.quiet (opAssign rfl rfl)) ?_
      refine ASL.done ?_
      refine AWP.ret ?_
      refine QBlock.ret ?_
      refine QThen.rt ?_
      obtain rfl := someE hF
      exact QRet.sole (v := (.bool true)) ⟨rfl, trivial⟩ rfl
    · skip
      refine AWP.seqR rfl ?_
      refine ASL.q (v := (.bool (decide (a8.kind = 5)))) rfl rfl (Light.quiet (opInt rfl rfl rfl rfl)) ?_
      refine ASL.q (v := (.bool (decide (a8.kind = 5)))) rfl rfl (Light.quiet (opAssign rfl rfl)) ?_
      refine ASL.done ?_
      refine AWP.ifP hF rfl (fun hc5 hF => ?_) (fun hc5 hF => ?_)
      · skip
        refine AWP.seqR rfl ?_
        refine ASL.q (v := (.list 3 (List.map TNode.av p0))) rfl rfl (Light.quiet (opMove rfl rfl)) ?_
        refine ASL.q (v := (.ptr b5 1)) rfl rfl (Light.quiet (opFieldAddr rfl fieldA_65_1 rfl rfl)) ?_
        refine ASL.q (v := (.int .i64 a8.a)) rfl rfl (Light.quiet (kAt hS (j := 0) rfl rfl aggA_3 rfl rfl)) ?_
        obtain ⟨a20, ha20, hF⟩ := bindE hF
        refine ASL.q (v := (.bool a20)) rfl rfl ((qCall rfl rfl call_89 (ih_spec_l11Null ha20) rfl)) ?_
        refine ASL.q (v := (.bool a20)) rfl rfl (Light.quiet (opMove rfl rfl)) ?_
        refine ASL.g (v := (.list 3 (List.map TNode.av p0))) (.bool a20) true rfl (wT _) rfl (fun hG => by have q0 := hG; subst q0; exact Light.quiet (opMove rfl rfl)) ?_
        refine ASL.g (v := (.ptr b5 2)) (.bool a20) true rfl (wT _) rfl (fun hG => by have q0 := hG; subst q0; exact Light.quiet (opFieldAddr rfl fieldA_65_2 rfl rfl)) ?_
        refine ASL.g (v := (.int .i64 a8.b)) (.bool a20) true rfl (wT _) rfl (fun hG => by have q0 := hG; subst q0; exact Light.quiet (kAt hS (j := 0) rfl rfl aggA_3 rfl rfl)) ?_
        obtain ⟨a25, ha25, hF⟩ := bindE hF
        refine ASL.g (v := (.bool a25)) (.bool a20) true rfl (wT _) rfl (fun hG => by have q0 := hG; subst q0; exact (qCall rfl rfl call_89 (ih_spec_l11Null (whenE ha25)) rfl)) ?_
        refine ASL.q (v := (.bool (a20 && a25))) rfl rfl (Light.quiet (opPick (b := a20) rfl rfl (by cases a20 <;> rfl))) ?_
        refine ASL.q (v := (.bool (a20 && a25))) rfl rfl (Light.quiet (opAssign rfl rfl)) ?_
        refine ASL.done ?_
        refine AWP.ret ?_
        refine QBlock.ret ?_
        refine QThen.rt ?_
        obtain rfl := someE hF
        exact QRet.sole (v := (.bool (a20 && a25))) ⟨rfl, trivial⟩ rfl
      · skip
        refine AWP.seqR rfl ?_
        refine ASL.q (v := (.bool (decide (a8.kind = 6)))) rfl rfl (Light.quiet (opInt rfl rfl rfl rfl)) ?_
        refine ASL.q (v := (.bool (decide (a8.kind = 6)))) rfl rfl (Light.quiet (opAssign rfl rfl)) ?_
        refine ASL.done ?_
        refine AWP.ifP hF rfl (fun hc6 hF => ?_) (fun hc6 hF => ?_)
        · skip
          refine AWP.seqR rfl ?_
          refine ASL.q (v := (.list 3 (List.map TNode.av p0))) rfl rfl (Light.quiet (opMove rfl rfl)) ?_
          refine ASL.q (v := (.ptr b5 1)) rfl rfl (Light.quiet (opFieldAddr rfl fieldA_65_1 rfl rfl)) ?_
          refine ASL.q (v := (.int .i64 a8.a)) rfl rfl (Light.quiet (kAt hS (j := 0) rfl rfl aggA_3 rfl rfl)) ?_
          obtain ⟨a32, ha32, hF⟩ := bindE hF
          refine ASL.q (v := (.bool a32)) rfl rfl ((qCall rfl rfl call_89 (ih_spec_l11Null ha32) rfl)) ?_
          refine ASL.q (v := (.bool a32)) rfl rfl (Light.quiet (opMove rfl rfl)) ?_
          refine ASL.g (v := (.list 3 (List.map TNode.av p0))) (.bool a32) false rfl (wF _) rfl (fun hG => by have q0 := gN hG; subst q0; exact Light.quiet (opMove rfl rfl)) ?_
          refine ASL.g (v := (.ptr b5 2)) (.bool a32) false rfl (wF _) rfl (fun hG => by have q0 := gN hG; subst q0; exact Light.quiet (opFieldAddr rfl fieldA_65_2 rfl rfl)) ?_
          refine ASL.g (v := (.int .i64 a8.b)) (.bool a32) false rfl (wF _) rfl (fun hG => by have q0 := gN hG; subst q0; exact Light.quiet (kAt hS (j := 0) rfl rfl aggA_3 rfl rfl)) ?_
          obtain ⟨a37, ha37, hF⟩ := bindE hF
          refine ASL.g (v := (.bool a37)) (.bool a32) false rfl (wF _) rfl (fun hG => by have q0 := gN hG; subst q0; exact (qCall rfl rfl call_89 (ih_spec_l11Null (whenE ha37)) rfl)) ?_
          refine ASL.q (v := (.bool (a32 || a37))) rfl rfl (Light.quiet (opPick (b := a32) rfl rfl (by cases a32 <;> rfl))) ?_
          refine ASL.q (v := (.bool (a32 || a37))) rfl rfl (Light.quiet (opAssign rfl rfl)) ?_
          refine ASL.done ?_
          refine AWP.ret ?_
          refine QBlock.ret ?_
          refine QThen.rt ?_
          obtain rfl := someE hF
          exact QRet.sole (v := (.bool (a32 || a37))) ⟨rfl, trivial⟩ rfl
        · skip
          refine AWP.skip ?_
          refine QBlock.nrm ?_
          refine QThen.nrm ?_
          refine AWP.seqR rfl ?_
          refine ASL.q (v := (.bool false)) rfl rfl (Light.quiet (opAssign rfl rfl)) ?_
          refine ASL.done ?_
          refine AWP.ret ?_
          obtain rfl := someE hF
          exact QRet.sole (v := (.bool false)) ⟨rfl, trivial⟩ rfl
  · skip
    refine AWP.seqR rfl ?_
    refine ASL.q (v := (.bool (decide (a8.kind = 2)))) rfl rfl (Light.quiet (opInt rfl rfl rfl rfl)) ?_
    refine ASL.q (v := (.bool (decide (a8.kind = 2)))) rfl rfl (Light.quiet (opAssign rfl rfl)) ?_
    refine ASL.done ?_
    refine AWP.ifP hF rfl (fun hc8 hF => ?_) (fun hc8 hF => ?_)
    · skip
      refine AWP.skip ?_
      refine QThen.nrm ?_
      exact ⟨(decide (a8.kind = 2)), ⟨rfl, rfl, rfl, rfl, trivial⟩, (hS.pick [0] rfl rfl), hF⟩
    · skip
      refine AWP.lastR rfl ?_
      refine ASL.q (v := (.bool (decide (a8.kind = 4)))) rfl rfl (Light.quiet (opInt rfl rfl rfl rfl)) ?_
      refine ASL.q (v := (.bool (decide (a8.kind = 4)))) rfl rfl (Light.quiet (opAssign rfl rfl)) ?_
      refine ASL.done ?_
      refine QThen.nrm ?_
      exact ⟨(decide (a8.kind = 4)), ⟨rfl, rfl, rfl, rfl, trivial⟩, (hS.pick [0] rfl rfl), hF⟩
theorem spec_l11Null_ok {K : Nat} : ∀ {p0 : (List TNode)} {p1 : Int} {r : Bool} , spec_l11Null K p0 p1 = some r → PC Try.prog 89 [(.list 3 (List.map TNode.av p0)), (.int .i64 p1)] fun v => v = (.bool r) := by
  induction K with
  | zero => intros; rename_i h; cases h
  | succ K ih => intros; rename_i h; exact spec_l11Null.body_ok ih h

set_option maxRecDepth 10000 in
theorem spec_l11Edge.body_ok {K : Nat} {p0 : (List TNode)} {p1 : Int} {p2 : (List Int)} {p3 : Bool} {r : Int} {rec_spec_l11Edge : (List TNode) → Int → (List Int) → Bool → Option Int} (ih_spec_l11Edge : ∀ {p0 : (List TNode)} {p1 : Int} {p2 : (List Int)} {p3 : Bool} {r : Int} , rec_spec_l11Edge p0 p1 p2 p3 = some r → PC Try.prog 50 [(.list 3 (List.map TNode.av p0)), (.int .i64 p1), (.list 1 (List.map (AV.int .i64) p2)), (.bool p3)] fun v => v = (.int .i64 r)) (hF : spec_l11Edge.body K rec_spec_l11Edge p0 p1 p2 p3 = some r) : PC Try.prog 50 [(.list 3 (List.map TNode.av p0)), (.int .i64 p1), (.list 1 (List.map (AV.int .i64) p2)), (.bool p3)] fun v => v = (.int .i64 r) := by
  refine PC.enter Try.func50 rfl Try.ntmps50 (by simp) ?_
  have hS := Sep.void; unfold spec_l11Edge.body at hF
  refine AWP.seqR rfl ?_
  refine ASL.q (v := (.int .i64 0)) rfl rfl (Light.quiet (opAssign rfl rfl)) ?_
  refine ASL.done ?_
  refine AWP.seqR rfl ?_
  refine ASL.q (v := (.list 3 (List.map TNode.av p0))) rfl rfl (Light.quiet (opMove rfl rfl)) ?_
  refine ASL.q (v := (.int .i64 p1)) rfl rfl (Light.quiet (opMove rfl rfl)) ?_
  obtain ⟨a15, ha15, hF⟩ := bindE hF
  refine ASL.q (v := (.rptr [(.int .i64 a15.kind), (.int .i64 a15.a), (.int .i64 a15.b)])) rfl rfl (Light.quiet (kIx (f := TNode.av) ha15 rfl rfl rfl elemA_29 sizeA_65 rfl)) ?_
  refine ASL.q (v := (TNode.av a15)) rfl rfl (Light.quiet (opLoadRA rfl aggA_65 sizeA_65 rfl (nlt rfl) rfl)) ?_
  refine ASL.x rfl rfl (hNewZ hS [(.int .i64 0), (.int .i64 0), (.int .i64 0)] rfl zeroA_65 ⟨.inl rfl, .inl rfl, .inl rfl, trivial⟩ ?_); rintro b9 G1 hK hS
  refine ASL.n rfl rfl (hPutA hS (j := 0) rfl rfl sizeA_65 rfl rfl rfl rfl rfl (nlt rfl) ?_); rintro G3 hS
  refine ASL.done ?_
  refine AWP.seqD [(0, false), (1, false), (2, false), (3, false), (4, false), (5, false)] mixed (by kernel_rfl) rfl ?_
  refine ARL.q0 (v := (.ptr b9 1)) rfl rfl (Light.quiet (opFieldAddr rfl fieldA_65_1 rfl rfl)) ?_
  refine ARL.q (v := (.int .i64 a15.a)) rfl rfl (hS.aliveC (k := 0) rfl) (Light.quiet (kAt hS (j := 0) rfl rfl aggA_3 rfl rfl)) ?_
  refine ARL.q0 (v := (.ptr b9 2)) rfl rfl (Light.quiet (opFieldAddr rfl fieldA_65_2 rfl rfl)) ?_
  refine ARL.q (v := (.int .i64 a15.b)) rfl rfl (hS.aliveC (k := 0) rfl) (Light.quiet (kAt hS (j := 0) rfl rfl aggA_3 rfl rfl)) ?_
  refine ARL.q0 (v := (.int .i64 a15.a)) rfl rfl (Light.quiet (opAssign rfl rfl)) ?_
  refine ARL.q0 (v := (.int .i64 a15.b)) rfl rfl (Light.quiet (opAssign rfl rfl)) ?_
  refine ARL.done ?_
  refine AWP.seqM (fun e H => ∃ x10_1 : Int, ∃ x11_1 : Int, E.Told e [(0, (.list 3 (List.map TNode.av p0))), (1, (.int .i64 p1)), (2, (.list 1 (List.map (AV.int .i64) p2))), (3, (.bool p3)), (9, (.ptr b9 0)), (10, (.int .i64 x10_1)), (11, (.int .i64 x11_1))] ∧ E.Sep H [.cell b9 [(.int .i64 a15.kind), (.int .i64 a15.a), (.int .i64 a15.b)]] ∧ spec_l11Edge.k0 a15 p2 p1 rec_spec_l11Edge p0 p3 K x10_1 x11_1 = some r) ?_ ?_
  · rintro e0 G9 ⟨x10_1, x11_1, hT, hS, hF⟩; refine AWP.only _ hT ?_; unfold spec_l11Edge.k0 at hF
    refine AWP.seq ?_
    refine AWP.seqR rfl ?_
    refine ASL.q (v := (.ptr b9 0)) rfl rfl (Light.quiet (opFieldAddr rfl fieldA_65_0 rfl rfl)) ?_
    refine ASL.q (v := (.int .i64 a15.kind)) rfl rfl (Light.quiet (kAt hS (j := 0) rfl rfl aggA_3 rfl rfl)) ?_
    refine ASL.done ?_
    refine AWP.block ?_
    refine AWP.seqR rfl ?_
    refine ASL.q (v := (.bool (decide (a15.kind = 3)))) rfl rfl (Light.quiet (opInt rfl rfl rfl rfl)) ?_
    refine ASL.q (v := (.bool (decide (a15.kind = 3)))) rfl rfl (Light.quiet (opAssign rfl rfl)) ?_
    refine ASL.done ?_
    refine AWP.ifP hF rfl (fun hc4 hF => ?_) (fun hc4 hF => ?_)
    · skip
      refine AWP.seqR rfl ?_
      refine ASL.q (v := (.list 1 (List.map (AV.int .i64) p2))) rfl rfl (Light.quiet (opMove rfl rfl)) ?_
      refine ASL.q (v := (.int .i64 p1)) rfl rfl (Light.quiet (opMove rfl rfl)) ?_
      obtain ⟨a33, ha33, hF⟩ := bindE hF
      refine ASL.q (v := (.rptr [(.int .i64 a33)])) rfl rfl (Light.quiet (kIx (f := (AV.int .i64)) ha33 rfl rfl rfl elemA_47 sizeA_3 rfl)) ?_
      refine ASL.q (v := (.int .i64 a33)) rfl rfl (Light.quiet (opLoadR rfl aggA_3 rfl rfl)) ?_
      obtain ⟨a35, ha35, hF⟩ := bindE hF
      refine ASL.q (v := (.int .i64 a35)) rfl rfl ((qCall rfl rfl call_75 (spec_l1Bit_ok ha35) rfl)) ?_
      refine ASL.q (v := (.int .i64 a35)) rfl rfl (Light.quiet (opAssign rfl rfl)) ?_
      refine ASL.done ?_
      refine AWP.ret ?_
      refine QBlock.ret ?_
      refine QThen.rt ?_
      obtain rfl := someE hF
      exact QRet.sole (v := (.int .i64 a35)) ⟨rfl, trivial⟩ rfl
    · skip
      refine AWP.seqR rfl ?_
      refine ASL.q (v := (.bool (decide (a15.kind = 4)))) rfl rfl (Light.quiet (opInt rfl rfl rfl rfl)) ?_
      refine ASL.q (v := (.bool (decide (a15.kind = 4)))) rfl rfl (Light.quiet (opAssign rfl rfl)) ?_
      refine ASL.done ?_
      refine AWP.ifP hF rfl (fun hc5 hF => ?_) (fun hc5 hF => ?_)
      · skip
        refine AWP.seqR rfl ?_
        refine ASL.q (v := (.list 3 (List.map TNode.av p0))) rfl rfl (Light.quiet (opMove rfl rfl)) ?_
        refine ASL.q (v := (.ptr b9 1)) rfl rfl (Light.quiet (opFieldAddr rfl fieldA_65_1 rfl rfl)) ?_
        refine ASL.q (v := (.int .i64 a15.a)) rfl rfl (Light.quiet (kAt hS (j := 0) rfl rfl aggA_3 rfl rfl)) ?_
        refine ASL.q (v := (.list 1 (List.map (AV.int .i64) p2))) rfl rfl (Light.quiet (opMove rfl rfl)) ?_
        refine ASL.q (v := (.bool p3)) rfl rfl (Light.quiet (opMove rfl rfl)) ?_
        obtain ⟨a43, ha43, hF⟩ := bindE hF
        refine ASL.q (v := (.int .i64 a43)) rfl rfl ((qCall rfl rfl call_50 (ih_spec_l11Edge ha43) rfl)) ?_
        refine ASL.q (v := (.int .i64 a43)) rfl rfl (Light.quiet (opAssign rfl rfl)) ?_
        refine ASL.done ?_
        refine AWP.ret ?_
        refine QBlock.ret ?_
        refine QThen.rt ?_
        obtain rfl := someE hF
        exact QRet.sole (v := (.int .i64 a43)) ⟨rfl, trivial⟩ rfl
      · skip
        refine AWP.seqR rfl ?_
        refine ASL.q (v := (.bool (decide (a15.kind = 6)))) rfl rfl (Light.quiet (opInt rfl rfl rfl rfl)) ?_
        refine ASL.q (v := (.bool (decide (a15.kind = 6)))) rfl rfl (Light.quiet (opAssign rfl rfl)) ?_
        refine ASL.done ?_
        refine AWP.ifP hF rfl (fun hc6 hF => ?_) (fun hc6 hF => ?_)
        · skip
          refine AWP.seqD [(0, false), (1, false), (2, false), (3, false), (4, false), (5, false), (6, false), (7, false), (8, false), (9, false), (10, false), (11, false), (12, false), (13, false)] mixed (by kernel_rfl) rfl ?_
          refine ARL.q0 (v := (.list 3 (List.map TNode.av p0))) rfl rfl (Light.quiet (opMove rfl rfl)) ?_
          refine ARL.q0 (v := (.ptr b9 1)) rfl rfl (Light.quiet (opFieldAddr rfl fieldA_65_1 rfl rfl)) ?_
          refine ARL.q (v := (.int .i64 a15.a)) rfl rfl (hS.aliveC (k := 0) rfl) (Light.quiet (kAt hS (j := 0) rfl rfl aggA_3 rfl rfl)) ?_
          refine ARL.q0 (v := (.list 1 (List.map (AV.int .i64) p2))) rfl rfl (Light.quiet (opMove rfl rfl)) ?_
          refine ARL.q0 (v := (.bool p3)) rfl rfl (Light.quiet (opMove rfl rfl)) ?_
          obtain ⟨a51, ha51, hF⟩ := bindE hF
          refine ARL.q0 (v := (.int .i64 a51)) rfl rfl ((qCall rfl rfl call_50 (ih_spec_l11Edge ha51) rfl)) ?_
          refine ARL.q0 (v := (.list 3 (List.map TNode.av p0))) rfl rfl (Light.quiet (opMove rfl rfl)) ?_
          refine ARL.q0 (v := (.ptr b9 2)) rfl rfl (Light.quiet (opFieldAddr rfl fieldA_65_2 rfl rfl)) ?_
          refine ARL.q (v := (.int .i64 a15.b)) rfl rfl (hS.aliveC (k := 0) rfl) (Light.quiet (kAt hS (j := 0) rfl rfl aggA_3 rfl rfl)) ?_
          refine ARL.q0 (v := (.list 1 (List.map (AV.int .i64) p2))) rfl rfl (Light.quiet (opMove rfl rfl)) ?_
          refine ARL.q0 (v := (.bool p3)) rfl rfl (Light.quiet (opMove rfl rfl)) ?_
          obtain ⟨a57, ha57, hF⟩ := bindE hF
          refine ARL.q0 (v := (.int .i64 a57)) rfl rfl ((qCall rfl rfl call_50 (ih_spec_l11Edge ha57) rfl)) ?_
          refine ARL.q0 (v := (.int .i64 (bOr .i64 a51 a57))) rfl rfl (Light.quiet (opInt rfl rfl rfl rfl)) ?_
          refine ARL.q0 (v := (.int .i64 (bOr .i64 a51 a57))) rfl rfl (Light.quiet (opAssign rfl rfl)) ?_
          refine ARL.done ?_
          refine AWP.ret ?_
          refine QBlock.ret ?_
          refine QThen.rt ?_
          obtain rfl := someE hF
          exact QRet.sole (v := (.int .i64 (bOr .i64 a51 a57))) ⟨rfl, trivial⟩ rfl
        · skip
          refine AWP.seqR rfl ?_
          refine ASL.q (v := (.bool (decide (a15.kind = 5)))) rfl rfl (Light.quiet (opInt rfl rfl rfl rfl)) ?_
          refine ASL.q (v := (.bool (decide (a15.kind = 5)))) rfl rfl (Light.quiet (opAssign rfl rfl)) ?_
          refine ASL.done ?_
          refine AWP.ifP hF rfl (fun hc7 hF => ?_) (fun hc7 hF => ?_)
          · skip
            refine AWP.seqR rfl ?_
            refine ASL.q (v := (.list 3 (List.map TNode.av p0))) rfl rfl (Light.quiet (opMove rfl rfl)) ?_
            refine ASL.q (v := (.int .i64 x10_1)) rfl rfl (Light.quiet (opMove rfl rfl)) ?_
            refine ASL.q (v := (.list 1 (List.map (AV.int .i64) p2))) rfl rfl (Light.quiet (opMove rfl rfl)) ?_
            refine ASL.q (v := (.bool p3)) rfl rfl (Light.quiet (opMove rfl rfl)) ?_
            obtain ⟨a65, ha65, hF⟩ := bindE hF
            refine ASL.q (v := (.int .i64 a65)) rfl rfl ((qCall rfl rfl call_50 (ih_spec_l11Edge ha65) rfl)) ?_
            refine ASL.q (v := (.int .i64 a65)) rfl rfl (Light.quiet (opAssign rfl rfl)) ?_
            refine ASL.done ?_
            refine AWP.seq ?_
            refine AWP.seqR rfl ?_
            refine ASL.q (v := (.list 3 (List.map TNode.av p0))) rfl rfl (Light.quiet (opMove rfl rfl)) ?_
            refine ASL.q (v := (.int .i64 x10_1)) rfl rfl (Light.quiet (opMove rfl rfl)) ?_
            obtain ⟨a68, ha68, hF⟩ := bindE hF
            refine ASL.q (v := (.bool a68)) rfl rfl ((qCall rfl rfl call_89 (spec_l11Null_ok ha68) rfl)) ?_
            refine ASL.done ?_
            refine AWP.ifB hF rfl (fun hc8 hF => ?_) (fun hc8 hF => ?_)
            · skip
              refine AWP.lastR rfl ?_
              refine ASL.q (v := (.int .i64 a65)) rfl rfl (Light.quiet (opMove rfl rfl)) ?_
              refine ASL.q (v := (.list 3 (List.map TNode.av p0))) rfl rfl (Light.quiet (opMove rfl rfl)) ?_
              refine ASL.q (v := (.int .i64 x11_1)) rfl rfl (Light.quiet (opMove rfl rfl)) ?_
              refine ASL.q (v := (.list 1 (List.map (AV.int .i64) p2))) rfl rfl (Light.quiet (opMove rfl rfl)) ?_
              refine ASL.q (v := (.bool p3)) rfl rfl (Light.quiet (opMove rfl rfl)) ?_
              obtain ⟨a74, ha74, hF⟩ := bindE hF
              refine ASL.q (v := (.int .i64 a74)) rfl rfl ((qCall rfl rfl call_50 (ih_spec_l11Edge ha74) rfl)) ?_
              refine ASL.q (v := (.int .i64 (bOr .i64 a65 a74))) rfl rfl (Light.quiet (opInt rfl rfl rfl rfl)) ?_
              refine ASL.q (v := (.int .i64 (bOr .i64 a65 a74))) rfl rfl (Light.quiet (opAssign rfl rfl)) ?_
              refine ASL.done ?_
              refine QThen.nrm ?_
              refine AWP.seqR rfl ?_
              refine ASL.q (v := (.int .i64 (bOr .i64 a65 a74))) rfl rfl (Light.quiet (opMove rfl rfl)) ?_
              refine ASL.q (v := (.int .i64 (bOr .i64 a65 a74))) rfl rfl (Light.quiet (opAssign rfl rfl)) ?_
              refine ASL.done ?_
              refine AWP.ret ?_
              refine QBlock.ret ?_
              refine QThen.rt ?_
              obtain rfl := someE hF
              exact QRet.sole (v := (.int .i64 (bOr .i64 a65 a74))) ⟨rfl, trivial⟩ rfl
            · skip
              refine AWP.skip ?_
              refine QThen.nrm ?_
              refine AWP.seqR rfl ?_
              refine ASL.q (v := (.int .i64 a65)) rfl rfl (Light.quiet (opMove rfl rfl)) ?_
              refine ASL.q (v := (.int .i64 a65)) rfl rfl (Light.quiet (opAssign rfl rfl)) ?_
              refine ASL.done ?_
              refine AWP.ret ?_
              refine QBlock.ret ?_
              refine QThen.rt ?_
              obtain rfl := someE hF
              exact QRet.sole (v := (.int .i64 a65)) ⟨rfl, trivial⟩ rfl
          · skip
            refine AWP.skip ?_
            refine QBlock.nrm ?_
            refine QThen.nrm ?_
            refine AWP.seqR rfl ?_
            refine ASL.q (v := (.int .i64 0)) rfl rfl (Light.quiet (opAssign rfl rfl)) ?_
            refine ASL.done ?_
            refine AWP.ret ?_
            obtain rfl := someE hF
            exact QRet.sole (v := (.int .i64 0)) ⟨rfl, trivial⟩ rfl
  · skip
    refine AWP.seqR rfl ?_
    refine ASL.q (v := (.bool p3)) rfl rfl (Light.quiet (opMove rfl rfl)) ?_
    refine ASL.q (v := (.bool (!p3))) rfl rfl (Light.quiet (opNot rfl rfl)) ?_
    refine ASL.done ?_
    refine AWP.ifB hF rfl (fun hc10 hF => ?_) (fun hc10 hF => ?_)
    · skip
      refine AWP.lastD [(0, false), (1, false), (2, false), (3, false), (4, false), (5, false)] mixed (by kernel_rfl) rfl ?_
      refine ARL.q0 (v := (.ptr b9 2)) rfl rfl (Light.quiet (opFieldAddr rfl fieldA_65_2 rfl rfl)) ?_
      refine ARL.q (v := (.int .i64 a15.b)) rfl rfl (hS.aliveC (k := 0) rfl) (Light.quiet (kAt hS (j := 0) rfl rfl aggA_3 rfl rfl)) ?_
      refine ARL.q0 (v := (.ptr b9 1)) rfl rfl (Light.quiet (opFieldAddr rfl fieldA_65_1 rfl rfl)) ?_
      refine ARL.q (v := (.int .i64 a15.a)) rfl rfl (hS.aliveC (k := 0) rfl) (Light.quiet (kAt hS (j := 0) rfl rfl aggA_3 rfl rfl)) ?_
      refine ARL.q0 (v := (.int .i64 a15.b)) rfl rfl (Light.quiet (opAssign rfl rfl)) ?_
      refine ARL.q0 (v := (.int .i64 a15.a)) rfl rfl (Light.quiet (opAssign rfl rfl)) ?_
      refine ARL.done ?_
      refine QThen.nrm ?_
      exact ⟨a15.b, a15.a, ⟨rfl, rfl, rfl, rfl, rfl, rfl, rfl, trivial⟩, (hS.pick [0] rfl rfl), hF⟩
    · skip
      refine AWP.skip ?_
      refine QThen.nrm ?_
      exact ⟨a15.a, a15.b, ⟨rfl, rfl, rfl, rfl, rfl, rfl, rfl, trivial⟩, (hS.pick [0] rfl rfl), hF⟩
theorem spec_l11Edge_ok {K : Nat} : ∀ {p0 : (List TNode)} {p1 : Int} {p2 : (List Int)} {p3 : Bool} {r : Int} , spec_l11Edge K p0 p1 p2 p3 = some r → PC Try.prog 50 [(.list 3 (List.map TNode.av p0)), (.int .i64 p1), (.list 1 (List.map (AV.int .i64) p2)), (.bool p3)] fun v => v = (.int .i64 r) := by
  induction K with
  | zero => intros; rename_i h; cases h
  | succ K ih => intros; rename_i h; exact spec_l11Edge.body_ok ih h

set_option maxRecDepth 10000 in
theorem spec_l1Has_ok {p0 : Int} {p1 : Int} {r : Bool} (hF : spec_l1Has p0 p1 = some r) : PC Try.prog 51 [(.int .i64 p0), (.int .i64 p1)] fun v => v = (.bool r) := by
  refine PC.enter Try.func51 rfl Try.ntmps51 (by simp) ?_
  have hS := Sep.void; unfold spec_l1Has at hF
  refine AWP.seqR rfl ?_
  refine ASL.q (v := (.bool false)) rfl rfl (Light.quiet (opAssign rfl rfl)) ?_
  refine ASL.done ?_
  refine AWP.seqR rfl ?_
  refine ASL.q (v := (.int .i64 p1)) rfl rfl (Light.quiet (opMove rfl rfl)) ?_
  refine ASL.q (v := (.bool (spec_l1In p1 0 30))) rfl rfl ((qCall rfl rfl call_29 (spec_l1In_ok p1 0 30) rfl)) ?_
  obtain ⟨c7, hc7, hF⟩ := bndE hF
  refine ASL.q (v := (.bool c7)) rfl rfl ((Quiet.cast (Light.quiet (opMove rfl rfl)) (congrArg AV.bool hc7.symm))) ?_
  refine ASL.g (v := (.int .i64 p0)) (.bool c7) true rfl (wT _) rfl (fun hG => by have q0 := hG; subst q0; exact Light.quiet (opMove rfl rfl)) ?_
  refine ASL.g (v := (.int .i64 p1)) (.bool c7) true rfl (wT _) rfl (fun hG => by have q0 := hG; subst q0; exact Light.quiet (opMove rfl rfl)) ?_
  obtain ⟨a10, ha10, hF⟩ := bindE hF
  refine ASL.g (v := (.int .i64 a10)) (.bool c7) true rfl (wT _) rfl (fun hG => by have q0 := hG; subst q0; exact (qCall rfl rfl call_75 (spec_l1Bit_ok (whenE ha10)) rfl)) ?_
  refine ASL.g (v := (.int .i64 (bAnd .i64 p0 a10))) (.bool c7) true rfl (wT _) rfl (fun hG => by have q0 := hG; subst q0; exact Light.quiet (opInt rfl rfl rfl rfl)) ?_
  refine ASL.g (v := (.bool (decide (((bAnd .i64 p0 a10)) ≠ 0)))) (.bool c7) true rfl (wT _) rfl (fun hG => by have q0 := hG; subst q0; exact Light.quiet (opInt rfl rfl rfl rfl)) ?_
  refine ASL.q (v := (.bool (c7 && (decide (((bAnd .i64 p0 a10)) ≠ 0))))) rfl rfl (Light.quiet (opPick (b := c7) rfl rfl (by cases c7 <;> rfl))) ?_
  refine ASL.q (v := (.bool (c7 && (decide (((bAnd .i64 p0 a10)) ≠ 0))))) rfl rfl (Light.quiet (opAssign rfl rfl)) ?_
  refine ASL.done ?_
  refine AWP.ret ?_
  obtain rfl := someE hF
  exact QRet.sole (v := (.bool (c7 && (decide (((bAnd .i64 p0 a10)) ≠ 0))))) ⟨rfl, trivial⟩ rfl

set_option maxRecDepth 10000 in
theorem spec_SetOk_ok (p0 : Int) : PC Try.prog 135 [(.int .i64 p0)] fun v => v = (.bool (spec_SetOk p0)) := by
  generalize hF : spec_SetOk p0 = r
  refine PC.enter Try.func135 rfl Try.ntmps135 (by simp) ?_
  have hS := Sep.void; unfold spec_SetOk at hF
  refine AWP.seqR rfl ?_
  refine ASL.q (v := (.bool false)) rfl rfl (Light.quiet (opAssign rfl rfl)) ?_
  refine ASL.done ?_
  refine AWP.seqR rfl ?_
  refine ASL.q (v := (.int .i64 p0)) rfl rfl (Light.quiet (opMove rfl rfl)) ?_
  refine ASL.q (v := (.bool (spec_l1In p0 0 2147483647))) rfl rfl ((qCall rfl rfl call_29 (spec_l1In_ok p0 0 2147483647) rfl)) ?_
  refine ASL.q (v := (.bool (spec_l1In p0 0 2147483647))) rfl rfl (Light.quiet (opAssign rfl rfl)) ?_
  refine ASL.done ?_
  refine AWP.ret ?_
  obtain rfl := hF
  exact QRet.sole (v := (.bool (spec_l1In p0 0 2147483647))) ⟨rfl, trivial⟩ rfl

set_option maxRecDepth 10000 in
theorem spec_SetIn_ok (p0 : Int) (p1 : Int) : PC Try.prog 120 [(.int .i64 p0), (.int .i64 p1)] fun v => v = (.bool (spec_SetIn p0 p1)) := by
  generalize hF : spec_SetIn p0 p1 = r
  refine PC.enter Try.func120 rfl Try.ntmps120 (by simp) ?_
  have hS := Sep.void; unfold spec_SetIn at hF
  refine AWP.seqR rfl ?_
  refine ASL.q (v := (.bool false)) rfl rfl (Light.quiet (opAssign rfl rfl)) ?_
  refine ASL.done ?_
  refine AWP.seqR rfl ?_
  refine ASL.q (v := (.int .i64 p0)) rfl rfl (Light.quiet (opMove rfl rfl)) ?_
  refine ASL.q (v := (.bool (spec_SetOk p0))) rfl rfl ((qCall rfl rfl call_135 (spec_SetOk_ok p0) rfl)) ?_
  obtain ⟨c7, hc7, hF⟩ := bndE hF
  refine ASL.q (v := (.bool c7)) rfl rfl ((Quiet.cast (Light.quiet (opMove rfl rfl)) (congrArg AV.bool hc7.symm))) ?_
  refine ASL.g (v := (.int .i64 p1)) (.bool c7) true rfl (wT _) rfl (fun hG => by have q0 := hG; subst q0; exact Light.quiet (opMove rfl rfl)) ?_
  refine ASL.g (v := (.bool (spec_SetOk p1))) (.bool c7) true rfl (wT _) rfl (fun hG => by have q0 := hG; subst q0; exact (qCall rfl rfl call_135 (spec_SetOk_ok p1) rfl)) ?_
  refine ASL.q (v := (.bool (c7 && (spec_SetOk p1)))) rfl rfl (Light.quiet (opPick (b := c7) rfl rfl (by cases c7 <;> rfl))) ?_
  obtain ⟨c11, hc11, hF⟩ := bndE hF
  refine ASL.q (v := (.bool c11)) rfl rfl ((Quiet.cast (Light.quiet (opMove rfl rfl)) (congrArg AV.bool hc11.symm))) ?_
  refine ASL.g (v := (.int .i64 p0)) (.bool c11) true rfl (wT _) rfl (fun hG => by have q0 := hG; subst q0; exact Light.quiet (opMove rfl rfl)) ?_
  refine ASL.g (v := (.int .i64 p1)) (.bool c11) true rfl (wT _) rfl (fun hG => by have q0 := hG; subst q0; exact Light.quiet (opMove rfl rfl)) ?_
  refine ASL.g (v := (.int .i64 (bAnd .i64 p0 p1))) (.bool c11) true rfl (wT _) rfl (fun hG => by have q0 := hG; subst q0; exact Light.quiet (opInt rfl rfl rfl rfl)) ?_
  refine ASL.g (v := (.int .i64 p0)) (.bool c11) true rfl (wT _) rfl (fun hG => by have q0 := hG; subst q0; exact Light.quiet (opMove rfl rfl)) ?_
  refine ASL.g (v := (.bool (decide (((bAnd .i64 p0 p1)) = p0)))) (.bool c11) true rfl (wT _) rfl (fun hG => by have q0 := hG; subst q0; exact Light.quiet (opInt rfl rfl rfl rfl)) ?_
  refine ASL.q (v := (.bool (c11 && (decide (((bAnd .i64 p0 p1)) = p0))))) rfl rfl (Light.quiet (opPick (b := c11) rfl rfl (by cases c11 <;> rfl))) ?_
  refine ASL.q (v := (.bool (c11 && (decide (((bAnd .i64 p0 p1)) = p0))))) rfl rfl (Light.quiet (opAssign rfl rfl)) ?_
  refine ASL.done ?_
  refine AWP.ret ?_
  obtain rfl := hF
  exact QRet.sole (v := (.bool (c11 && (decide (((bAnd .i64 p0 p1)) = p0))))) ⟨rfl, trivial⟩ rfl

set_option maxRecDepth 10000 in
theorem spec_l4State_ok (p0 : Int) (p1 : Int) : PC Try.prog 91 [(.int .i64 p0), (.int .i64 p1)] fun v => v = (.bool (spec_l4State p0 p1)) := by
  generalize hF : spec_l4State p0 p1 = r
  refine PC.enter Try.func91 rfl Try.ntmps91 (by simp) ?_
  have hS := Sep.void; unfold spec_l4State at hF
  refine AWP.seqR rfl ?_
  refine ASL.q (v := (.bool false)) rfl rfl (Light.quiet (opAssign rfl rfl)) ?_
  refine ASL.done ?_
  refine AWP.seqR rfl ?_
  refine ASL.q (v := (.int .i64 p0)) rfl rfl (Light.quiet (opMove rfl rfl)) ?_
  refine ASL.q (v := (.int .i64 p1)) rfl rfl (Light.quiet (opMove rfl rfl)) ?_
  refine ASL.q (v := (.int .i64 (W (p1 - 1)))) rfl rfl (Light.quiet (opInt rfl rfl rfl rfl)) ?_
  refine ASL.q (v := (.bool (spec_l1In p0 0 ((W (p1 - 1)))))) rfl rfl ((qCall rfl rfl call_29 (spec_l1In_ok p0 0 ((W (p1 - 1)))) rfl)) ?_
  refine ASL.q (v := (.bool (spec_l1In p0 0 ((W (p1 - 1)))))) rfl rfl (Light.quiet (opAssign rfl rfl)) ?_
  refine ASL.done ?_
  refine AWP.ret ?_
  obtain rfl := hF
  exact QRet.sole (v := (.bool (spec_l1In p0 0 ((W (p1 - 1)))))) ⟨rfl, trivial⟩ rfl

set_option maxRecDepth 10000 in
theorem spec_l4Less_ok (p0 : TEdge) (p1 : TEdge) : PC Try.prog 121 [(TEdge.av p0), (TEdge.av p1)] fun v => v = (.bool (spec_l4Less p0 p1)) := by
  generalize hF : spec_l4Less p0 p1 = r
  refine PC.enter Try.func121 rfl Try.ntmps121 (by simp) ?_
  have hS := Sep.void; unfold spec_l4Less at hF
  refine AWP.seqR rfl ?_
  refine ASL.q (v := (.rptr [(.int .i64 p0.from_), (.int .i64 p0.letter), (.int .i64 p0.to_), (.bool p0.good)])) rfl rfl ((qBoxI (v := (TEdge.av p0)) rfl rfl rfl rfl)) ?_
  refine ASL.q (v := (.rptr [(.int .i64 p1.from_), (.int .i64 p1.letter), (.int .i64 p1.to_), (.bool p1.good)])) rfl rfl ((qBoxI (v := (TEdge.av p1)) rfl rfl rfl rfl)) ?_
  refine ASL.q (v := (.bool false)) rfl rfl (Light.quiet (opAssign rfl rfl)) ?_
  refine ASL.done ?_
  refine AWP.seq ?_
  refine AWP.seqR rfl ?_
  refine ASL.q (v := (.rptr [(.int .i64 p0.from_), (.int .i64 p0.letter), (.int .i64 p0.to_), (.bool p0.good)])) rfl rfl (Light.quiet (opFieldAddrR rfl fieldA_79_0 rfl rfl)) ?_
  refine ASL.q (v := (.int .i64 p0.from_)) rfl rfl (Light.quiet (opLoadR rfl aggA_3 rfl rfl)) ?_
  refine ASL.q (v := (.rptr [(.int .i64 p1.from_), (.int .i64 p1.letter), (.int .i64 p1.to_), (.bool p1.good)])) rfl rfl (Light.quiet (opFieldAddrR rfl fieldA_79_0 rfl rfl)) ?_
  refine ASL.q (v := (.int .i64 p1.from_)) rfl rfl (Light.quiet (opLoadR rfl aggA_3 rfl rfl)) ?_
  refine ASL.q (v := (.bool (decide (p0.from_ ≠ p1.from_)))) rfl rfl (Light.quiet (opInt rfl rfl rfl rfl)) ?_
  refine ASL.done ?_
  refine AWP.ifP hF rfl (fun hc1 hF => ?_) (fun hc1 hF => ?_)
  · skip
    refine AWP.seqR rfl ?_
    refine ASL.q (v := (.rptr [(.int .i64 p0.from_), (.int .i64 p0.letter), (.int .i64 p0.to_), (.bool p0.good)])) rfl rfl (Light.quiet (opFieldAddrR rfl fieldA_79_0 rfl rfl)) ?_
    refine ASL.q (v := (.int .i64 p0.from_)) rfl rfl (Light.quiet (opLoadR rfl aggA_3 rfl rfl)) ?_
    refine ASL.q (v := (.rptr [(.int .i64 p1.from_), (.int .i64 p1.letter), (.int .i64 p1.to_), (.bool p1.good)])) rfl rfl (Light.quiet (opFieldAddrR rfl fieldA_79_0 rfl rfl)) ?_
    refine ASL.q (v := (.int .i64 p1.from_)) rfl rfl (Light.quiet (opLoadR rfl aggA_3 rfl rfl)) ?_
    refine ASL.q (v := (.bool (decide (p0.from_ < p1.from_)))) rfl rfl (Light.quiet (opInt rfl rfl rfl rfl)) ?_
    refine ASL.q (v := (.bool (decide (p0.from_ < p1.from_)))) rfl rfl (Light.quiet (opAssign rfl rfl)) ?_
    refine ASL.done ?_
    refine AWP.ret ?_
    refine QThen.rt ?_
    obtain rfl := hF
    exact QRet.sole (v := (.bool (decide (p0.from_ < p1.from_)))) ⟨rfl, trivial⟩ rfl
  · skip
    refine AWP.skip ?_
    refine QThen.nrm ?_
    refine AWP.seq ?_
    refine AWP.seqR rfl ?_
    refine ASL.q (v := (.rptr [(.int .i64 p0.letter), (.int .i64 p0.to_), (.bool p0.good)])) rfl rfl (Light.quiet (opFieldAddrR rfl fieldA_79_1 rfl rfl)) ?_
    refine ASL.q (v := (.int .i64 p0.letter)) rfl rfl (Light.quiet (opLoadR rfl aggA_3 rfl rfl)) ?_
    refine ASL.q (v := (.rptr [(.int .i64 p1.letter), (.int .i64 p1.to_), (.bool p1.good)])) rfl rfl (Light.quiet (opFieldAddrR rfl fieldA_79_1 rfl rfl)) ?_
    refine ASL.q (v := (.int .i64 p1.letter)) rfl rfl (Light.quiet (opLoadR rfl aggA_3 rfl rfl)) ?_
    refine ASL.q (v := (.bool (decide (p0.letter ≠ p1.letter)))) rfl rfl (Light.quiet (opInt rfl rfl rfl rfl)) ?_
    refine ASL.done ?_
    refine AWP.ifP hF rfl (fun hc2 hF => ?_) (fun hc2 hF => ?_)
    · skip
      refine AWP.seqR rfl ?_
      refine ASL.q (v := (.rptr [(.int .i64 p0.letter), (.int .i64 p0.to_), (.bool p0.good)])) rfl rfl (Light.quiet (opFieldAddrR rfl fieldA_79_1 rfl rfl)) ?_
      refine ASL.q (v := (.int .i64 p0.letter)) rfl rfl (Light.quiet (opLoadR rfl aggA_3 rfl rfl)) ?_
      refine ASL.q (v := (.rptr [(.int .i64 p1.letter), (.int .i64 p1.to_), (.bool p1.good)])) rfl rfl (Light.quiet (opFieldAddrR rfl fieldA_79_1 rfl rfl)) ?_
      refine ASL.q (v := (.int .i64 p1.letter)) rfl rfl (Light.quiet (opLoadR rfl aggA_3 rfl rfl)) ?_
      refine ASL.q (v := (.bool (decide (p0.letter < p1.letter)))) rfl rfl (Light.quiet (opInt rfl rfl rfl rfl)) ?_
      refine ASL.q (v := (.bool (decide (p0.letter < p1.letter)))) rfl rfl (Light.quiet (opAssign rfl rfl)) ?_
      refine ASL.done ?_
      refine AWP.ret ?_
      refine QThen.rt ?_
      obtain rfl := hF
      exact QRet.sole (v := (.bool (decide (p0.letter < p1.letter)))) ⟨rfl, trivial⟩ rfl
    · skip
      refine AWP.skip ?_
      refine QThen.nrm ?_
      refine AWP.seqR rfl ?_
      refine ASL.q (v := (.rptr [(.int .i64 p0.to_), (.bool p0.good)])) rfl rfl (Light.quiet (opFieldAddrR rfl fieldA_79_2 rfl rfl)) ?_
      refine ASL.q (v := (.int .i64 p0.to_)) rfl rfl (Light.quiet (opLoadR rfl aggA_3 rfl rfl)) ?_
      refine ASL.q (v := (.rptr [(.int .i64 p1.to_), (.bool p1.good)])) rfl rfl (Light.quiet (opFieldAddrR rfl fieldA_79_2 rfl rfl)) ?_
      refine ASL.q (v := (.int .i64 p1.to_)) rfl rfl (Light.quiet (opLoadR rfl aggA_3 rfl rfl)) ?_
      refine ASL.q (v := (.bool (decide (p0.to_ < p1.to_)))) rfl rfl (Light.quiet (opInt rfl rfl rfl rfl)) ?_
      refine ASL.q (v := (.bool (decide (p0.to_ < p1.to_)))) rfl rfl (Light.quiet (opAssign rfl rfl)) ?_
      refine ASL.done ?_
      refine AWP.ret ?_
      obtain rfl := hF
      exact QRet.sole (v := (.bool (decide (p0.to_ < p1.to_)))) ⟨rfl, trivial⟩ rfl

set_option maxRecDepth 10000 in
theorem spec_AutoOk_ok {p0 : TAuto} {r : Bool} (hF : spec_AutoOk p0 = some r) : PC Try.prog 90 [(TAuto.av p0)] fun v => v = (.bool r) := by
  refine PC.enter Try.func90 rfl Try.ntmps90 (by simp) ?_
  have hS := Sep.void; unfold spec_AutoOk at hF
  refine AWP.seqR rfl ?_
  refine ASL.q (v := (.rptr [(.int .i64 p0.letters), (.int .i64 p0.states), (.int .i64 p0.start), (.list 4 (List.map TEdge.av p0.edges))])) rfl rfl ((qBoxI (v := (TAuto.av p0)) rfl rfl rfl rfl)) ?_
  refine ASL.q (v := (.bool false)) rfl rfl (Light.quiet (opAssign rfl rfl)) ?_
  refine ASL.done ?_
  refine AWP.seq ?_
  refine AWP.seqD [(0, false), (1, false), (2, false), (3, false), (4, false), (5, false), (6, false), (7, false), (8, false), (9, false), (10, false), (11, false), (12, false), (13, false), (14, false), (15, false), (16, false), (17, false), (18, false), (19, false), (20, false), (21, false), (22, false), (23, false), (24, false), (25, false)] mixed (by kernel_rfl) rfl ?_
  refine ARL.q0 (v := (.rptr [(.int .i64 p0.letters), (.int .i64 p0.states), (.int .i64 p0.start), (.list 4 (List.map TEdge.av p0.edges))])) rfl rfl (Light.quiet (opFieldAddrR rfl fieldA_38_0 rfl rfl)) ?_
  refine ARL.q0 (v := (.int .i64 p0.letters)) rfl rfl (Light.quiet (opLoadR rfl aggA_3 rfl rfl)) ?_
  refine ARL.q0 (v := (.bool (spec_l1In p0.letters 1 8))) rfl rfl ((qCall rfl rfl call_29 (spec_l1In_ok p0.letters 1 8) rfl)) ?_
  refine ARL.q0 (v := (.bool (!(spec_l1In p0.letters 1 8)))) rfl rfl (Light.quiet (opNot rfl rfl)) ?_
  obtain ⟨c9, hc9, hF⟩ := bndE hF
  refine ARL.q0 (v := (.bool c9)) rfl rfl ((Quiet.cast (Light.quiet (opMove rfl rfl)) (congrArg AV.bool hc9.symm))) ?_
  refine ARL.g (v := (.rptr [(.int .i64 p0.states), (.int .i64 p0.start), (.list 4 (List.map TEdge.av p0.edges))])) (.bool c9) false rfl (wF _) rfl noneAlive (fun hG => by have q0 := gN hG; subst q0; exact Light.quiet (opFieldAddrR rfl fieldA_38_1 rfl rfl)) ?_
  refine ARL.g (v := (.int .i64 p0.states)) (.bool c9) false rfl (wF _) rfl noneAlive (fun hG => by have q0 := gN hG; subst q0; exact Light.quiet (opLoadR rfl aggA_3 rfl rfl)) ?_
  refine ARL.g (v := (.bool (spec_l1In p0.states 0 31))) (.bool c9) false rfl (wF _) rfl noneAlive (fun hG => by have q0 := gN hG; subst q0; exact (qCall rfl rfl call_29 (spec_l1In_ok p0.states 0 31) rfl)) ?_
  refine ARL.g (v := (.bool (!(spec_l1In p0.states 0 31)))) (.bool c9) false rfl (wF _) rfl noneAlive (fun hG => by have q0 := gN hG; subst q0; exact Light.quiet (opNot rfl rfl)) ?_
  refine ARL.q0 (v := (.bool (c9 || (!(spec_l1In p0.states 0 31))))) rfl rfl (Light.quiet (opPick (b := c9) rfl rfl (by cases c9 <;> rfl))) ?_
  obtain ⟨c15, hc15, hF⟩ := bndE hF
  refine ARL.q0 (v := (.bool c15)) rfl rfl ((Quiet.cast (Light.quiet (opMove rfl rfl)) (congrArg AV.bool hc15.symm))) ?_
  refine ARL.g (v := (.rptr [(.int .i64 p0.start), (.list 4 (List.map TEdge.av p0.edges))])) (.bool c15) false rfl (wF _) rfl noneAlive (fun hG => by have q0 := gN hG; subst q0; exact Light.quiet (opFieldAddrR rfl fieldA_38_2 rfl rfl)) ?_
  refine ARL.g (v := (.int .i64 p0.start)) (.bool c15) false rfl (wF _) rfl noneAlive (fun hG => by have q0 := gN hG; subst q0; exact Light.quiet (opLoadR rfl aggA_3 rfl rfl)) ?_
  refine ARL.g (v := (.rptr [(.int .i64 p0.states), (.int .i64 p0.start), (.list 4 (List.map TEdge.av p0.edges))])) (.bool c15) false rfl (wF _) rfl noneAlive (fun hG => by have q0 := gN hG; subst q0; exact Light.quiet (opFieldAddrR rfl fieldA_38_1 rfl rfl)) ?_
  refine ARL.g (v := (.int .i64 p0.states)) (.bool c15) false rfl (wF _) rfl noneAlive (fun hG => by have q0 := gN hG; subst q0; exact Light.quiet (opLoadR rfl aggA_3 rfl rfl)) ?_
  obtain ⟨u1, hu1, hF⟩ := bindE hF
  refine ARL.g (v := (.int .i64 (shl .i64 1 p0.states))) (.bool c15) false rfl (wF _) rfl noneAlive (fun hG => by have q0 := gN hG; subst q0; exact Light.quiet (opShl rfl rfl rfl (of_decide_eq_true (chkE (whenE hu1))) rfl)) ?_
  refine ARL.g (v := (.int .i64 (W (((shl .i64 1 p0.states)) - 1)))) (.bool c15) false rfl (wF _) rfl noneAlive (fun hG => by have q0 := gN hG; subst q0; exact Light.quiet (opInt rfl rfl rfl rfl)) ?_
  refine ARL.g (v := (.bool (spec_SetIn p0.start ((W (((shl .i64 1 p0.states)) - 1)))))) (.bool c15) false rfl (wF _) rfl noneAlive (fun hG => by have q0 := gN hG; subst q0; exact (qCall rfl rfl call_120 (spec_SetIn_ok p0.start ((W (((shl .i64 1 p0.states)) - 1)))) rfl)) ?_
  refine ARL.g (v := (.bool (!(spec_SetIn p0.start ((W (((shl .i64 1 p0.states)) - 1))))))) (.bool c15) false rfl (wF _) rfl noneAlive (fun hG => by have q0 := gN hG; subst q0; exact Light.quiet (opNot rfl rfl)) ?_
  refine ARL.q0 (v := (.bool (c15 || (!(spec_SetIn p0.start ((W (((shl .i64 1 p0.states)) - 1)))))))) rfl rfl (Light.quiet (opPick (b := c15) rfl rfl (by cases c15 <;> rfl))) ?_
  obtain ⟨c25, hc25, hF⟩ := bndE hF
  refine ARL.q0 (v := (.bool c25)) rfl rfl ((Quiet.cast (Light.quiet (opMove rfl rfl)) (congrArg AV.bool hc25.symm))) ?_
  refine ARL.g (v := (.rptr [(.list 4 (List.map TEdge.av p0.edges))])) (.bool c25) false rfl (wF _) rfl noneAlive (fun hG => by have q0 := gN hG; subst q0; exact Light.quiet (opFieldAddrR rfl fieldA_38_3 rfl rfl)) ?_
  refine ARL.g (v := (.list 4 (List.map TEdge.av p0.edges))) (.bool c25) false rfl (wF _) rfl noneAlive (fun hG => by have q0 := gN hG; subst q0; exact Light.quiet (opLoadR rfl aggA_36 rfl rfl)) ?_
  refine ARL.g (v := (.int .i64 (p0.edges.length : Int))) (.bool c25) false rfl (wF _) rfl noneAlive (fun hG => by have q0 := gN hG; subst q0; exact Light.quiet (opLenMap (f := TEdge.av) rfl rfl rfl lenT_36 rfl)) ?_
  refine ARL.g (v := (.bool (decide (((p0.edges.length : Int)) > 2000)))) (.bool c25) false rfl (wF _) rfl noneAlive (fun hG => by have q0 := gN hG; subst q0; exact Light.quiet (opInt rfl rfl rfl rfl)) ?_
  refine ARL.q0 (v := (.bool (c25 || (decide (((p0.edges.length : Int)) > 2000))))) rfl rfl (Light.quiet (opPick (b := c25) rfl rfl (by cases c25 <;> rfl))) ?_
  refine ARL.done ?_
  refine AWP.ifB hF rfl (fun hc2 hF => ?_) (fun hc2 hF => ?_)
  · skip
    refine AWP.seqR rfl ?_
    refine ASL.q (v := (.bool false)) rfl rfl (Light.quiet (opAssign rfl rfl)) ?_
    refine ASL.done ?_
    refine AWP.ret ?_
    refine QThen.rt ?_
    obtain rfl := someE hF
    exact QRet.sole (v := (.bool false)) ⟨rfl, trivial⟩ rfl
  · skip
    refine AWP.skip ?_
    refine QThen.nrm ?_
    refine AWP.seqM (fun e H => E.Told e [] ∧ E.Sep H [] ∧ spec_AutoOk.k0 = some r) ?_ ?_
    · rintro e0 G3 ⟨hT, hS, hF⟩; refine AWP.only _ hT ?_; unfold spec_AutoOk.k0 at hF
      refine AWP.seqR rfl ?_
      refine ASL.q (v := (.bool true)) rfl rfl (Light.quiet (opAssign rfl rfl)) ?_
      refine ASL.done ?_
      refine AWP.ret ?_
      obtain rfl := someE hF
      exact QRet.sole (v := (.bool true)) ⟨rfl, trivial⟩ rfl
    · skip
      refine AWP.seqR rfl ?_
      refine ASL.q (v := (.int .i64 0)) rfl rfl (Light.quiet (opAssign rfl rfl)) ?_
      refine ASL.done ?_
      refine AWP.block ?_
      obtain ⟨o7, hL6, hR8⟩ := bindE hF
      refine AWP.loopF (ω := Unit) hL6 (fun s w => [(1, (.rptr [(.int .i64 p0.letters), (.int .i64 p0.states), (.int .i64 p0.start), (.list 4 (List.map TEdge.av p0.edges))])), (3, (.int .i64 s))]) (fun s w => []) () ⟨rfl, rfl, trivial⟩ (hS.pick [] rfl rfl) ?_
      rintro x3_l0 _ G9 hS x4 hF hx5
      try dsimp only at hS ⊢
      have hF : spec_AutoOk.b0 p0 x3_l0 = some x4 := hF; unfold spec_AutoOk.b0 at hF
      refine AWP.seq ?_
      refine AWP.seqR rfl ?_
      refine ASL.q (v := (.int .i64 x3_l0)) rfl rfl (Light.quiet (opMove rfl rfl)) ?_
      refine ASL.q (v := (.rptr [(.list 4 (List.map TEdge.av p0.edges))])) rfl rfl (Light.quiet (opFieldAddrR rfl fieldA_38_3 rfl rfl)) ?_
      refine ASL.q (v := (.list 4 (List.map TEdge.av p0.edges))) rfl rfl (Light.quiet (opLoadR rfl aggA_36 rfl rfl)) ?_
      refine ASL.q (v := (.int .i64 (p0.edges.length : Int))) rfl rfl (Light.quiet (opLenMap (f := TEdge.av) rfl rfl rfl lenT_36 rfl)) ?_
      refine ASL.q (v := (.bool (decide (x3_l0 < ((p0.edges.length : Int)))))) rfl rfl (Light.quiet (opInt rfl rfl rfl rfl)) ?_
      refine ASL.done ?_
      refine AWP.ifP hF rfl (fun hc10 hF => ?_) (fun hc10 hF => ?_)
      · skip
        refine AWP.skip ?_
        refine QThen.nrm ?_
        refine AWP.seq ?_
        refine AWP.block ?_
        refine AWP.seqR rfl ?_
        refine ASL.q (v := (.rptr [(.list 4 (List.map TEdge.av p0.edges))])) rfl rfl (Light.quiet (opFieldAddrR rfl fieldA_38_3 rfl rfl)) ?_
        refine ASL.q (v := (.list 4 (List.map TEdge.av p0.edges))) rfl rfl (Light.quiet (opLoadR rfl aggA_36 rfl rfl)) ?_
        refine ASL.q (v := (.int .i64 x3_l0)) rfl rfl (Light.quiet (opMove rfl rfl)) ?_
        obtain ⟨a41, ha41, hF⟩ := bindE hF
        refine ASL.q (v := (.rptr [(.int .i64 a41.from_), (.int .i64 a41.letter), (.int .i64 a41.to_), (.bool a41.good)])) rfl rfl (Light.quiet (kIx (f := TEdge.av) ha41 rfl rfl rfl elemA_36 sizeA_79 rfl)) ?_
        refine ASL.q (v := (TEdge.av a41)) rfl rfl (Light.quiet (opLoadRA rfl aggA_79 sizeA_79 rfl (nlt rfl) rfl)) ?_
        refine ASL.x rfl rfl (hNewZ hS [(.int .i64 0), (.int .i64 0), (.int .i64 0), (.bool false)] rfl zeroA_79 ⟨.inl rfl, .inl rfl, .inl rfl, .inl rfl, trivial⟩ ?_); rintro b4 G11 hK hS
        refine ASL.n rfl rfl (hPutA hS (j := 0) rfl rfl sizeA_79 rfl rfl rfl rfl rfl (nlt rfl) ?_); rintro G13 hS
        refine ASL.done ?_
        refine AWP.seqD [(0, false), (1, false), (2, false), (3, false), (4, false), (5, false), (6, false), (7, false), (8, false), (9, false), (10, false), (11, false), (12, false), (13, false), (14, false), (15, false), (16, false), (17, false), (18, false), (19, false), (20, false), (21, false), (22, false), (23, false), (24, false), (25, false), (26, false), (27, false), (28, false), (29, false), (30, false), (31, false), (32, false), (33, false), (34, false), (35, false), (36, false), (37, false)] mixed (by kernel_rfl) rfl ?_
        refine ARL.q0 (v := (.ptr b4 0)) rfl rfl (Light.quiet (opFieldAddr rfl fieldA_79_0 rfl rfl)) ?_
        refine ARL.q (v := (.int .i64 a41.from_)) rfl rfl (hS.aliveC (k := 0) rfl) (Light.quiet (kAt hS (j := 0) rfl rfl aggA_3 rfl rfl)) ?_
        refine ARL.q0 (v := (.rptr [(.int .i64 p0.states), (.int .i64 p0.start), (.list 4 (List.map TEdge.av p0.edges))])) rfl rfl (Light.quiet (opFieldAddrR rfl fieldA_38_1 rfl rfl)) ?_
        refine ARL.q0 (v := (.int .i64 p0.states)) rfl rfl (Light.quiet (opLoadR rfl aggA_3 rfl rfl)) ?_
        refine ARL.q0 (v := (.bool (spec_l4State a41.from_ p0.states))) rfl rfl ((qCall rfl rfl call_91 (spec_l4State_ok a41.from_ p0.states) rfl)) ?_
        refine ARL.q0 (v := (.bool (!(spec_l4State a41.from_ p0.states)))) rfl rfl (Light.quiet (opNot rfl rfl)) ?_
        obtain ⟨c49, hc49, hF⟩ := bndE hF
        refine ARL.q0 (v := (.bool c49)) rfl rfl ((Quiet.cast (Light.quiet (opMove rfl rfl)) (congrArg AV.bool hc49.symm))) ?_
        refine ARL.g (v := (.ptr b4 2)) (.bool c49) false rfl (wF _) rfl noneAlive (fun hG => by have q0 := gN hG; subst q0; exact Light.quiet (opFieldAddr rfl fieldA_79_2 rfl rfl)) ?_
        refine ARL.g (v := (.int .i64 a41.to_)) (.bool c49) false rfl (wF _) rfl (hS.aliveC (k := 0) rfl) (fun hG => by have q0 := gN hG; subst q0; exact Light.quiet (kAt hS (j := 0) rfl rfl aggA_3 rfl rfl)) ?_
        refine ARL.g (v := (.rptr [(.int .i64 p0.states), (.int .i64 p0.start), (.list 4 (List.map TEdge.av p0.edges))])) (.bool c49) false rfl (wF _) rfl noneAlive (fun hG => by have q0 := gN hG; subst q0; exact Light.quiet (opFieldAddrR rfl fieldA_38_1 rfl rfl)) ?_
        refine ARL.g (v := (.int .i64 p0.states)) (.bool c49) false rfl (wF _) rfl noneAlive (fun hG => by have q0 := gN hG; subst q0; exact Light.quiet (opLoadR rfl aggA_3 rfl rfl)) ?_
        refine ARL.g (v := (.bool (spec_l4State a41.to_ p0.states))) (.bool c49) false rfl (wF _) rfl noneAlive (fun hG => by have q0 := gN hG; subst q0; exact (qCall rfl rfl call_91 (spec_l4State_ok a41.to_ p0.states) rfl)) ?_
        refine ARL.g (v := (.bool (!(spec_l4State a41.to_ p0.states)))) (.bool c49) false rfl (wF _) rfl noneAlive (fun hG => by have q0 := gN hG; subst q0; exact Light.quiet (opNot rfl rfl)) ?_
        refine ARL.q0 (v := (.bool (c49 || (!(spec_l4State a41.to_ p0.states))))) rfl rfl (Light.quiet (opPick (b := c49) rfl rfl (by cases c49 <;> rfl))) ?_
        obtain ⟨c57, hc57, hF⟩ := bndE hF
        refine ARL.q0 (v := (.bool c57)) rfl rfl ((Quiet.cast (Light.quiet (opMove rfl rfl)) (congrArg AV.bool hc57.symm))) ?_
        refine ARL.g (v := (.ptr b4 1)) (.bool c57) false rfl (wF _) rfl noneAlive (fun hG => by have q0 := gN hG; subst q0; exact Light.quiet (opFieldAddr rfl fieldA_79_1 rfl rfl)) ?_
        refine ARL.g (v := (.int .i64 a41.letter)) (.bool c57) false rfl (wF _) rfl (hS.aliveC (k := 0) rfl) (fun hG => by have q0 := gN hG; subst q0; exact Light.quiet (kAt hS (j := 0) rfl rfl aggA_3 rfl rfl)) ?_
        refine ARL.g (v := (.rptr [(.int .i64 p0.letters), (.int .i64 p0.states), (.int .i64 p0.start), (.list 4 (List.map TEdge.av p0.edges))])) (.bool c57) false rfl (wF _) rfl noneAlive (fun hG => by have q0 := gN hG; subst q0; exact Light.quiet (opFieldAddrR rfl fieldA_38_0 rfl rfl)) ?_
        refine ARL.g (v := (.int .i64 p0.letters)) (.bool c57) false rfl (wF _) rfl noneAlive (fun hG => by have q0 := gN hG; subst q0; exact Light.quiet (opLoadR rfl aggA_3 rfl rfl)) ?_
        refine ARL.g (v := (.int .i64 (W (p0.letters - 1)))) (.bool c57) false rfl (wF _) rfl noneAlive (fun hG => by have q0 := gN hG; subst q0; exact Light.quiet (opInt rfl rfl rfl rfl)) ?_
        refine ARL.g (v := (.bool (spec_l1In a41.letter 0 ((W (p0.letters - 1)))))) (.bool c57) false rfl (wF _) rfl noneAlive (fun hG => by have q0 := gN hG; subst q0; exact (qCall rfl rfl call_29 (spec_l1In_ok a41.letter 0 ((W (p0.letters - 1)))) rfl)) ?_
        refine ARL.g (v := (.bool (!(spec_l1In a41.letter 0 ((W (p0.letters - 1))))))) (.bool c57) false rfl (wF _) rfl noneAlive (fun hG => by have q0 := gN hG; subst q0; exact Light.quiet (opNot rfl rfl)) ?_
        refine ARL.q0 (v := (.bool (c57 || (!(spec_l1In a41.letter 0 ((W (p0.letters - 1)))))))) rfl rfl (Light.quiet (opPick (b := c57) rfl rfl (by cases c57 <;> rfl))) ?_
        obtain ⟨c66, hc66, hF⟩ := bndE hF
        refine ARL.q0 (v := (.bool c66)) rfl rfl ((Quiet.cast (Light.quiet (opMove rfl rfl)) (congrArg AV.bool hc66.symm))) ?_
        refine ARL.g (v := (.int .i64 x3_l0)) (.bool c66) false rfl (wF _) rfl noneAlive (fun hG => by have q0 := gN hG; subst q0; exact Light.quiet (opMove rfl rfl)) ?_
        refine ARL.g (v := (.bool (decide (x3_l0 > 0)))) (.bool c66) false rfl (wF _) rfl noneAlive (fun hG => by have q0 := gN hG; subst q0; exact Light.quiet (opInt rfl rfl rfl rfl)) ?_
        obtain ⟨c69, hc69, hF⟩ := bndE hF
        refine ARL.g (v := (.bool c69)) (.bool c66) false rfl (wF _) rfl noneAlive (fun hG => by have q0 := gN hG; subst q0; exact (Quiet.cast (Light.quiet (opMove rfl rfl)) (congrArg AV.bool hc69.symm))) ?_
        refine ARL.g (v := (.rptr [(.list 4 (List.map TEdge.av p0.edges))])) (bif (!c66) then (.bool c69) else .tup []) true rfl (wGT _ _) rfl noneAlive (fun hG => by have q0 := gN (gA1 hG); have q1 := gA2 hG; subst q0; subst q1; exact Light.quiet (opFieldAddrR rfl fieldA_38_3 rfl rfl)) ?_
        refine ARL.g (v := (.list 4 (List.map TEdge.av p0.edges))) (bif (!c66) then (.bool c69) else .tup []) true rfl (wGT _ _) rfl noneAlive (fun hG => by have q0 := gN (gA1 hG); have q1 := gA2 hG; subst q0; subst q1; exact Light.quiet (opLoadR rfl aggA_36 rfl rfl)) ?_
        refine ARL.g (v := (.int .i64 x3_l0)) (bif (!c66) then (.bool c69) else .tup []) true rfl (wGT _ _) rfl noneAlive (fun hG => by have q0 := gN (gA1 hG); have q1 := gA2 hG; subst q0; subst q1; exact Light.quiet (opMove rfl rfl)) ?_
        refine ARL.g (v := (.int .i64 (W (x3_l0 - 1)))) (bif (!c66) then (.bool c69) else .tup []) true rfl (wGT _ _) rfl noneAlive (fun hG => by have q0 := gN (gA1 hG); have q1 := gA2 hG; subst q0; subst q1; exact Light.quiet (opInt rfl rfl rfl rfl)) ?_
        obtain ⟨a74, ha74, hF⟩ := bindE hF
        refine ARL.g (v := (.rptr [(.int .i64 a74.from_), (.int .i64 a74.letter), (.int .i64 a74.to_), (.bool a74.good)])) (bif (!c66) then (.bool c69) else .tup []) true rfl (wGT _ _) rfl noneAlive (fun hG => by have q0 := gN (gA1 hG); have q1 := gA2 hG; subst q0; subst q1; exact Light.quiet (kIx (f := TEdge.av) (whenE ha74) rfl rfl rfl elemA_36 sizeA_79 rfl)) ?_
        refine ARL.g (v := (TEdge.av a74)) (bif (!c66) then (.bool c69) else .tup []) true rfl (wGT _ _) rfl noneAlive (fun hG => by have q0 := gN (gA1 hG); have q1 := gA2 hG; subst q0; subst q1; exact Light.quiet (opLoadRA rfl aggA_79 sizeA_79 rfl (nlt rfl) rfl)) ?_
        refine ARL.g (v := (TEdge.av a41)) (bif (!c66) then (.bool c69) else .tup []) true rfl (wGT _ _) rfl (hS.aliveC (k := 0) rfl) (fun hG => by have q0 := gN (gA1 hG); have q1 := gA2 hG; subst q0; subst q1; exact Light.quiet (kAtA hS (j := 0) rfl rfl aggA_79 sizeA_79 rfl (nlt rfl) rfl)) ?_
        refine ARL.g (v := (.bool (spec_l4Less a74 a41))) (bif (!c66) then (.bool c69) else .tup []) true rfl (wGT _ _) rfl noneAlive (fun hG => by have q0 := gN (gA1 hG); have q1 := gA2 hG; subst q0; subst q1; exact (qCall rfl rfl call_121 (spec_l4Less_ok a74 a41) rfl)) ?_
        refine ARL.g (v := (.bool (!(spec_l4Less a74 a41)))) (bif (!c66) then (.bool c69) else .tup []) true rfl (wGT _ _) rfl noneAlive (fun hG => by have q0 := gN (gA1 hG); have q1 := gA2 hG; subst q0; subst q1; exact Light.quiet (opNot rfl rfl)) ?_
        refine ARL.g (v := (.bool (c69 && (!(spec_l4Less a74 a41))))) (.bool c66) false rfl (wF _) rfl noneAlive (fun hG => by have q0 := gN hG; subst q0; exact Light.quiet (opPick (b := c69) rfl rfl (by cases c69 <;> rfl))) ?_
        refine ARL.q0 (v := (.bool (c66 || (c69 && (!(spec_l4Less a74 a41)))))) rfl rfl (Light.quiet (opPick (b := c66) rfl rfl (by cases c66 <;> rfl))) ?_
        refine ARL.done ?_
        refine AWP.ifB hF rfl (fun hc14 hF => ?_) (fun hc14 hF => ?_)
        · skip
          refine AWP.seqR rfl ?_
          refine ASL.q (v := (.bool false)) rfl rfl (Light.quiet (opAssign rfl rfl)) ?_
          refine ASL.done ?_
          refine AWP.ret ?_
          refine QBlock.ret ?_
          refine QThen.rt ?_
          refine QThen.rt ?_
          refine QBlock.ret ?_
          refine QThen.rt ?_
          obtain rfl := (hx5 _ (someE hF).symm)
          have hF := hR8
          have hF := sumR hF
          obtain rfl := someE hF
          exact QRet.sole (v := (.bool false)) ⟨rfl, trivial⟩ rfl
        · skip
          refine AWP.skip ?_
          refine QBlock.nrm ?_
          refine QThen.nrm ?_
          refine AWP.lastR rfl ?_
          refine ASL.q (v := (.int .i64 x3_l0)) rfl rfl (Light.quiet (opMove rfl rfl)) ?_
          refine ASL.q (v := (.int .i64 (W (x3_l0 + 1)))) rfl rfl (Light.quiet (opInt rfl rfl rfl rfl)) ?_
          refine ASL.q (v := (.int .i64 (W (x3_l0 + 1)))) rfl rfl (Light.quiet (opAssign rfl rfl)) ?_
          refine ASL.done ?_
          refine QThen.nrm ?_
          exact ⟨(W (x3_l0 + 1)), (), (someE hF).symm, ⟨rfl, rfl, trivial⟩, (hS.pick [] rfl rfl)⟩
      · skip
        refine AWP.exit ?_
        refine QThen.ext ?_
        refine QThen.ext ?_
        refine QBlock.hit ?_
        obtain rfl := (hx5 _ (someE hF).symm)
        have hF := hR8
        have hF := sumL hF
        refine QThen.nrm ?_
        exact ⟨trivial, (hS.pick [] rfl rfl), hF⟩

set_option maxRecDepth 10000 in
theorem spec_l1Max_ok (p0 : Int) (p1 : Int) : PC Try.prog 92 [(.int .i64 p0), (.int .i64 p1)] fun v => v = (.int .i64 (spec_l1Max p0 p1)) := by
  generalize hF : spec_l1Max p0 p1 = r
  refine PC.enter Try.func92 rfl Try.ntmps92 (by simp) ?_
  have hS := Sep.void; unfold spec_l1Max at hF
  refine AWP.seqR rfl ?_
  refine ASL.q (v := (.int .i64 0)) rfl rfl (Light.quiet (opAssign rfl rfl)) ?_
  refine ASL.done ?_
  refine AWP.seq ?_
  refine AWP.seqR rfl ?_
  refine ASL.q (v := (.int .i64 p0)) rfl rfl (Light.quiet (opMove rfl rfl)) ?_
  refine ASL.q (v := (.int .i64 p1)) rfl rfl (Light.quiet (opMove rfl rfl)) ?_
  refine ASL.q (v := (.bool (decide (p0 > p1)))) rfl rfl (Light.quiet (opInt rfl rfl rfl rfl)) ?_
  refine ASL.done ?_
  refine AWP.ifP hF rfl (fun hc1 hF => ?_) (fun hc1 hF => ?_)
  · skip
    refine AWP.seqR rfl ?_
    refine ASL.q (v := (.int .i64 p0)) rfl rfl (Light.quiet (opMove rfl rfl)) ?_
    refine ASL.q (v := (.int .i64 p0)) rfl rfl (Light.quiet (opAssign rfl rfl)) ?_
    refine ASL.done ?_
    refine AWP.ret ?_
    refine QThen.rt ?_
    obtain rfl := hF
    exact QRet.sole (v := (.int .i64 p0)) ⟨rfl, trivial⟩ rfl
  · skip
    refine AWP.skip ?_
    refine QThen.nrm ?_
    refine AWP.seqR rfl ?_
    refine ASL.q (v := (.int .i64 p1)) rfl rfl (Light.quiet (opMove rfl rfl)) ?_
    refine ASL.q (v := (.int .i64 p1)) rfl rfl (Light.quiet (opAssign rfl rfl)) ?_
    refine ASL.done ?_
    refine AWP.ret ?_
    obtain rfl := hF
    exact QRet.sole (v := (.int .i64 p1)) ⟨rfl, trivial⟩ rfl

set_option maxRecDepth 10000 in
theorem spec_AutoMake_ok {p0 : Int} {p1 : Int} {p2 : Int} {p3 : (List TEdge)} {r : (TAuto × Bool)} (hF : spec_AutoMake p0 p1 p2 p3 = some r) : PC Try.prog 52 [(.int .i64 p0), (.int .i64 p1), (.int .i64 p2), (.list 4 (List.map TEdge.av p3))] fun v => v = .tup [(TAuto.av r.1), (.bool r.2)] := by
  refine PC.enter Try.func52 rfl Try.ntmps52 (by simp) ?_
  have hS := Sep.void; unfold spec_AutoMake at hF
  refine AWP.seqR rfl ?_
  refine ASL.x rfl rfl (hNewZ hS [(.int .i64 0), (.int .i64 0), (.int .i64 0), (.list 4 (List.map TEdge.av []))] rfl zeroA_38 ⟨.inl rfl, .inl rfl, .inl rfl, .inr ⟨_, rfl, rfl⟩, trivial⟩ ?_); rintro b8 G1 hK hS
  refine ASL.q (v := (.bool false)) rfl rfl (Light.quiet (opAssign rfl rfl)) ?_
  refine ASL.done ?_
  refine AWP.seqR rfl ?_
  refine ASL.q (v := (.int .i64 p0)) rfl rfl (Light.quiet (opMove rfl rfl)) ?_
  refine ASL.q (v := (.int .i64 p1)) rfl rfl (Light.quiet (opMove rfl rfl)) ?_
  refine ASL.q (v := (.int .i64 p2)) rfl rfl (Light.quiet (opMove rfl rfl)) ?_
  refine ASL.q (v := (.agg [(.int .i64 p0), (.int .i64 p1), (.int .i64 p2), .nil])) rfl rfl (Light.quiet (opBuildZ (zs := [(.int .i64 0), (.int .i64 0), (.int .i64 0), .nil]) rfl plan_38 zeroA_38 ⟨.inl rfl, .inl rfl, .inl rfl, .inl rfl, trivial⟩ rfl)) ?_
  have hS := hNil (s := 4) (f := TEdge.av) hS
  refine ASL.x rfl rfl (hNewZ hS [(.int .i64 0), (.int .i64 0), (.int .i64 0), .nil] rfl zeroA_38 ⟨.inl rfl, .inl rfl, .inl rfl, .inl rfl, trivial⟩ ?_); rintro b10 G3 hK hS
  have hS := hNil (s := 4) (f := TEdge.av) hS
  refine ASL.n rfl rfl (hPutA hS (j := 1) rfl rfl sizeA_38 rfl rfl rfl rfl (allC rfl (allC rfl (allC rfl (allC (hS.one (k := 0) rfl) rfl)))) (nlt rfl) ?_); rintro G6 hS
  refine ASL.done ?_
  refine AWP.seq ?_
  refine AWP.seqR rfl ?_
  refine ASL.q (v := (.agg [(.int .i64 p0), (.int .i64 p1), (.int .i64 p2), .nil])) rfl rfl (Light.quiet (kAtA hS (j := 1) rfl rfl aggA_38 sizeA_38 rfl (nlt rfl) rfl)) ?_
  obtain ⟨a22, ha22, hF⟩ := bindE hF
  refine ASL.q (v := (.bool a22)) rfl rfl ((qCallR hS rfl rfl call_90 (spec_AutoOk_ok ha22) ⟨.aggL ⟨.same _, .same _, .same _, .row (k := 0) rfl, trivial⟩, trivial⟩ (by constructor))) ?_
  refine ASL.q (v := (.bool (!a22))) rfl rfl (Light.quiet (opNot rfl rfl)) ?_
  obtain ⟨c24, hc24, hF⟩ := bndE hF
  refine ASL.q (v := (.bool c24)) rfl rfl ((Quiet.cast (Light.quiet (opMove rfl rfl)) (congrArg AV.bool hc24.symm))) ?_
  refine ASL.g (v := (.list 4 (List.map TEdge.av p3))) (.bool c24) false rfl (wF _) rfl (fun hG => by have q0 := gN hG; subst q0; exact Light.quiet (opMove rfl rfl)) ?_
  refine ASL.g (v := (.int .i64 (p3.length : Int))) (.bool c24) false rfl (wF _) rfl (fun hG => by have q0 := gN hG; subst q0; exact Light.quiet (opLenMap (f := TEdge.av) rfl rfl rfl lenT_36 rfl)) ?_
  refine ASL.g (v := (.bool (decide (((p3.length : Int)) > 2000)))) (.bool c24) false rfl (wF _) rfl (fun hG => by have q0 := gN hG; subst q0; exact Light.quiet (opInt rfl rfl rfl rfl)) ?_
  refine ASL.q (v := (.bool (c24 || (decide (((p3.length : Int)) > 2000))))) rfl rfl (Light.quiet (opPick (b := c24) rfl rfl (by cases c24 <;> rfl))) ?_
  refine ASL.done ?_
  refine AWP.ifB hF rfl (fun hc8 hF => ?_) (fun hc8 hF => ?_)
  · skip
    refine AWP.seqR rfl ?_
    refine ASL.q (v := (.agg [(.int .i64 0), (.int .i64 0), (.int .i64 0), (.list 4 (List.map TEdge.av []))])) rfl rfl (Light.quiet (opBuildZ (zs := [(.int .i64 0), (.int .i64 0), (.int .i64 0), (.list 4 (List.map TEdge.av []))]) rfl plan_38 zeroA_38 ⟨.inl rfl, .inl rfl, .inl rfl, .inr ⟨_, rfl, rfl⟩, trivial⟩ rfl)) ?_
    refine ASL.n rfl rfl (hPutA hS (j := 3) rfl rfl sizeA_38 rfl rfl rfl rfl rfl (nlt rfl) ?_); rintro G9 hS
    refine ASL.q (v := (.bool false)) rfl rfl (Light.quiet (opAssign rfl rfl)) ?_
    refine ASL.done ?_
    refine AWP.ret ?_
    refine QThen.rt ?_
    obtain rfl := someE hF
    exact QRet.many (vs := [(.agg [(.int .i64 0), (.int .i64 0), (.int .i64 0), (.list 4 (List.map TEdge.av []))]), (.bool false)]) ⟨resOne.at hS (k := 3) rfl rfl aggA_38 sizeA_38, rfl, trivial⟩ (by simp) rfl
  · skip
    refine AWP.skip ?_
    refine QThen.nrm ?_
    refine AWP.seqR rfl ?_
    refine ASL.q (v := (.int .i64 p1)) rfl rfl (Light.quiet (opMove rfl rfl)) ?_
    refine ASL.q (v := (.int .i64 p0)) rfl rfl (Light.quiet (opMove rfl rfl)) ?_
    refine ASL.q (v := (.int .i64 (W (p1 * p0)))) rfl rfl (Light.quiet (opInt rfl rfl rfl rfl)) ?_
    refine ASL.q (v := (.int .i64 p1)) rfl rfl (Light.quiet (opMove rfl rfl)) ?_
    refine ASL.q (v := (.int .i64 (W (((W (p1 * p0))) * p1)))) rfl rfl (Light.quiet (opInt rfl rfl rfl rfl)) ?_
    obtain ⟨z35, hz35, hF⟩ := bindE hF
    refine ASL.x rfl rfl (hMk (f := (AV.int .i64)) hS hz35 (by decide) rfl elemA_47 sizeA_3 bytesA_3 zeroA_3 rfl rfl (by decide) rfl rfl ?_); rintro v35 G10 hK hS
    refine ASL.q (v := v35) rfl rfl (Light.quiet (opAssign rfl rfl)) ?_
    refine ASL.done ?_
    refine AWP.seqM (fun e H => ∃ y12 : Int, ∃ y13 : Int, ∃ y14 : Int, ∃ y15 : (List TEdge), ∃ y16 : (List Int), E.Told e [(0, (.int .i64 p0)), (1, (.int .i64 p1)), (8, (.ptr b8 0)), (10, (.ptr b10 0)), (11, v35)] ∧ E.Sep H [.cell b8 [(.int .i64 y12), (.int .i64 y13), (.int .i64 y14), (.list 4 (List.map TEdge.av y15))], .row 4 .nil (List.map TEdge.av ([])), .cell b10 [(.int .i64 p0), (.int .i64 p1), (.int .i64 p2), .nil], .row 1 v35 (List.map (AV.int .i64) y16)] ∧ spec_AutoMake.k0 p1 p0 p2 y12 y13 y14 y15 y16 = some r) ?_ ?_
    · rintro e0 G48 ⟨y12, y13, y14, y15, y16, hT, hS, hF⟩; refine AWP.only _ hT ?_; unfold spec_AutoMake.k0 at hF
      refine AWP.seqM (fun e H => ∃ y17 : Int, ∃ y18 : Int, ∃ y19 : Int, ∃ y20 : (List TEdge), ∃ w21 : AV, E.Told e [(8, (.ptr b8 0)), (10, (.ptr b10 0))] ∧ E.Sep H [.cell b8 [(.int .i64 y12), (.int .i64 y13), (.int .i64 y14), (.list 4 (List.map TEdge.av y15))], .row 4 w21 (List.map TEdge.av y20), .cell b10 [(.int .i64 y17), (.int .i64 y18), (.int .i64 y19), w21]] ∧ spec_AutoMake.k1 y17 y18 y19 y20 = some r) ?_ ?_
      · rintro e0 G25 ⟨y17, y18, y19, y20, w21, hT, hS, hF⟩; refine AWP.only _ hT ?_; unfold spec_AutoMake.k1 at hF
        refine AWP.seqR rfl ?_
        refine ASL.q (v := (.agg [(.int .i64 y17), (.int .i64 y18), (.int .i64 y19), w21])) rfl rfl (Light.quiet (kAtA hS (j := 2) rfl rfl aggA_38 sizeA_38 rfl (nlt rfl) rfl)) ?_
        refine ASL.n rfl rfl (hPutA hS (j := 0) rfl rfl sizeA_38 rfl rfl rfl rfl (allC rfl (allC rfl (allC rfl (allC (hS.one (k := 1) rfl) rfl)))) (nlt rfl) ?_); rintro G23 hS
        refine ASL.q (v := (.bool true)) rfl rfl (Light.quiet (opAssign rfl rfl)) ?_
        refine ASL.done ?_
        refine AWP.frz (L' := [.cell b8 [(.int .i64 y17), (.int .i64 y18), (.int .i64 y19), (.list 4 (List.map TEdge.av y20))], .cell b10 [(.int .i64 y17), (.int .i64 y18), (.int .i64 y19), (.list 4 (List.map TEdge.av y20))]]) hS (k := 1) rfl [(8, (.ptr b8 0)), (9, (.bool true)), (10, (.ptr b10 0))] ⟨.inl rfl, .inl rfl, .inl rfl, trivial⟩ ⟨⟨_, rfl, ⟨.inl rfl, .inl rfl, .inl rfl, .inr ⟨rfl, rfl⟩, trivial⟩⟩, ⟨_, rfl, ⟨.inl rfl, .inl rfl, .inl rfl, .inr ⟨rfl, rfl⟩, trivial⟩⟩, trivial⟩ (fun G24 hS => ?_)
        refine AWP.ret ?_
        obtain rfl := someE hF
        exact QRet.many (vs := [(.agg [(.int .i64 y17), (.int .i64 y18), (.int .i64 y19), (.list 4 (List.map TEdge.av y20))]), (.bool true)]) ⟨resOne.at hS (k := 0) rfl rfl aggA_38 sizeA_38, rfl, trivial⟩ (by simp) rfl
      · skip
        refine AWP.seqR rfl ?_
        refine ASL.q (v := (.int .i64 0)) rfl rfl (Light.quiet (opAssign rfl rfl)) ?_
        refine ASL.done ?_
        refine AWP.block ?_
        obtain ⟨o35, hL34, hR36⟩ := bindE hF
        refine AWP.loopF (ω := AV) hL34 (fun s w => [(0, (.int .i64 p0)), (1, (.int .i64 p1)), (8, (.ptr b8 0)), (10, (.ptr b10 0)), (11, v35), (16, (.int .i64 s.2.2.2.2))]) (fun s w => [.cell b8 [(.int .i64 y12), (.int .i64 y13), (.int .i64 y14), (.list 4 (List.map TEdge.av y15))], .row 4 w (List.map TEdge.av s.2.2.2.1), .cell b10 [(.int .i64 s.1), (.int .i64 s.2.1), (.int .i64 s.2.2.1), w], .row 1 v35 (List.map (AV.int .i64) y16)]) .nil ⟨rfl, rfl, rfl, rfl, rfl, rfl, trivial⟩ (hS.pick [0, 1, 2, 3] rfl rfl) ?_
        rintro ⟨y26, y27, y28, y29, x16_l0⟩ w30 G37 hS x32 hF hx33
        try dsimp only at hS ⊢
        have hF : spec_AutoMake.b0 y16 p1 p0 y26 y27 y28 y29 x16_l0 = some x32 := hF; unfold spec_AutoMake.b0 at hF
        refine AWP.seq ?_
        refine AWP.seqR rfl ?_
        refine ASL.q (v := (.int .i64 x16_l0)) rfl rfl (Light.quiet (opMove rfl rfl)) ?_
        refine ASL.q (v := v35) rfl rfl (Light.quiet (opMove rfl rfl)) ?_
        refine ASL.q (v := (.int .i64 (y16.length : Int))) rfl rfl (Light.quiet (kLen hS (j := 3) rfl rfl rfl rfl lenT_47 rfl)) ?_
        refine ASL.q (v := (.bool (decide (x16_l0 < ((y16.length : Int)))))) rfl rfl (Light.quiet (opInt rfl rfl rfl rfl)) ?_
        refine ASL.done ?_
        refine AWP.ifP hF rfl (fun hc38 hF => ?_) (fun hc38 hF => ?_)
        · skip
          refine AWP.skip ?_
          refine QThen.nrm ?_
          refine AWP.seq ?_
          refine AWP.block ?_
          refine AWP.seqR rfl ?_
          refine ASL.q (v := v35) rfl rfl (Light.quiet (opMove rfl rfl)) ?_
          refine ASL.q (v := (.int .i64 x16_l0)) rfl rfl (Light.quiet (opMove rfl rfl)) ?_
          obtain ⟨a98, ha98, hF⟩ := bindE hF
          refine ASL.q (v := (ptrTo v35 x16_l0.toNat 1)) rfl rfl (Light.quiet (kIxOx hS (j := 3) rfl ha98 rfl rfl rfl elemA_47 sizeA_3)) ?_
          refine ASL.q (v := (.int .i64 a98)) rfl rfl (Light.quiet (kLd (f := (AV.int .i64)) hS (j := 3) rfl ha98 rfl aggA_3 rfl (fun _ => rfl))) ?_
          refine ASL.q (v := (.bool (decide (a98 > 0)))) rfl rfl (Light.quiet (opInt rfl rfl rfl rfl)) ?_
          refine ASL.done ?_
          refine AWP.ifP hF rfl (fun hc39 hF => ?_) (fun hc39 hF => ?_)
          · skip
            refine AWP.lastD [(0, false), (1, false), (2, false), (3, false), (4, false), (5, false), (6, false), (7, false), (8, false), (9, false), (10, false), (11, false), (12, false), (13, false), (14, false), (15, false), (16, false), (17, false), (18, false), (19, false), (20, false), (21, false), (22, true), (23, false), (24, true)] mixed (by kernel_rfl) rfl ?_
            refine ARL.q0 (v := (.ptr b10 3)) rfl rfl (Light.quiet (opFieldAddr rfl fieldA_38_3 rfl rfl)) ?_
            refine ARL.q (v := w30) rfl rfl (hS.aliveC (k := 2) rfl) (Light.quiet (kAt hS (j := 2) rfl rfl aggA_36 rfl rfl)) ?_
            refine ARL.q0 (v := (.int .i64 x16_l0)) rfl rfl (Light.quiet (opMove rfl rfl)) ?_
            refine ARL.q0 (v := (.int .i64 p1)) rfl rfl (Light.quiet (opMove rfl rfl)) ?_
            obtain ⟨u40, hu40, hF⟩ := bindE hF
            refine ARL.q0 (v := (.int .i64 (quo .i64 x16_l0 p1))) rfl rfl (Light.quiet (opQuo rfl rfl rfl (of_decide_eq_true (chkE hu40)) rfl)) ?_
            refine ARL.q0 (v := (.int .i64 p0)) rfl rfl (Light.quiet (opMove rfl rfl)) ?_
            obtain ⟨u41, hu41, hF⟩ := bindE hF
            refine ARL.q0 (v := (.int .i64 (quo .i64 ((quo .i64 x16_l0 p1)) p0))) rfl rfl (Light.quiet (opQuo rfl rfl rfl (of_decide_eq_true (chkE hu41)) rfl)) ?_
            refine ARL.q0 (v := (.int .i64 x16_l0)) rfl rfl (Light.quiet (opMove rfl rfl)) ?_
            refine ARL.q0 (v := (.int .i64 p1)) rfl rfl (Light.quiet (opMove rfl rfl)) ?_
            obtain ⟨u42, hu42, hF⟩ := bindE hF
            refine ARL.q0 (v := (.int .i64 (quo .i64 x16_l0 p1))) rfl rfl (Light.quiet (opQuo rfl rfl rfl (of_decide_eq_true (chkE hu42)) rfl)) ?_
            refine ARL.q0 (v := (.int .i64 p0)) rfl rfl (Light.quiet (opMove rfl rfl)) ?_
            obtain ⟨u43, hu43, hF⟩ := bindE hF
            refine ARL.q0 (v := (.int .i64 (Int.tmod ((quo .i64 x16_l0 p1)) p0))) rfl rfl (Light.quiet (opRem rfl rfl rfl (of_decide_eq_true (chkE hu43)) rfl)) ?_
            refine ARL.q0 (v := (.int .i64 x16_l0)) rfl rfl (Light.quiet (opMove rfl rfl)) ?_
            refine ARL.q0 (v := (.int .i64 p1)) rfl rfl (Light.quiet (opMove rfl rfl)) ?_
            obtain ⟨u44, hu44, hF⟩ := bindE hF
            refine ARL.q0 (v := (.int .i64 (Int.tmod x16_l0 p1))) rfl rfl (Light.quiet (opRem rfl rfl rfl (of_decide_eq_true (chkE hu44)) rfl)) ?_
            refine ARL.q0 (v := v35) rfl rfl (Light.quiet (opMove rfl rfl)) ?_
            refine ARL.q0 (v := (.int .i64 x16_l0)) rfl rfl (Light.quiet (opMove rfl rfl)) ?_
            obtain ⟨a118, ha118, hF⟩ := bindE hF
            refine ARL.q0 (v := (ptrTo v35 x16_l0.toNat 1)) rfl rfl (Light.quiet (kIxOx hS (j := 3) rfl ha118 rfl rfl rfl elemA_47 sizeA_3)) ?_
            refine ARL.q (v := (.int .i64 a118)) rfl rfl (hS.aliveR (k := 3) rfl) (Light.quiet (kLd (f := (AV.int .i64)) hS (j := 3) rfl ha118 rfl aggA_3 rfl (fun _ => rfl))) ?_
            refine ARL.q0 (v := (.bool (decide (a118 = 2)))) rfl rfl (Light.quiet (opInt rfl rfl rfl rfl)) ?_
            refine ARL.q0 (v := (.agg [(.int .i64 (quo .i64 ((quo .i64 x16_l0 p1)) p0)), (.int .i64 (Int.tmod ((quo .i64 x16_l0 p1)) p0)), (.int .i64 (Int.tmod x16_l0 p1)), (.bool (decide (a118 = 2)))])) rfl rfl (Light.quiet (opBuildZ (zs := [(.int .i64 0), (.int .i64 0), (.int .i64 0), (.bool false)]) rfl plan_79 zeroA_79 ⟨.inl rfl, .inl rfl, .inl rfl, .inl rfl, trivial⟩ rfl)) ?_
            refine ARL.q0 (v := (.list 4 (List.map TEdge.av [(TEdge.mk ((quo .i64 ((quo .i64 x16_l0 p1)) p0)) ((Int.tmod ((quo .i64 x16_l0 p1)) p0)) ((Int.tmod x16_l0 p1)) ((decide (a118 = 2))))]))) rfl rfl ((qLit (xs := [(.agg [(.int .i64 (quo .i64 ((quo .i64 x16_l0 p1)) p0)), (.int .i64 (Int.tmod ((quo .i64 x16_l0 p1)) p0)), (.int .i64 (Int.tmod x16_l0 p1)), (.bool (decide (a118 = 2)))])]) rfl elemA_36 sizeA_79 zeroA_79 rfl rfl rfl rfl (by simp [cells, TEdge.av]) (nlt rfl))) ?_
            obtain ⟨z123, hz123, hF⟩ := bindE hF
            refine ARL.y rfl rfl rfl rfl (hApp (f := TEdge.av) (ws := [(TEdge.mk ((quo .i64 ((quo .i64 x16_l0 p1)) p0)) ((Int.tmod ((quo .i64 x16_l0 p1)) p0)) ((Int.tmod x16_l0 p1)) ((decide (a118 = 2))))]) hS (j := 1) rfl hz123 rfl elemA_36 rfl sizeA_79 bytesA_79 zeroA_79 rfl rfl rfl (fun _ => rfl) ?_); rintro v123 G45 hS
            refine ARL.q0 (v := (.ptr b10 3)) rfl rfl (Light.quiet (opFieldAddr rfl fieldA_38_3 rfl rfl)) ?_
            refine ARL.n rfl rfl rfl rfl (hPut hS (j := 2) rfl rfl sizeA_36 rfl rfl (hS.one (k := 1) rfl) (nlt rfl) ?_); rintro G47 hS
            refine ARL.done ?_
            refine QBlock.nrm ?_
            refine QThen.nrm ?_
            refine AWP.lastR rfl ?_
            refine ASL.q (v := (.int .i64 x16_l0)) rfl rfl (Light.quiet (opMove rfl rfl)) ?_
            refine ASL.q (v := (.int .i64 (W (x16_l0 + 1)))) rfl rfl (Light.quiet (opInt rfl rfl rfl rfl)) ?_
            refine ASL.q (v := (.int .i64 (W (x16_l0 + 1)))) rfl rfl (Light.quiet (opAssign rfl rfl)) ?_
            refine ASL.done ?_
            refine QThen.nrm ?_
            exact ⟨(y26, y27, y28, z123, (W (x16_l0 + 1))), v123, (someE hF).symm, ⟨rfl, rfl, rfl, rfl, rfl, rfl, trivial⟩, (hS.pick [0, 1, 2, 3] rfl rfl)⟩
          · skip
            refine AWP.skip ?_
            refine QBlock.nrm ?_
            refine QThen.nrm ?_
            refine AWP.lastR rfl ?_
            refine ASL.q (v := (.int .i64 x16_l0)) rfl rfl (Light.quiet (opMove rfl rfl)) ?_
            refine ASL.q (v := (.int .i64 (W (x16_l0 + 1)))) rfl rfl (Light.quiet (opInt rfl rfl rfl rfl)) ?_
            refine ASL.q (v := (.int .i64 (W (x16_l0 + 1)))) rfl rfl (Light.quiet (opAssign rfl rfl)) ?_
            refine ASL.done ?_
            refine QThen.nrm ?_
            exact ⟨(y26, y27, y28, y29, (W (x16_l0 + 1))), w30, (someE hF).symm, ⟨rfl, rfl, rfl, rfl, rfl, rfl, trivial⟩, (hS.pick [0, 1, 2, 3] rfl rfl)⟩
        · skip
          refine AWP.exit ?_
          refine QThen.ext ?_
          refine QThen.ext ?_
          refine QBlock.hit ?_
          obtain rfl := (hx33 _ (someE hF).symm)
          have hF := hR36
          refine QThen.nrm ?_
          exact ⟨y26, y27, y28, y29, w30, ⟨rfl, rfl, trivial⟩, (hS.pick [0, 1, 2] rfl rfl), hF⟩
    · skip
      refine AWP.seqR rfl ?_
      refine ASL.q (v := (.int .i64 0)) rfl rfl (Light.quiet (opAssign rfl rfl)) ?_
      refine ASL.done ?_
      refine AWP.block ?_
      obtain ⟨o57, hL56, hR58⟩ := bindE hF
      refine AWP.loopF (ω := Unit) hL56 (fun s w => [(0, (.int .i64 p0)), (1, (.int .i64 p1)), (3, (.list 4 (List.map TEdge.av p3))), (8, (.ptr b8 0)), (10, (.ptr b10 0)), (11, v35), (12, (.int .i64 s.2.2.2.2.2))]) (fun s w => [.cell b8 [(.int .i64 s.1), (.int .i64 s.2.1), (.int .i64 s.2.2.1), (.list 4 (List.map TEdge.av s.2.2.2.1))], .row 4 .nil (List.map TEdge.av ([])), .cell b10 [(.int .i64 p0), (.int .i64 p1), (.int .i64 p2), .nil], .row 1 v35 (List.map (AV.int .i64) s.2.2.2.2.1)]) () ⟨rfl, rfl, rfl, rfl, rfl, rfl, rfl, trivial⟩ (hS.pick [4, 1, 2, 0] rfl rfl) ?_
      rintro ⟨y49, y50, y51, y52, y53, x12_l1⟩ _ G59 hS x54 hF hx55
      try dsimp only at hS ⊢
      have hF : spec_AutoMake.b1 p3 p1 p0 y49 y50 y51 y52 y53 x12_l1 = some x54 := hF; unfold spec_AutoMake.b1 at hF
      refine AWP.seq ?_
      refine AWP.seqR rfl ?_
      refine ASL.q (v := (.int .i64 x12_l1)) rfl rfl (Light.quiet (opMove rfl rfl)) ?_
      refine ASL.q (v := (.list 4 (List.map TEdge.av p3))) rfl rfl (Light.quiet (opMove rfl rfl)) ?_
      refine ASL.q (v := (.int .i64 (p3.length : Int))) rfl rfl (Light.quiet (opLenMap (f := TEdge.av) rfl rfl rfl lenT_36 rfl)) ?_
      refine ASL.q (v := (.bool (decide (x12_l1 < ((p3.length : Int)))))) rfl rfl (Light.quiet (opInt rfl rfl rfl rfl)) ?_
      refine ASL.done ?_
      refine AWP.ifP hF rfl (fun hc60 hF => ?_) (fun hc60 hF => ?_)
      · skip
        refine AWP.skip ?_
        refine QThen.nrm ?_
        refine AWP.seq ?_
        refine AWP.block ?_
        refine AWP.seqR rfl ?_
        refine ASL.q (v := (.list 4 (List.map TEdge.av p3))) rfl rfl (Light.quiet (opMove rfl rfl)) ?_
        refine ASL.q (v := (.int .i64 x12_l1)) rfl rfl (Light.quiet (opMove rfl rfl)) ?_
        obtain ⟨a44, ha44, hF⟩ := bindE hF
        refine ASL.q (v := (.rptr [(.int .i64 a44.from_), (.int .i64 a44.letter), (.int .i64 a44.to_), (.bool a44.good)])) rfl rfl (Light.quiet (kIx (f := TEdge.av) ha44 rfl rfl rfl elemA_36 sizeA_79 rfl)) ?_
        refine ASL.q (v := (TEdge.av a44)) rfl rfl (Light.quiet (opLoadRA rfl aggA_79 sizeA_79 rfl (nlt rfl) rfl)) ?_
        refine ASL.x rfl rfl (hNewZ hS [(.int .i64 0), (.int .i64 0), (.int .i64 0), (.bool false)] rfl zeroA_79 ⟨.inl rfl, .inl rfl, .inl rfl, .inl rfl, trivial⟩ ?_); rintro b13 G61 hK hS
        refine ASL.n rfl rfl (hPutA hS (j := 0) rfl rfl sizeA_79 rfl rfl rfl rfl rfl (nlt rfl) ?_); rintro G63 hS
        refine ASL.done ?_
        refine AWP.seq ?_
        refine AWP.seqR rfl ?_
        refine ASL.q (v := (.ptr b13 0)) rfl rfl (Light.quiet (opFieldAddr rfl fieldA_79_0 rfl rfl)) ?_
        refine ASL.q (v := (.int .i64 a44.from_)) rfl rfl (Light.quiet (kAt hS (j := 0) rfl rfl aggA_3 rfl rfl)) ?_
        refine ASL.q (v := (.int .i64 p1)) rfl rfl (Light.quiet (opMove rfl rfl)) ?_
        refine ASL.q (v := (.bool (spec_l4State a44.from_ p1))) rfl rfl ((qCall rfl rfl call_91 (spec_l4State_ok a44.from_ p1) rfl)) ?_
        refine ASL.q (v := (.bool (!(spec_l4State a44.from_ p1)))) rfl rfl (Light.quiet (opNot rfl rfl)) ?_
        obtain ⟨c51, hc51, hF⟩ := bndE hF
        refine ASL.q (v := (.bool c51)) rfl rfl ((Quiet.cast (Light.quiet (opMove rfl rfl)) (congrArg AV.bool hc51.symm))) ?_
        refine ASL.g (v := (.ptr b13 2)) (.bool c51) false rfl (wF _) rfl (fun hG => by have q0 := gN hG; subst q0; exact Light.quiet (opFieldAddr rfl fieldA_79_2 rfl rfl)) ?_
        refine ASL.g (v := (.int .i64 a44.to_)) (.bool c51) false rfl (wF _) rfl (fun hG => by have q0 := gN hG; subst q0; exact Light.quiet (kAt hS (j := 0) rfl rfl aggA_3 rfl rfl)) ?_
        refine ASL.g (v := (.int .i64 p1)) (.bool c51) false rfl (wF _) rfl (fun hG => by have q0 := gN hG; subst q0; exact Light.quiet (opMove rfl rfl)) ?_
        refine ASL.g (v := (.bool (spec_l4State a44.to_ p1))) (.bool c51) false rfl (wF _) rfl (fun hG => by have q0 := gN hG; subst q0; exact (qCall rfl rfl call_91 (spec_l4State_ok a44.to_ p1) rfl)) ?_
        refine ASL.g (v := (.bool (!(spec_l4State a44.to_ p1)))) (.bool c51) false rfl (wF _) rfl (fun hG => by have q0 := gN hG; subst q0; exact Light.quiet (opNot rfl rfl)) ?_
        refine ASL.q (v := (.bool (c51 || (!(spec_l4State a44.to_ p1))))) rfl rfl (Light.quiet (opPick (b := c51) rfl rfl (by cases c51 <;> rfl))) ?_
        obtain ⟨c58, hc58, hF⟩ := bndE hF
        refine ASL.q (v := (.bool c58)) rfl rfl ((Quiet.cast (Light.quiet (opMove rfl rfl)) (congrArg AV.bool hc58.symm))) ?_
        refine ASL.g (v := (.ptr b13 1)) (.bool c58) false rfl (wF _) rfl (fun hG => by have q0 := gN hG; subst q0; exact Light.quiet (opFieldAddr rfl fieldA_79_1 rfl rfl)) ?_
        refine ASL.g (v := (.int .i64 a44.letter)) (.bool c58) false rfl (wF _) rfl (fun hG => by have q0 := gN hG; subst q0; exact Light.quiet (kAt hS (j := 0) rfl rfl aggA_3 rfl rfl)) ?_
        refine ASL.g (v := (.int .i64 p0)) (.bool c58) false rfl (wF _) rfl (fun hG => by have q0 := gN hG; subst q0; exact Light.quiet (opMove rfl rfl)) ?_
        refine ASL.g (v := (.int .i64 (W (p0 - 1)))) (.bool c58) false rfl (wF _) rfl (fun hG => by have q0 := gN hG; subst q0; exact Light.quiet (opInt rfl rfl rfl rfl)) ?_
        refine ASL.g (v := (.bool (spec_l1In a44.letter 0 ((W (p0 - 1)))))) (.bool c58) false rfl (wF _) rfl (fun hG => by have q0 := gN hG; subst q0; exact (qCall rfl rfl call_29 (spec_l1In_ok a44.letter 0 ((W (p0 - 1)))) rfl)) ?_
        refine ASL.g (v := (.bool (!(spec_l1In a44.letter 0 ((W (p0 - 1))))))) (.bool c58) false rfl (wF _) rfl (fun hG => by have q0 := gN hG; subst q0; exact Light.quiet (opNot rfl rfl)) ?_
        refine ASL.q (v := (.bool (c58 || (!(spec_l1In a44.letter 0 ((W (p0 - 1)))))))) rfl rfl (Light.quiet (opPick (b := c58) rfl rfl (by cases c58 <;> rfl))) ?_
        refine ASL.done ?_
        refine AWP.ifB hF rfl (fun hc64 hF => ?_) (fun hc64 hF => ?_)
        · skip
          refine AWP.seqR rfl ?_
          refine ASL.q (v := (.agg [(.int .i64 0), (.int .i64 0), (.int .i64 0), (.list 4 (List.map TEdge.av []))])) rfl rfl (Light.quiet (opBuildZ (zs := [(.int .i64 0), (.int .i64 0), (.int .i64 0), (.list 4 (List.map TEdge.av []))]) rfl plan_38 zeroA_38 ⟨.inl rfl, .inl rfl, .inl rfl, .inr ⟨_, rfl, rfl⟩, trivial⟩ rfl)) ?_
          refine ASL.n rfl rfl (hPutA hS (j := 1) rfl rfl sizeA_38 rfl rfl rfl rfl rfl (nlt rfl) ?_); rintro G65 hS
          refine ASL.q (v := (.bool false)) rfl rfl (Light.quiet (opAssign rfl rfl)) ?_
          refine ASL.done ?_
          refine AWP.ret ?_
          refine QThen.rt ?_
          refine QBlock.ret ?_
          refine QThen.rt ?_
          refine QThen.rt ?_
          refine QBlock.ret ?_
          refine QThen.rt ?_
          obtain rfl := (hx55 _ (someE hF).symm)
          have hF := hR58
          have hF := sumR hF
          obtain rfl := someE hF
          exact QRet.many (vs := [(.agg [(.int .i64 0), (.int .i64 0), (.int .i64 0), (.list 4 (List.map TEdge.av []))]), (.bool false)]) ⟨resOne.at hS (k := 1) rfl rfl aggA_38 sizeA_38, rfl, trivial⟩ (by simp) rfl
        · skip
          refine AWP.skip ?_
          refine QThen.nrm ?_
          refine AWP.seqR rfl ?_
          refine ASL.q (v := (.ptr b13 0)) rfl rfl (Light.quiet (opFieldAddr rfl fieldA_79_0 rfl rfl)) ?_
          refine ASL.q (v := (.int .i64 a44.from_)) rfl rfl (Light.quiet (kAt hS (j := 0) rfl rfl aggA_3 rfl rfl)) ?_
          refine ASL.q (v := (.int .i64 p0)) rfl rfl (Light.quiet (opMove rfl rfl)) ?_
          refine ASL.q (v := (.int .i64 (W (a44.from_ * p0)))) rfl rfl (Light.quiet (opInt rfl rfl rfl rfl)) ?_
          refine ASL.q (v := (.ptr b13 1)) rfl rfl (Light.quiet (opFieldAddr rfl fieldA_79_1 rfl rfl)) ?_
          refine ASL.q (v := (.int .i64 a44.letter)) rfl rfl (Light.quiet (kAt hS (j := 0) rfl rfl aggA_3 rfl rfl)) ?_
          refine ASL.q (v := (.int .i64 (W (((W (a44.from_ * p0))) + a44.letter)))) rfl rfl (Light.quiet (opInt rfl rfl rfl rfl)) ?_
          refine ASL.q (v := (.int .i64 p1)) rfl rfl (Light.quiet (opMove rfl rfl)) ?_
          refine ASL.q (v := (.int .i64 (W (((W (((W (a44.from_ * p0))) + a44.letter))) * p1)))) rfl rfl (Light.quiet (opInt rfl rfl rfl rfl)) ?_
          refine ASL.q (v := (.ptr b13 2)) rfl rfl (Light.quiet (opFieldAddr rfl fieldA_79_2 rfl rfl)) ?_
          refine ASL.q (v := (.int .i64 a44.to_)) rfl rfl (Light.quiet (kAt hS (j := 0) rfl rfl aggA_3 rfl rfl)) ?_
          refine ASL.q (v := (.int .i64 (W (((W (((W (((W (a44.from_ * p0))) + a44.letter))) * p1))) + a44.to_)))) rfl rfl (Light.quiet (opInt rfl rfl rfl rfl)) ?_
          refine ASL.q (v := (.int .i64 (W (((W (((W (((W (a44.from_ * p0))) + a44.letter))) * p1))) + a44.to_)))) rfl rfl (Light.quiet (opAssign rfl rfl)) ?_
          refine ASL.done ?_
          refine AWP.seqR rfl ?_
          refine ASL.q (v := (.int .i64 1)) rfl rfl (Light.quiet (opAssign rfl rfl)) ?_
          refine ASL.done ?_
          refine AWP.seqM (fun e H => ∃ x15_3 : Int, E.Told e [(0, (.int .i64 p0)), (1, (.int .i64 p1)), (3, (.list 4 (List.map TEdge.av p3))), (8, (.ptr b8 0)), (10, (.ptr b10 0)), (11, v35), (12, (.int .i64 x12_l1)), (14, (.int .i64 (W (((W (((W (((W (a44.from_ * p0))) + a44.letter))) * p1))) + a44.to_)))), (15, (.int .i64 x15_3))] ∧ E.Sep H [.cell b8 [(.int .i64 y49), (.int .i64 y50), (.int .i64 y51), (.list 4 (List.map TEdge.av y52))], .row 4 .nil (List.map TEdge.av ([])), .cell b10 [(.int .i64 p0), (.int .i64 p1), (.int .i64 p2), .nil], .row 1 v35 (List.map (AV.int .i64) y53)] ∧ spec_AutoMake.k2 y53 a44 p0 p1 y49 y50 y51 y52 x12_l1 x15_3 = some x54) ?_ ?_
          · rintro e0 G67 ⟨x15_3, hT, hS, hF⟩; refine AWP.only _ hT ?_; unfold spec_AutoMake.k2 at hF
            refine AWP.lastR rfl ?_
            refine ASL.q (v := v35) rfl rfl (Light.quiet (opMove rfl rfl)) ?_
            refine ASL.q (v := (.int .i64 (W (((W (((W (((W (a44.from_ * p0))) + a44.letter))) * p1))) + a44.to_)))) rfl rfl (Light.quiet (opMove rfl rfl)) ?_
            refine ASL.q (v := v35) rfl rfl (Light.quiet (opMove rfl rfl)) ?_
            refine ASL.q (v := (.int .i64 (W (((W (((W (((W (a44.from_ * p0))) + a44.letter))) * p1))) + a44.to_)))) rfl rfl (Light.quiet (opMove rfl rfl)) ?_
            obtain ⟨a85, ha85, hF⟩ := bindE hF
            refine ASL.q (v := (ptrTo v35 ((W (((W (((W (((W (a44.from_ * p0))) + a44.letter))) * p1))) + a44.to_))).toNat 1)) rfl rfl (Light.quiet (kIxOx hS (j := 3) rfl ha85 rfl rfl rfl elemA_47 sizeA_3)) ?_
            refine ASL.q (v := (.int .i64 a85)) rfl rfl (Light.quiet (kLd (f := (AV.int .i64)) hS (j := 3) rfl ha85 rfl aggA_3 rfl (fun _ => rfl))) ?_
            refine ASL.q (v := (.int .i64 x15_3)) rfl rfl (Light.quiet (opMove rfl rfl)) ?_
            refine ASL.q (v := (.int .i64 (spec_l1Max a85 x15_3))) rfl rfl ((qCall rfl rfl call_92 (spec_l1Max_ok a85 x15_3) rfl)) ?_
            obtain ⟨m89, hm89, hF⟩ := bindE hF
            refine ASL.q (v := (ptrTo v35 m89 1)) rfl rfl (Light.quiet (kIxO hS (j := 3) rfl hm89 rfl rfl rfl elemA_47 sizeA_3)) ?_
            refine ASL.n rfl rfl (hSt (f := (AV.int .i64)) (a := (spec_l1Max a85 x15_3)) hS (j := 3) rfl hm89 rfl sizeA_3 rfl rfl ⟨rfl, rfl, rfl⟩ ?_); rintro G66 hS
            refine ASL.done ?_
            refine QBlock.nrm ?_
            refine QThen.nrm ?_
            refine AWP.lastR rfl ?_
            refine ASL.q (v := (.int .i64 x12_l1)) rfl rfl (Light.quiet (opMove rfl rfl)) ?_
            refine ASL.q (v := (.int .i64 (W (x12_l1 + 1)))) rfl rfl (Light.quiet (opInt rfl rfl rfl rfl)) ?_
            refine ASL.q (v := (.int .i64 (W (x12_l1 + 1)))) rfl rfl (Light.quiet (opAssign rfl rfl)) ?_
            refine ASL.done ?_
            refine QThen.nrm ?_
            exact ⟨(y49, y50, y51, y52, (y53.set m89 ((spec_l1Max a85 x15_3))), (W (x12_l1 + 1))), (), (someE hF).symm, ⟨rfl, rfl, rfl, rfl, rfl, rfl, rfl, trivial⟩, (hS.pick [0, 1, 2, 3] rfl rfl)⟩
          · skip
            refine AWP.seqR rfl ?_
            refine ASL.q (v := (.ptr b13 3)) rfl rfl (Light.quiet (opFieldAddr rfl fieldA_79_3 rfl rfl)) ?_
            refine ASL.q (v := (.bool a44.good)) rfl rfl (Light.quiet (kAt hS (j := 0) rfl rfl aggA_4 rfl rfl)) ?_
            refine ASL.done ?_
            refine AWP.ifB hF rfl (fun hc68 hF => ?_) (fun hc68 hF => ?_)
            · skip
              refine AWP.lastR rfl ?_
              refine ASL.q (v := (.int .i64 2)) rfl rfl (Light.quiet (opAssign rfl rfl)) ?_
              refine ASL.done ?_
              refine QThen.nrm ?_
              exact ⟨2, ⟨rfl, rfl, rfl, rfl, rfl, rfl, rfl, rfl, rfl, trivial⟩, (hS.pick [1, 2, 3, 4] rfl rfl), hF⟩
            · skip
              refine AWP.skip ?_
              refine QThen.nrm ?_
              exact ⟨1, ⟨rfl, rfl, rfl, rfl, rfl, rfl, rfl, rfl, rfl, trivial⟩, (hS.pick [1, 2, 3, 4] rfl rfl), hF⟩
      · skip
        refine AWP.exit ?_
        refine QThen.ext ?_
        refine QThen.ext ?_
        refine QBlock.hit ?_
        obtain rfl := (hx55 _ (someE hF).symm)
        have hF := hR58
        have hF := sumL hF
        refine QThen.nrm ?_
        exact ⟨y49, y50, y51, y52, y53, ⟨rfl, rfl, rfl, rfl, rfl, trivial⟩, (hS.pick [0, 1, 2, 3] rfl rfl), hF⟩

set_option maxRecDepth 10000 in
theorem spec_ReNull_ok {K : Nat} {p0 : (List TNode)} {r : Bool} (hF : spec_ReNull K p0 = some r) : PC Try.prog 53 [(.list 3 (List.map TNode.av p0))] fun v => v = (.bool r) := by
  refine PC.enter Try.func53 rfl Try.ntmps53 (by simp) ?_
  have hS := Sep.void; unfold spec_ReNull at hF
  refine AWP.seqR rfl ?_
  refine ASL.q (v := (.bool false)) rfl rfl (Light.quiet (opAssign rfl rfl)) ?_
  refine ASL.done ?_
  refine AWP.seqR rfl ?_
  refine ASL.q (v := (.list 3 (List.map TNode.av p0))) rfl rfl (Light.quiet (opMove rfl rfl)) ?_
  obtain ⟨a4, ha4, hF⟩ := bindE hF
  refine ASL.q (v := (.bool a4)) rfl rfl ((qCall rfl rfl call_49 (spec_ReOk_ok ha4) rfl)) ?_
  refine ASL.q (v := (.bool a4)) rfl rfl (Light.quiet (opMove rfl rfl)) ?_
  refine ASL.g (v := (.list 3 (List.map TNode.av p0))) (.bool a4) true rfl (wT _) rfl (fun hG => by have q0 := hG; subst q0; exact Light.quiet (opMove rfl rfl)) ?_
  refine ASL.g (v := (.list 3 (List.map TNode.av p0))) (.bool a4) true rfl (wT _) rfl (fun hG => by have q0 := hG; subst q0; exact Light.quiet (opMove rfl rfl)) ?_
  refine ASL.g (v := (.int .i64 (p0.length : Int))) (.bool a4) true rfl (wT _) rfl (fun hG => by have q0 := hG; subst q0; exact Light.quiet (opLenMap (f := TNode.av) rfl rfl rfl lenT_29 rfl)) ?_
  refine ASL.g (v := (.int .i64 (W (((p0.length : Int)) - 1)))) (.bool a4) true rfl (wT _) rfl (fun hG => by have q0 := hG; subst q0; exact Light.quiet (opInt rfl rfl rfl rfl)) ?_
  obtain ⟨a10, ha10, hF⟩ := bindE hF
  refine ASL.g (v := (.bool a10)) (.bool a4) true rfl (wT _) rfl (fun hG => by have q0 := hG; subst q0; exact (qCall rfl rfl call_89 (spec_l11Null_ok (whenE ha10)) rfl)) ?_
  refine ASL.q (v := (.bool (a4 && a10))) rfl rfl (Light.quiet (opPick (b := a4) rfl rfl (by cases a4 <;> rfl))) ?_
  refine ASL.q (v := (.bool (a4 && a10))) rfl rfl (Light.quiet (opAssign rfl rfl)) ?_
  refine ASL.done ?_
  refine AWP.ret ?_
  obtain rfl := someE hF
  exact QRet.sole (v := (.bool (a4 && a10))) ⟨rfl, trivial⟩ rfl

set_option maxRecDepth 10000 in
theorem spec_ReNfa_ok {K : Nat} {p0 : (List TNode)} {p1 : Int} {r : (TNfa × Bool)} (hF : spec_ReNfa K p0 p1 = some r) : PC Try.prog 15 [(.list 3 (List.map TNode.av p0)), (.int .i64 p1)] fun v => v = .tup [(TNfa.av r.1), (.bool r.2)] := by
  refine PC.enter Try.func15 rfl Try.ntmps15 (by simp) ?_
  have hS := Sep.void; unfold spec_ReNfa at hF
  refine AWP.seqR rfl ?_
  refine ASL.x rfl rfl (hNewZ hS [(.int .i64 0), (.int .i64 0), (.int .i64 0), (.list 4 (List.map TEdge.av [])), (.int .i64 0)] rfl zeroA_40 ⟨.inl rfl, .inl rfl, .inl rfl, .inr ⟨_, rfl, rfl⟩, .inl rfl, trivial⟩ ?_); rintro b4 G1 hK hS
  refine ASL.q (v := (.bool false)) rfl rfl (Light.quiet (opAssign rfl rfl)) ?_
  refine ASL.done ?_
  refine AWP.seq ?_
  refine AWP.seqR rfl ?_
  refine ASL.q (v := (.list 3 (List.map TNode.av p0))) rfl rfl (Light.quiet (opMove rfl rfl)) ?_
  obtain ⟨a21, ha21, hF⟩ := bindE hF
  refine ASL.q (v := (.bool a21)) rfl rfl ((qCall rfl rfl call_49 (spec_ReOk_ok ha21) rfl)) ?_
  refine ASL.q (v := (.bool (!a21))) rfl rfl (Light.quiet (opNot rfl rfl)) ?_
  obtain ⟨c23, hc23, hF⟩ := bndE hF
  refine ASL.q (v := (.bool c23)) rfl rfl ((Quiet.cast (Light.quiet (opMove rfl rfl)) (congrArg AV.bool hc23.symm))) ?_
  refine ASL.g (v := (.int .i64 p1)) (.bool c23) false rfl (wF _) rfl (fun hG => by have q0 := gN hG; subst q0; exact Light.quiet (opMove rfl rfl)) ?_
  refine ASL.g (v := (.bool (spec_l1In p1 1 8))) (.bool c23) false rfl (wF _) rfl (fun hG => by have q0 := gN hG; subst q0; exact (qCall rfl rfl call_29 (spec_l1In_ok p1 1 8) rfl)) ?_
  refine ASL.g (v := (.bool (!(spec_l1In p1 1 8)))) (.bool c23) false rfl (wF _) rfl (fun hG => by have q0 := gN hG; subst q0; exact Light.quiet (opNot rfl rfl)) ?_
  refine ASL.q (v := (.bool (c23 || (!(spec_l1In p1 1 8))))) rfl rfl (Light.quiet (opPick (b := c23) rfl rfl (by cases c23 <;> rfl))) ?_
  refine ASL.done ?_
  refine AWP.ifB hF rfl (fun hc3 hF => ?_) (fun hc3 hF => ?_)
  · skip
    refine AWP.seqR rfl ?_
    refine ASL.q (v := (.agg [(.int .i64 0), (.int .i64 0), (.int .i64 0), (.list 4 (List.map TEdge.av [])), (.int .i64 0)])) rfl rfl (Light.quiet (opBuildZ (zs := [(.int .i64 0), (.int .i64 0), (.int .i64 0), (.list 4 (List.map TEdge.av [])), (.int .i64 0)]) rfl plan_40 zeroA_40 ⟨.inl rfl, .inl rfl, .inl rfl, .inr ⟨_, rfl, rfl⟩, .inl rfl, trivial⟩ rfl)) ?_
    refine ASL.n rfl rfl (hPutA hS (j := 0) rfl rfl sizeA_40 rfl rfl rfl rfl rfl (nlt rfl) ?_); rintro G4 hS
    refine ASL.q (v := (.bool false)) rfl rfl (Light.quiet (opAssign rfl rfl)) ?_
    refine ASL.done ?_
    refine AWP.ret ?_
    refine QThen.rt ?_
    obtain rfl := someE hF
    exact QRet.many (vs := [(.agg [(.int .i64 0), (.int .i64 0), (.int .i64 0), (.list 4 (List.map TEdge.av [])), (.int .i64 0)]), (.bool false)]) ⟨resOne.at hS (k := 0) rfl rfl aggA_40 sizeA_40, rfl, trivial⟩ (by simp) rfl
  · skip
    refine AWP.skip ?_
    refine QThen.nrm ?_
    refine AWP.seqR rfl ?_
    refine ASL.x rfl rfl (hLit (f := (AV.int .i64)) (zs := []) hS rfl rfl elemA_47 sizeA_3 zeroA_3 rfl rfl rfl rfl (by simp [cells]) (nlt rfl) ?_); rintro v29 G5 hK hS
    refine ASL.q (v := v29) rfl rfl (Light.quiet (opAssign rfl rfl)) ?_
    refine ASL.done ?_
    refine AWP.seqR rfl ?_
    refine ASL.x rfl rfl (hLit (f := (AV.int .i64)) (zs := [0]) hS rfl rfl elemA_47 sizeA_3 zeroA_3 rfl rfl rfl rfl (by simp [cells]) (nlt rfl) ?_); rintro v30 G7 hK hS
    refine ASL.q (v := v30) rfl rfl (Light.quiet (opAssign rfl rfl)) ?_
    refine ASL.done ?_
    refine AWP.seqM (fun e H => ∃ y9 : Int, ∃ y10 : Int, ∃ y11 : Int, ∃ y12 : (List TEdge), ∃ y13 : Int, ∃ y14 : (List Int), ∃ y17 : (List Int), ∃ w15 : AV, ∃ w18 : AV, E.Told e [(0, (.list 3 (List.map TNode.av p0))), (1, (.int .i64 p1)), (4, (.ptr b4 0)), (6, w15), (7, w18)] ∧ E.Sep H [.cell b4 [(.int .i64 y9), (.int .i64 y10), (.int .i64 y11), (.list 4 (List.map TEdge.av y12)), (.int .i64 y13)], .row 1 w15 (List.map (AV.int .i64) y14), .row 1 w18 (List.map (AV.int .i64) y17)] ∧ spec_ReNfa.k0 K p0 p1 y9 y10 y11 y12 y13 y14 y17 = some r) ?_ ?_
    · rintro e0 G96 ⟨y9, y10, y11, y12, y13, y14, y17, w15, w18, hT, hS, hF⟩; refine AWP.only _ hT ?_; unfold spec_ReNfa.k0 at hF
      refine AWP.seq ?_
      refine AWP.seqR rfl ?_
      refine ASL.q (v := w18) rfl rfl (Light.quiet (opMove rfl rfl)) ?_
      refine ASL.q (v := (.int .i64 (y17.length : Int))) rfl rfl (Light.quiet (kLen hS (j := 2) rfl rfl rfl rfl lenT_47 rfl)) ?_
      refine ASL.q (v := (.bool (decide (((y17.length : Int)) > 31)))) rfl rfl (Light.quiet (opInt rfl rfl rfl rfl)) ?_
      refine ASL.done ?_
      refine AWP.ifP hF rfl (fun hc20 hF => ?_) (fun hc20 hF => ?_)
      · skip
        refine AWP.seqR rfl ?_
        refine ASL.q (v := (.agg [(.int .i64 0), (.int .i64 0), (.int .i64 0), (.list 4 (List.map TEdge.av [])), (.int .i64 0)])) rfl rfl (Light.quiet (opBuildZ (zs := [(.int .i64 0), (.int .i64 0), (.int .i64 0), (.list 4 (List.map TEdge.av [])), (.int .i64 0)]) rfl plan_40 zeroA_40 ⟨.inl rfl, .inl rfl, .inl rfl, .inr ⟨_, rfl, rfl⟩, .inl rfl, trivial⟩ rfl)) ?_
        refine ASL.n rfl rfl (hPutA hS (j := 0) rfl rfl sizeA_40 rfl rfl rfl rfl rfl (nlt rfl) ?_); rintro G21 hS
        refine ASL.q (v := (.bool false)) rfl rfl (Light.quiet (opAssign rfl rfl)) ?_
        refine ASL.done ?_
        refine AWP.ret ?_
        refine QThen.rt ?_
        obtain rfl := someE hF
        exact QRet.many (vs := [(.agg [(.int .i64 0), (.int .i64 0), (.int .i64 0), (.list 4 (List.map TEdge.av [])), (.int .i64 0)]), (.bool false)]) ⟨resOne.at hS (k := 0) rfl rfl aggA_40 sizeA_40, rfl, trivial⟩ (by simp) rfl
      · skip
        refine AWP.skip ?_
        refine QThen.nrm ?_
        refine AWP.seqR rfl ?_
        refine ASL.q (v := w18) rfl rfl (Light.quiet (opMove rfl rfl)) ?_
        refine ASL.q (v := (.int .i64 (y17.length : Int))) rfl rfl (Light.quiet (kLen hS (j := 2) rfl rfl rfl rfl lenT_47 rfl)) ?_
        obtain ⟨z70, hz70, hF⟩ := bindE hF
        refine ASL.x rfl rfl (hMk (f := (AV.int .i64)) hS hz70 (by decide) rfl elemA_47 sizeA_3 bytesA_3 zeroA_3 rfl rfl (by decide) rfl rfl ?_); rintro v70 G22 hK hS
        refine ASL.q (v := v70) rfl rfl (Light.quiet (opAssign rfl rfl)) ?_
        refine ASL.done ?_
        refine AWP.seqR rfl ?_
        refine ASL.q (v := v70) rfl rfl (Light.quiet (opMove rfl rfl)) ?_
        refine ASL.q (v := (.list 3 (List.map TNode.av p0))) rfl rfl (Light.quiet (opMove rfl rfl)) ?_
        refine ASL.q (v := (.list 3 (List.map TNode.av p0))) rfl rfl (Light.quiet (opMove rfl rfl)) ?_
        refine ASL.q (v := (.int .i64 (p0.length : Int))) rfl rfl (Light.quiet (opLenMap (f := TNode.av) rfl rfl rfl lenT_29 rfl)) ?_
        refine ASL.q (v := (.int .i64 (W (((p0.length : Int)) - 1)))) rfl rfl (Light.quiet (opInt rfl rfl rfl rfl)) ?_
        refine ASL.q (v := w15) rfl rfl (Light.quiet (opMove rfl rfl)) ?_
        obtain ⟨a77, ha77, hF⟩ := bindE hF
        refine ASL.q (v := (.int .i64 a77)) rfl rfl ((qCallR hS rfl rfl call_50 (spec_l11Edge_ok ha77) ⟨.same _, .same _, .row (k := 2) rfl, .same _, trivial⟩ (by constructor))) ?_
        obtain ⟨m78, hm78, hF⟩ := bindE hF
        refine ASL.q (v := (ptrTo v70 m78 1)) rfl rfl (Light.quiet (kIxO hS (j := 0) rfl hm78 rfl rfl rfl elemA_47 sizeA_3)) ?_
        refine ASL.n rfl rfl (hSt (f := (AV.int .i64)) (a := a77) hS (j := 0) rfl hm78 rfl sizeA_3 rfl rfl ⟨rfl, rfl, rfl⟩ ?_); rintro G24 hS
        refine ASL.done ?_
        refine AWP.seqM (fun e H => ∃ y25 : (List Int), E.Told e [(0, (.list 3 (List.map TNode.av p0))), (1, (.int .i64 p1)), (4, (.ptr b4 0)), (6, w15), (7, w18), (9, v70)] ∧ E.Sep H [.cell b4 [(.int .i64 y9), (.int .i64 y10), (.int .i64 y11), (.list 4 (List.map TEdge.av y12)), (.int .i64 y13)], .row 1 w15 (List.map (AV.int .i64) y14), .row 1 w18 (List.map (AV.int .i64) y17), .row 1 v70 (List.map (AV.int .i64) y25)] ∧ spec_ReNfa.k1 y17 p1 K p0 y14 y25 = some r) ?_ ?_
        · rintro e0 G72 ⟨y25, hT, hS, hF⟩; refine AWP.only _ hT ?_; unfold spec_ReNfa.k1 at hF
          refine AWP.seqR rfl ?_
          refine ASL.x rfl rfl (hLit (f := TEdge.av) (zs := []) hS rfl rfl elemA_36 sizeA_79 zeroA_79 rfl rfl rfl rfl (by simp [cells, TEdge.av]) (nlt rfl) ?_); rintro v144 G26 hK hS
          refine ASL.q (v := v144) rfl rfl (Light.quiet (opAssign rfl rfl)) ?_
          refine ASL.done ?_
          refine AWP.seqM (fun e H => ∃ y28 : (List TEdge), ∃ w29 : AV, E.Told e [(0, (.list 3 (List.map TNode.av p0))), (1, (.int .i64 p1)), (4, (.ptr b4 0)), (6, w15), (7, w18), (14, w29)] ∧ E.Sep H [.cell b4 [(.int .i64 y9), (.int .i64 y10), (.int .i64 y11), (.list 4 (List.map TEdge.av y12)), (.int .i64 y13)], .row 1 w15 (List.map (AV.int .i64) y14), .row 1 w18 (List.map (AV.int .i64) y17), .row 4 w29 (List.map TEdge.av y28)] ∧ spec_ReNfa.k2 p1 y17 K p0 y14 y28 = some r) ?_ ?_
          · rintro e0 G44 ⟨y28, w29, hT, hS, hF⟩; refine AWP.only _ hT ?_; unfold spec_ReNfa.k2 at hF
            refine AWP.frz (L' := [.cell b4 [(.int .i64 y9), (.int .i64 y10), (.int .i64 y11), (.list 4 (List.map TEdge.av y12)), (.int .i64 y13)], .row 1 w15 (List.map (AV.int .i64) y14), .row 1 w18 (List.map (AV.int .i64) y17)]) hS (k := 3) rfl [(0, (.list 3 (List.map TNode.av p0))), (1, (.int .i64 p1)), (4, (.ptr b4 0)), (6, w15), (7, w18), (14, (.list 4 (List.map TEdge.av y28)))] ⟨.inl rfl, .inl rfl, .inl rfl, .inl rfl, .inl rfl, .inr (.inl ⟨rfl, rfl⟩), trivial⟩ ⟨⟨_, rfl, ⟨.inl rfl, .inl rfl, .inl rfl, .inl rfl, .inl rfl, trivial⟩⟩, rfl, rfl, trivial⟩ (fun G31 hS => ?_)
            refine AWP.seqR rfl ?_
            refine ASL.q (v := (.int .i64 p1)) rfl rfl (Light.quiet (opMove rfl rfl)) ?_
            refine ASL.q (v := w18) rfl rfl (Light.quiet (opMove rfl rfl)) ?_
            refine ASL.q (v := (.int .i64 (y17.length : Int))) rfl rfl (Light.quiet (kLen hS (j := 2) rfl rfl rfl rfl lenT_47 rfl)) ?_
            refine ASL.q (v := (.list 4 (List.map TEdge.av y28))) rfl rfl (Light.quiet (opMove rfl rfl)) ?_
            obtain ⟨a178, ha178, hF⟩ := bindE hF
            refine ASL.q (v := (.tup [(TAuto.av a178.1), (.bool a178.2)])) rfl rfl ((qCall rfl rfl call_52 (spec_AutoMake_ok ha178) rfl)) ?_
            refine ASL.q (v := (.tup [(TAuto.av a178.1), (.bool a178.2)])) rfl rfl (Light.quiet (opMove rfl rfl)) ?_
            refine ASL.q (v := (TAuto.av a178.1)) rfl rfl (Light.quiet (opExtract rfl rfl rfl)) ?_
            refine ASL.q (v := (.bool a178.2)) rfl rfl (Light.quiet (opExtract rfl rfl rfl)) ?_
            refine ASL.x rfl rfl (hNewZ hS [(.int .i64 0), (.int .i64 0), (.int .i64 0), (.list 4 (List.map TEdge.av []))] rfl zeroA_38 ⟨.inl rfl, .inl rfl, .inl rfl, .inr ⟨_, rfl, rfl⟩, trivial⟩ ?_); rintro b17 G32 hK hS
            refine ASL.n rfl rfl (hPutA hS (j := 0) rfl rfl sizeA_38 rfl rfl rfl rfl rfl (nlt rfl) ?_); rintro G34 hS
            refine ASL.q (v := (.bool a178.2)) rfl rfl (Light.quiet (opAssign rfl rfl)) ?_
            refine ASL.done ?_
            refine AWP.seq ?_
            refine AWP.seqR rfl ?_
            refine ASL.q (v := (.bool a178.2)) rfl rfl (Light.quiet (opMove rfl rfl)) ?_
            refine ASL.q (v := (.bool (!a178.2))) rfl rfl (Light.quiet (opNot rfl rfl)) ?_
            refine ASL.done ?_
            refine AWP.ifB hF rfl (fun hc35 hF => ?_) (fun hc35 hF => ?_)
            · skip
              refine AWP.seqR rfl ?_
              refine ASL.q (v := (.agg [(.int .i64 0), (.int .i64 0), (.int .i64 0), (.list 4 (List.map TEdge.av [])), (.int .i64 0)])) rfl rfl (Light.quiet (opBuildZ (zs := [(.int .i64 0), (.int .i64 0), (.int .i64 0), (.list 4 (List.map TEdge.av [])), (.int .i64 0)]) rfl plan_40 zeroA_40 ⟨.inl rfl, .inl rfl, .inl rfl, .inr ⟨_, rfl, rfl⟩, .inl rfl, trivial⟩ rfl)) ?_
              refine ASL.n rfl rfl (hPutA hS (j := 1) rfl rfl sizeA_40 rfl rfl rfl rfl rfl (nlt rfl) ?_); rintro G36 hS
              refine ASL.q (v := (.bool false)) rfl rfl (Light.quiet (opAssign rfl rfl)) ?_
              refine ASL.done ?_
              refine AWP.ret ?_
              refine QThen.rt ?_
              obtain rfl := someE hF
              exact QRet.many (vs := [(.agg [(.int .i64 0), (.int .i64 0), (.int .i64 0), (.list 4 (List.map TEdge.av [])), (.int .i64 0)]), (.bool false)]) ⟨resOne.at hS (k := 1) rfl rfl aggA_40 sizeA_40, rfl, trivial⟩ (by simp) rfl
            · skip
              refine AWP.skip ?_
              refine QThen.nrm ?_
              refine AWP.seqD [(0, false), (1, false), (2, false), (3, false), (4, false), (5, false), (6, false), (7, false), (8, true), (9, true)] mixed (by kernel_rfl) rfl ?_
              refine ARL.q (v := (TAuto.av a178.1)) rfl rfl (hS.aliveC (k := 0) rfl) (Light.quiet (kAtA hS (j := 0) rfl rfl aggA_38 sizeA_38 rfl (nlt rfl) rfl)) ?_
              refine ARL.q0 (v := (.list 3 (List.map TNode.av p0))) rfl rfl (Light.quiet (opMove rfl rfl)) ?_
              refine ARL.q0 (v := (.list 3 (List.map TNode.av p0))) rfl rfl (Light.quiet (opMove rfl rfl)) ?_
              refine ARL.q0 (v := (.int .i64 (p0.length : Int))) rfl rfl (Light.quiet (opLenMap (f := TNode.av) rfl rfl rfl lenT_29 rfl)) ?_
              refine ARL.q0 (v := (.int .i64 (W (((p0.length : Int)) - 1)))) rfl rfl (Light.quiet (opInt rfl rfl rfl rfl)) ?_
              refine ARL.q0 (v := w15) rfl rfl (Light.quiet (opMove rfl rfl)) ?_
              obtain ⟨a190, ha190, hF⟩ := bindE hF
              refine ARL.q (v := (.int .i64 a190)) rfl rfl (hS.aliveAll) ((qCallR hS rfl rfl call_50 (spec_l11Edge_ok ha190) ⟨.same _, .same _, .row (k := 2) rfl, .same _, trivial⟩ (by constructor))) ?_
              refine ARL.q0 (v := (.agg [(.int .i64 a178.1.letters), (.int .i64 a178.1.states), (.int .i64 a178.1.start), (.list 4 (List.map TEdge.av a178.1.edges)), (.int .i64 a190)])) rfl rfl (Light.quiet (opBuildZ (zs := [(.int .i64 0), (.int .i64 0), (.int .i64 0), (.list 4 (List.map TEdge.av [])), (.int .i64 0)]) rfl plan_40 zeroA_40 ⟨.inl rfl, .inl rfl, .inl rfl, .inr ⟨_, rfl, rfl⟩, .inl rfl, trivial⟩ rfl)) ?_
              refine ARL.x rfl rfl rfl (hNewZ hS [(.int .i64 0), (.int .i64 0), (.int .i64 0), (.list 4 (List.map TEdge.av [])), (.int .i64 0)] rfl zeroA_40 ⟨.inl rfl, .inl rfl, .inl rfl, .inr ⟨_, rfl, rfl⟩, .inl rfl, trivial⟩ ?_); rintro b19 G37 hK hS; refine ⟨hK, ?_⟩
              refine ARL.n rfl rfl rfl rfl (hPutA hS (j := 0) rfl rfl sizeA_40 rfl rfl rfl rfl rfl (nlt rfl) ?_); rintro G39 hS
              refine ARL.done ?_
              refine AWP.seq ?_
              refine AWP.seqR rfl ?_
              refine ASL.q (v := (.list 3 (List.map TNode.av p0))) rfl rfl (Light.quiet (opMove rfl rfl)) ?_
              obtain ⟨a193, ha193, hF⟩ := bindE hF
              refine ASL.q (v := (.bool a193)) rfl rfl ((qCall rfl rfl call_53 (spec_ReNull_ok ha193) rfl)) ?_
              refine ASL.done ?_
              refine AWP.ifB hF rfl (fun hc40 hF => ?_) (fun hc40 hF => ?_)
              · skip
                refine AWP.lastR rfl ?_
                refine ASL.q (v := (.ptr b19 4)) rfl rfl (Light.quiet (opFieldAddr rfl fieldA_40_1 rfl rfl)) ?_
                refine ASL.q (v := (.int .i64 a190)) rfl rfl (Light.quiet (kAt hS (j := 0) rfl rfl aggA_3 rfl rfl)) ?_
                refine ASL.q (v := (.int .i64 (bOr .i64 a190 1))) rfl rfl (Light.quiet (opInt rfl rfl rfl rfl)) ?_
                refine ASL.q (v := (.ptr b19 4)) rfl rfl (Light.quiet (opFieldAddr rfl fieldA_40_1 rfl rfl)) ?_
                refine ASL.n rfl rfl (hPut hS (j := 0) rfl rfl sizeA_3 rfl rfl rfl (nlt rfl) ?_); rintro G41 hS
                refine ASL.done ?_
                refine QThen.nrm ?_
                refine AWP.seqR rfl ?_
                refine ASL.q (v := (.agg [(.int .i64 a178.1.letters), (.int .i64 a178.1.states), (.int .i64 a178.1.start), (.list 4 (List.map TEdge.av a178.1.edges)), (.int .i64 (bOr .i64 a190 1))])) rfl rfl (Light.quiet (kAtA hS (j := 0) rfl rfl aggA_40 sizeA_40 rfl (nlt rfl) rfl)) ?_
                refine ASL.n rfl rfl (hPutA hS (j := 2) rfl rfl sizeA_40 rfl rfl rfl rfl rfl (nlt rfl) ?_); rintro G42 hS
                refine ASL.q (v := (.bool true)) rfl rfl (Light.quiet (opAssign rfl rfl)) ?_
                refine ASL.done ?_
                refine AWP.ret ?_
                obtain rfl := someE hF
                exact QRet.many (vs := [(.agg [(.int .i64 a178.1.letters), (.int .i64 a178.1.states), (.int .i64 a178.1.start), (.list 4 (List.map TEdge.av a178.1.edges)), (.int .i64 (bOr .i64 a190 1))]), (.bool true)]) ⟨resOne.at hS (k := 2) rfl rfl aggA_40 sizeA_40, rfl, trivial⟩ (by simp) rfl
              · skip
                refine AWP.skip ?_
                refine QThen.nrm ?_
                refine AWP.seqR rfl ?_
                refine ASL.q (v := (.agg [(.int .i64 a178.1.letters), (.int .i64 a178.1.states), (.int .i64 a178.1.start), (.list 4 (List.map TEdge.av a178.1.edges)), (.int .i64 a190)])) rfl rfl (Light.quiet (kAtA hS (j := 0) rfl rfl aggA_40 sizeA_40 rfl (nlt rfl) rfl)) ?_
                refine ASL.n rfl rfl (hPutA hS (j := 2) rfl rfl sizeA_40 rfl rfl rfl rfl rfl (nlt rfl) ?_); rintro G43 hS
                refine ASL.q (v := (.bool true)) rfl rfl (Light.quiet (opAssign rfl rfl)) ?_
                refine ASL.done ?_
                refine AWP.ret ?_
                obtain rfl := someE hF
                exact QRet.many (vs := [(.agg [(.int .i64 a178.1.letters), (.int .i64 a178.1.states), (.int .i64 a178.1.start), (.list 4 (List.map TEdge.av a178.1.edges)), (.int .i64 a190)]), (.bool true)]) ⟨resOne.at hS (k := 2) rfl rfl aggA_40 sizeA_40, rfl, trivial⟩ (by simp) rfl
          · skip
            refine AWP.seqR rfl ?_
            refine ASL.q (v := (.int .i64 0)) rfl rfl (Light.quiet (opAssign rfl rfl)) ?_
            refine ASL.done ?_
            refine AWP.block ?_
            obtain ⟨o51, hL50, hR52⟩ := bindE hF
            refine AWP.loopF (ω := AV) hL50 (fun s w => [(0, (.list 3 (List.map TNode.av p0))), (1, (.int .i64 p1)), (4, (.ptr b4 0)), (6, w15), (7, w18), (9, v70), (14, w), (15, (.int .i64 s.2))]) (fun s w => [.cell b4 [(.int .i64 y9), (.int .i64 y10), (.int .i64 y11), (.list 4 (List.map TEdge.av y12)), (.int .i64 y13)], .row 1 w15 (List.map (AV.int .i64) y14), .row 1 w18 (List.map (AV.int .i64) y17), .row 1 v70 (List.map (AV.int .i64) y25), .row 4 w (List.map TEdge.av s.1)]) v144 ⟨rfl, rfl, rfl, rfl, rfl, rfl, rfl, rfl, trivial⟩ (hS.pick [1, 2, 3, 4, 0] rfl rfl) ?_
            rintro ⟨y45, x15_l0⟩ w46 G53 hS x48 hF hx49
            try dsimp only at hS ⊢
            have hF : spec_ReNfa.b0 y17 y25 y45 x15_l0 = some x48 := hF; unfold spec_ReNfa.b0 at hF
            refine AWP.seq ?_
            refine AWP.seqR rfl ?_
            refine ASL.q (v := (.int .i64 x15_l0)) rfl rfl (Light.quiet (opMove rfl rfl)) ?_
            refine ASL.q (v := w18) rfl rfl (Light.quiet (opMove rfl rfl)) ?_
            refine ASL.q (v := (.int .i64 (y17.length : Int))) rfl rfl (Light.quiet (kLen hS (j := 2) rfl rfl rfl rfl lenT_47 rfl)) ?_
            refine ASL.q (v := (.bool (decide (x15_l0 < ((y17.length : Int)))))) rfl rfl (Light.quiet (opInt rfl rfl rfl rfl)) ?_
            refine ASL.done ?_
            refine AWP.ifP hF rfl (fun hc54 hF => ?_) (fun hc54 hF => ?_)
            · skip
              refine AWP.skip ?_
              refine QThen.nrm ?_
              refine AWP.seqM (fun e H => ∃ y55 : (List TEdge), ∃ w56 : AV, E.Told e [(0, (.list 3 (List.map TNode.av p0))), (1, (.int .i64 p1)), (4, (.ptr b4 0)), (6, w15), (7, w18), (9, v70), (14, w56), (15, (.int .i64 x15_l0))] ∧ E.Sep H [.cell b4 [(.int .i64 y9), (.int .i64 y10), (.int .i64 y11), (.list 4 (List.map TEdge.av y12)), (.int .i64 y13)], .row 1 w15 (List.map (AV.int .i64) y14), .row 1 w18 (List.map (AV.int .i64) y17), .row 1 v70 (List.map (AV.int .i64) y25), .row 4 w56 (List.map TEdge.av y55)] ∧ spec_ReNfa.k3 x15_l0 y55 = some x48) ?_ ?_
              · rintro e0 G58 ⟨y55, w56, hT, hS, hF⟩; refine AWP.only _ hT ?_; unfold spec_ReNfa.k3 at hF
                refine AWP.lastR rfl ?_
                refine ASL.q (v := (.int .i64 x15_l0)) rfl rfl (Light.quiet (opMove rfl rfl)) ?_
                refine ASL.q (v := (.int .i64 (W (x15_l0 + 1)))) rfl rfl (Light.quiet (opInt rfl rfl rfl rfl)) ?_
                refine ASL.q (v := (.int .i64 (W (x15_l0 + 1)))) rfl rfl (Light.quiet (opAssign rfl rfl)) ?_
                refine ASL.done ?_
                refine QThen.nrm ?_
                exact ⟨(y55, (W (x15_l0 + 1))), w56, (someE hF).symm, ⟨rfl, rfl, rfl, rfl, rfl, rfl, rfl, rfl, trivial⟩, (hS.pick [0, 1, 2, 3, 4] rfl rfl)⟩
              · skip
                refine AWP.block ?_
                refine AWP.seqR rfl ?_
                refine ASL.q (v := (.int .i64 1)) rfl rfl (Light.quiet (opAssign rfl rfl)) ?_
                refine ASL.done ?_
                refine AWP.block ?_
                obtain ⟨o65, hL64, hR66⟩ := bindE hF
                refine AWP.loopF (ω := AV) hL64 (fun s w => [(0, (.list 3 (List.map TNode.av p0))), (1, (.int .i64 p1)), (4, (.ptr b4 0)), (6, w15), (7, w18), (9, v70), (14, w), (15, (.int .i64 x15_l0)), (16, (.int .i64 s.2))]) (fun s w => [.cell b4 [(.int .i64 y9), (.int .i64 y10), (.int .i64 y11), (.list 4 (List.map TEdge.av y12)), (.int .i64 y13)], .row 1 w15 (List.map (AV.int .i64) y14), .row 1 w18 (List.map (AV.int .i64) y17), .row 1 v70 (List.map (AV.int .i64) y25), .row 4 w (List.map TEdge.av s.1)]) w46 ⟨rfl, rfl, rfl, rfl, rfl, rfl, rfl, rfl, rfl, trivial⟩ (hS.pick [0, 1, 2, 3, 4] rfl rfl) ?_
                rintro ⟨y59, x16_l1⟩ w60 G67 hS x62 hF hx63
                try dsimp only at hS ⊢
                have hF : spec_ReNfa.b1 y17 y25 x15_l0 y59 x16_l1 = some x62 := hF; unfold spec_ReNfa.b1 at hF
                refine AWP.seq ?_
                refine AWP.seqR rfl ?_
                refine ASL.q (v := (.int .i64 x16_l1)) rfl rfl (Light.quiet (opMove rfl rfl)) ?_
                refine ASL.q (v := w18) rfl rfl (Light.quiet (opMove rfl rfl)) ?_
                refine ASL.q (v := (.int .i64 (y17.length : Int))) rfl rfl (Light.quiet (kLen hS (j := 2) rfl rfl rfl rfl lenT_47 rfl)) ?_
                refine ASL.q (v := (.bool (decide (x16_l1 < ((y17.length : Int)))))) rfl rfl (Light.quiet (opInt rfl rfl rfl rfl)) ?_
                refine ASL.done ?_
                refine AWP.ifP hF rfl (fun hc68 hF => ?_) (fun hc68 hF => ?_)
                · skip
                  refine AWP.skip ?_
                  refine QThen.nrm ?_
                  refine AWP.seq ?_
                  refine AWP.block ?_
                  refine AWP.seqR rfl ?_
                  refine ASL.q (v := v70) rfl rfl (Light.quiet (opMove rfl rfl)) ?_
                  refine ASL.q (v := (.int .i64 x15_l0)) rfl rfl (Light.quiet (opMove rfl rfl)) ?_
                  obtain ⟨a159, ha159, hF⟩ := bindE hF
                  refine ASL.q (v := (ptrTo v70 x15_l0.toNat 1)) rfl rfl (Light.quiet (kIxOx hS (j := 3) rfl ha159 rfl rfl rfl elemA_47 sizeA_3)) ?_
                  refine ASL.q (v := (.int .i64 a159)) rfl rfl (Light.quiet (kLd (f := (AV.int .i64)) hS (j := 3) rfl ha159 rfl aggA_3 rfl (fun _ => rfl))) ?_
                  refine ASL.q (v := (.int .i64 x16_l1)) rfl rfl (Light.quiet (opMove rfl rfl)) ?_
                  obtain ⟨a162, ha162, hF⟩ := bindE hF
                  refine ASL.q (v := (.bool a162)) rfl rfl ((qCall rfl rfl call_51 (spec_l1Has_ok ha162) rfl)) ?_
                  refine ASL.done ?_
                  refine AWP.ifB hF rfl (fun hc69 hF => ?_) (fun hc69 hF => ?_)
                  · skip
                    refine AWP.lastR rfl ?_
                    refine ASL.q (v := w60) rfl rfl (Light.quiet (opMove rfl rfl)) ?_
                    refine ASL.q (v := (.int .i64 x15_l0)) rfl rfl (Light.quiet (opMove rfl rfl)) ?_
                    refine ASL.q (v := w18) rfl rfl (Light.quiet (opMove rfl rfl)) ?_
                    refine ASL.q (v := (.int .i64 x16_l1)) rfl rfl (Light.quiet (opMove rfl rfl)) ?_
                    obtain ⟨a167, ha167, hF⟩ := bindE hF
                    refine ASL.q (v := (ptrTo w18 x16_l1.toNat 1)) rfl rfl (Light.quiet (kIxOx hS (j := 2) rfl ha167 rfl rfl rfl elemA_47 sizeA_3)) ?_
                    refine ASL.q (v := (.int .i64 a167)) rfl rfl (Light.quiet (kLd (f := (AV.int .i64)) hS (j := 2) rfl ha167 rfl aggA_3 rfl (fun _ => rfl))) ?_
                    refine ASL.q (v := (.int .i64 x16_l1)) rfl rfl (Light.quiet (opMove rfl rfl)) ?_
                    refine ASL.q (v := (.agg [(.int .i64 x15_l0), (.int .i64 a167), (.int .i64 x16_l1), (.bool false)])) rfl rfl (Light.quiet (opBuildZ (zs := [(.int .i64 0), (.int .i64 0), (.int .i64 0), (.bool false)]) rfl plan_79 zeroA_79 ⟨.inl rfl, .inl rfl, .inl rfl, .inl rfl, trivial⟩ rfl)) ?_
                    refine ASL.q (v := (.list 4 (List.map TEdge.av [(TEdge.mk x15_l0 a167 x16_l1 false)]))) rfl rfl ((qLit (xs := [(.agg [(.int .i64 x15_l0), (.int .i64 a167), (.int .i64 x16_l1), (.bool false)])]) rfl elemA_36 sizeA_79 zeroA_79 rfl rfl rfl rfl (by simp [cells, TEdge.av]) (nlt rfl))) ?_
                    obtain ⟨z172, hz172, hF⟩ := bindE hF
                    refine ASL.x rfl rfl (hApp (f := TEdge.av) (ws := [(TEdge.mk x15_l0 a167 x16_l1 false)]) hS (j := 4) rfl hz172 rfl elemA_36 rfl sizeA_79 bytesA_79 zeroA_79 rfl rfl rfl (fun _ => rfl) ?_); rintro v172 G70 hS
                    refine ASL.q (v := v172) rfl rfl (Light.quiet (opAssign rfl rfl)) ?_
                    refine ASL.done ?_
                    refine QBlock.nrm ?_
                    refine QThen.nrm ?_
                    refine AWP.lastR rfl ?_
                    refine ASL.q (v := (.int .i64 x16_l1)) rfl rfl (Light.quiet (opMove rfl rfl)) ?_
                    refine ASL.q (v := (.int .i64 (W (x16_l1 + 1)))) rfl rfl (Light.quiet (opInt rfl rfl rfl rfl)) ?_
                    refine ASL.q (v := (.int .i64 (W (x16_l1 + 1)))) rfl rfl (Light.quiet (opAssign rfl rfl)) ?_
                    refine ASL.done ?_
                    refine QThen.nrm ?_
                    exact ⟨(z172, (W (x16_l1 + 1))), v172, (someE hF).symm, ⟨rfl, rfl, rfl, rfl, rfl, rfl, rfl, rfl, rfl, trivial⟩, (hS.pick [0, 1, 2, 3, 4] rfl rfl)⟩
                  · skip
                    refine AWP.skip ?_
                    refine QBlock.nrm ?_
                    refine QThen.nrm ?_
                    refine AWP.lastR rfl ?_
                    refine ASL.q (v := (.int .i64 x16_l1)) rfl rfl (Light.quiet (opMove rfl rfl)) ?_
                    refine ASL.q (v := (.int .i64 (W (x16_l1 + 1)))) rfl rfl (Light.quiet (opInt rfl rfl rfl rfl)) ?_
                    refine ASL.q (v := (.int .i64 (W (x16_l1 + 1)))) rfl rfl (Light.quiet (opAssign rfl rfl)) ?_
                    refine ASL.done ?_
                    refine QThen.nrm ?_
                    exact ⟨(y59, (W (x16_l1 + 1))), w60, (someE hF).symm, ⟨rfl, rfl, rfl, rfl, rfl, rfl, rfl, rfl, rfl, trivial⟩, (hS.pick [0, 1, 2, 3, 4] rfl rfl)⟩
                · skip
                  refine AWP.exit ?_
                  refine QThen.ext ?_
                  refine QThen.ext ?_
                  refine QBlock.hit ?_
                  obtain rfl := (hx63 _ (someE hF).symm)
                  have hF := hR66
                  refine QBlock.nrm ?_
                  refine QThen.nrm ?_
                  exact ⟨y59, w60, ⟨rfl, rfl, rfl, rfl, rfl, rfl, rfl, rfl, trivial⟩, (hS.pick [0, 1, 2, 3, 4] rfl rfl), hF⟩
            · skip
              refine AWP.exit ?_
              refine QThen.ext ?_
              refine QThen.ext ?_
              refine QBlock.hit ?_
              obtain rfl := (hx49 _ (someE hF).symm)
              have hF := hR52
              refine QThen.nrm ?_
              exact ⟨y45, w46, ⟨rfl, rfl, rfl, rfl, rfl, rfl, trivial⟩, (hS.pick [0, 1, 2, 4] rfl rfl), hF⟩
        · skip
          refine AWP.seqR rfl ?_
          refine ASL.q (v := (.int .i64 0)) rfl rfl (Light.quiet (opAssign rfl rfl)) ?_
          refine ASL.done ?_
          refine AWP.block ?_
          obtain ⟨o77, hL76, hR78⟩ := bindE hF
          refine AWP.loopF (ω := Unit) hL76 (fun s w => [(0, (.list 3 (List.map TNode.av p0))), (1, (.int .i64 p1)), (4, (.ptr b4 0)), (6, w15), (7, w18), (9, v70), (10, (.int .i64 s.2))]) (fun s w => [.cell b4 [(.int .i64 y9), (.int .i64 y10), (.int .i64 y11), (.list 4 (List.map TEdge.av y12)), (.int .i64 y13)], .row 1 w15 (List.map (AV.int .i64) y14), .row 1 w18 (List.map (AV.int .i64) y17), .row 1 v70 (List.map (AV.int .i64) s.1)]) () ⟨rfl, rfl, rfl, rfl, rfl, rfl, rfl, trivial⟩ (hS.pick [1, 2, 3, 0] rfl rfl) ?_
          rintro ⟨y73, x10_l2⟩ _ G79 hS x74 hF hx75
          try dsimp only at hS ⊢
          have hF : spec_ReNfa.b2 p0 K y14 y17 y73 x10_l2 = some x74 := hF; unfold spec_ReNfa.b2 at hF
          refine AWP.seq ?_
          refine AWP.seqR rfl ?_
          refine ASL.q (v := (.int .i64 x10_l2)) rfl rfl (Light.quiet (opMove rfl rfl)) ?_
          refine ASL.q (v := (.list 3 (List.map TNode.av p0))) rfl rfl (Light.quiet (opMove rfl rfl)) ?_
          refine ASL.q (v := (.int .i64 (p0.length : Int))) rfl rfl (Light.quiet (opLenMap (f := TNode.av) rfl rfl rfl lenT_29 rfl)) ?_
          refine ASL.q (v := (.bool (decide (x10_l2 < ((p0.length : Int)))))) rfl rfl (Light.quiet (opInt rfl rfl rfl rfl)) ?_
          refine ASL.done ?_
          refine AWP.ifP hF rfl (fun hc80 hF => ?_) (fun hc80 hF => ?_)
          · skip
            refine AWP.skip ?_
            refine QThen.nrm ?_
            refine AWP.seqM (fun e H => ∃ y81 : (List Int), E.Told e [(0, (.list 3 (List.map TNode.av p0))), (1, (.int .i64 p1)), (4, (.ptr b4 0)), (6, w15), (7, w18), (9, v70), (10, (.int .i64 x10_l2))] ∧ E.Sep H [.cell b4 [(.int .i64 y9), (.int .i64 y10), (.int .i64 y11), (.list 4 (List.map TEdge.av y12)), (.int .i64 y13)], .row 1 w15 (List.map (AV.int .i64) y14), .row 1 w18 (List.map (AV.int .i64) y17), .row 1 v70 (List.map (AV.int .i64) y81)] ∧ spec_ReNfa.k4 x10_l2 y81 = some x74) ?_ ?_
            · rintro e0 G82 ⟨y81, hT, hS, hF⟩; refine AWP.only _ hT ?_; unfold spec_ReNfa.k4 at hF
              refine AWP.lastR rfl ?_
              refine ASL.q (v := (.int .i64 x10_l2)) rfl rfl (Light.quiet (opMove rfl rfl)) ?_
              refine ASL.q (v := (.int .i64 (W (x10_l2 + 1)))) rfl rfl (Light.quiet (opInt rfl rfl rfl rfl)) ?_
              refine ASL.q (v := (.int .i64 (W (x10_l2 + 1)))) rfl rfl (Light.quiet (opAssign rfl rfl)) ?_
              refine ASL.done ?_
              refine QThen.nrm ?_
              exact ⟨(y81, (W (x10_l2 + 1))), (), (someE hF).symm, ⟨rfl, rfl, rfl, rfl, rfl, rfl, rfl, trivial⟩, (hS.pick [0, 1, 2, 3] rfl rfl)⟩
            · skip
              refine AWP.block ?_
              refine AWP.seqR rfl ?_
              refine ASL.q (v := (.int .i64 0)) rfl rfl (Light.quiet (opAssign rfl rfl)) ?_
              refine ASL.q (v := (.int .i64 0)) rfl rfl (Light.quiet (opAssign rfl rfl)) ?_
              refine ASL.done ?_
              refine AWP.seqM (fun e H => ∃ x11_6 : Int, ∃ x12_6 : Int, E.Told e [(0, (.list 3 (List.map TNode.av p0))), (1, (.int .i64 p1)), (4, (.ptr b4 0)), (6, w15), (7, w18), (9, v70), (10, (.int .i64 x10_l2)), (11, (.int .i64 x11_6)), (12, (.int .i64 x12_6))] ∧ E.Sep H [.cell b4 [(.int .i64 y9), (.int .i64 y10), (.int .i64 y11), (.list 4 (List.map TEdge.av y12)), (.int .i64 y13)], .row 1 w15 (List.map (AV.int .i64) y14), .row 1 w18 (List.map (AV.int .i64) y17), .row 1 v70 (List.map (AV.int .i64) y73)] ∧ spec_ReNfa.k5 y17 y73 x10_l2 x11_6 x12_6 = some x74) ?_ ?_
              · rintro e0 G93 ⟨x11_6, x12_6, hT, hS, hF⟩; refine AWP.only _ hT ?_; unfold spec_ReNfa.k5 at hF
                refine AWP.seqR rfl ?_
                refine ASL.q (v := (.int .i64 1)) rfl rfl (Light.quiet (opAssign rfl rfl)) ?_
                refine ASL.done ?_
                refine AWP.block ?_
                obtain ⟨o87, hL86, hR88⟩ := bindE hF
                refine AWP.loopF (ω := Unit) hL86 (fun s w => [(0, (.list 3 (List.map TNode.av p0))), (1, (.int .i64 p1)), (4, (.ptr b4 0)), (6, w15), (7, w18), (9, v70), (10, (.int .i64 x10_l2)), (11, (.int .i64 x11_6)), (12, (.int .i64 x12_6)), (13, (.int .i64 s.2))]) (fun s w => [.cell b4 [(.int .i64 y9), (.int .i64 y10), (.int .i64 y11), (.list 4 (List.map TEdge.av y12)), (.int .i64 y13)], .row 1 w15 (List.map (AV.int .i64) y14), .row 1 w18 (List.map (AV.int .i64) y17), .row 1 v70 (List.map (AV.int .i64) s.1)]) () ⟨rfl, rfl, rfl, rfl, rfl, rfl, rfl, rfl, rfl, rfl, trivial⟩ (hS.pick [0, 1, 2, 3] rfl rfl) ?_
                rintro ⟨y83, x13_l3⟩ _ G89 hS x84 hF hx85
                try dsimp only at hS ⊢
                have hF : spec_ReNfa.b3 y17 x11_6 x12_6 y83 x13_l3 = some x84 := hF; unfold spec_ReNfa.b3 at hF
                refine AWP.seq ?_
                refine AWP.seqR rfl ?_
                refine ASL.q (v := (.int .i64 x13_l3)) rfl rfl (Light.quiet (opMove rfl rfl)) ?_
                refine ASL.q (v := w18) rfl rfl (Light.quiet (opMove rfl rfl)) ?_
                refine ASL.q (v := (.int .i64 (y17.length : Int))) rfl rfl (Light.quiet (kLen hS (j := 2) rfl rfl rfl rfl lenT_47 rfl)) ?_
                refine ASL.q (v := (.bool (decide (x13_l3 < ((y17.length : Int)))))) rfl rfl (Light.quiet (opInt rfl rfl rfl rfl)) ?_
                refine ASL.done ?_
                refine AWP.ifP hF rfl (fun hc90 hF => ?_) (fun hc90 hF => ?_)
                · skip
                  refine AWP.skip ?_
                  refine QThen.nrm ?_
                  refine AWP.seq ?_
                  refine AWP.block ?_
                  refine AWP.seqR rfl ?_
                  refine ASL.q (v := (.int .i64 x11_6)) rfl rfl (Light.quiet (opMove rfl rfl)) ?_
                  refine ASL.q (v := (.int .i64 x13_l3)) rfl rfl (Light.quiet (opMove rfl rfl)) ?_
                  obtain ⟨a134, ha134, hF⟩ := bindE hF
                  refine ASL.q (v := (.bool a134)) rfl rfl ((qCall rfl rfl call_51 (spec_l1Has_ok ha134) rfl)) ?_
                  refine ASL.done ?_
                  refine AWP.ifB hF rfl (fun hc91 hF => ?_) (fun hc91 hF => ?_)
                  · skip
                    refine AWP.lastR rfl ?_
                    refine ASL.q (v := v70) rfl rfl (Light.quiet (opMove rfl rfl)) ?_
                    refine ASL.q (v := (.int .i64 x13_l3)) rfl rfl (Light.quiet (opMove rfl rfl)) ?_
                    refine ASL.q (v := v70) rfl rfl (Light.quiet (opMove rfl rfl)) ?_
                    refine ASL.q (v := (.int .i64 x13_l3)) rfl rfl (Light.quiet (opMove rfl rfl)) ?_
                    obtain ⟨a139, ha139, hF⟩ := bindE hF
                    refine ASL.q (v := (ptrTo v70 x13_l3.toNat 1)) rfl rfl (Light.quiet (kIxOx hS (j := 3) rfl ha139 rfl rfl rfl elemA_47 sizeA_3)) ?_
                    refine ASL.q (v := (.int .i64 a139)) rfl rfl (Light.quiet (kLd (f := (AV.int .i64)) hS (j := 3) rfl ha139 rfl aggA_3 rfl (fun _ => rfl))) ?_
                    refine ASL.q (v := (.int .i64 x12_6)) rfl rfl (Light.quiet (opMove rfl rfl)) ?_
                    refine ASL.q (v := (.int .i64 (bOr .i64 a139 x12_6))) rfl rfl (Light.quiet (opInt rfl rfl rfl rfl)) ?_
                    obtain ⟨m143, hm143, hF⟩ := bindE hF
                    refine ASL.q (v := (ptrTo v70 m143 1)) rfl rfl (Light.quiet (kIxO hS (j := 3) rfl hm143 rfl rfl rfl elemA_47 sizeA_3)) ?_
                    refine ASL.n rfl rfl (hSt (f := (AV.int .i64)) (a := (bOr .i64 a139 x12_6)) hS (j := 3) rfl hm143 rfl sizeA_3 rfl rfl ⟨rfl, rfl, rfl⟩ ?_); rintro G92 hS
                    refine ASL.done ?_
                    refine QBlock.nrm ?_
                    refine QThen.nrm ?_
                    refine AWP.lastR rfl ?_
                    refine ASL.q (v := (.int .i64 x13_l3)) rfl rfl (Light.quiet (opMove rfl rfl)) ?_
                    refine ASL.q (v := (.int .i64 (W (x13_l3 + 1)))) rfl rfl (Light.quiet (opInt rfl rfl rfl rfl)) ?_
                    refine ASL.q (v := (.int .i64 (W (x13_l3 + 1)))) rfl rfl (Light.quiet (opAssign rfl rfl)) ?_
                    refine ASL.done ?_
                    refine QThen.nrm ?_
                    exact ⟨((y83.set m143 ((bOr .i64 a139 x12_6))), (W (x13_l3 + 1))), (), (someE hF).symm, ⟨rfl, rfl, rfl, rfl, rfl, rfl, rfl, rfl, rfl, rfl, trivial⟩, (hS.pick [0, 1, 2, 3] rfl rfl)⟩
                  · skip
                    refine AWP.skip ?_
                    refine QBlock.nrm ?_
                    refine QThen.nrm ?_
                    refine AWP.lastR rfl ?_
                    refine ASL.q (v := (.int .i64 x13_l3)) rfl rfl (Light.quiet (opMove rfl rfl)) ?_
                    refine ASL.q (v := (.int .i64 (W (x13_l3 + 1)))) rfl rfl (Light.quiet (opInt rfl rfl rfl rfl)) ?_
                    refine ASL.q (v := (.int .i64 (W (x13_l3 + 1)))) rfl rfl (Light.quiet (opAssign rfl rfl)) ?_
                    refine ASL.done ?_
                    refine QThen.nrm ?_
                    exact ⟨(y83, (W (x13_l3 + 1))), (), (someE hF).symm, ⟨rfl, rfl, rfl, rfl, rfl, rfl, rfl, rfl, rfl, rfl, trivial⟩, (hS.pick [0, 1, 2, 3] rfl rfl)⟩
                · skip
                  refine AWP.exit ?_
                  refine QThen.ext ?_
                  refine QThen.ext ?_
                  refine QBlock.hit ?_
                  obtain rfl := (hx85 _ (someE hF).symm)
                  have hF := hR88
                  refine QBlock.nrm ?_
                  refine QThen.nrm ?_
                  exact ⟨y83, ⟨rfl, rfl, rfl, rfl, rfl, rfl, rfl, trivial⟩, (hS.pick [0, 1, 2, 3] rfl rfl), hF⟩
              · skip
                refine AWP.seqR rfl ?_
                refine ASL.q (v := (.list 3 (List.map TNode.av p0))) rfl rfl (Light.quiet (opMove rfl rfl)) ?_
                refine ASL.q (v := (.int .i64 x10_l2)) rfl rfl (Light.quiet (opMove rfl rfl)) ?_
                obtain ⟨a87, ha87, hF⟩ := bindE hF
                refine ASL.q (v := (.rptr [(.int .i64 a87.kind), (.int .i64 a87.a), (.int .i64 a87.b)])) rfl rfl (Light.quiet (kIx (f := TNode.av) ha87 rfl rfl rfl elemA_29 sizeA_65 rfl)) ?_
                refine ASL.q (v := (.rptr [(.int .i64 a87.kind), (.int .i64 a87.a), (.int .i64 a87.b)])) rfl rfl (Light.quiet (opFieldAddrR rfl fieldA_65_0 rfl rfl)) ?_
                refine ASL.q (v := (.int .i64 a87.kind)) rfl rfl (Light.quiet (opLoadR rfl aggA_3 rfl rfl)) ?_
                refine ASL.done ?_
                refine AWP.block ?_
                refine AWP.seqR rfl ?_
                refine ASL.q (v := (.bool (decide (a87.kind = 4)))) rfl rfl (Light.quiet (opInt rfl rfl rfl rfl)) ?_
                refine ASL.q (v := (.bool (decide (a87.kind = 4)))) rfl rfl (Light.quiet (opAssign rfl rfl)) ?_
                refine ASL.done ?_
                refine AWP.ifP hF rfl (fun hc94 hF => ?_) (fun hc94 hF => ?_)
                · skip
                  refine AWP.seqR rfl ?_
                  refine ASL.q (v := (.list 3 (List.map TNode.av p0))) rfl rfl (Light.quiet (opMove rfl rfl)) ?_
                  refine ASL.q (v := (.list 3 (List.map TNode.av p0))) rfl rfl (Light.quiet (opMove rfl rfl)) ?_
                  refine ASL.q (v := (.int .i64 x10_l2)) rfl rfl (Light.quiet (opMove rfl rfl)) ?_
                  obtain ⟨a95, ha95, hF⟩ := bindE hF
                  refine ASL.q (v := (.rptr [(.int .i64 a95.kind), (.int .i64 a95.a), (.int .i64 a95.b)])) rfl rfl (Light.quiet (kIx (f := TNode.av) ha95 rfl rfl rfl elemA_29 sizeA_65 rfl)) ?_
                  refine ASL.q (v := (.rptr [(.int .i64 a95.a), (.int .i64 a95.b)])) rfl rfl (Light.quiet (opFieldAddrR rfl fieldA_65_1 rfl rfl)) ?_
                  refine ASL.q (v := (.int .i64 a95.a)) rfl rfl (Light.quiet (opLoadR rfl aggA_3 rfl rfl)) ?_
                  refine ASL.q (v := w15) rfl rfl (Light.quiet (opMove rfl rfl)) ?_
                  obtain ⟨a99, ha99, hF⟩ := bindE hF
                  refine ASL.q (v := (.int .i64 a99)) rfl rfl ((qCallR hS rfl rfl call_50 (spec_l11Edge_ok ha99) ⟨.same _, .same _, .row (k := 1) rfl, .same _, trivial⟩ (by constructor))) ?_
                  refine ASL.q (v := (.int .i64 a99)) rfl rfl (Light.quiet (opAssign rfl rfl)) ?_
                  refine ASL.done ?_
                  refine AWP.lastR rfl ?_
                  refine ASL.q (v := (.list 3 (List.map TNode.av p0))) rfl rfl (Light.quiet (opMove rfl rfl)) ?_
                  refine ASL.q (v := (.list 3 (List.map TNode.av p0))) rfl rfl (Light.quiet (opMove rfl rfl)) ?_
                  refine ASL.q (v := (.int .i64 x10_l2)) rfl rfl (Light.quiet (opMove rfl rfl)) ?_
                  obtain ⟨a103, ha103, hF⟩ := bindE hF
                  refine ASL.q (v := (.rptr [(.int .i64 a103.kind), (.int .i64 a103.a), (.int .i64 a103.b)])) rfl rfl (Light.quiet (kIx (f := TNode.av) ha103 rfl rfl rfl elemA_29 sizeA_65 rfl)) ?_
                  refine ASL.q (v := (.rptr [(.int .i64 a103.a), (.int .i64 a103.b)])) rfl rfl (Light.quiet (opFieldAddrR rfl fieldA_65_1 rfl rfl)) ?_
                  refine ASL.q (v := (.int .i64 a103.a)) rfl rfl (Light.quiet (opLoadR rfl aggA_3 rfl rfl)) ?_
                  refine ASL.q (v := w15) rfl rfl (Light.quiet (opMove rfl rfl)) ?_
                  obtain ⟨a107, ha107, hF⟩ := bindE hF
                  refine ASL.q (v := (.int .i64 a107)) rfl rfl ((qCallR hS rfl rfl call_50 (spec_l11Edge_ok ha107) ⟨.same _, .same _, .row (k := 1) rfl, .same _, trivial⟩ (by constructor))) ?_
                  refine ASL.q (v := (.int .i64 a107)) rfl rfl (Light.quiet (opAssign rfl rfl)) ?_
                  refine ASL.done ?_
                  refine QBlock.nrm ?_
                  refine QThen.nrm ?_
                  exact ⟨a99, a107, ⟨rfl, rfl, rfl, rfl, rfl, rfl, rfl, rfl, rfl, trivial⟩, (hS.pick [0, 1, 2, 3] rfl rfl), hF⟩
                · skip
                  refine AWP.seqR rfl ?_
                  refine ASL.q (v := (.bool (decide (a87.kind = 5)))) rfl rfl (Light.quiet (opInt rfl rfl rfl rfl)) ?_
                  refine ASL.q (v := (.bool (decide (a87.kind = 5)))) rfl rfl (Light.quiet (opAssign rfl rfl)) ?_
                  refine ASL.done ?_
                  refine AWP.ifP hF rfl (fun hc95 hF => ?_) (fun hc95 hF => ?_)
                  · skip
                    refine AWP.seqR rfl ?_
                    refine ASL.q (v := (.list 3 (List.map TNode.av p0))) rfl rfl (Light.quiet (opMove rfl rfl)) ?_
                    refine ASL.q (v := (.list 3 (List.map TNode.av p0))) rfl rfl (Light.quiet (opMove rfl rfl)) ?_
                    refine ASL.q (v := (.int .i64 x10_l2)) rfl rfl (Light.quiet (opMove rfl rfl)) ?_
                    obtain ⟨a113, ha113, hF⟩ := bindE hF
                    refine ASL.q (v := (.rptr [(.int .i64 a113.kind), (.int .i64 a113.a), (.int .i64 a113.b)])) rfl rfl (Light.quiet (kIx (f := TNode.av) ha113 rfl rfl rfl elemA_29 sizeA_65 rfl)) ?_
                    refine ASL.q (v := (.rptr [(.int .i64 a113.a), (.int .i64 a113.b)])) rfl rfl (Light.quiet (opFieldAddrR rfl fieldA_65_1 rfl rfl)) ?_
                    refine ASL.q (v := (.int .i64 a113.a)) rfl rfl (Light.quiet (opLoadR rfl aggA_3 rfl rfl)) ?_
                    refine ASL.q (v := w15) rfl rfl (Light.quiet (opMove rfl rfl)) ?_
                    obtain ⟨a117, ha117, hF⟩ := bindE hF
                    refine ASL.q (v := (.int .i64 a117)) rfl rfl ((qCallR hS rfl rfl call_50 (spec_l11Edge_ok ha117) ⟨.same _, .same _, .row (k := 1) rfl, .same _, trivial⟩ (by constructor))) ?_
                    refine ASL.q (v := (.int .i64 a117)) rfl rfl (Light.quiet (opAssign rfl rfl)) ?_
                    refine ASL.done ?_
                    refine AWP.lastR rfl ?_
                    refine ASL.q (v := (.list 3 (List.map TNode.av p0))) rfl rfl (Light.quiet (opMove rfl rfl)) ?_
                    refine ASL.q (v := (.list 3 (List.map TNode.av p0))) rfl rfl (Light.quiet (opMove rfl rfl)) ?_
                    refine ASL.q (v := (.int .i64 x10_l2)) rfl rfl (Light.quiet (opMove rfl rfl)) ?_
                    obtain ⟨a121, ha121, hF⟩ := bindE hF
                    refine ASL.q (v := (.rptr [(.int .i64 a121.kind), (.int .i64 a121.a), (.int .i64 a121.b)])) rfl rfl (Light.quiet (kIx (f := TNode.av) ha121 rfl rfl rfl elemA_29 sizeA_65 rfl)) ?_
                    refine ASL.q (v := (.rptr [(.int .i64 a121.b)])) rfl rfl (Light.quiet (opFieldAddrR rfl fieldA_65_2 rfl rfl)) ?_
                    refine ASL.q (v := (.int .i64 a121.b)) rfl rfl (Light.quiet (opLoadR rfl aggA_3 rfl rfl)) ?_
                    refine ASL.q (v := w15) rfl rfl (Light.quiet (opMove rfl rfl)) ?_
                    obtain ⟨a125, ha125, hF⟩ := bindE hF
                    refine ASL.q (v := (.int .i64 a125)) rfl rfl ((qCallR hS rfl rfl call_50 (spec_l11Edge_ok ha125) ⟨.same _, .same _, .row (k := 1) rfl, .same _, trivial⟩ (by constructor))) ?_
                    refine ASL.q (v := (.int .i64 a125)) rfl rfl (Light.quiet (opAssign rfl rfl)) ?_
                    refine ASL.done ?_
                    refine QBlock.nrm ?_
                    refine QThen.nrm ?_
                    exact ⟨a117, a125, ⟨rfl, rfl, rfl, rfl, rfl, rfl, rfl, rfl, rfl, trivial⟩, (hS.pick [0, 1, 2, 3] rfl rfl), hF⟩
                  · skip
                    refine AWP.skip ?_
                    refine QBlock.nrm ?_
                    refine QThen.nrm ?_
                    exact ⟨0, 0, ⟨rfl, rfl, rfl, rfl, rfl, rfl, rfl, rfl, rfl, trivial⟩, (hS.pick [0, 1, 2, 3] rfl rfl), hF⟩
          · skip
            refine AWP.exit ?_
            refine QThen.ext ?_
            refine QThen.ext ?_
            refine QBlock.hit ?_
            obtain rfl := (hx75 _ (someE hF).symm)
            have hF := hR78
            refine QThen.nrm ?_
            exact ⟨y73, ⟨rfl, rfl, rfl, rfl, rfl, rfl, trivial⟩, (hS.pick [0, 1, 2, 3] rfl rfl), hF⟩
    · skip
      refine AWP.seqR rfl ?_
      refine ASL.q (v := (.int .i64 0)) rfl rfl (Light.quiet (opAssign rfl rfl)) ?_
      refine ASL.done ?_
      refine AWP.block ?_
      obtain ⟨o111, hL110, hR112⟩ := bindE hF
      refine AWP.loopF (ω := (AV × AV)) hL110 (fun s w => [(0, (.list 3 (List.map TNode.av p0))), (1, (.int .i64 p1)), (4, (.ptr b4 0)), (6, w.1), (7, w.2), (8, (.int .i64 s.2.2.2.2.2.2.2))]) (fun s w => [.cell b4 [(.int .i64 s.1), (.int .i64 s.2.1), (.int .i64 s.2.2.1), (.list 4 (List.map TEdge.av s.2.2.2.1)), (.int .i64 s.2.2.2.2.1)], .row 1 w.1 (List.map (AV.int .i64) s.2.2.2.2.2.1), .row 1 w.2 (List.map (AV.int .i64) s.2.2.2.2.2.2.1)]) (v29, v30) ⟨rfl, rfl, rfl, rfl, rfl, rfl, trivial⟩ (hS.pick [2, 1, 0] rfl rfl) ?_
      rintro ⟨y97, y98, y99, y100, y101, y102, y105, x8_l4⟩ ⟨w103, w106⟩ G113 hS x108 hF hx109
      try dsimp only at hS ⊢
      have hF : spec_ReNfa.b4 p0 p1 y97 y98 y99 y100 y101 y102 y105 x8_l4 = some x108 := hF; unfold spec_ReNfa.b4 at hF
      refine AWP.seq ?_
      refine AWP.seqR rfl ?_
      refine ASL.q (v := (.int .i64 x8_l4)) rfl rfl (Light.quiet (opMove rfl rfl)) ?_
      refine ASL.q (v := (.list 3 (List.map TNode.av p0))) rfl rfl (Light.quiet (opMove rfl rfl)) ?_
      refine ASL.q (v := (.int .i64 (p0.length : Int))) rfl rfl (Light.quiet (opLenMap (f := TNode.av) rfl rfl rfl lenT_29 rfl)) ?_
      refine ASL.q (v := (.bool (decide (x8_l4 < ((p0.length : Int)))))) rfl rfl (Light.quiet (opInt rfl rfl rfl rfl)) ?_
      refine ASL.done ?_
      refine AWP.ifP hF rfl (fun hc114 hF => ?_) (fun hc114 hF => ?_)
      · skip
        refine AWP.skip ?_
        refine QThen.nrm ?_
        refine AWP.seq ?_
        refine AWP.block ?_
        refine AWP.seqR rfl ?_
        refine ASL.q (v := w103) rfl rfl (Light.quiet (opMove rfl rfl)) ?_
        refine ASL.q (v := w106) rfl rfl (Light.quiet (opMove rfl rfl)) ?_
        refine ASL.q (v := (.int .i64 (y105.length : Int))) rfl rfl (Light.quiet (kLen hS (j := 2) rfl rfl rfl rfl lenT_47 rfl)) ?_
        refine ASL.q (v := (.list 1 (List.map (AV.int .i64) [(y105.length : Int)]))) rfl rfl ((qLit (xs := [(.int .i64 (y105.length : Int))]) rfl elemA_47 sizeA_3 zeroA_3 rfl rfl rfl rfl (by simp [cells]) (nlt rfl))) ?_
        obtain ⟨z41, hz41, hF⟩ := bindE hF
        refine ASL.x rfl rfl (hApp (f := (AV.int .i64)) (ws := [(y105.length : Int)]) hS (j := 1) rfl hz41 rfl elemA_47 rfl sizeA_3 bytesA_3 zeroA_3 rfl rfl rfl (fun _ => rfl) ?_); rintro v41 G115 hS
        refine ASL.q (v := v41) rfl rfl (Light.quiet (opAssign rfl rfl)) ?_
        refine ASL.done ?_
        refine AWP.seqR rfl ?_
        refine ASL.q (v := (.list 3 (List.map TNode.av p0))) rfl rfl (Light.quiet (opMove rfl rfl)) ?_
        refine ASL.q (v := (.int .i64 x8_l4)) rfl rfl (Light.quiet (opMove rfl rfl)) ?_
        obtain ⟨a44, ha44, hF⟩ := bindE hF
        refine ASL.q (v := (.rptr [(.int .i64 a44.kind), (.int .i64 a44.a), (.int .i64 a44.b)])) rfl rfl (Light.quiet (kIx (f := TNode.av) ha44 rfl rfl rfl elemA_29 sizeA_65 rfl)) ?_
        refine ASL.q (v := (.rptr [(.int .i64 a44.kind), (.int .i64 a44.a), (.int .i64 a44.b)])) rfl rfl (Light.quiet (opFieldAddrR rfl fieldA_65_0 rfl rfl)) ?_
        refine ASL.q (v := (.int .i64 a44.kind)) rfl rfl (Light.quiet (opLoadR rfl aggA_3 rfl rfl)) ?_
        refine ASL.q (v := (.bool (decide (a44.kind = 3)))) rfl rfl (Light.quiet (opInt rfl rfl rfl rfl)) ?_
        refine ASL.done ?_
        refine AWP.ifP hF rfl (fun hc117 hF => ?_) (fun hc117 hF => ?_)
        · skip
          refine AWP.seqR rfl ?_
          refine ASL.q (v := w106) rfl rfl (Light.quiet (opMove rfl rfl)) ?_
          refine ASL.q (v := (.list 3 (List.map TNode.av p0))) rfl rfl (Light.quiet (opMove rfl rfl)) ?_
          refine ASL.q (v := (.int .i64 x8_l4)) rfl rfl (Light.quiet (opMove rfl rfl)) ?_
          obtain ⟨a51, ha51, hF⟩ := bindE hF
          refine ASL.q (v := (.rptr [(.int .i64 a51.kind), (.int .i64 a51.a), (.int .i64 a51.b)])) rfl rfl (Light.quiet (kIx (f := TNode.av) ha51 rfl rfl rfl elemA_29 sizeA_65 rfl)) ?_
          refine ASL.q (v := (.rptr [(.int .i64 a51.a), (.int .i64 a51.b)])) rfl rfl (Light.quiet (opFieldAddrR rfl fieldA_65_1 rfl rfl)) ?_
          refine ASL.q (v := (.int .i64 a51.a)) rfl rfl (Light.quiet (opLoadR rfl aggA_3 rfl rfl)) ?_
          refine ASL.q (v := (.list 1 (List.map (AV.int .i64) [a51.a]))) rfl rfl ((qLit (xs := [(.int .i64 a51.a)]) rfl elemA_47 sizeA_3 zeroA_3 rfl rfl rfl rfl (by simp [cells]) (nlt rfl))) ?_
          obtain ⟨z55, hz55, hF⟩ := bindE hF
          refine ASL.x rfl rfl (hApp (f := (AV.int .i64)) (ws := [a51.a]) hS (j := 2) rfl hz55 rfl elemA_47 rfl sizeA_3 bytesA_3 zeroA_3 rfl rfl rfl (fun _ => rfl) ?_); rintro v55 G118 hS
          refine ASL.q (v := v55) rfl rfl (Light.quiet (opAssign rfl rfl)) ?_
          refine ASL.done ?_
          refine AWP.seqR rfl ?_
          refine ASL.q (v := (.list 3 (List.map TNode.av p0))) rfl rfl (Light.quiet (opMove rfl rfl)) ?_
          refine ASL.q (v := (.int .i64 x8_l4)) rfl rfl (Light.quiet (opMove rfl rfl)) ?_
          obtain ⟨a58, ha58, hF⟩ := bindE hF
          refine ASL.q (v := (.rptr [(.int .i64 a58.kind), (.int .i64 a58.a), (.int .i64 a58.b)])) rfl rfl (Light.quiet (kIx (f := TNode.av) ha58 rfl rfl rfl elemA_29 sizeA_65 rfl)) ?_
          refine ASL.q (v := (.rptr [(.int .i64 a58.a), (.int .i64 a58.b)])) rfl rfl (Light.quiet (opFieldAddrR rfl fieldA_65_1 rfl rfl)) ?_
          refine ASL.q (v := (.int .i64 a58.a)) rfl rfl (Light.quiet (opLoadR rfl aggA_3 rfl rfl)) ?_
          refine ASL.q (v := (.int .i64 p1)) rfl rfl (Light.quiet (opMove rfl rfl)) ?_
          refine ASL.q (v := (.bool (decide (a58.a ≥ p1)))) rfl rfl (Light.quiet (opInt rfl rfl rfl rfl)) ?_
          refine ASL.done ?_
          refine AWP.ifP hF rfl (fun hc120 hF => ?_) (fun hc120 hF => ?_)
          · skip
            refine AWP.seqR rfl ?_
            refine ASL.q (v := (.agg [(.int .i64 0), (.int .i64 0), (.int .i64 0), (.list 4 (List.map TEdge.av [])), (.int .i64 0)])) rfl rfl (Light.quiet (opBuildZ (zs := [(.int .i64 0), (.int .i64 0), (.int .i64 0), (.list 4 (List.map TEdge.av [])), (.int .i64 0)]) rfl plan_40 zeroA_40 ⟨.inl rfl, .inl rfl, .inl rfl, .inr ⟨_, rfl, rfl⟩, .inl rfl, trivial⟩ rfl)) ?_
            refine ASL.n rfl rfl (hPutA hS (j := 0) rfl rfl sizeA_40 rfl rfl rfl rfl rfl (nlt rfl) ?_); rintro G121 hS
            refine ASL.q (v := (.bool false)) rfl rfl (Light.quiet (opAssign rfl rfl)) ?_
            refine ASL.done ?_
            refine AWP.ret ?_
            refine QBlock.ret ?_
            refine QThen.rt ?_
            refine QThen.rt ?_
            refine QBlock.ret ?_
            refine QThen.rt ?_
            obtain rfl := (hx109 _ (someE hF).symm)
            have hF := hR112
            have hF := sumR hF
            obtain rfl := someE hF
            exact QRet.many (vs := [(.agg [(.int .i64 0), (.int .i64 0), (.int .i64 0), (.list 4 (List.map TEdge.av [])), (.int .i64 0)]), (.bool false)]) ⟨resOne.at hS (k := 0) rfl rfl aggA_40 sizeA_40, rfl, trivial⟩ (by simp) rfl
          · skip
            refine AWP.skip ?_
            refine QBlock.nrm ?_
            refine QThen.nrm ?_
            refine AWP.lastR rfl ?_
            refine ASL.q (v := (.int .i64 x8_l4)) rfl rfl (Light.quiet (opMove rfl rfl)) ?_
            refine ASL.q (v := (.int .i64 (W (x8_l4 + 1)))) rfl rfl (Light.quiet (opInt rfl rfl rfl rfl)) ?_
            refine ASL.q (v := (.int .i64 (W (x8_l4 + 1)))) rfl rfl (Light.quiet (opAssign rfl rfl)) ?_
            refine ASL.done ?_
            refine QThen.nrm ?_
            exact ⟨(y97, y98, y99, y100, y101, z41, z55, (W (x8_l4 + 1))), (v41, v55), (someE hF).symm, ⟨rfl, rfl, rfl, rfl, rfl, rfl, trivial⟩, (hS.pick [0, 1, 2] rfl rfl)⟩
        · skip
          refine AWP.skip ?_
          refine QBlock.nrm ?_
          refine QThen.nrm ?_
          refine AWP.lastR rfl ?_
          refine ASL.q (v := (.int .i64 x8_l4)) rfl rfl (Light.quiet (opMove rfl rfl)) ?_
          refine ASL.q (v := (.int .i64 (W (x8_l4 + 1)))) rfl rfl (Light.quiet (opInt rfl rfl rfl rfl)) ?_
          refine ASL.q (v := (.int .i64 (W (x8_l4 + 1)))) rfl rfl (Light.quiet (opAssign rfl rfl)) ?_
          refine ASL.done ?_
          refine QThen.nrm ?_
          exact ⟨(y97, y98, y99, y100, y101, z41, y105, (W (x8_l4 + 1))), (v41, w106), (someE hF).symm, ⟨rfl, rfl, rfl, rfl, rfl, rfl, trivial⟩, (hS.pick [0, 1, 2] rfl rfl)⟩
      · skip
        refine AWP.exit ?_
        refine QThen.ext ?_
        refine QThen.ext ?_
        refine QBlock.hit ?_
        obtain rfl := (hx109 _ (someE hF).symm)
        have hF := hR112
        have hF := sumL hF
        refine QThen.nrm ?_
        exact ⟨y97, y98, y99, y100, y101, y102, y105, w103, w106, ⟨rfl, rfl, rfl, rfl, rfl, trivial⟩, (hS.pick [0, 1, 2] rfl rfl), hF⟩

set_option maxRecDepth 10000 in
theorem impl_ReNull_ok {K : Nat} {p0 : (List TNode)} {r : Bool} (hF : impl_ReNull K p0 = some r) : PC Try.prog 24 [(.list 3 (List.map TNode.av p0))] fun v => v = (.bool r) := by
  refine PC.enter Try.func24 rfl Try.ntmps24 (by simp) ?_
  have hS := Sep.void; unfold impl_ReNull at hF
  refine AWP.seqR rfl ?_
  refine ASL.q (v := (.bool false)) rfl rfl (Light.quiet (opAssign rfl rfl)) ?_
  refine ASL.done ?_
  refine AWP.seqR rfl ?_
  refine ASL.q (v := (.list 3 (List.map TNode.av p0))) rfl rfl (Light.quiet (opMove rfl rfl)) ?_
  obtain ⟨a4, ha4, hF⟩ := bindE hF
  refine ASL.q (v := (.bool a4)) rfl rfl ((qCallR hS rfl rfl call_22 (impl_ReTakes_ok ha4) ⟨.same _, .nil _, trivial⟩ (by constructor))) ?_
  refine ASL.q (v := (.bool a4)) rfl rfl (Light.quiet (opAssign rfl rfl)) ?_
  refine ASL.done ?_
  refine AWP.ret ?_
  obtain rfl := someE hF
  exact QRet.sole (v := (.bool a4)) ⟨rfl, trivial⟩ rfl

set_option maxRecDepth 10000 in
theorem impl_areLetters_ok {p0 : (List Int)} {p1 : Int} {r : Bool} (hF : impl_areLetters p0 p1 = some r) : PC Try.prog 69 [(.list 1 (List.map (AV.int .i64) p0)), (.int .i64 p1)] fun v => v = (.bool r) := by
  refine PC.enter Try.func69 rfl Try.ntmps69 (by simp) ?_
  have hS := Sep.void; unfold impl_areLetters at hF
  refine AWP.seqR rfl ?_
  refine ASL.q (v := (.bool false)) rfl rfl (Light.quiet (opAssign rfl rfl)) ?_
  refine ASL.done ?_
  refine AWP.seqM (fun e H => E.Told e [] ∧ E.Sep H [] ∧ impl_areLetters.k0 = some r) ?_ ?_
  · rintro e0 G1 ⟨hT, hS, hF⟩; refine AWP.only _ hT ?_; unfold impl_areLetters.k0 at hF
    refine AWP.seqR rfl ?_
    refine ASL.q (v := (.bool true)) rfl rfl (Light.quiet (opAssign rfl rfl)) ?_
    refine ASL.done ?_
    refine AWP.ret ?_
    obtain rfl := someE hF
    exact QRet.sole (v := (.bool true)) ⟨rfl, trivial⟩ rfl
  · skip
    refine AWP.seqR rfl ?_
    refine ASL.q (v := (.list 1 (List.map (AV.int .i64) p0))) rfl rfl (Light.quiet (opMove rfl rfl)) ?_
    refine ASL.q (v := (.int .i64 (p0.length : Int))) rfl rfl (Light.quiet (opLenMap (f := (AV.int .i64)) rfl rfl rfl lenT_47 rfl)) ?_
    refine ASL.q (v := (.int .i64 0)) rfl rfl (Light.quiet (opMove rfl rfl)) ?_
    refine ASL.done ?_
    refine AWP.block ?_
    obtain ⟨o5, hL4, hR6⟩ := bindE hF
    refine AWP.loopF (ω := Unit) hL4 (fun s w => [(1, (.int .i64 p1)), (7, (.list 1 (List.map (AV.int .i64) p0))), (8, (.int .i64 (p0.length : Int))), (9, (.int .i64 s))]) (fun s w => []) () ⟨rfl, rfl, rfl, rfl, trivial⟩ (hS.pick [] rfl rfl) ?_
    rintro x9_l0 _ G7 hS x2 hF hx3
    try dsimp only at hS ⊢
    have hF : impl_areLetters.b0 p0 p1 x9_l0 = some x2 := hF; unfold impl_areLetters.b0 at hF
    refine AWP.seqR rfl ?_
    refine ASL.q (v := (.bool (decide (x9_l0 < ((p0.length : Int)))))) rfl rfl (Light.quiet (opInt rfl rfl rfl rfl)) ?_
    refine ASL.done ?_
    refine AWP.seq ?_
    refine AWP.ifP hF rfl (fun hc8 hF => ?_) (fun hc8 hF => ?_)
    · skip
      refine AWP.skip ?_
      refine QThen.nrm ?_
      refine AWP.seq ?_
      refine AWP.block ?_
      refine AWP.seqR rfl ?_
      obtain ⟨a11, ha11, hF⟩ := bindE hF
      refine ASL.q (v := (.rptr [(.int .i64 a11)])) rfl rfl (Light.quiet (kIx (f := (AV.int .i64)) ha11 rfl rfl rfl elemA_47 sizeA_3 rfl)) ?_
      refine ASL.q (v := (.int .i64 a11)) rfl rfl (Light.quiet (opLoadR rfl aggA_3 rfl rfl)) ?_
      refine ASL.q (v := (.int .i64 a11)) rfl rfl (Light.quiet (opAssign rfl rfl)) ?_
      refine ASL.done ?_
      refine AWP.seqR rfl ?_
      refine ASL.q (v := (.int .i64 a11)) rfl rfl (Light.quiet (opMove rfl rfl)) ?_
      refine ASL.q (v := (.int .i64 p1)) rfl rfl (Light.quiet (opMove rfl rfl)) ?_
      refine ASL.q (v := (.int .i64 (W (p1 - 1)))) rfl rfl (Light.quiet (opInt rfl rfl rfl rfl)) ?_
      refine ASL.q (v := (.bool (impl_inRange a11 0 ((W (p1 - 1)))))) rfl rfl ((qCall rfl rfl call_78 (impl_inRange_ok a11 0 ((W (p1 - 1)))) rfl)) ?_
      refine ASL.q (v := (.bool (!(impl_inRange a11 0 ((W (p1 - 1))))))) rfl rfl (Light.quiet (opNot rfl rfl)) ?_
      refine ASL.done ?_
      refine AWP.ifB hF rfl (fun hc9 hF => ?_) (fun hc9 hF => ?_)
      · skip
        refine AWP.seqR rfl ?_
        refine ASL.q (v := (.bool false)) rfl rfl (Light.quiet (opAssign rfl rfl)) ?_
        refine ASL.done ?_
        refine AWP.ret ?_
        refine QBlock.ret ?_
        refine QThen.rt ?_
        refine QThen.rt ?_
        refine QBlock.ret ?_
        refine QThen.rt ?_
        obtain rfl := (hx3 _ (someE hF).symm)
        have hF := hR6
        have hF := sumR hF
        obtain rfl := someE hF
        exact QRet.sole (v := (.bool false)) ⟨rfl, trivial⟩ rfl
      · skip
        refine AWP.skip ?_
        refine QBlock.nrm ?_
        refine QThen.nrm ?_
        refine AWP.lastR rfl ?_
        refine ASL.q (v := (.int .i64 (W (x9_l0 + 1)))) rfl rfl (Light.quiet (opInt rfl rfl rfl rfl)) ?_
        refine ASL.q (v := (.int .i64 (W (x9_l0 + 1)))) rfl rfl (Light.quiet (opMove rfl rfl)) ?_
        refine ASL.done ?_
        refine QThen.nrm ?_
        exact ⟨(W (x9_l0 + 1)), (), (someE hF).symm, ⟨rfl, rfl, rfl, rfl, trivial⟩, (hS.pick [] rfl rfl)⟩
    · skip
      refine AWP.exit ?_
      refine QThen.ext ?_
      refine QThen.ext ?_
      refine QBlock.hit ?_
      obtain rfl := (hx3 _ (someE hF).symm)
      have hF := hR6
      have hF := sumL hF
      refine QThen.nrm ?_
      exact ⟨trivial, (hS.pick [] rfl rfl), hF⟩

set_option maxRecDepth 10000 in
theorem impl_Auto_step_ok {p0 : TAuto} {p1 : Int} {p2 : Int} {r : Int} (hF : impl_Auto_step p0 p1 p2 = some r) : PC Try.prog 70 [(.rptr [(.int .i64 p0.letters), (.int .i64 p0.states), (.int .i64 p0.start), (.list 4 (List.map TEdge.av p0.edges))]), (.int .i64 p1), (.int .i64 p2)] fun v => v = (.int .i64 r) := by
  refine PC.enter Try.func70 rfl Try.ntmps70 (by simp) ?_
  have hS := Sep.void; unfold impl_Auto_step at hF
  refine AWP.seqR rfl ?_
  refine ASL.q (v := (.int .i64 0)) rfl rfl (Light.quiet (opAssign rfl rfl)) ?_
  refine ASL.done ?_
  refine AWP.seqR rfl ?_
  refine ASL.q (v := (.int .i64 0)) rfl rfl (Light.quiet (opAssign rfl rfl)) ?_
  refine ASL.done ?_
  refine AWP.seqM (fun e H => ∃ x7_1 : Int, E.Told e [(7, (.int .i64 x7_1))] ∧ E.Sep H [] ∧ impl_Auto_step.k0 x7_1 = some r) ?_ ?_
  · rintro e0 G1 ⟨x7_1, hT, hS, hF⟩; refine AWP.only _ hT ?_; unfold impl_Auto_step.k0 at hF
    refine AWP.seqR rfl ?_
    refine ASL.q (v := (.int .i64 x7_1)) rfl rfl (Light.quiet (opMove rfl rfl)) ?_
    refine ASL.q (v := (.int .i64 x7_1)) rfl rfl (Light.quiet (opAssign rfl rfl)) ?_
    refine ASL.done ?_
    refine AWP.ret ?_
    obtain rfl := someE hF
    exact QRet.sole (v := (.int .i64 x7_1)) ⟨rfl, trivial⟩ rfl
  · skip
    refine AWP.seqR rfl ?_
    refine ASL.q (v := (.rptr [(.int .i64 p0.letters), (.int .i64 p0.states), (.int .i64 p0.start), (.list 4 (List.map TEdge.av p0.edges))])) rfl rfl (Light.quiet (opMove rfl rfl)) ?_
    refine ASL.q (v := (.rptr [(.int .i64 p0.letters), (.int .i64 p0.states), (.int .i64 p0.start), (.list 4 (List.map TEdge.av p0.edges))])) rfl rfl (Light.quiet (opNil rfl rfl rfl)) ?_
    refine ASL.q (v := (.rptr [(.list 4 (List.map TEdge.av p0.edges))])) rfl rfl (Light.quiet (opFieldAddrR rfl fieldA_38_3 rfl rfl)) ?_
    refine ASL.q (v := (.list 4 (List.map TEdge.av p0.edges))) rfl rfl (Light.quiet (opLoadR rfl aggA_36 rfl rfl)) ?_
    refine ASL.q (v := (.int .i64 (p0.edges.length : Int))) rfl rfl (Light.quiet (opLenMap (f := TEdge.av) rfl rfl rfl lenT_36 rfl)) ?_
    refine ASL.q (v := (.int .i64 0)) rfl rfl (Light.quiet (opMove rfl rfl)) ?_
    refine ASL.done ?_
    refine AWP.block ?_
    obtain ⟨o5, hL4, hR6⟩ := bindE hF
    refine AWP.loopF (ω := Unit) hL4 (fun s w => [(1, (.int .i64 p1)), (2, (.int .i64 p2)), (7, (.int .i64 s.1)), (13, (.list 4 (List.map TEdge.av p0.edges))), (14, (.int .i64 (p0.edges.length : Int))), (15, (.int .i64 s.2))]) (fun s w => []) () ⟨rfl, rfl, rfl, rfl, rfl, rfl, trivial⟩ (hS.pick [] rfl rfl) ?_
    rintro ⟨x7_l0, x15_l0⟩ _ G7 hS x2 hF hx3
    try dsimp only at hS ⊢
    have hF : impl_Auto_step.b0 p0 p2 p1 x7_l0 x15_l0 = some x2 := hF; unfold impl_Auto_step.b0 at hF
    refine AWP.seqR rfl ?_
    refine ASL.q (v := (.bool (decide (x15_l0 < ((p0.edges.length : Int)))))) rfl rfl (Light.quiet (opInt rfl rfl rfl rfl)) ?_
    refine ASL.done ?_
    refine AWP.seq ?_
    refine AWP.ifP hF rfl (fun hc8 hF => ?_) (fun hc8 hF => ?_)
    · skip
      refine AWP.skip ?_
      refine QThen.nrm ?_
      refine AWP.seq ?_
      refine AWP.block ?_
      refine AWP.seqR rfl ?_
      obtain ⟨a17, ha17, hF⟩ := bindE hF
      refine ASL.q (v := (.rptr [(.int .i64 a17.from_), (.int .i64 a17.letter), (.int .i64 a17.to_), (.bool a17.good)])) rfl rfl (Light.quiet (kIx (f := TEdge.av) ha17 rfl rfl rfl elemA_36 sizeA_79 rfl)) ?_
      refine ASL.q (v := (TEdge.av a17)) rfl rfl (Light.quiet (opLoadRA rfl aggA_79 sizeA_79 rfl (nlt rfl) rfl)) ?_
      refine ASL.x rfl rfl (hNewZ hS [(.int .i64 0), (.int .i64 0), (.int .i64 0), (.bool false)] rfl zeroA_79 ⟨.inl rfl, .inl rfl, .inl rfl, .inl rfl, trivial⟩ ?_); rintro b9 G9 hK hS
      refine ASL.n rfl rfl (hPutA hS (j := 0) rfl rfl sizeA_79 rfl rfl rfl rfl rfl (nlt rfl) ?_); rintro G11 hS
      refine ASL.done ?_
      refine AWP.seqR rfl ?_
      refine ASL.q (v := (.ptr b9 1)) rfl rfl (Light.quiet (opFieldAddr rfl fieldA_79_1 rfl rfl)) ?_
      refine ASL.q (v := (.int .i64 a17.letter)) rfl rfl (Light.quiet (kAt hS (j := 0) rfl rfl aggA_3 rfl rfl)) ?_
      refine ASL.q (v := (.int .i64 p2)) rfl rfl (Light.quiet (opMove rfl rfl)) ?_
      refine ASL.q (v := (.bool (decide (a17.letter = p2)))) rfl rfl (Light.quiet (opInt rfl rfl rfl rfl)) ?_
      obtain ⟨c23, hc23, hF⟩ := bndE hF
      refine ASL.q (v := (.bool c23)) rfl rfl ((Quiet.cast (Light.quiet (opMove rfl rfl)) (congrArg AV.bool hc23.symm))) ?_
      refine ASL.g (v := (.int .i64 p1)) (.bool c23) true rfl (wT _) rfl (fun hG => by have q0 := hG; subst q0; exact Light.quiet (opMove rfl rfl)) ?_
      refine ASL.g (v := (.ptr b9 0)) (.bool c23) true rfl (wT _) rfl (fun hG => by have q0 := hG; subst q0; exact Light.quiet (opFieldAddr rfl fieldA_79_0 rfl rfl)) ?_
      refine ASL.g (v := (.int .i64 a17.from_)) (.bool c23) true rfl (wT _) rfl (fun hG => by have q0 := hG; subst q0; exact Light.quiet (kAt hS (j := 0) rfl rfl aggA_3 rfl rfl)) ?_
      refine ASL.g (v := (.bool (impl_has p1 a17.from_))) (.bool c23) true rfl (wT _) rfl (fun hG => by have q0 := hG; subst q0; exact (qCall rfl rfl call_81 (impl_has_ok p1 a17.from_) rfl)) ?_
      refine ASL.q (v := (.bool (c23 && (impl_has p1 a17.from_)))) rfl rfl (Light.quiet (opPick (b := c23) rfl rfl (by cases c23 <;> rfl))) ?_
      refine ASL.done ?_
      refine AWP.ifB hF rfl (fun hc12 hF => ?_) (fun hc12 hF => ?_)
      · skip
        refine AWP.lastR rfl ?_
        refine ASL.q (v := (.int .i64 x7_l0)) rfl rfl (Light.quiet (opMove rfl rfl)) ?_
        refine ASL.q (v := (.ptr b9 2)) rfl rfl (Light.quiet (opFieldAddr rfl fieldA_79_2 rfl rfl)) ?_
        refine ASL.q (v := (.int .i64 a17.to_)) rfl rfl (Light.quiet (kAt hS (j := 0) rfl rfl aggA_3 rfl rfl)) ?_
        refine ASL.q (v := (.int .i64 (impl_only a17.to_))) rfl rfl ((qCall rfl rfl call_39 (impl_only_ok a17.to_) rfl)) ?_
        refine ASL.q (v := (.int .i64 (bOr .i64 x7_l0 ((impl_only a17.to_))))) rfl rfl (Light.quiet (opInt rfl rfl rfl rfl)) ?_
        refine ASL.q (v := (.int .i64 (bOr .i64 x7_l0 ((impl_only a17.to_))))) rfl rfl (Light.quiet (opAssign rfl rfl)) ?_
        refine ASL.done ?_
        refine QBlock.nrm ?_
        refine QThen.nrm ?_
        refine AWP.lastR rfl ?_
        refine ASL.q (v := (.int .i64 (W (x15_l0 + 1)))) rfl rfl (Light.quiet (opInt rfl rfl rfl rfl)) ?_
        refine ASL.q (v := (.int .i64 (W (x15_l0 + 1)))) rfl rfl (Light.quiet (opMove rfl rfl)) ?_
        refine ASL.done ?_
        refine QThen.nrm ?_
        exact ⟨((bOr .i64 x7_l0 ((impl_only a17.to_))), (W (x15_l0 + 1))), (), (someE hF).symm, ⟨rfl, rfl, rfl, rfl, rfl, rfl, trivial⟩, (hS.pick [] rfl rfl)⟩
      · skip
        refine AWP.skip ?_
        refine QBlock.nrm ?_
        refine QThen.nrm ?_
        refine AWP.lastR rfl ?_
        refine ASL.q (v := (.int .i64 (W (x15_l0 + 1)))) rfl rfl (Light.quiet (opInt rfl rfl rfl rfl)) ?_
        refine ASL.q (v := (.int .i64 (W (x15_l0 + 1)))) rfl rfl (Light.quiet (opMove rfl rfl)) ?_
        refine ASL.done ?_
        refine QThen.nrm ?_
        exact ⟨(x7_l0, (W (x15_l0 + 1))), (), (someE hF).symm, ⟨rfl, rfl, rfl, rfl, rfl, rfl, trivial⟩, (hS.pick [] rfl rfl)⟩
    · skip
      refine AWP.exit ?_
      refine QThen.ext ?_
      refine QThen.ext ?_
      refine QBlock.hit ?_
      obtain rfl := (hx3 _ (someE hF).symm)
      have hF := hR6
      refine QThen.nrm ?_
      exact ⟨x7_l0, ⟨rfl, trivial⟩, (hS.pick [] rfl rfl), hF⟩

set_option maxRecDepth 10000 in
theorem impl_NfaTakes_ok {p0 : TNfa} {p1 : (List Int)} {r : Bool} (hF : impl_NfaTakes p0 p1 = some r) : PC Try.prog 26 [(TNfa.av p0), (.list 1 (List.map (AV.int .i64) p1))] fun v => v = (.bool r) := by
  refine PC.enter Try.func26 rfl Try.ntmps26 (by simp) ?_
  have hS := Sep.void; unfold impl_NfaTakes at hF
  refine AWP.seqR rfl ?_
  refine ASL.q (v := (.rptr [(.int .i64 p0.auto.letters), (.int .i64 p0.auto.states), (.int .i64 p0.auto.start), (.list 4 (List.map TEdge.av p0.auto.edges)), (.int .i64 p0.final)])) rfl rfl ((qBoxI (v := (TNfa.av p0)) rfl rfl rfl rfl)) ?_
  refine ASL.q (v := (.bool false)) rfl rfl (Light.quiet (opAssign rfl rfl)) ?_
  refine ASL.done ?_
  refine AWP.seq ?_
  refine AWP.seqR rfl ?_
  refine ASL.q (v := (.list 1 (List.map (AV.int .i64) p1))) rfl rfl (Light.quiet (opMove rfl rfl)) ?_
  refine ASL.q (v := (.int .i64 (p1.length : Int))) rfl rfl (Light.quiet (opLenMap (f := (AV.int .i64)) rfl rfl rfl lenT_47 rfl)) ?_
  refine ASL.q (v := (.bool (decide (((p1.length : Int)) > 60)))) rfl rfl (Light.quiet (opInt rfl rfl rfl rfl)) ?_
  obtain ⟨c11, hc11, hF⟩ := bndE hF
  refine ASL.q (v := (.bool c11)) rfl rfl ((Quiet.cast (Light.quiet (opMove rfl rfl)) (congrArg AV.bool hc11.symm))) ?_
  refine ASL.g (v := (TNfa.av p0)) (.bool c11) false rfl (wF _) rfl (fun hG => by have q0 := gN hG; subst q0; exact Light.quiet (opLoadRA rfl aggA_40 sizeA_40 rfl (nlt rfl) rfl)) ?_
  obtain ⟨a13, ha13, hF⟩ := bindE hF
  refine ASL.g (v := (.bool a13)) (.bool c11) false rfl (wF _) rfl (fun hG => by have q0 := gN hG; subst q0; exact (qCall rfl rfl call_25 (impl_NfaOk_ok (whenE ha13)) rfl)) ?_
  refine ASL.g (v := (.bool (!a13))) (.bool c11) false rfl (wF _) rfl (fun hG => by have q0 := gN hG; subst q0; exact Light.quiet (opNot rfl rfl)) ?_
  refine ASL.q (v := (.bool (c11 || (!a13)))) rfl rfl (Light.quiet (opPick (b := c11) rfl rfl (by cases c11 <;> rfl))) ?_
  obtain ⟨c16, hc16, hF⟩ := bndE hF
  refine ASL.q (v := (.bool c16)) rfl rfl ((Quiet.cast (Light.quiet (opMove rfl rfl)) (congrArg AV.bool hc16.symm))) ?_
  refine ASL.g (v := (.list 1 (List.map (AV.int .i64) p1))) (.bool c16) false rfl (wF _) rfl (fun hG => by have q0 := gN hG; subst q0; exact Light.quiet (opMove rfl rfl)) ?_
  refine ASL.g (v := (.rptr [(.int .i64 p0.auto.letters), (.int .i64 p0.auto.states), (.int .i64 p0.auto.start), (.list 4 (List.map TEdge.av p0.auto.edges)), (.int .i64 p0.final)])) (.bool c16) false rfl (wF _) rfl (fun hG => by have q0 := gN hG; subst q0; exact Light.quiet (opFieldAddrR rfl fieldA_40_0 rfl rfl)) ?_
  refine ASL.g (v := (.rptr [(.int .i64 p0.auto.letters), (.int .i64 p0.auto.states), (.int .i64 p0.auto.start), (.list 4 (List.map TEdge.av p0.auto.edges)), (.int .i64 p0.final)])) (.bool c16) false rfl (wF _) rfl (fun hG => by have q0 := gN hG; subst q0; exact Light.quiet (opFieldAddrR rfl fieldA_38_0 rfl rfl)) ?_
  refine ASL.g (v := (.int .i64 p0.auto.letters)) (.bool c16) false rfl (wF _) rfl (fun hG => by have q0 := gN hG; subst q0; exact Light.quiet (opLoadR rfl aggA_3 rfl rfl)) ?_
  obtain ⟨a21, ha21, hF⟩ := bindE hF
  refine ASL.g (v := (.bool a21)) (.bool c16) false rfl (wF _) rfl (fun hG => by have q0 := gN hG; subst q0; exact (qCall rfl rfl call_69 (impl_areLetters_ok (whenE ha21)) rfl)) ?_
  refine ASL.g (v := (.bool (!a21))) (.bool c16) false rfl (wF _) rfl (fun hG => by have q0 := gN hG; subst q0; exact Light.quiet (opNot rfl rfl)) ?_
  refine ASL.q (v := (.bool (c16 || (!a21)))) rfl rfl (Light.quiet (opPick (b := c16) rfl rfl (by cases c16 <;> rfl))) ?_
  refine ASL.done ?_
  refine AWP.ifB hF rfl (fun hc1 hF => ?_) (fun hc1 hF => ?_)
  · skip
    refine AWP.seqR rfl ?_
    refine ASL.q (v := (.bool false)) rfl rfl (Light.quiet (opAssign rfl rfl)) ?_
    refine ASL.done ?_
    refine AWP.ret ?_
    refine QThen.rt ?_
    obtain rfl := someE hF
    exact QRet.sole (v := (.bool false)) ⟨rfl, trivial⟩ rfl
  · skip
    refine AWP.skip ?_
    refine QThen.nrm ?_
    refine AWP.seqR rfl ?_
    refine ASL.q (v := (.rptr [(.int .i64 p0.auto.letters), (.int .i64 p0.auto.states), (.int .i64 p0.auto.start), (.list 4 (List.map TEdge.av p0.auto.edges)), (.int .i64 p0.final)])) rfl rfl (Light.quiet (opFieldAddrR rfl fieldA_40_0 rfl rfl)) ?_
    refine ASL.q (v := (.rptr [(.int .i64 p0.auto.start), (.list 4 (List.map TEdge.av p0.auto.edges)), (.int .i64 p0.final)])) rfl rfl (Light.quiet (opFieldAddrR rfl fieldA_38_2 rfl rfl)) ?_
    refine ASL.q (v := (.int .i64 p0.auto.start)) rfl rfl (Light.quiet (opLoadR rfl aggA_3 rfl rfl)) ?_
    refine ASL.q (v := (.int .i64 p0.auto.start)) rfl rfl (Light.quiet (opAssign rfl rfl)) ?_
    refine ASL.done ?_
    refine AWP.seqM (fun e H => ∃ x5_1 : Int, E.Told e [(2, (.rptr [(.int .i64 p0.auto.letters), (.int .i64 p0.auto.states), (.int .i64 p0.auto.start), (.list 4 (List.map TEdge.av p0.auto.edges)), (.int .i64 p0.final)])), (5, (.int .i64 x5_1))] ∧ E.Sep H [] ∧ impl_NfaTakes.k0 p0 x5_1 = some r) ?_ ?_
    · rintro e0 G2 ⟨x5_1, hT, hS, hF⟩; refine AWP.only _ hT ?_; unfold impl_NfaTakes.k0 at hF
      refine AWP.seqR rfl ?_
      refine ASL.q (v := (.int .i64 x5_1)) rfl rfl (Light.quiet (opMove rfl rfl)) ?_
      refine ASL.q (v := (.rptr [(.int .i64 p0.final)])) rfl rfl (Light.quiet (opFieldAddrR rfl fieldA_40_1 rfl rfl)) ?_
      refine ASL.q (v := (.int .i64 p0.final)) rfl rfl (Light.quiet (opLoadR rfl aggA_3 rfl rfl)) ?_
      refine ASL.q (v := (.int .i64 (bAnd .i64 x5_1 p0.final))) rfl rfl (Light.quiet (opInt rfl rfl rfl rfl)) ?_
      refine ASL.q (v := (.bool (decide (((bAnd .i64 x5_1 p0.final)) ≠ 0)))) rfl rfl (Light.quiet (opInt rfl rfl rfl rfl)) ?_
      refine ASL.q (v := (.bool (decide (((bAnd .i64 x5_1 p0.final)) ≠ 0)))) rfl rfl (Light.quiet (opAssign rfl rfl)) ?_
      refine ASL.done ?_
      refine AWP.ret ?_
      obtain rfl := someE hF
      exact QRet.sole (v := (.bool (decide (((bAnd .i64 x5_1 p0.final)) ≠ 0)))) ⟨rfl, trivial⟩ rfl
    · skip
      refine AWP.seqR rfl ?_
      refine ASL.q (v := (.list 1 (List.map (AV.int .i64) p1))) rfl rfl (Light.quiet (opMove rfl rfl)) ?_
      refine ASL.q (v := (.int .i64 (p1.length : Int))) rfl rfl (Light.quiet (opLenMap (f := (AV.int .i64)) rfl rfl rfl lenT_47 rfl)) ?_
      refine ASL.q (v := (.int .i64 0)) rfl rfl (Light.quiet (opMove rfl rfl)) ?_
      refine ASL.done ?_
      refine AWP.block ?_
      obtain ⟨o6, hL5, hR7⟩ := bindE hF
      refine AWP.loopF (ω := Unit) hL5 (fun s w => [(2, (.rptr [(.int .i64 p0.auto.letters), (.int .i64 p0.auto.states), (.int .i64 p0.auto.start), (.list 4 (List.map TEdge.av p0.auto.edges)), (.int .i64 p0.final)])), (5, (.int .i64 s.1)), (27, (.list 1 (List.map (AV.int .i64) p1))), (28, (.int .i64 (p1.length : Int))), (29, (.int .i64 s.2))]) (fun s w => []) () ⟨rfl, rfl, rfl, rfl, rfl, trivial⟩ (hS.pick [] rfl rfl) ?_
      rintro ⟨x5_l0, x29_l0⟩ _ G8 hS x3 hF hx4
      try dsimp only at hS ⊢
      have hF : impl_NfaTakes.b0 p1 p0 x5_l0 x29_l0 = some x3 := hF; unfold impl_NfaTakes.b0 at hF
      refine AWP.seqR rfl ?_
      refine ASL.q (v := (.bool (decide (x29_l0 < ((p1.length : Int)))))) rfl rfl (Light.quiet (opInt rfl rfl rfl rfl)) ?_
      refine ASL.done ?_
      refine AWP.seq ?_
      refine AWP.ifP hF rfl (fun hc9 hF => ?_) (fun hc9 hF => ?_)
      · skip
        refine AWP.skip ?_
        refine QThen.nrm ?_
        refine AWP.seq ?_
        refine AWP.block ?_
        refine AWP.seqR rfl ?_
        obtain ⟨a31, ha31, hF⟩ := bindE hF
        refine ASL.q (v := (.rptr [(.int .i64 a31)])) rfl rfl (Light.quiet (kIx (f := (AV.int .i64)) ha31 rfl rfl rfl elemA_47 sizeA_3 rfl)) ?_
        refine ASL.q (v := (.int .i64 a31)) rfl rfl (Light.quiet (opLoadR rfl aggA_3 rfl rfl)) ?_
        refine ASL.q (v := (.int .i64 a31)) rfl rfl (Light.quiet (opAssign rfl rfl)) ?_
        refine ASL.done ?_
        refine AWP.lastR rfl ?_
        refine ASL.q (v := (.rptr [(.int .i64 p0.auto.letters), (.int .i64 p0.auto.states), (.int .i64 p0.auto.start), (.list 4 (List.map TEdge.av p0.auto.edges)), (.int .i64 p0.final)])) rfl rfl (Light.quiet (opFieldAddrR rfl fieldA_40_0 rfl rfl)) ?_
        refine ASL.q (v := (.int .i64 x5_l0)) rfl rfl (Light.quiet (opMove rfl rfl)) ?_
        refine ASL.q (v := (.int .i64 a31)) rfl rfl (Light.quiet (opMove rfl rfl)) ?_
        obtain ⟨a36, ha36, hF⟩ := bindE hF
        refine ASL.q (v := (.int .i64 a36)) rfl rfl ((qCallR hS rfl rfl call_70 (impl_Auto_step_ok ha36) ⟨.rpre _ 4, .same _, .same _, trivial⟩ (by constructor))) ?_
        refine ASL.q (v := (.int .i64 a36)) rfl rfl (Light.quiet (opAssign rfl rfl)) ?_
        refine ASL.done ?_
        refine QBlock.nrm ?_
        refine QThen.nrm ?_
        refine AWP.lastR rfl ?_
        refine ASL.q (v := (.int .i64 (W (x29_l0 + 1)))) rfl rfl (Light.quiet (opInt rfl rfl rfl rfl)) ?_
        refine ASL.q (v := (.int .i64 (W (x29_l0 + 1)))) rfl rfl (Light.quiet (opMove rfl rfl)) ?_
        refine ASL.done ?_
        refine QThen.nrm ?_
        exact ⟨(a36, (W (x29_l0 + 1))), (), (someE hF).symm, ⟨rfl, rfl, rfl, rfl, rfl, trivial⟩, (hS.pick [] rfl rfl)⟩
      · skip
        refine AWP.exit ?_
        refine QThen.ext ?_
        refine QThen.ext ?_
        refine QBlock.hit ?_
        obtain rfl := (hx4 _ (someE hF).symm)
        have hF := hR7
        refine QThen.nrm ?_
        exact ⟨x5_l0, ⟨rfl, rfl, trivial⟩, (hS.pick [] rfl rfl), hF⟩

set_option maxRecDepth 10000 in
theorem laws_FnNfa_ok {K : Nat} {p0 : (List Int)} {r : Bool} (hF : laws_FnNfa K p0 = some r) : PC Try.prog 5 [(.list 1 (List.map (AV.int .u8) p0))] fun v => v = (.bool r) := by
  refine PC.enter Try.func5 rfl Try.ntmps5 (by simp) ?_
  have hS := Sep.void; unfold laws_FnNfa at hF
  refine AWP.seqR rfl ?_
  refine ASL.q (v := (.bool false)) rfl rfl (Light.quiet (opAssign rfl rfl)) ?_
  refine ASL.done ?_
  refine AWP.seq ?_
  refine AWP.seqR rfl ?_
  refine ASL.q (v := (.list 1 (List.map (AV.int .u8) p0))) rfl rfl (Light.quiet (opMove rfl rfl)) ?_
  refine ASL.q (v := (.bool (laws_big p0))) rfl rfl ((qCall rfl rfl call_20 (laws_big_ok p0) rfl)) ?_
  refine ASL.done ?_
  refine AWP.ifB hF rfl (fun hc1 hF => ?_) (fun hc1 hF => ?_)
  · skip
    refine AWP.seqR rfl ?_
    refine ASL.q (v := (.bool true)) rfl rfl (Light.quiet (opAssign rfl rfl)) ?_
    refine ASL.done ?_
    refine AWP.ret ?_
    refine QThen.rt ?_
    obtain rfl := someE hF
    exact QRet.sole (v := (.bool true)) ⟨rfl, trivial⟩ rfl
  · skip
    refine AWP.skip ?_
    refine QThen.nrm ?_
    refine AWP.seqR rfl ?_
    refine ASL.q (v := (.list 1 (List.map (AV.int .u8) p0))) rfl rfl (Light.quiet (opMove rfl rfl)) ?_
    obtain ⟨a14, ha14, hF⟩ := bindE hF
    refine ASL.q (v := (.tup [(.list 3 (List.map TNode.av a14.1)), (.list 1 (List.map (AV.int .i64) a14.2))])) rfl rfl ((qCall rfl rfl call_21 (spec_DrawReTakes_ok ha14) rfl)) ?_
    refine ASL.q (v := (.tup [(.list 3 (List.map TNode.av a14.1)), (.list 1 (List.map (AV.int .i64) a14.2))])) rfl rfl (Light.quiet (opMove rfl rfl)) ?_
    refine ASL.q (v := (.list 3 (List.map TNode.av a14.1))) rfl rfl (Light.quiet (opExtract rfl rfl rfl)) ?_
    refine ASL.q (v := (.list 1 (List.map (AV.int .i64) a14.2))) rfl rfl (Light.quiet (opExtract rfl rfl rfl)) ?_
    refine ASL.q (v := (.list 3 (List.map TNode.av a14.1))) rfl rfl (Light.quiet (opAssign rfl rfl)) ?_
    refine ASL.q (v := (.list 1 (List.map (AV.int .i64) a14.2))) rfl rfl (Light.quiet (opAssign rfl rfl)) ?_
    refine ASL.done ?_
    refine AWP.seqR rfl ?_
    refine ASL.q (v := (.list 3 (List.map TNode.av a14.1))) rfl rfl (Light.quiet (opMove rfl rfl)) ?_
    refine ASL.q (v := (.list 1 (List.map (AV.int .i64) a14.2))) rfl rfl (Light.quiet (opMove rfl rfl)) ?_
    obtain ⟨a19, ha19, hF⟩ := bindE hF
    refine ASL.q (v := (.bool a19)) rfl rfl ((qCall rfl rfl call_22 (impl_ReTakes_ok ha19) rfl)) ?_
    refine ASL.q (v := (.bool a19)) rfl rfl (Light.quiet (opAssign rfl rfl)) ?_
    refine ASL.done ?_
    refine AWP.seq ?_
    refine AWP.seqR rfl ?_
    refine ASL.q (v := (.bool a19)) rfl rfl (Light.quiet (opMove rfl rfl)) ?_
    refine ASL.q (v := (.list 3 (List.map TNode.av a14.1))) rfl rfl (Light.quiet (opMove rfl rfl)) ?_
    refine ASL.q (v := (.list 1 (List.map (AV.int .i64) a14.2))) rfl rfl (Light.quiet (opMove rfl rfl)) ?_
    obtain ⟨a23, ha23, hF⟩ := bindE hF
    refine ASL.q (v := (.bool a23)) rfl rfl ((qCall rfl rfl call_23 (spec_ReTakes_ok ha23) rfl)) ?_
    refine ASL.q (v := (.bool (!(a19 == a23)))) rfl rfl (Light.quiet (opBoolEq rfl rfl rfl und_4 rfl)) ?_
    refine ASL.done ?_
    refine AWP.ifB hF rfl (fun hc2 hF => ?_) (fun hc2 hF => ?_)
    · skip
      refine AWP.seqR rfl ?_
      refine ASL.q (v := (.bool false)) rfl rfl (Light.quiet (opAssign rfl rfl)) ?_
      refine ASL.done ?_
      refine AWP.ret ?_
      refine QThen.rt ?_
      obtain rfl := someE hF
      exact QRet.sole (v := (.bool false)) ⟨rfl, trivial⟩ rfl
    · skip
      refine AWP.skip ?_
      refine QThen.nrm ?_
      refine AWP.seqR rfl ?_
      refine ASL.q (v := (.list 3 (List.map TNode.av a14.1))) rfl rfl (Light.quiet (opMove rfl rfl)) ?_
      obtain ⟨a27, ha27, hF⟩ := bindE hF
      refine ASL.x rfl rfl (hCallSR hS rfl rfl call_16 (impl_ReNfa_ok ha27) ⟨.same _, .same _, trivial⟩ (by rintro _ _ G ⟨w3, rfl, rfl⟩ hG; exact ⟨(Scal.tup (ScalC.cons (Scal.agg (ScalC.cons (by constructor) (ScalC.cons (by constructor) (ScalC.cons (by constructor) (ScalC.cons (hG.scR (k := 0) rfl) (ScalC.cons (by constructor) ScalC.nil)))))) (ScalC.cons (by constructor) ScalC.nil))), ⟨(Scal.row (fun _ => by simp only [TEdge.av, cells, List.mem_cons, List.not_mem_nil, or_false]; rintro c hc; rcases hc with rfl | rfl | rfl | rfl <;> constructor)), trivial⟩⟩) ?_); rintro _ _ G5 ⟨w3, rfl, rfl⟩ hK hS
      refine ASL.q (v := (.tup [(.agg [(.int .i64 a27.1.auto.letters), (.int .i64 a27.1.auto.states), (.int .i64 a27.1.auto.start), w3, (.int .i64 a27.1.final)]), (.bool a27.2)])) rfl rfl (Light.quiet (opMove rfl rfl)) ?_
      refine ASL.q (v := (.agg [(.int .i64 a27.1.auto.letters), (.int .i64 a27.1.auto.states), (.int .i64 a27.1.auto.start), w3, (.int .i64 a27.1.final)])) rfl rfl (Light.quiet (opExtract rfl rfl rfl)) ?_
      refine ASL.q (v := (.bool a27.2)) rfl rfl (Light.quiet (opExtract rfl rfl rfl)) ?_
      refine ASL.x rfl rfl (hNewZ hS [(.int .i64 0), (.int .i64 0), (.int .i64 0), (.list 4 (List.map TEdge.av [])), (.int .i64 0)] rfl zeroA_40 ⟨.inl rfl, .inl rfl, .inl rfl, .inr ⟨_, rfl, rfl⟩, .inl rfl, trivial⟩ ?_); rintro b6 G6 hK hS
      refine ASL.n rfl rfl (hPutA hS (j := 0) rfl rfl sizeA_40 rfl rfl rfl rfl (allC rfl (allC rfl (allC rfl (allC (hS.one (k := 1) rfl) (allC rfl rfl))))) (nlt rfl) ?_); rintro G8 hS
      refine ASL.q (v := (.bool a27.2)) rfl rfl (Light.quiet (opAssign rfl rfl)) ?_
      refine ASL.done ?_
      refine AWP.seqR rfl ?_
      refine ASL.q (v := (.list 3 (List.map TNode.av a14.1))) rfl rfl (Light.quiet (opMove rfl rfl)) ?_
      obtain ⟨a32, ha32, hF⟩ := bindE hF
      refine ASL.q (v := (.tup [(TNfa.av a32.1), (.bool a32.2)])) rfl rfl ((qCall rfl rfl call_15 (spec_ReNfa_ok ha32) rfl)) ?_
      refine ASL.q (v := (.tup [(TNfa.av a32.1), (.bool a32.2)])) rfl rfl (Light.quiet (opMove rfl rfl)) ?_
      refine ASL.q (v := (TNfa.av a32.1)) rfl rfl (Light.quiet (opExtract rfl rfl rfl)) ?_
      refine ASL.q (v := (.bool a32.2)) rfl rfl (Light.quiet (opExtract rfl rfl rfl)) ?_
      refine ASL.x rfl rfl (hNewZ hS [(.int .i64 0), (.int .i64 0), (.int .i64 0), (.list 4 (List.map TEdge.av [])), (.int .i64 0)] rfl zeroA_40 ⟨.inl rfl, .inl rfl, .inl rfl, .inr ⟨_, rfl, rfl⟩, .inl rfl, trivial⟩ ?_); rintro b8 G9 hK hS
      refine ASL.n rfl rfl (hPutA hS (j := 0) rfl rfl sizeA_40 rfl rfl rfl rfl rfl (nlt rfl) ?_); rintro G11 hS
      refine ASL.q (v := (.bool a32.2)) rfl rfl (Light.quiet (opAssign rfl rfl)) ?_
      refine ASL.done ?_
      refine AWP.seq ?_
      refine AWP.seqR rfl ?_
      refine ASL.q (v := (.bool a27.2)) rfl rfl (Light.quiet (opMove rfl rfl)) ?_
      refine ASL.q (v := (.bool a32.2)) rfl rfl (Light.quiet (opMove rfl rfl)) ?_
      refine ASL.q (v := (.bool (!(a27.2 == a32.2)))) rfl rfl (Light.quiet (opBoolEq rfl rfl rfl und_4 rfl)) ?_
      refine ASL.done ?_
      refine AWP.ifB hF rfl (fun hc12 hF => ?_) (fun hc12 hF => ?_)
      · skip
        refine AWP.seqR rfl ?_
        refine ASL.q (v := (.bool false)) rfl rfl (Light.quiet (opAssign rfl rfl)) ?_
        refine ASL.done ?_
        refine AWP.ret ?_
        refine QThen.rt ?_
        obtain rfl := someE hF
        exact QRet.sole (v := (.bool false)) ⟨rfl, trivial⟩ rfl
      · skip
        refine AWP.skip ?_
        refine QThen.nrm ?_
        refine AWP.seq ?_
        refine AWP.seqR rfl ?_
        refine ASL.q (v := (.bool a27.2)) rfl rfl (Light.quiet (opMove rfl rfl)) ?_
        refine ASL.q (v := (.bool (!a27.2))) rfl rfl (Light.quiet (opNot rfl rfl)) ?_
        refine ASL.done ?_
        refine AWP.ifB hF rfl (fun hc13 hF => ?_) (fun hc13 hF => ?_)
        · skip
          refine AWP.seqR rfl ?_
          refine ASL.q (v := (.bool a19)) rfl rfl (Light.quiet (opMove rfl rfl)) ?_
          refine ASL.q (v := (.bool (!a19))) rfl rfl (Light.quiet (opNot rfl rfl)) ?_
          obtain ⟨c42, hc42, hF⟩ := bndE hF
          refine ASL.q (v := (.bool c42)) rfl rfl ((Quiet.cast (Light.quiet (opMove rfl rfl)) (congrArg AV.bool hc42.symm))) ?_
          refine ASL.g (v := (.list 3 (List.map TNode.av a14.1))) (.bool c42) true rfl (wT _) rfl (fun hG => by have q0 := hG; subst q0; exact Light.quiet (opMove rfl rfl)) ?_
          obtain ⟨a44, ha44, hF⟩ := bindE hF
          refine ASL.g (v := (.bool a44)) (.bool c42) true rfl (wT _) rfl (fun hG => by have q0 := hG; subst q0; exact (qCall rfl rfl call_24 (impl_ReNull_ok (whenE ha44)) rfl)) ?_
          refine ASL.g (v := (.bool (!a44))) (.bool c42) true rfl (wT _) rfl (fun hG => by have q0 := hG; subst q0; exact Light.quiet (opNot rfl rfl)) ?_
          refine ASL.q (v := (.bool (c42 && (!a44)))) rfl rfl (Light.quiet (opPick (b := c42) rfl rfl (by cases c42 <;> rfl))) ?_
          refine ASL.q (v := (.bool (c42 && (!a44)))) rfl rfl (Light.quiet (opAssign rfl rfl)) ?_
          refine ASL.done ?_
          refine AWP.ret ?_
          refine QThen.rt ?_
          obtain rfl := someE hF
          exact QRet.sole (v := (.bool (c42 && (!a44)))) ⟨rfl, trivial⟩ rfl
        · skip
          refine AWP.skip ?_
          refine QThen.nrm ?_
          refine AWP.seq ?_
          refine AWP.seqR rfl ?_
          refine ASL.q (v := (.agg [(.int .i64 a27.1.auto.letters), (.int .i64 a27.1.auto.states), (.int .i64 a27.1.auto.start), w3, (.int .i64 a27.1.final)])) rfl rfl (Light.quiet (kAtA hS (j := 1) rfl rfl aggA_40 sizeA_40 rfl (nlt rfl) rfl)) ?_
          obtain ⟨a48, ha48, hF⟩ := bindE hF
          refine ASL.q (v := (.bool a48)) rfl rfl ((qCallR hS rfl rfl call_25 (impl_NfaOk_ok ha48) ⟨.aggL ⟨.same _, .same _, .same _, .row (k := 2) rfl, .same _, trivial⟩, trivial⟩ (by constructor))) ?_
          refine ASL.q (v := (.bool (!a48))) rfl rfl (Light.quiet (opNot rfl rfl)) ?_
          obtain ⟨c50, hc50, hF⟩ := bndE hF
          refine ASL.q (v := (.bool c50)) rfl rfl ((Quiet.cast (Light.quiet (opMove rfl rfl)) (congrArg AV.bool hc50.symm))) ?_
          refine ASL.g (v := (.list 1 (List.map (AV.int .i64) a14.2))) (.bool c50) false rfl (wF _) rfl (fun hG => by have q0 := gN hG; subst q0; exact Light.quiet (opMove rfl rfl)) ?_
          refine ASL.g (v := (.int .i64 (a14.2.length : Int))) (.bool c50) false rfl (wF _) rfl (fun hG => by have q0 := gN hG; subst q0; exact Light.quiet (opLenMap (f := (AV.int .i64)) rfl rfl rfl lenT_47 rfl)) ?_
          refine ASL.g (v := (.bool (decide (((a14.2.length : Int)) ≤ 60)))) (.bool c50) false rfl (wF _) rfl (fun hG => by have q0 := gN hG; subst q0; exact Light.quiet (opInt rfl rfl rfl rfl)) ?_
          obtain ⟨c54, hc54, hF⟩ := bndE hF
          refine ASL.g (v := (.bool c54)) (.bool c50) false rfl (wF _) rfl (fun hG => by have q0 := gN hG; subst q0; exact (Quiet.cast (Light.quiet (opMove rfl rfl)) (congrArg AV.bool hc54.symm))) ?_
          refine ASL.g (v := (.agg [(.int .i64 a27.1.auto.letters), (.int .i64 a27.1.auto.states), (.int .i64 a27.1.auto.start), w3, (.int .i64 a27.1.final)])) (bif (!c50) then (.bool c54) else .tup []) true rfl (wGT _ _) rfl (fun hG => by have q0 := gN (gA1 hG); have q1 := gA2 hG; subst q0; subst q1; exact Light.quiet (kAtA hS (j := 1) rfl rfl aggA_40 sizeA_40 rfl (nlt rfl) rfl)) ?_
          refine ASL.g (v := (.list 1 (List.map (AV.int .i64) a14.2))) (bif (!c50) then (.bool c54) else .tup []) true rfl (wGT _ _) rfl (fun hG => by have q0 := gN (gA1 hG); have q1 := gA2 hG; subst q0; subst q1; exact Light.quiet (opMove rfl rfl)) ?_
          obtain ⟨a57, ha57, hF⟩ := bindE hF
          refine ASL.g (v := (.bool a57)) (bif (!c50) then (.bool c54) else .tup []) true rfl (wGT _ _) rfl (fun hG => by have q0 := gN (gA1 hG); have q1 := gA2 hG; subst q0; subst q1; exact (qCallR hS rfl rfl call_26 (impl_NfaTakes_ok (whenE ha57)) ⟨.aggL ⟨.same _, .same _, .same _, .row (k := 2) rfl, .same _, trivial⟩, .same _, trivial⟩ (by constructor))) ?_
          refine ASL.g (v := (.bool a19)) (bif (!c50) then (.bool c54) else .tup []) true rfl (wGT _ _) rfl (fun hG => by have q0 := gN (gA1 hG); have q1 := gA2 hG; subst q0; subst q1; exact Light.quiet (opMove rfl rfl)) ?_
          refine ASL.g (v := (.bool (!(a57 == a19)))) (bif (!c50) then (.bool c54) else .tup []) true rfl (wGT _ _) rfl (fun hG => by have q0 := gN (gA1 hG); have q1 := gA2 hG; subst q0; subst q1; exact Light.quiet (opBoolEq rfl rfl rfl und_4 rfl)) ?_
          refine ASL.g (v := (.bool (c54 && (!(a57 == a19))))) (.bool c50) false rfl (wF _) rfl (fun hG => by have q0 := gN hG; subst q0; exact Light.quiet (opPick (b := c54) rfl rfl (by cases c54 <;> rfl))) ?_
          refine ASL.q (v := (.bool (c50 || (c54 && (!(a57 == a19)))))) rfl rfl (Light.quiet (opPick (b := c50) rfl rfl (by cases c50 <;> rfl))) ?_
          refine ASL.done ?_
          refine AWP.ifB hF rfl (fun hc14 hF => ?_) (fun hc14 hF => ?_)
          · skip
            refine AWP.seqR rfl ?_
            refine ASL.q (v := (.bool false)) rfl rfl (Light.quiet (opAssign rfl rfl)) ?_
            refine ASL.done ?_
            refine AWP.ret ?_
            refine QThen.rt ?_
            obtain rfl := someE hF
            exact QRet.sole (v := (.bool false)) ⟨rfl, trivial⟩ rfl
          · skip
            refine AWP.skip ?_
            refine QThen.nrm ?_
            refine AWP.seqR rfl ?_
            refine ASL.q (v := (.list 3 (List.map TNode.av a14.1))) rfl rfl (Light.quiet (opMove rfl rfl)) ?_
            obtain ⟨a63, ha63, hF⟩ := bindE hF
            refine ASL.q (v := (.bool a63)) rfl rfl ((qCall rfl rfl call_24 (impl_ReNull_ok ha63) rfl)) ?_
            refine ASL.q (v := (.list 3 (List.map TNode.av a14.1))) rfl rfl (Light.quiet (opMove rfl rfl)) ?_
            obtain ⟨a65, ha65, hF⟩ := bindE hF
            refine ASL.q (v := (.bool a65)) rfl rfl ((qCallR hS rfl rfl call_22 (impl_ReTakes_ok ha65) ⟨.same _, .nil _, trivial⟩ (by constructor))) ?_
            refine ASL.q (v := (.bool (a63 == a65))) rfl rfl (Light.quiet (opBoolEq rfl rfl rfl und_4 rfl)) ?_
            obtain ⟨c67, hc67, hF⟩ := bndE hF
            refine ASL.q (v := (.bool c67)) rfl rfl ((Quiet.cast (Light.quiet (opMove rfl rfl)) (congrArg AV.bool hc67.symm))) ?_
            refine ASL.g (v := (.agg [(.int .i64 a27.1.auto.letters), (.int .i64 a27.1.auto.states), (.int .i64 a27.1.auto.start), w3, (.int .i64 a27.1.final)])) (.bool c67) true rfl (wT _) rfl (fun hG => by have q0 := hG; subst q0; exact Light.quiet (kAtA hS (j := 1) rfl rfl aggA_40 sizeA_40 rfl (nlt rfl) rfl)) ?_
            obtain ⟨a69, ha69, hF⟩ := bindE hF
            refine ASL.g (v := (.bool a69)) (.bool c67) true rfl (wT _) rfl (fun hG => by have q0 := hG; subst q0; exact (qCallR hS rfl rfl call_26 (impl_NfaTakes_ok (whenE ha69)) ⟨.aggL ⟨.same _, .same _, .same _, .row (k := 2) rfl, .same _, trivial⟩, .nil _, trivial⟩ (by constructor))) ?_
            refine ASL.g (v := (.list 3 (List.map TNode.av a14.1))) (.bool c67) true rfl (wT _) rfl (fun hG => by have q0 := hG; subst q0; exact Light.quiet (opMove rfl rfl)) ?_
            obtain ⟨a71, ha71, hF⟩ := bindE hF
            refine ASL.g (v := (.bool a71)) (.bool c67) true rfl (wT _) rfl (fun hG => by have q0 := hG; subst q0; exact (qCall rfl rfl call_24 (impl_ReNull_ok (whenE ha71)) rfl)) ?_
            refine ASL.g (v := (.bool (a69 == a71))) (.bool c67) true rfl (wT _) rfl (fun hG => by have q0 := hG; subst q0; exact Light.quiet (opBoolEq rfl rfl rfl und_4 rfl)) ?_
            refine ASL.q (v := (.bool (c67 && (a69 == a71)))) rfl rfl (Light.quiet (opPick (b := c67) rfl rfl (by cases c67 <;> rfl))) ?_
            refine ASL.q (v := (.bool (c67 && (a69 == a71)))) rfl rfl (Light.quiet (opAssign rfl rfl)) ?_
            refine ASL.done ?_
            refine AWP.ret ?_
            obtain rfl := someE hF
            exact QRet.sole (v := (.bool (c67 && (a69 == a71)))) ⟨rfl, trivial⟩ rfl

end Go.Proofs.Ythdoebgikbfndaa
