/- Each of these functions of the program comes to just what its plain function says: FnExactGenTakes. -/
import Derived.Test.YthdclobnmicdaaaKGenTakesp0
namespace Go.Proofs.Ythdclobnmicdaaa
open Go Go.RowKit E
set_option linter.unusedVariables false
set_option maxRecDepth 10000 in
theorem impl_GenOk_ok {p0 : TGen} {r : Bool} (hF : impl_GenOk p0 = some r) : PC Try.prog 83 [(TGen.av p0)] fun v => v = (.bool r) := by
  refine PC.enter Try.func83 rfl Try.ntmps83 (by simp) ?_
  have hS := Sep.void; unfold impl_GenOk at hF
  refine AWP.seqR rfl ?_
  refine ASL.q (v := (.rptr [(.int .i64 p0.letters), (.int .i64 p0.states), (.int .i64 p0.start), (.int .i64 p0.sets), (.list 4 (List.map TGEdge.av p0.edges))])) rfl rfl ((qBoxI (v := (TGen.av p0)) rfl rfl rfl rfl)) ?_
  refine ASL.q (v := (.bool false)) rfl rfl (Light.quiet (opAssign rfl rfl)) ?_
  refine ASL.done ?_
  refine AWP.seq ?_
  refine AWP.seqR rfl ?_
  refine ASL.q (v := (.rptr [(.int .i64 p0.letters), (.int .i64 p0.states), (.int .i64 p0.start), (.int .i64 p0.sets), (.list 4 (List.map TGEdge.av p0.edges))])) rfl rfl (Light.quiet (opFieldAddrR rfl fieldA_60_0 rfl rfl)) ?_
  refine ASL.q (v := (.int .i64 p0.letters)) rfl rfl (Light.quiet (opLoadR rfl aggA_3 rfl rfl)) ?_
  refine ASL.q (v := (.rptr [(.int .i64 p0.states), (.int .i64 p0.start), (.int .i64 p0.sets), (.list 4 (List.map TGEdge.av p0.edges))])) rfl rfl (Light.quiet (opFieldAddrR rfl fieldA_60_1 rfl rfl)) ?_
  refine ASL.q (v := (.int .i64 p0.states)) rfl rfl (Light.quiet (opLoadR rfl aggA_3 rfl rfl)) ?_
  refine ASL.q (v := (.rptr [(.int .i64 p0.start), (.int .i64 p0.sets), (.list 4 (List.map TGEdge.av p0.edges))])) rfl rfl (Light.quiet (opFieldAddrR rfl fieldA_60_2 rfl rfl)) ?_
  refine ASL.q (v := (.int .i64 p0.start)) rfl rfl (Light.quiet (opLoadR rfl aggA_3 rfl rfl)) ?_
  refine ASL.q (v := (.bool (impl_headOk p0.letters p0.states p0.start))) rfl rfl ((qCall rfl rfl call_92 (impl_headOk_ok p0.letters p0.states p0.start) rfl)) ?_
  refine ASL.q (v := (.bool (!(impl_headOk p0.letters p0.states p0.start)))) rfl rfl (Light.quiet (opNot rfl rfl)) ?_
  obtain ⟨c13, hc13, hF⟩ := bndE hF
  refine ASL.q (v := (.bool c13)) rfl rfl ((Quiet.cast (Light.quiet (opMove rfl rfl)) (congrArg AV.bool hc13.symm))) ?_
  refine ASL.g (v := (.rptr [(.int .i64 p0.sets), (.list 4 (List.map TGEdge.av p0.edges))])) (.bool c13) false rfl (wF _) rfl (fun hG => by have q0 := gN hG; subst q0; exact Light.quiet (opFieldAddrR rfl fieldA_60_3 rfl rfl)) ?_
  refine ASL.g (v := (.int .i64 p0.sets)) (.bool c13) false rfl (wF _) rfl (fun hG => by have q0 := gN hG; subst q0; exact Light.quiet (opLoadR rfl aggA_3 rfl rfl)) ?_
  refine ASL.g (v := (.bool (impl_inRange p0.sets 0 4))) (.bool c13) false rfl (wF _) rfl (fun hG => by have q0 := gN hG; subst q0; exact (qCall rfl rfl call_59 (impl_inRange_ok p0.sets 0 4) rfl)) ?_
  refine ASL.g (v := (.bool (!(impl_inRange p0.sets 0 4)))) (.bool c13) false rfl (wF _) rfl (fun hG => by have q0 := gN hG; subst q0; exact Light.quiet (opNot rfl rfl)) ?_
  refine ASL.q (v := (.bool (c13 || (!(impl_inRange p0.sets 0 4))))) rfl rfl (Light.quiet (opPick (b := c13) rfl rfl (by cases c13 <;> rfl))) ?_
  obtain ⟨c19, hc19, hF⟩ := bndE hF
  refine ASL.q (v := (.bool c19)) rfl rfl ((Quiet.cast (Light.quiet (opMove rfl rfl)) (congrArg AV.bool hc19.symm))) ?_
  refine ASL.g (v := (.rptr [(.list 4 (List.map TGEdge.av p0.edges))])) (.bool c19) false rfl (wF _) rfl (fun hG => by have q0 := gN hG; subst q0; exact Light.quiet (opFieldAddrR rfl fieldA_60_4 rfl rfl)) ?_
  refine ASL.g (v := (.list 4 (List.map TGEdge.av p0.edges))) (.bool c19) false rfl (wF _) rfl (fun hG => by have q0 := gN hG; subst q0; exact Light.quiet (opLoadR rfl aggA_58 rfl rfl)) ?_
  refine ASL.g (v := (.int .i64 (p0.edges.length : Int))) (.bool c19) false rfl (wF _) rfl (fun hG => by have q0 := gN hG; subst q0; exact Light.quiet (opLenMap (f := TGEdge.av) rfl rfl rfl lenT_58 rfl)) ?_
  refine ASL.g (v := (.bool (decide (((p0.edges.length : Int)) > 2000)))) (.bool c19) false rfl (wF _) rfl (fun hG => by have q0 := gN hG; subst q0; exact Light.quiet (opInt rfl rfl rfl rfl)) ?_
  refine ASL.q (v := (.bool (c19 || (decide (((p0.edges.length : Int)) > 2000))))) rfl rfl (Light.quiet (opPick (b := c19) rfl rfl (by cases c19 <;> rfl))) ?_
  refine ASL.done ?_
  refine AWP.ifB hF rfl (fun hc1 hF => ?_) (fun hc1 hF => ?_)
  · skip
    refine AWP.seqR rfl ?_
    refine ASL.q (v := (.bool false)) rfl rfl (Light.quiet (opAssign rfl rfl)) ?_
    refine ASL.done ?_
    refine AWP.ret ?_
    refine QThen.rt ?_
    obtain rfl := someE hF
    exact QRet.sole (v := (.bool false)) ⟨rfl, trivial⟩ rfl
  · skip
    refine AWP.skip ?_
    refine QThen.nrm ?_
    refine AWP.seqM (fun e H => E.Told e [] ∧ E.Sep H [] ∧ impl_GenOk.k0 = some r) ?_ ?_
    · rintro e0 G2 ⟨hT, hS, hF⟩; refine AWP.only _ hT ?_; unfold impl_GenOk.k0 at hF
      refine AWP.seqR rfl ?_
      refine ASL.q (v := (.bool true)) rfl rfl (Light.quiet (opAssign rfl rfl)) ?_
      refine ASL.done ?_
      refine AWP.ret ?_
      obtain rfl := someE hF
      exact QRet.sole (v := (.bool true)) ⟨rfl, trivial⟩ rfl
    · skip
      refine AWP.seqR rfl ?_
      refine ASL.q (v := (.rptr [(.list 4 (List.map TGEdge.av p0.edges))])) rfl rfl (Light.quiet (opFieldAddrR rfl fieldA_60_4 rfl rfl)) ?_
      refine ASL.q (v := (.list 4 (List.map TGEdge.av p0.edges))) rfl rfl (Light.quiet (opLoadR rfl aggA_58 rfl rfl)) ?_
      refine ASL.q (v := (.int .i64 (p0.edges.length : Int))) rfl rfl (Light.quiet (opLenMap (f := TGEdge.av) rfl rfl rfl lenT_58 rfl)) ?_
      refine ASL.q (v := (.int .i64 0)) rfl rfl (Light.quiet (opMove rfl rfl)) ?_
      refine ASL.done ?_
      refine AWP.block ?_
      obtain ⟨o6, hL5, hR7⟩ := bindE hF
      refine AWP.loopF (ω := Unit) hL5 (fun s w => [(1, (.rptr [(.int .i64 p0.letters), (.int .i64 p0.states), (.int .i64 p0.start), (.int .i64 p0.sets), (.list 4 (List.map TGEdge.av p0.edges))])), (26, (.list 4 (List.map TGEdge.av p0.edges))), (27, (.int .i64 (p0.edges.length : Int))), (28, (.int .i64 s))]) (fun s w => []) () ⟨rfl, rfl, rfl, rfl, trivial⟩ (hS.pick [] rfl rfl) ?_
      rintro x28_l0 _ G8 hS x3 hF hx4
      try dsimp only at hS ⊢
      have hF : impl_GenOk.b0 p0 x28_l0 = some x3 := hF; unfold impl_GenOk.b0 at hF
      refine AWP.seqR rfl ?_
      refine ASL.q (v := (.bool (decide (x28_l0 < ((p0.edges.length : Int)))))) rfl rfl (Light.quiet (opInt rfl rfl rfl rfl)) ?_
      refine ASL.done ?_
      refine AWP.seq ?_
      refine AWP.ifP hF rfl (fun hc9 hF => ?_) (fun hc9 hF => ?_)
      · skip
        refine AWP.skip ?_
        refine QThen.nrm ?_
        refine AWP.seq ?_
        refine AWP.block ?_
        refine AWP.seqR rfl ?_
        refine ASL.q (v := (.int .i64 x28_l0)) rfl rfl (Light.quiet (opMove rfl rfl)) ?_
        obtain ⟨a31, ha31, hF⟩ := bindE hF
        refine ASL.q (v := (.rptr [(.int .i64 a31.from_), (.int .i64 a31.letter), (.int .i64 a31.to_), (.int .i64 a31.marks)])) rfl rfl (Light.quiet (kIx (f := TGEdge.av) ha31 rfl rfl rfl elemA_58 sizeA_99 rfl)) ?_
        refine ASL.q (v := (TGEdge.av a31)) rfl rfl (Light.quiet (opLoadRA rfl aggA_99 sizeA_99 rfl (nlt rfl) rfl)) ?_
        refine ASL.x rfl rfl (hNewZ hS [(.int .i64 0), (.int .i64 0), (.int .i64 0), (.int .i64 0)] rfl zeroA_99 ⟨.inl rfl, .inl rfl, .inl rfl, .inl rfl, trivial⟩ ?_); rintro b4 G10 hK hS
        refine ASL.q (v := (.int .i64 x28_l0)) rfl rfl (Light.quiet (opAssign rfl rfl)) ?_
        refine ASL.n rfl rfl (hPutA hS (j := 0) rfl rfl sizeA_99 rfl rfl rfl rfl rfl (nlt rfl) ?_); rintro G12 hS
        refine ASL.done ?_
        refine AWP.seq ?_
        refine AWP.seqR rfl ?_
        refine ASL.q (v := (.ptr b4 0)) rfl rfl (Light.quiet (opFieldAddr rfl fieldA_99_0 rfl rfl)) ?_
        refine ASL.q (v := (.int .i64 a31.from_)) rfl rfl (Light.quiet (kAt hS (j := 0) rfl rfl aggA_3 rfl rfl)) ?_
        refine ASL.q (v := (.rptr [(.int .i64 p0.states), (.int .i64 p0.start), (.int .i64 p0.sets), (.list 4 (List.map TGEdge.av p0.edges))])) rfl rfl (Light.quiet (opFieldAddrR rfl fieldA_60_1 rfl rfl)) ?_
        refine ASL.q (v := (.int .i64 p0.states)) rfl rfl (Light.quiet (opLoadR rfl aggA_3 rfl rfl)) ?_
        refine ASL.q (v := (.int .i64 (W (p0.states - 1)))) rfl rfl (Light.quiet (opInt rfl rfl rfl rfl)) ?_
        refine ASL.q (v := (.bool (impl_inRange a31.from_ 0 ((W (p0.states - 1)))))) rfl rfl ((qCall rfl rfl call_59 (impl_inRange_ok a31.from_ 0 ((W (p0.states - 1)))) rfl)) ?_
        refine ASL.q (v := (.bool (!(impl_inRange a31.from_ 0 ((W (p0.states - 1))))))) rfl rfl (Light.quiet (opNot rfl rfl)) ?_
        obtain ⟨c40, hc40, hF⟩ := bndE hF
        refine ASL.q (v := (.bool c40)) rfl rfl ((Quiet.cast (Light.quiet (opMove rfl rfl)) (congrArg AV.bool hc40.symm))) ?_
        refine ASL.g (v := (.ptr b4 2)) (.bool c40) false rfl (wF _) rfl (fun hG => by have q0 := gN hG; subst q0; exact Light.quiet (opFieldAddr rfl fieldA_99_2 rfl rfl)) ?_
        refine ASL.g (v := (.int .i64 a31.to_)) (.bool c40) false rfl (wF _) rfl (fun hG => by have q0 := gN hG; subst q0; exact Light.quiet (kAt hS (j := 0) rfl rfl aggA_3 rfl rfl)) ?_
        refine ASL.g (v := (.rptr [(.int .i64 p0.states), (.int .i64 p0.start), (.int .i64 p0.sets), (.list 4 (List.map TGEdge.av p0.edges))])) (.bool c40) false rfl (wF _) rfl (fun hG => by have q0 := gN hG; subst q0; exact Light.quiet (opFieldAddrR rfl fieldA_60_1 rfl rfl)) ?_
        refine ASL.g (v := (.int .i64 p0.states)) (.bool c40) false rfl (wF _) rfl (fun hG => by have q0 := gN hG; subst q0; exact Light.quiet (opLoadR rfl aggA_3 rfl rfl)) ?_
        refine ASL.g (v := (.int .i64 (W (p0.states - 1)))) (.bool c40) false rfl (wF _) rfl (fun hG => by have q0 := gN hG; subst q0; exact Light.quiet (opInt rfl rfl rfl rfl)) ?_
        refine ASL.g (v := (.bool (impl_inRange a31.to_ 0 ((W (p0.states - 1)))))) (.bool c40) false rfl (wF _) rfl (fun hG => by have q0 := gN hG; subst q0; exact (qCall rfl rfl call_59 (impl_inRange_ok a31.to_ 0 ((W (p0.states - 1)))) rfl)) ?_
        refine ASL.g (v := (.bool (!(impl_inRange a31.to_ 0 ((W (p0.states - 1))))))) (.bool c40) false rfl (wF _) rfl (fun hG => by have q0 := gN hG; subst q0; exact Light.quiet (opNot rfl rfl)) ?_
        refine ASL.q (v := (.bool (c40 || (!(impl_inRange a31.to_ 0 ((W (p0.states - 1)))))))) rfl rfl (Light.quiet (opPick (b := c40) rfl rfl (by cases c40 <;> rfl))) ?_
        obtain ⟨c49, hc49, hF⟩ := bndE hF
        refine ASL.q (v := (.bool c49)) rfl rfl ((Quiet.cast (Light.quiet (opMove rfl rfl)) (congrArg AV.bool hc49.symm))) ?_
        refine ASL.g (v := (.ptr b4 1)) (.bool c49) false rfl (wF _) rfl (fun hG => by have q0 := gN hG; subst q0; exact Light.quiet (opFieldAddr rfl fieldA_99_1 rfl rfl)) ?_
        refine ASL.g (v := (.int .i64 a31.letter)) (.bool c49) false rfl (wF _) rfl (fun hG => by have q0 := gN hG; subst q0; exact Light.quiet (kAt hS (j := 0) rfl rfl aggA_3 rfl rfl)) ?_
        refine ASL.g (v := (.rptr [(.int .i64 p0.letters), (.int .i64 p0.states), (.int .i64 p0.start), (.int .i64 p0.sets), (.list 4 (List.map TGEdge.av p0.edges))])) (.bool c49) false rfl (wF _) rfl (fun hG => by have q0 := gN hG; subst q0; exact Light.quiet (opFieldAddrR rfl fieldA_60_0 rfl rfl)) ?_
        refine ASL.g (v := (.int .i64 p0.letters)) (.bool c49) false rfl (wF _) rfl (fun hG => by have q0 := gN hG; subst q0; exact Light.quiet (opLoadR rfl aggA_3 rfl rfl)) ?_
        refine ASL.g (v := (.int .i64 (W (p0.letters - 1)))) (.bool c49) false rfl (wF _) rfl (fun hG => by have q0 := gN hG; subst q0; exact Light.quiet (opInt rfl rfl rfl rfl)) ?_
        refine ASL.g (v := (.bool (impl_inRange a31.letter 0 ((W (p0.letters - 1)))))) (.bool c49) false rfl (wF _) rfl (fun hG => by have q0 := gN hG; subst q0; exact (qCall rfl rfl call_59 (impl_inRange_ok a31.letter 0 ((W (p0.letters - 1)))) rfl)) ?_
        refine ASL.g (v := (.bool (!(impl_inRange a31.letter 0 ((W (p0.letters - 1))))))) (.bool c49) false rfl (wF _) rfl (fun hG => by have q0 := gN hG; subst q0; exact Light.quiet (opNot rfl rfl)) ?_
        refine ASL.q (v := (.bool (c49 || (!(impl_inRange a31.letter 0 ((W (p0.letters - 1)))))))) rfl rfl (Light.quiet (opPick (b := c49) rfl rfl (by cases c49 <;> rfl))) ?_
        refine ASL.done ?_
        refine AWP.ifB hF rfl (fun hc13 hF => ?_) (fun hc13 hF => ?_)
        · skip
          refine AWP.seqR rfl ?_
          refine ASL.q (v := (.bool false)) rfl rfl (Light.quiet (opAssign rfl rfl)) ?_
          refine ASL.done ?_
          refine AWP.ret ?_
          refine QThen.rt ?_
          refine QBlock.ret ?_
          refine QThen.rt ?_
          refine QThen.rt ?_
          refine QBlock.ret ?_
          refine QThen.rt ?_
          obtain rfl := (hx4 _ (someE hF).symm)
          have hF := hR7
          have hF := sumR hF
          obtain rfl := someE hF
          exact QRet.sole (v := (.bool false)) ⟨rfl, trivial⟩ rfl
        · skip
          refine AWP.skip ?_
          refine QThen.nrm ?_
          refine AWP.seqD [(0, false), (1, false), (2, false), (3, false), (4, false), (5, false), (6, false), (7, false), (8, false), (9, false), (10, false), (11, false), (12, false), (13, false), (14, false), (15, false), (16, false), (17, false), (18, false), (19, false), (20, false), (21, false), (22, false)] mixed (by kernel_rfl) rfl ?_
          refine ARL.q0 (v := (.ptr b4 3)) rfl rfl (Light.quiet (opFieldAddr rfl fieldA_99_3 rfl rfl)) ?_
          refine ARL.q (v := (.int .i64 a31.marks)) rfl rfl (hS.aliveC (k := 0) rfl) (Light.quiet (kAt hS (j := 0) rfl rfl aggA_3 rfl rfl)) ?_
          refine ARL.q0 (v := (.rptr [(.int .i64 p0.sets), (.list 4 (List.map TGEdge.av p0.edges))])) rfl rfl (Light.quiet (opFieldAddrR rfl fieldA_60_3 rfl rfl)) ?_
          refine ARL.q0 (v := (.int .i64 p0.sets)) rfl rfl (Light.quiet (opLoadR rfl aggA_3 rfl rfl)) ?_
          refine ARL.q0 (v := (.int .i64 (impl_only p0.sets))) rfl rfl ((qCall rfl rfl call_58 (impl_only_ok p0.sets) rfl)) ?_
          refine ARL.q0 (v := (.int .i64 (W (((impl_only p0.sets)) - 1)))) rfl rfl (Light.quiet (opInt rfl rfl rfl rfl)) ?_
          refine ARL.q0 (v := (.bool (impl_inRange a31.marks 0 ((W (((impl_only p0.sets)) - 1)))))) rfl rfl ((qCall rfl rfl call_59 (impl_inRange_ok a31.marks 0 ((W (((impl_only p0.sets)) - 1)))) rfl)) ?_
          refine ARL.q0 (v := (.bool (!(impl_inRange a31.marks 0 ((W (((impl_only p0.sets)) - 1))))))) rfl rfl (Light.quiet (opNot rfl rfl)) ?_
          obtain ⟨c66, hc66, hF⟩ := bndE hF
          refine ARL.q0 (v := (.bool c66)) rfl rfl ((Quiet.cast (Light.quiet (opMove rfl rfl)) (congrArg AV.bool hc66.symm))) ?_
          refine ARL.g (v := (.int .i64 x28_l0)) (.bool c66) false rfl (wF _) rfl noneAlive (fun hG => by have q0 := gN hG; subst q0; exact Light.quiet (opMove rfl rfl)) ?_
          refine ARL.g (v := (.bool (decide (x28_l0 > 0)))) (.bool c66) false rfl (wF _) rfl noneAlive (fun hG => by have q0 := gN hG; subst q0; exact Light.quiet (opInt rfl rfl rfl rfl)) ?_
          obtain ⟨c69, hc69, hF⟩ := bndE hF
          refine ARL.g (v := (.bool c69)) (.bool c66) false rfl (wF _) rfl noneAlive (fun hG => by have q0 := gN hG; subst q0; exact (Quiet.cast (Light.quiet (opMove rfl rfl)) (congrArg AV.bool hc69.symm))) ?_
          refine ARL.g (v := (.rptr [(.list 4 (List.map TGEdge.av p0.edges))])) (bif (!c66) then (.bool c69) else .tup []) true rfl (wGT _ _) rfl noneAlive (fun hG => by have q0 := gN (gA1 hG); have q1 := gA2 hG; subst q0; subst q1; exact Light.quiet (opFieldAddrR rfl fieldA_60_4 rfl rfl)) ?_
          refine ARL.g (v := (.list 4 (List.map TGEdge.av p0.edges))) (bif (!c66) then (.bool c69) else .tup []) true rfl (wGT _ _) rfl noneAlive (fun hG => by have q0 := gN (gA1 hG); have q1 := gA2 hG; subst q0; subst q1; exact Light.quiet (opLoadR rfl aggA_58 rfl rfl)) ?_
          refine ARL.g (v := (.int .i64 x28_l0)) (bif (!c66) then (.bool c69) else .tup []) true rfl (wGT _ _) rfl noneAlive (fun hG => by have q0 := gN (gA1 hG); have q1 := gA2 hG; subst q0; subst q1; exact Light.quiet (opMove rfl rfl)) ?_
          refine ARL.g (v := (.int .i64 (W (x28_l0 - 1)))) (bif (!c66) then (.bool c69) else .tup []) true rfl (wGT _ _) rfl noneAlive (fun hG => by have q0 := gN (gA1 hG); have q1 := gA2 hG; subst q0; subst q1; exact Light.quiet (opInt rfl rfl rfl rfl)) ?_
          obtain ⟨a74, ha74, hF⟩ := bindE hF
          refine ARL.g (v := (.rptr [(.int .i64 a74.from_), (.int .i64 a74.letter), (.int .i64 a74.to_), (.int .i64 a74.marks)])) (bif (!c66) then (.bool c69) else .tup []) true rfl (wGT _ _) rfl noneAlive (fun hG => by have q0 := gN (gA1 hG); have q1 := gA2 hG; subst q0; subst q1; exact Light.quiet (kIx (f := TGEdge.av) (whenE ha74) rfl rfl rfl elemA_58 sizeA_99 rfl)) ?_
          refine ARL.g (v := (TGEdge.av a74)) (bif (!c66) then (.bool c69) else .tup []) true rfl (wGT _ _) rfl noneAlive (fun hG => by have q0 := gN (gA1 hG); have q1 := gA2 hG; subst q0; subst q1; exact Light.quiet (opLoadRA rfl aggA_99 sizeA_99 rfl (nlt rfl) rfl)) ?_
          refine ARL.g (v := (TGEdge.av a31)) (bif (!c66) then (.bool c69) else .tup []) true rfl (wGT _ _) rfl (hS.aliveC (k := 0) rfl) (fun hG => by have q0 := gN (gA1 hG); have q1 := gA2 hG; subst q0; subst q1; exact Light.quiet (kAtA hS (j := 0) rfl rfl aggA_99 sizeA_99 rfl (nlt rfl) rfl)) ?_
          obtain ⟨a77, ha77, hF⟩ := bindE hF
          refine ARL.g (v := (.int .i64 a77)) (bif (!c66) then (.bool c69) else .tup []) true rfl (wGT _ _) rfl noneAlive (fun hG => by have q0 := gN (gA1 hG); have q1 := gA2 hG; subst q0; subst q1; exact (qCall rfl rfl call_111 (impl_compareGEdges_ok (whenE ha77)) rfl)) ?_
          refine ARL.g (v := (.bool (decide (a77 ≥ 0)))) (bif (!c66) then (.bool c69) else .tup []) true rfl (wGT _ _) rfl noneAlive (fun hG => by have q0 := gN (gA1 hG); have q1 := gA2 hG; subst q0; subst q1; exact Light.quiet (opInt rfl rfl rfl rfl)) ?_
          refine ARL.g (v := (.bool (c69 && (decide (a77 ≥ 0))))) (.bool c66) false rfl (wF _) rfl noneAlive (fun hG => by have q0 := gN hG; subst q0; exact Light.quiet (opPick (b := c69) rfl rfl (by cases c69 <;> rfl))) ?_
          refine ARL.q0 (v := (.bool (c66 || (c69 && (decide (a77 ≥ 0)))))) rfl rfl (Light.quiet (opPick (b := c66) rfl rfl (by cases c66 <;> rfl))) ?_
          refine ARL.done ?_
          refine AWP.ifB hF rfl (fun hc14 hF => ?_) (fun hc14 hF => ?_)
          · skip
            refine AWP.seqR rfl ?_
            refine ASL.q (v := (.bool false)) rfl rfl (Light.quiet (opAssign rfl rfl)) ?_
            refine ASL.done ?_
            refine AWP.ret ?_
            refine QBlock.ret ?_
            refine QThen.rt ?_
            refine QThen.rt ?_
            refine QBlock.ret ?_
            refine QThen.rt ?_
            obtain rfl := (hx4 _ (someE hF).symm)
            have hF := hR7
            have hF := sumR hF
            obtain rfl := someE hF
            exact QRet.sole (v := (.bool false)) ⟨rfl, trivial⟩ rfl
          · skip
            refine AWP.skip ?_
            refine QBlock.nrm ?_
            refine QThen.nrm ?_
            refine AWP.lastR rfl ?_
            refine ASL.q (v := (.int .i64 (W (x28_l0 + 1)))) rfl rfl (Light.quiet (opInt rfl rfl rfl rfl)) ?_
            refine ASL.q (v := (.int .i64 (W (x28_l0 + 1)))) rfl rfl (Light.quiet (opMove rfl rfl)) ?_
            refine ASL.done ?_
            refine QThen.nrm ?_
            exact ⟨(W (x28_l0 + 1)), (), (someE hF).symm, ⟨rfl, rfl, rfl, rfl, trivial⟩, (hS.pick [] rfl rfl)⟩
      · skip
        refine AWP.exit ?_
        refine QThen.ext ?_
        refine QThen.ext ?_
        refine QBlock.hit ?_
        obtain rfl := (hx4 _ (someE hF).symm)
        have hF := hR7
        have hF := sumL hF
        refine QThen.nrm ?_
        exact ⟨trivial, (hS.pick [] rfl rfl), hF⟩

set_option maxRecDepth 10000 in
theorem impl_areLetters_ok {p0 : (List Int)} {p1 : Int} {r : Bool} (hF : impl_areLetters p0 p1 = some r) : PC Try.prog 113 [(.list 1 (List.map (AV.int .i64) p0)), (.int .i64 p1)] fun v => v = (.bool r) := by
  refine PC.enter Try.func113 rfl Try.ntmps113 (by simp) ?_
  have hS := Sep.void; unfold impl_areLetters at hF
  refine AWP.seqR rfl ?_
  refine ASL.q (v := (.bool false)) rfl rfl (Light.quiet (opAssign rfl rfl)) ?_
  refine ASL.done ?_
  refine AWP.seqM (fun e H => E.Told e [] ∧ E.Sep H [] ∧ impl_areLetters.k0 = some r) ?_ ?_
  · rintro e0 G1 ⟨hT, hS, hF⟩; refine AWP.only _ hT ?_; unfold impl_areLetters.k0 at hF
    refine AWP.seqR rfl ?_
    refine ASL.q (v := (.bool true)) rfl rfl (Light.quiet (opAssign rfl rfl)) ?_
    refine ASL.done ?_
    refine AWP.ret ?_
    obtain rfl := someE hF
    exact QRet.sole (v := (.bool true)) ⟨rfl, trivial⟩ rfl
  · skip
    refine AWP.seqR rfl ?_
    refine ASL.q (v := (.list 1 (List.map (AV.int .i64) p0))) rfl rfl (Light.quiet (opMove rfl rfl)) ?_
    refine ASL.q (v := (.int .i64 (p0.length : Int))) rfl rfl (Light.quiet (opLenMap (f := (AV.int .i64)) rfl rfl rfl lenT_34 rfl)) ?_
    refine ASL.q (v := (.int .i64 0)) rfl rfl (Light.quiet (opMove rfl rfl)) ?_
    refine ASL.done ?_
    refine AWP.block ?_
    obtain ⟨o5, hL4, hR6⟩ := bindE hF
    refine AWP.loopF (ω := Unit) hL4 (fun s w => [(1, (.int .i64 p1)), (7, (.list 1 (List.map (AV.int .i64) p0))), (8, (.int .i64 (p0.length : Int))), (9, (.int .i64 s))]) (fun s w => []) () ⟨rfl, rfl, rfl, rfl, trivial⟩ (hS.pick [] rfl rfl) ?_
    rintro x9_l0 _ G7 hS x2 hF hx3
    try dsimp only at hS ⊢
    have hF : impl_areLetters.b0 p0 p1 x9_l0 = some x2 := hF; unfold impl_areLetters.b0 at hF
    refine AWP.seqR rfl ?_
    refine ASL.q (v := (.bool (decide (x9_l0 < ((p0.length : Int)))))) rfl rfl (Light.quiet (opInt rfl rfl rfl rfl)) ?_
    refine ASL.done ?_
    refine AWP.seq ?_
    refine AWP.ifP hF rfl (fun hc8 hF => ?_) (fun hc8 hF => ?_)
    · skip
      refine AWP.skip ?_
      refine QThen.nrm ?_
      refine AWP.seq ?_
      refine AWP.block ?_
      refine AWP.seqR rfl ?_
      obtain ⟨a11, ha11, hF⟩ := bindE hF
      refine ASL.q (v := (.rptr [(.int .i64 a11)])) rfl rfl (Light.quiet (kIx (f := (AV.int .i64)) ha11 rfl rfl rfl elemA_34 sizeA_3 rfl)) ?_
      refine ASL.q (v := (.int .i64 a11)) rfl rfl (Light.quiet (opLoadR rfl aggA_3 rfl rfl)) ?_
      refine ASL.q (v := (.int .i64 a11)) rfl rfl (Light.quiet (opAssign rfl rfl)) ?_
      refine ASL.done ?_
      refine AWP.seqR rfl ?_
      refine ASL.q (v := (.int .i64 a11)) rfl rfl (Light.quiet (opMove rfl rfl)) ?_
      refine ASL.q (v := (.int .i64 p1)) rfl rfl (Light.quiet (opMove rfl rfl)) ?_
      refine ASL.q (v := (.int .i64 (W (p1 - 1)))) rfl rfl (Light.quiet (opInt rfl rfl rfl rfl)) ?_
      refine ASL.q (v := (.bool (impl_inRange a11 0 ((W (p1 - 1)))))) rfl rfl ((qCall rfl rfl call_59 (impl_inRange_ok a11 0 ((W (p1 - 1)))) rfl)) ?_
      refine ASL.q (v := (.bool (!(impl_inRange a11 0 ((W (p1 - 1))))))) rfl rfl (Light.quiet (opNot rfl rfl)) ?_
      refine ASL.done ?_
      refine AWP.ifB hF rfl (fun hc9 hF => ?_) (fun hc9 hF => ?_)
      · skip
        refine AWP.seqR rfl ?_
        refine ASL.q (v := (.bool false)) rfl rfl (Light.quiet (opAssign rfl rfl)) ?_
        refine ASL.done ?_
        refine AWP.ret ?_
        refine QBlock.ret ?_
        refine QThen.rt ?_
        refine QThen.rt ?_
        refine QBlock.ret ?_
        refine QThen.rt ?_
        obtain rfl := (hx3 _ (someE hF).symm)
        have hF := hR6
        have hF := sumR hF
        obtain rfl := someE hF
        exact QRet.sole (v := (.bool false)) ⟨rfl, trivial⟩ rfl
      · skip
        refine AWP.skip ?_
        refine QBlock.nrm ?_
        refine QThen.nrm ?_
        refine AWP.lastR rfl ?_
        refine ASL.q (v := (.int .i64 (W (x9_l0 + 1)))) rfl rfl (Light.quiet (opInt rfl rfl rfl rfl)) ?_
        refine ASL.q (v := (.int .i64 (W (x9_l0 + 1)))) rfl rfl (Light.quiet (opMove rfl rfl)) ?_
        refine ASL.done ?_
        refine QThen.nrm ?_
        exact ⟨(W (x9_l0 + 1)), (), (someE hF).symm, ⟨rfl, rfl, rfl, rfl, trivial⟩, (hS.pick [] rfl rfl)⟩
    · skip
      refine AWP.exit ?_
      refine QThen.ext ?_
      refine QThen.ext ?_
      refine QBlock.hit ?_
      obtain rfl := (hx3 _ (someE hF).symm)
      have hF := hR6
      have hF := sumL hF
      refine QThen.nrm ?_
      exact ⟨trivial, (hS.pick [] rfl rfl), hF⟩

set_option maxRecDepth 10000 in
theorem impl_WordOk_ok {p0 : TWord} {p1 : Int} {r : Bool} (hF : impl_WordOk p0 p1 = some r) : PC Try.prog 84 [(TWord.av p0), (.int .i64 p1)] fun v => v = (.bool r) := by
  refine PC.enter Try.func84 rfl Try.ntmps84 (by simp) ?_
  have hS := Sep.void; unfold impl_WordOk at hF
  refine AWP.seqR rfl ?_
  refine ASL.q (v := (.rptr [(.list 1 (List.map (AV.int .i64) p0.stem)), (.list 1 (List.map (AV.int .i64) p0.loop))])) rfl rfl ((qBoxI (v := (TWord.av p0)) rfl rfl rfl rfl)) ?_
  refine ASL.q (v := (.bool false)) rfl rfl (Light.quiet (opAssign rfl rfl)) ?_
  refine ASL.done ?_
  refine AWP.seq ?_
  refine AWP.seqR rfl ?_
  refine ASL.q (v := (.int .i64 p1)) rfl rfl (Light.quiet (opMove rfl rfl)) ?_
  refine ASL.q (v := (.bool (impl_isLetters p1))) rfl rfl ((qCall rfl rfl call_112 (impl_isLetters_ok p1) rfl)) ?_
  refine ASL.q (v := (.bool (!(impl_isLetters p1)))) rfl rfl (Light.quiet (opNot rfl rfl)) ?_
  obtain ⟨c8, hc8, hF⟩ := bndE hF
  refine ASL.q (v := (.bool c8)) rfl rfl ((Quiet.cast (Light.quiet (opMove rfl rfl)) (congrArg AV.bool hc8.symm))) ?_
  refine ASL.g (v := (.rptr [(.list 1 (List.map (AV.int .i64) p0.stem)), (.list 1 (List.map (AV.int .i64) p0.loop))])) (.bool c8) false rfl (wF _) rfl (fun hG => by have q0 := gN hG; subst q0; exact Light.quiet (opFieldAddrR rfl fieldA_62_0 rfl rfl)) ?_
  refine ASL.g (v := (.list 1 (List.map (AV.int .i64) p0.stem))) (.bool c8) false rfl (wF _) rfl (fun hG => by have q0 := gN hG; subst q0; exact Light.quiet (opLoadR rfl aggA_34 rfl rfl)) ?_
  refine ASL.g (v := (.int .i64 (p0.stem.length : Int))) (.bool c8) false rfl (wF _) rfl (fun hG => by have q0 := gN hG; subst q0; exact Light.quiet (opLenMap (f := (AV.int .i64)) rfl rfl rfl lenT_34 rfl)) ?_
  refine ASL.g (v := (.bool (decide (((p0.stem.length : Int)) > 40)))) (.bool c8) false rfl (wF _) rfl (fun hG => by have q0 := gN hG; subst q0; exact Light.quiet (opInt rfl rfl rfl rfl)) ?_
  refine ASL.q (v := (.bool (c8 || (decide (((p0.stem.length : Int)) > 40))))) rfl rfl (Light.quiet (opPick (b := c8) rfl rfl (by cases c8 <;> rfl))) ?_
  obtain ⟨c14, hc14, hF⟩ := bndE hF
  refine ASL.q (v := (.bool c14)) rfl rfl ((Quiet.cast (Light.quiet (opMove rfl rfl)) (congrArg AV.bool hc14.symm))) ?_
  refine ASL.g (v := (.rptr [(.list 1 (List.map (AV.int .i64) p0.loop))])) (.bool c14) false rfl (wF _) rfl (fun hG => by have q0 := gN hG; subst q0; exact Light.quiet (opFieldAddrR rfl fieldA_62_1 rfl rfl)) ?_
  refine ASL.g (v := (.list 1 (List.map (AV.int .i64) p0.loop))) (.bool c14) false rfl (wF _) rfl (fun hG => by have q0 := gN hG; subst q0; exact Light.quiet (opLoadR rfl aggA_34 rfl rfl)) ?_
  refine ASL.g (v := (.int .i64 (p0.loop.length : Int))) (.bool c14) false rfl (wF _) rfl (fun hG => by have q0 := gN hG; subst q0; exact Light.quiet (opLenMap (f := (AV.int .i64)) rfl rfl rfl lenT_34 rfl)) ?_
  refine ASL.g (v := (.bool (impl_inRange ((p0.loop.length : Int)) 1 40))) (.bool c14) false rfl (wF _) rfl (fun hG => by have q0 := gN hG; subst q0; exact (qCall rfl rfl call_59 (impl_inRange_ok ((p0.loop.length : Int)) 1 40) rfl)) ?_
  refine ASL.g (v := (.bool (!(impl_inRange ((p0.loop.length : Int)) 1 40)))) (.bool c14) false rfl (wF _) rfl (fun hG => by have q0 := gN hG; subst q0; exact Light.quiet (opNot rfl rfl)) ?_
  refine ASL.q (v := (.bool (c14 || (!(impl_inRange ((p0.loop.length : Int)) 1 40))))) rfl rfl (Light.quiet (opPick (b := c14) rfl rfl (by cases c14 <;> rfl))) ?_
  refine ASL.done ?_
  refine AWP.ifB hF rfl (fun hc1 hF => ?_) (fun hc1 hF => ?_)
  · skip
    refine AWP.seqR rfl ?_
    refine ASL.q (v := (.bool false)) rfl rfl (Light.quiet (opAssign rfl rfl)) ?_
    refine ASL.done ?_
    refine AWP.ret ?_
    refine QThen.rt ?_
    obtain rfl := someE hF
    exact QRet.sole (v := (.bool false)) ⟨rfl, trivial⟩ rfl
  · skip
    refine AWP.skip ?_
    refine QThen.nrm ?_
    refine AWP.seqR rfl ?_
    refine ASL.q (v := (.rptr [(.list 1 (List.map (AV.int .i64) p0.stem)), (.list 1 (List.map (AV.int .i64) p0.loop))])) rfl rfl (Light.quiet (opFieldAddrR rfl fieldA_62_0 rfl rfl)) ?_
    refine ASL.q (v := (.list 1 (List.map (AV.int .i64) p0.stem))) rfl rfl (Light.quiet (opLoadR rfl aggA_34 rfl rfl)) ?_
    refine ASL.q (v := (.int .i64 p1)) rfl rfl (Light.quiet (opMove rfl rfl)) ?_
    obtain ⟨a24, ha24, hF⟩ := bindE hF
    refine ASL.q (v := (.bool a24)) rfl rfl ((qCall rfl rfl call_113 (impl_areLetters_ok ha24) rfl)) ?_
    refine ASL.q (v := (.bool a24)) rfl rfl (Light.quiet (opMove rfl rfl)) ?_
    refine ASL.g (v := (.rptr [(.list 1 (List.map (AV.int .i64) p0.loop))])) (.bool a24) true rfl (wT _) rfl (fun hG => by have q0 := hG; subst q0; exact Light.quiet (opFieldAddrR rfl fieldA_62_1 rfl rfl)) ?_
    refine ASL.g (v := (.list 1 (List.map (AV.int .i64) p0.loop))) (.bool a24) true rfl (wT _) rfl (fun hG => by have q0 := hG; subst q0; exact Light.quiet (opLoadR rfl aggA_34 rfl rfl)) ?_
    refine ASL.g (v := (.int .i64 p1)) (.bool a24) true rfl (wT _) rfl (fun hG => by have q0 := hG; subst q0; exact Light.quiet (opMove rfl rfl)) ?_
    obtain ⟨a29, ha29, hF⟩ := bindE hF
    refine ASL.g (v := (.bool a29)) (.bool a24) true rfl (wT _) rfl (fun hG => by have q0 := hG; subst q0; exact (qCall rfl rfl call_113 (impl_areLetters_ok (whenE ha29)) rfl)) ?_
    refine ASL.q (v := (.bool (a24 && a29))) rfl rfl (Light.quiet (opPick (b := a24) rfl rfl (by cases a24 <;> rfl))) ?_
    refine ASL.q (v := (.bool (a24 && a29))) rfl rfl (Light.quiet (opAssign rfl rfl)) ?_
    refine ASL.done ?_
    refine AWP.ret ?_
    obtain rfl := someE hF
    exact QRet.sole (v := (.bool (a24 && a29))) ⟨rfl, trivial⟩ rfl

set_option maxRecDepth 10000 in
theorem impl_Word_places_ok (p0 : TWord) : PC Try.prog 114 [(.rptr [(.list 1 (List.map (AV.int .i64) p0.stem)), (.list 1 (List.map (AV.int .i64) p0.loop))])] fun v => v = (.int .i64 (impl_Word_places p0)) := by
  generalize hF : impl_Word_places p0 = r
  refine PC.enter Try.func114 rfl Try.ntmps114 (by simp) ?_
  have hS := Sep.void; unfold impl_Word_places at hF
  refine AWP.seqR rfl ?_
  refine ASL.q (v := (.int .i64 0)) rfl rfl (Light.quiet (opAssign rfl rfl)) ?_
  refine ASL.done ?_
  refine AWP.seqD [(0, false), (1, false), (2, false), (3, false), (4, false), (5, false), (6, false), (7, false), (8, false), (9, false), (10, false), (11, false)] mixed (by kernel_rfl) rfl ?_
  refine ARL.q0 (v := (.rptr [(.list 1 (List.map (AV.int .i64) p0.stem)), (.list 1 (List.map (AV.int .i64) p0.loop))])) rfl rfl (Light.quiet (opMove rfl rfl)) ?_
  refine ARL.q0 (v := (.rptr [(.list 1 (List.map (AV.int .i64) p0.stem)), (.list 1 (List.map (AV.int .i64) p0.loop))])) rfl rfl (Light.quiet (opNil rfl rfl rfl)) ?_
  refine ARL.q0 (v := (.rptr [(.list 1 (List.map (AV.int .i64) p0.stem)), (.list 1 (List.map (AV.int .i64) p0.loop))])) rfl rfl (Light.quiet (opFieldAddrR rfl fieldA_62_0 rfl rfl)) ?_
  refine ARL.q0 (v := (.list 1 (List.map (AV.int .i64) p0.stem))) rfl rfl (Light.quiet (opLoadR rfl aggA_34 rfl rfl)) ?_
  refine ARL.q0 (v := (.int .i64 (p0.stem.length : Int))) rfl rfl (Light.quiet (opLenMap (f := (AV.int .i64)) rfl rfl rfl lenT_34 rfl)) ?_
  refine ARL.q0 (v := (.rptr [(.list 1 (List.map (AV.int .i64) p0.stem)), (.list 1 (List.map (AV.int .i64) p0.loop))])) rfl rfl (Light.quiet (opMove rfl rfl)) ?_
  refine ARL.q0 (v := (.rptr [(.list 1 (List.map (AV.int .i64) p0.stem)), (.list 1 (List.map (AV.int .i64) p0.loop))])) rfl rfl (Light.quiet (opNil rfl rfl rfl)) ?_
  refine ARL.q0 (v := (.rptr [(.list 1 (List.map (AV.int .i64) p0.loop))])) rfl rfl (Light.quiet (opFieldAddrR rfl fieldA_62_1 rfl rfl)) ?_
  refine ARL.q0 (v := (.list 1 (List.map (AV.int .i64) p0.loop))) rfl rfl (Light.quiet (opLoadR rfl aggA_34 rfl rfl)) ?_
  refine ARL.q0 (v := (.int .i64 (p0.loop.length : Int))) rfl rfl (Light.quiet (opLenMap (f := (AV.int .i64)) rfl rfl rfl lenT_34 rfl)) ?_
  refine ARL.q0 (v := (.int .i64 (W (((p0.stem.length : Int)) + ((p0.loop.length : Int)))))) rfl rfl (Light.quiet (opInt rfl rfl rfl rfl)) ?_
  refine ARL.q0 (v := (.int .i64 (W (((p0.stem.length : Int)) + ((p0.loop.length : Int)))))) rfl rfl (Light.quiet (opAssign rfl rfl)) ?_
  refine ARL.done ?_
  refine AWP.ret ?_
  obtain rfl := hF
  exact QRet.sole (v := (.int .i64 (W (((p0.stem.length : Int)) + ((p0.loop.length : Int)))))) ⟨rfl, trivial⟩ rfl

set_option maxRecDepth 10000 in
theorem impl_graphOf_ok {p0 : Int} {r : Tgraph} (hF : impl_graphOf p0 = some r) : HS Try.prog 97 [(.int .i64 p0)] [] fun v L' => ∃ o0 : Nat, ∃ wo0_next : AV, ∃ wo0_next_s : List AV, v = (.ptr o0 0) ∧ L' = [.cell o0 [wo0_next], .rows 2 wo0_next wo0_next_s (List.map (List.map Tstep.av) r.next_) none] := by
  intro H S hS
  refine HC.enter Try.func97 rfl Try.ntmps97 (by simp) ?_
  simp only [List.cons_append, List.nil_append] at hS
  unfold impl_graphOf at hF
  refine AWP.seqR rfl ?_
  refine ASL.q (v := .nilptr) rfl rfl (Light.quiet (opAssign rfl rfl)) ?_
  refine ASL.done ?_
  refine AWP.seqR rfl ?_
  refine ASL.q (v := (.int .i64 p0)) rfl rfl (Light.quiet (opMove rfl rfl)) ?_
  obtain ⟨z4, hz4, hF⟩ := bindE hF
  refine ASL.x rfl rfl (hMkRows (f := Tstep.av) (s := 2) hS hz4 (by decide) rfl elemA_114 sizeA_118 bytesA_118 zeroA_118 rfl rfl ?_); rintro v4 ws4 G1 hK hS
  refine ASL.q (v := (.agg [v4])) rfl rfl (Light.quiet (opBuildZ (zs := [(.list 1 (List.map (fun xs : (List Tstep) => AV.list 2 (List.map Tstep.av xs)) []))]) rfl plan_116 zeroA_116 ⟨.inr ⟨_, rfl, rfl⟩, trivial⟩ (putO (hS.oneRs (k := 0) rfl) rfl rfl rfl))) ?_
  refine ASL.x rfl rfl (hBox hS rfl rfl rfl ?_); rintro b6 G3 hK hS
  refine ASL.q (v := (.ptr b6 0)) rfl rfl (Light.quiet (opAssign rfl rfl)) ?_
  refine ASL.done ?_
  refine AWP.ret ?_
  obtain rfl := someE hF
  exact QRet.sole (v := (.ptr b6 0)) ⟨rfl, trivial⟩ ⟨_, ⟨b6, v4, ws4, rfl, rfl⟩, hS.pick [0, 1, 2] rfl rfl⟩

set_option maxRecDepth 10000 in
theorem impl_Word_letter_ok {p0 : TWord} {p1 : Int} {r : Int} (hF : impl_Word_letter p0 p1 = some r) : PC Try.prog 115 [(.rptr [(.list 1 (List.map (AV.int .i64) p0.stem)), (.list 1 (List.map (AV.int .i64) p0.loop))]), (.int .i64 p1)] fun v => v = (.int .i64 r) := by
  refine PC.enter Try.func115 rfl Try.ntmps115 (by simp) ?_
  have hS := Sep.void; unfold impl_Word_letter at hF
  refine AWP.seqR rfl ?_
  refine ASL.q (v := (.int .i64 0)) rfl rfl (Light.quiet (opAssign rfl rfl)) ?_
  refine ASL.done ?_
  refine AWP.seq ?_
  refine AWP.seqR rfl ?_
  refine ASL.q (v := (.int .i64 p1)) rfl rfl (Light.quiet (opMove rfl rfl)) ?_
  refine ASL.q (v := (.rptr [(.list 1 (List.map (AV.int .i64) p0.stem)), (.list 1 (List.map (AV.int .i64) p0.loop))])) rfl rfl (Light.quiet (opMove rfl rfl)) ?_
  refine ASL.q (v := (.rptr [(.list 1 (List.map (AV.int .i64) p0.stem)), (.list 1 (List.map (AV.int .i64) p0.loop))])) rfl rfl (Light.quiet (opNil rfl rfl rfl)) ?_
  refine ASL.q (v := (.rptr [(.list 1 (List.map (AV.int .i64) p0.stem)), (.list 1 (List.map (AV.int .i64) p0.loop))])) rfl rfl (Light.quiet (opFieldAddrR rfl fieldA_62_0 rfl rfl)) ?_
  refine ASL.q (v := (.list 1 (List.map (AV.int .i64) p0.stem))) rfl rfl (Light.quiet (opLoadR rfl aggA_34 rfl rfl)) ?_
  refine ASL.q (v := (.int .i64 (p0.stem.length : Int))) rfl rfl (Light.quiet (opLenMap (f := (AV.int .i64)) rfl rfl rfl lenT_34 rfl)) ?_
  refine ASL.q (v := (.bool (decide (p1 < ((p0.stem.length : Int)))))) rfl rfl (Light.quiet (opInt rfl rfl rfl rfl)) ?_
  refine ASL.done ?_
  refine AWP.ifP hF rfl (fun hc1 hF => ?_) (fun hc1 hF => ?_)
  · skip
    refine AWP.seqR rfl ?_
    refine ASL.q (v := (.rptr [(.list 1 (List.map (AV.int .i64) p0.stem)), (.list 1 (List.map (AV.int .i64) p0.loop))])) rfl rfl (Light.quiet (opMove rfl rfl)) ?_
    refine ASL.q (v := (.rptr [(.list 1 (List.map (AV.int .i64) p0.stem)), (.list 1 (List.map (AV.int .i64) p0.loop))])) rfl rfl (Light.quiet (opNil rfl rfl rfl)) ?_
    refine ASL.q (v := (.rptr [(.list 1 (List.map (AV.int .i64) p0.stem)), (.list 1 (List.map (AV.int .i64) p0.loop))])) rfl rfl (Light.quiet (opFieldAddrR rfl fieldA_62_0 rfl rfl)) ?_
    refine ASL.q (v := (.list 1 (List.map (AV.int .i64) p0.stem))) rfl rfl (Light.quiet (opLoadR rfl aggA_34 rfl rfl)) ?_
    refine ASL.q (v := (.int .i64 p1)) rfl rfl (Light.quiet (opMove rfl rfl)) ?_
    obtain ⟨a17, ha17, hF⟩ := bindE hF
    refine ASL.q (v := (.rptr [(.int .i64 a17)])) rfl rfl (Light.quiet (kIx (f := (AV.int .i64)) ha17 rfl rfl rfl elemA_34 sizeA_3 rfl)) ?_
    refine ASL.q (v := (.int .i64 a17)) rfl rfl (Light.quiet (opLoadR rfl aggA_3 rfl rfl)) ?_
    refine ASL.q (v := (.int .i64 a17)) rfl rfl (Light.quiet (opAssign rfl rfl)) ?_
    refine ASL.done ?_
    refine AWP.ret ?_
    refine QThen.rt ?_
    obtain rfl := someE hF
    exact QRet.sole (v := (.int .i64 a17)) ⟨rfl, trivial⟩ rfl
  · skip
    refine AWP.skip ?_
    refine QThen.nrm ?_
    refine AWP.seqD [(0, false), (1, false), (2, false), (3, false), (4, false), (5, false), (6, false), (7, false), (8, false), (9, false), (10, false), (11, false), (12, false), (13, false)] mixed (by kernel_rfl) rfl ?_
    refine ARL.q0 (v := (.rptr [(.list 1 (List.map (AV.int .i64) p0.stem)), (.list 1 (List.map (AV.int .i64) p0.loop))])) rfl rfl (Light.quiet (opMove rfl rfl)) ?_
    refine ARL.q0 (v := (.rptr [(.list 1 (List.map (AV.int .i64) p0.stem)), (.list 1 (List.map (AV.int .i64) p0.loop))])) rfl rfl (Light.quiet (opNil rfl rfl rfl)) ?_
    refine ARL.q0 (v := (.rptr [(.list 1 (List.map (AV.int .i64) p0.loop))])) rfl rfl (Light.quiet (opFieldAddrR rfl fieldA_62_1 rfl rfl)) ?_
    refine ARL.q0 (v := (.list 1 (List.map (AV.int .i64) p0.loop))) rfl rfl (Light.quiet (opLoadR rfl aggA_34 rfl rfl)) ?_
    refine ARL.q0 (v := (.int .i64 p1)) rfl rfl (Light.quiet (opMove rfl rfl)) ?_
    refine ARL.q0 (v := (.rptr [(.list 1 (List.map (AV.int .i64) p0.stem)), (.list 1 (List.map (AV.int .i64) p0.loop))])) rfl rfl (Light.quiet (opMove rfl rfl)) ?_
    refine ARL.q0 (v := (.rptr [(.list 1 (List.map (AV.int .i64) p0.stem)), (.list 1 (List.map (AV.int .i64) p0.loop))])) rfl rfl (Light.quiet (opNil rfl rfl rfl)) ?_
    refine ARL.q0 (v := (.rptr [(.list 1 (List.map (AV.int .i64) p0.stem)), (.list 1 (List.map (AV.int .i64) p0.loop))])) rfl rfl (Light.quiet (opFieldAddrR rfl fieldA_62_0 rfl rfl)) ?_
    refine ARL.q0 (v := (.list 1 (List.map (AV.int .i64) p0.stem))) rfl rfl (Light.quiet (opLoadR rfl aggA_34 rfl rfl)) ?_
    refine ARL.q0 (v := (.int .i64 (p0.stem.length : Int))) rfl rfl (Light.quiet (opLenMap (f := (AV.int .i64)) rfl rfl rfl lenT_34 rfl)) ?_
    refine ARL.q0 (v := (.int .i64 (W (p1 - ((p0.stem.length : Int)))))) rfl rfl (Light.quiet (opInt rfl rfl rfl rfl)) ?_
    obtain ⟨a30, ha30, hF⟩ := bindE hF
    refine ARL.q0 (v := (.rptr [(.int .i64 a30)])) rfl rfl (Light.quiet (kIx (f := (AV.int .i64)) ha30 rfl rfl rfl elemA_34 sizeA_3 rfl)) ?_
    refine ARL.q0 (v := (.int .i64 a30)) rfl rfl (Light.quiet (opLoadR rfl aggA_3 rfl rfl)) ?_
    refine ARL.q0 (v := (.int .i64 a30)) rfl rfl (Light.quiet (opAssign rfl rfl)) ?_
    refine ARL.done ?_
    refine AWP.ret ?_
    obtain rfl := someE hF
    exact QRet.sole (v := (.int .i64 a30)) ⟨rfl, trivial⟩ rfl

set_option maxRecDepth 10000 in
theorem impl_Word_next_ok (p0 : TWord) (p1 : Int) : PC Try.prog 116 [(.rptr [(.list 1 (List.map (AV.int .i64) p0.stem)), (.list 1 (List.map (AV.int .i64) p0.loop))]), (.int .i64 p1)] fun v => v = (.int .i64 (impl_Word_next p0 p1)) := by
  generalize hF : impl_Word_next p0 p1 = r
  refine PC.enter Try.func116 rfl Try.ntmps116 (by simp) ?_
  have hS := Sep.void; unfold impl_Word_next at hF
  refine AWP.seqR rfl ?_
  refine ASL.q (v := (.int .i64 0)) rfl rfl (Light.quiet (opAssign rfl rfl)) ?_
  refine ASL.done ?_
  refine AWP.seq ?_
  refine AWP.seqR rfl ?_
  refine ASL.q (v := (.int .i64 p1)) rfl rfl (Light.quiet (opMove rfl rfl)) ?_
  refine ASL.q (v := (.int .i64 (W (p1 + 1)))) rfl rfl (Light.quiet (opInt rfl rfl rfl rfl)) ?_
  refine ASL.q (v := (.rptr [(.list 1 (List.map (AV.int .i64) p0.stem)), (.list 1 (List.map (AV.int .i64) p0.loop))])) rfl rfl (Light.quiet (opMove rfl rfl)) ?_
  refine ASL.q (v := (.int .i64 (impl_Word_places p0))) rfl rfl ((qCall rfl rfl call_114 (impl_Word_places_ok p0) rfl)) ?_
  refine ASL.q (v := (.bool (decide (((W (p1 + 1))) = ((impl_Word_places p0)))))) rfl rfl (Light.quiet (opInt rfl rfl rfl rfl)) ?_
  refine ASL.done ?_
  refine AWP.ifP hF rfl (fun hc1 hF => ?_) (fun hc1 hF => ?_)
  · skip
    refine AWP.seqR rfl ?_
    refine ASL.q (v := (.rptr [(.list 1 (List.map (AV.int .i64) p0.stem)), (.list 1 (List.map (AV.int .i64) p0.loop))])) rfl rfl (Light.quiet (opMove rfl rfl)) ?_
    refine ASL.q (v := (.rptr [(.list 1 (List.map (AV.int .i64) p0.stem)), (.list 1 (List.map (AV.int .i64) p0.loop))])) rfl rfl (Light.quiet (opNil rfl rfl rfl)) ?_
    refine ASL.q (v := (.rptr [(.list 1 (List.map (AV.int .i64) p0.stem)), (.list 1 (List.map (AV.int .i64) p0.loop))])) rfl rfl (Light.quiet (opFieldAddrR rfl fieldA_62_0 rfl rfl)) ?_
    refine ASL.q (v := (.list 1 (List.map (AV.int .i64) p0.stem))) rfl rfl (Light.quiet (opLoadR rfl aggA_34 rfl rfl)) ?_
    refine ASL.q (v := (.int .i64 (p0.stem.length : Int))) rfl rfl (Light.quiet (opLenMap (f := (AV.int .i64)) rfl rfl rfl lenT_34 rfl)) ?_
    refine ASL.q (v := (.int .i64 (p0.stem.length : Int))) rfl rfl (Light.quiet (opAssign rfl rfl)) ?_
    refine ASL.done ?_
    refine AWP.ret ?_
    refine QThen.rt ?_
    obtain rfl := hF
    exact QRet.sole (v := (.int .i64 (p0.stem.length : Int))) ⟨rfl, trivial⟩ rfl
  · skip
    refine AWP.skip ?_
    refine QThen.nrm ?_
    refine AWP.seqR rfl ?_
    refine ASL.q (v := (.int .i64 p1)) rfl rfl (Light.quiet (opMove rfl rfl)) ?_
    refine ASL.q (v := (.int .i64 (W (p1 + 1)))) rfl rfl (Light.quiet (opInt rfl rfl rfl rfl)) ?_
    refine ASL.q (v := (.int .i64 (W (p1 + 1)))) rfl rfl (Light.quiet (opAssign rfl rfl)) ?_
    refine ASL.done ?_
    refine AWP.ret ?_
    obtain rfl := hF
    exact QRet.sole (v := (.int .i64 (W (p1 + 1)))) ⟨rfl, trivial⟩ rfl

set_option maxRecDepth 10000 in
theorem impl_graph_add_ok {p0 : Tgraph} {p1 : Int} {p2 : Int} {p3 : Int} {r : Tgraph} {bp0 : Nat} {wp0_next : AV} {wp0_next_s : List AV} (hF : impl_graph_add p0 p1 p2 p3 = some r) : HS Try.prog 98 [(.ptr bp0 0), (.int .i64 p1), (.int .i64 p2), (.int .i64 p3)] [.cell bp0 [wp0_next], .rows 2 wp0_next wp0_next_s (List.map (List.map Tstep.av) p0.next_) none] fun v L' => ∃ up0_next : AV, ∃ up0_next_s : List AV, v = .tup [] ∧ L' = [.cell bp0 [up0_next], .rows 2 up0_next up0_next_s (List.map (List.map Tstep.av) r.next_) none] := by
  intro H S hS
  refine HC.enter Try.func98 rfl Try.ntmps98 (by simp) ?_
  simp only [List.cons_append, List.nil_append] at hS
  unfold impl_graph_add at hF
  refine AWP.lastD [(0, false), (1, false), (2, false), (3, false), (4, false), (5, false), (6, false), (7, false), (8, false), (9, false), (10, false), (11, false), (12, false), (13, false), (14, false), (15, false), (16, true), (17, false), (18, true)] mixed (by kernel_rfl) rfl ?_
  refine ARL.q0 (v := (.ptr bp0 0)) rfl rfl (Light.quiet (opMove rfl rfl)) ?_
  refine ARL.q0 (v := (.ptr bp0 0)) rfl rfl (Light.quiet (opNil rfl rfl rfl)) ?_
  refine ARL.q0 (v := (.ptr bp0 0)) rfl rfl (Light.quiet (opFieldAddr rfl fieldA_116_0 rfl rfl)) ?_
  refine ARL.q (v := wp0_next) rfl rfl (hS.aliveC (k := 0) rfl) (Light.quiet (kAt hS (j := 0) rfl rfl aggA_114 rfl rfl)) ?_
  refine ARL.q0 (v := (.int .i64 p1)) rfl rfl (Light.quiet (opMove rfl rfl)) ?_
  refine ARL.q0 (v := (.ptr bp0 0)) rfl rfl (Light.quiet (opMove rfl rfl)) ?_
  refine ARL.q0 (v := (.ptr bp0 0)) rfl rfl (Light.quiet (opNil rfl rfl rfl)) ?_
  refine ARL.q0 (v := (.ptr bp0 0)) rfl rfl (Light.quiet (opFieldAddr rfl fieldA_116_0 rfl rfl)) ?_
  refine ARL.q (v := wp0_next) rfl rfl (hS.aliveC (k := 0) rfl) (Light.quiet (kAt hS (j := 0) rfl rfl aggA_114 rfl rfl)) ?_
  refine ARL.q0 (v := (.int .i64 p1)) rfl rfl (Light.quiet (opMove rfl rfl)) ?_
  obtain ⟨m18, hm18, hF⟩ := bindE hF
  refine ARL.q0 (v := (ptrTo wp0_next m18 1)) rfl rfl (Light.quiet (kIxRows hS (j := 1) rfl hm18 rfl rfl rfl elemA_114 sizeA_118)) ?_
  refine ARL.q (v := (wp0_next_s.getD m18 .undef)) rfl rfl (hS.aliveRs (k := 1) rfl) (Light.quiet (kLdRows hS (j := 1) rfl hm18 rfl aggA_118 rfl)) ?_
  have hS := hS.lend (k := 1) rfl hm18
  refine ARL.q0 (v := (.int .i64 p2)) rfl rfl (Light.quiet (opMove rfl rfl)) ?_
  refine ARL.q0 (v := (.int .i64 p3)) rfl rfl (Light.quiet (opMove rfl rfl)) ?_
  refine ARL.q0 (v := (.agg [(.int .i64 p2), (.int .i64 p3)])) rfl rfl (Light.quiet (opBuildZ (zs := [(.int .i64 0), (.int .i64 0)]) rfl plan_120 zeroA_120 ⟨.inl rfl, .inl rfl, trivial⟩ rfl)) ?_
  refine ARL.q0 (v := (.list 2 (List.map Tstep.av [(Tstep.mk p2 p3)]))) rfl rfl ((qLit (xs := [(.agg [(.int .i64 p2), (.int .i64 p3)])]) rfl elemA_118 sizeA_120 zeroA_120 rfl rfl rfl rfl (by simp [cells, Tstep.av]) (nlt rfl))) ?_
  obtain ⟨z24, hz24, hF⟩ := bindE hF
  refine ARL.yB rfl rfl rfl ⟨.inr (Sep.apN _), .inr (Sep.apN _), .inr (Sep.apN _), .inr (Sep.apN _), .inl rfl, .inr (Sep.apN _), .inr (Sep.apN _), .inl rfl, .inr (Sep.apN _), .inr (Sep.apN _), .inr (Sep.apN _), .inr (Sep.apN _), .inr (hS.apC (j := 1) (k := 0) rfl rfl rfl), .inr (Sep.apN _), .inr (Sep.apN _), .inr (Sep.apN _), trivial⟩ (hAppB (f := Tstep.av) (ws := [(Tstep.mk p2 p3)]) hS (j := 0) rfl hz24 rfl elemA_118 rfl sizeA_120 bytesA_120 zeroA_120 rfl rfl rfl (fun _ => rfl) ?_); rintro v24 G4 hB hS; refine ⟨hB, ?_⟩
  obtain ⟨m25, hm25, hF⟩ := bindE hF
  refine ARL.q0 (v := (ptrTo wp0_next m25 1)) rfl rfl (Light.quiet (kIxRows hS (j := 2) rfl hm25 rfl rfl rfl elemA_114 sizeA_118)) ?_
  refine ARL.n rfl rfl rfl rfl (hStRows (hS.pick (L' := [.row 2 v24 (List.map Tstep.av z24), .rows 2 wp0_next wp0_next_s (List.map (List.map Tstep.av) p0.next_) (some m18), .cell bp0 [wp0_next], .snap S]) [0, 2, 1, 3] rfl rfl) hm18 hm25 rfl sizeA_118 rfl rfl ?_); rintro G6 hS
  refine ARL.done ?_
  refine QRet.end ?_
  obtain rfl := someE hF
  exact QRet.many (vs := []) trivial (by simp) ⟨_, ⟨wp0_next, (wp0_next_s.set m18 v24), rfl, rfl⟩, hS.pick [1, 0, 2] rfl rfl⟩

set_option maxRecDepth 10000 in
theorem impl_pointsBy_ok {p0 : Int} {p1 : (List TGEdge)} {p2 : TWord} {r : Tgraph} (hF : impl_pointsBy p0 p1 p2 = some r) : PC Try.prog 85 [(.int .i64 p0), (.list 4 (List.map TGEdge.av p1)), (TWord.av p2)] fun v => v = (.rptr [(.list 1 (List.map (fun xs : (List Tstep) => AV.list 2 (List.map Tstep.av xs)) r.next_))]) := by
  refine PC.enter Try.func85 rfl Try.ntmps85 (by simp) ?_
  have hS := Sep.void; unfold impl_pointsBy at hF
  refine AWP.seqR rfl ?_
  refine ASL.q (v := (.rptr [(.list 1 (List.map (AV.int .i64) p2.stem)), (.list 1 (List.map (AV.int .i64) p2.loop))])) rfl rfl ((qBoxI (v := (TWord.av p2)) rfl rfl rfl rfl)) ?_
  refine ASL.q (v := .nilptr) rfl rfl (Light.quiet (opAssign rfl rfl)) ?_
  refine ASL.done ?_
  refine AWP.seqR rfl ?_
  refine ASL.q (v := (.int .i64 (impl_Word_places p2))) rfl rfl ((qCall rfl rfl call_114 (impl_Word_places_ok p2) rfl)) ?_
  refine ASL.q (v := (.int .i64 p0)) rfl rfl (Light.quiet (opMove rfl rfl)) ?_
  refine ASL.q (v := (.int .i64 (W (((impl_Word_places p2)) * p0)))) rfl rfl (Light.quiet (opInt rfl rfl rfl rfl)) ?_
  obtain ⟨a14, ha14, hF⟩ := bindE hF
  refine ASL.x rfl rfl (hCallS hS [] (F := []) rfl rfl rfl call_97 (impl_graphOf_ok ha14) rfl rfl ?_); rintro _ _ G6 ⟨bq1, w3, w5, rfl, rfl⟩ hS
  refine ASL.q (v := (.ptr bq1 0)) rfl rfl (Light.quiet (opAssign rfl rfl)) ?_
  refine ASL.done ?_
  refine AWP.seqM (fun e H => ∃ y7 : (List (List Tstep)), ∃ w8 : AV, ∃ w10 : List AV, E.Told e [(7, (.ptr bq1 0))] ∧ E.Sep H [.rows 2 w8 w10 (List.map (List.map Tstep.av) y7) none, .cell bq1 [w8]] ∧ impl_pointsBy.k0 y7 = some r) ?_ ?_
  · rintro e0 G13 ⟨y7, w8, w10, hT, hS, hF⟩; refine AWP.only _ hT ?_; unfold impl_pointsBy.k0 at hF
    refine AWP.seqR rfl ?_
    refine ASL.q (v := (.ptr bq1 0)) rfl rfl (Light.quiet (opMove rfl rfl)) ?_
    refine ASL.q (v := (.ptr bq1 0)) rfl rfl (Light.quiet (opAssign rfl rfl)) ?_
    refine ASL.done ?_
    refine AWP.frzRows (L' := [.cell bq1 [(.list 1 (List.map (fun xs : (List Tstep) => AV.list 2 (List.map Tstep.av xs)) y7))]]) hS (k := 0) rfl [(6, (.ptr bq1 0))] ⟨.inl rfl, trivial⟩ ⟨⟨_, rfl, ⟨.inr ⟨rfl, rfl⟩, trivial⟩⟩, trivial⟩ (fun G11 hS => ?_)
    refine AWP.frzCell (L' := []) hS (k := 0) rfl [(6, (.rptr [(.list 1 (List.map (fun xs : (List Tstep) => AV.list 2 (List.map Tstep.av xs)) y7))]))] ⟨.inr (.inl ⟨rfl, rfl⟩), trivial⟩ trivial (fun G12 hS => ?_)
    refine AWP.ret ?_
    obtain rfl := someE hF
    exact QRet.sole (v := (.rptr [(.list 1 (List.map (fun xs : (List Tstep) => AV.list 2 (List.map Tstep.av xs)) y7))])) ⟨rfl, trivial⟩ rfl
  · skip
    refine AWP.seqR rfl ?_
    refine ASL.q (v := (.int .i64 (impl_Word_places p2))) rfl rfl ((qCall rfl rfl call_114 (impl_Word_places_ok p2) rfl)) ?_
    refine ASL.q (v := (.int .i64 0)) rfl rfl (Light.quiet (opMove rfl rfl)) ?_
    refine ASL.done ?_
    refine AWP.block ?_
    obtain ⟨o21, hL20, hR22⟩ := bindE hF
    refine AWP.loopF (ω := (AV × (List AV))) hL20 (fun s w => [(0, (.int .i64 p0)), (1, (.list 4 (List.map TGEdge.av p1))), (5, (.rptr [(.list 1 (List.map (AV.int .i64) p2.stem)), (.list 1 (List.map (AV.int .i64) p2.loop))])), (7, (.ptr bq1 0)), (15, (.int .i64 (impl_Word_places p2))), (16, (.int .i64 s.2))]) (fun s w => [.rows 2 w.1 w.2 (List.map (List.map Tstep.av) s.1) none, .cell bq1 [w.1]]) (w3, w5) ⟨rfl, rfl, rfl, rfl, rfl, rfl, trivial⟩ (hS.pick [1, 0] rfl rfl) ?_
    rintro ⟨y14, x16_l0⟩ ⟨w15, w17⟩ G23 hS x18 hF hx19
    try dsimp only at hS ⊢
    have hF : impl_pointsBy.b0 p2 p1 p0 y14 x16_l0 = some x18 := hF; unfold impl_pointsBy.b0 at hF
    refine AWP.seqR rfl ?_
    refine ASL.q (v := (.bool (decide (x16_l0 < ((impl_Word_places p2)))))) rfl rfl (Light.quiet (opInt rfl rfl rfl rfl)) ?_
    refine ASL.done ?_
    refine AWP.seq ?_
    refine AWP.ifP hF rfl (fun hc24 hF => ?_) (fun hc24 hF => ?_)
    · skip
      refine AWP.skip ?_
      refine QThen.nrm ?_
      refine AWP.seqM (fun e H => ∃ y25 : (List (List Tstep)), ∃ w26 : AV, ∃ w28 : List AV, E.Told e [(0, (.int .i64 p0)), (1, (.list 4 (List.map TGEdge.av p1))), (5, (.rptr [(.list 1 (List.map (AV.int .i64) p2.stem)), (.list 1 (List.map (AV.int .i64) p2.loop))])), (7, (.ptr bq1 0)), (15, (.int .i64 (impl_Word_places p2))), (16, (.int .i64 x16_l0))] ∧ E.Sep H [.rows 2 w26 w28 (List.map (List.map Tstep.av) y25) none, .cell bq1 [w26]] ∧ impl_pointsBy.k1 x16_l0 y25 = some x18) ?_ ?_
      · rintro e0 G29 ⟨y25, w26, w28, hT, hS, hF⟩; refine AWP.only _ hT ?_; unfold impl_pointsBy.k1 at hF
        refine AWP.lastR rfl ?_
        refine ASL.q (v := (.int .i64 (W (x16_l0 + 1)))) rfl rfl (Light.quiet (opInt rfl rfl rfl rfl)) ?_
        refine ASL.q (v := (.int .i64 (W (x16_l0 + 1)))) rfl rfl (Light.quiet (opMove rfl rfl)) ?_
        refine ASL.done ?_
        refine QThen.nrm ?_
        exact ⟨(y25, (W (x16_l0 + 1))), (w26, w28), (someE hF).symm, ⟨rfl, rfl, rfl, rfl, rfl, rfl, trivial⟩, (hS.pick [0, 1] rfl rfl)⟩
      · skip
        refine AWP.block ?_
        refine AWP.seqR rfl ?_
        refine ASL.q (v := (.int .i64 x16_l0)) rfl rfl (Light.quiet (opMove rfl rfl)) ?_
        refine ASL.q (v := (.int .i64 x16_l0)) rfl rfl (Light.quiet (opAssign rfl rfl)) ?_
        refine ASL.done ?_
        refine AWP.seqR rfl ?_
        refine ASL.q (v := (.list 4 (List.map TGEdge.av p1))) rfl rfl (Light.quiet (opMove rfl rfl)) ?_
        refine ASL.q (v := (.int .i64 (p1.length : Int))) rfl rfl (Light.quiet (opLenMap (f := TGEdge.av) rfl rfl rfl lenT_58 rfl)) ?_
        refine ASL.q (v := (.int .i64 0)) rfl rfl (Light.quiet (opMove rfl rfl)) ?_
        refine ASL.done ?_
        refine AWP.block ?_
        obtain ⟨o37, hL36, hR38⟩ := bindE hF
        refine AWP.loopF (ω := (AV × (List AV))) hL36 (fun s w => [(0, (.int .i64 p0)), (1, (.list 4 (List.map TGEdge.av p1))), (5, (.rptr [(.list 1 (List.map (AV.int .i64) p2.stem)), (.list 1 (List.map (AV.int .i64) p2.loop))])), (7, (.ptr bq1 0)), (8, (.int .i64 x16_l0)), (15, (.int .i64 (impl_Word_places p2))), (16, (.int .i64 x16_l0)), (19, (.list 4 (List.map TGEdge.av p1))), (20, (.int .i64 (p1.length : Int))), (21, (.int .i64 s.2))]) (fun s w => [.rows 2 w.1 w.2 (List.map (List.map Tstep.av) s.1) none, .cell bq1 [w.1]]) (w15, w17) ⟨rfl, rfl, rfl, rfl, rfl, rfl, rfl, rfl, rfl, rfl, trivial⟩ (hS.pick [0, 1] rfl rfl) ?_
        rintro ⟨y30, x21_l1⟩ ⟨w31, w33⟩ G39 hS x34 hF hx35
        try dsimp only at hS ⊢
        have hF : impl_pointsBy.b1 p1 p2 x16_l0 p0 y30 x21_l1 = some x34 := hF; unfold impl_pointsBy.b1 at hF
        refine AWP.seqR rfl ?_
        refine ASL.q (v := (.bool (decide (x21_l1 < ((p1.length : Int)))))) rfl rfl (Light.quiet (opInt rfl rfl rfl rfl)) ?_
        refine ASL.done ?_
        refine AWP.seq ?_
        refine AWP.ifP hF rfl (fun hc40 hF => ?_) (fun hc40 hF => ?_)
        · skip
          refine AWP.skip ?_
          refine QThen.nrm ?_
          refine AWP.seq ?_
          refine AWP.block ?_
          refine AWP.seqR rfl ?_
          obtain ⟨a23, ha23, hF⟩ := bindE hF
          refine ASL.q (v := (.rptr [(.int .i64 a23.from_), (.int .i64 a23.letter), (.int .i64 a23.to_), (.int .i64 a23.marks)])) rfl rfl (Light.quiet (kIx (f := TGEdge.av) ha23 rfl rfl rfl elemA_58 sizeA_99 rfl)) ?_
          refine ASL.q (v := (TGEdge.av a23)) rfl rfl (Light.quiet (opLoadRA rfl aggA_99 sizeA_99 rfl (nlt rfl) rfl)) ?_
          refine ASL.x rfl rfl (hNewZ hS [(.int .i64 0), (.int .i64 0), (.int .i64 0), (.int .i64 0)] rfl zeroA_99 ⟨.inl rfl, .inl rfl, .inl rfl, .inl rfl, trivial⟩ ?_); rintro b10 G41 hK hS
          refine ASL.n rfl rfl (hPutA hS (j := 0) rfl rfl sizeA_99 rfl rfl rfl rfl rfl (nlt rfl) ?_); rintro G43 hS
          refine ASL.done ?_
          refine AWP.seqD [(0, false), (1, false), (2, false), (3, false), (4, false)] mixed (by kernel_rfl) rfl ?_
          refine ARL.q0 (v := (.ptr b10 1)) rfl rfl (Light.quiet (opFieldAddr rfl fieldA_99_1 rfl rfl)) ?_
          refine ARL.q (v := (.int .i64 a23.letter)) rfl rfl (hS.aliveC (k := 0) rfl) (Light.quiet (kAt hS (j := 0) rfl rfl aggA_3 rfl rfl)) ?_
          refine ARL.q0 (v := (.int .i64 x16_l0)) rfl rfl (Light.quiet (opMove rfl rfl)) ?_
          obtain ⟨a28, ha28, hF⟩ := bindE hF
          refine ARL.q0 (v := (.int .i64 a28)) rfl rfl ((qCall rfl rfl call_115 (impl_Word_letter_ok ha28) rfl)) ?_
          refine ARL.q0 (v := (.bool (decide (a23.letter = a28)))) rfl rfl (Light.quiet (opInt rfl rfl rfl rfl)) ?_
          refine ARL.done ?_
          refine AWP.ifP hF rfl (fun hc44 hF => ?_) (fun hc44 hF => ?_)
          · skip
            refine AWP.lastD [(0, false), (1, false), (2, false), (3, false), (4, false), (5, false), (6, false), (7, false), (8, false), (9, false), (10, false), (11, false), (12, false), (13, false), (14, false), (15, false), (16, true)] mixed (by kernel_rfl) rfl ?_
            refine ARL.q0 (v := (.ptr bq1 0)) rfl rfl (Light.quiet (opMove rfl rfl)) ?_
            refine ARL.q0 (v := (.int .i64 x16_l0)) rfl rfl (Light.quiet (opMove rfl rfl)) ?_
            refine ARL.q0 (v := (.int .i64 p0)) rfl rfl (Light.quiet (opMove rfl rfl)) ?_
            refine ARL.q0 (v := (.int .i64 (W (x16_l0 * p0)))) rfl rfl (Light.quiet (opInt rfl rfl rfl rfl)) ?_
            refine ARL.q0 (v := (.ptr b10 0)) rfl rfl (Light.quiet (opFieldAddr rfl fieldA_99_0 rfl rfl)) ?_
            refine ARL.q (v := (.int .i64 a23.from_)) rfl rfl (hS.aliveC (k := 0) rfl) (Light.quiet (kAt hS (j := 0) rfl rfl aggA_3 rfl rfl)) ?_
            refine ARL.q0 (v := (.int .i64 (W (((W (x16_l0 * p0))) + a23.from_)))) rfl rfl (Light.quiet (opInt rfl rfl rfl rfl)) ?_
            refine ARL.q0 (v := (.int .i64 x16_l0)) rfl rfl (Light.quiet (opMove rfl rfl)) ?_
            refine ARL.q0 (v := (.int .i64 (impl_Word_next p2 x16_l0))) rfl rfl ((qCall rfl rfl call_116 (impl_Word_next_ok p2 x16_l0) rfl)) ?_
            refine ARL.q0 (v := (.int .i64 p0)) rfl rfl (Light.quiet (opMove rfl rfl)) ?_
            refine ARL.q0 (v := (.int .i64 (W (((impl_Word_next p2 x16_l0)) * p0)))) rfl rfl (Light.quiet (opInt rfl rfl rfl rfl)) ?_
            refine ARL.q0 (v := (.ptr b10 2)) rfl rfl (Light.quiet (opFieldAddr rfl fieldA_99_2 rfl rfl)) ?_
            refine ARL.q (v := (.int .i64 a23.to_)) rfl rfl (hS.aliveC (k := 0) rfl) (Light.quiet (kAt hS (j := 0) rfl rfl aggA_3 rfl rfl)) ?_
            refine ARL.q0 (v := (.int .i64 (W (((W (((impl_Word_next p2 x16_l0)) * p0))) + a23.to_)))) rfl rfl (Light.quiet (opInt rfl rfl rfl rfl)) ?_
            refine ARL.q0 (v := (.ptr b10 3)) rfl rfl (Light.quiet (opFieldAddr rfl fieldA_99_3 rfl rfl)) ?_
            refine ARL.q (v := (.int .i64 a23.marks)) rfl rfl (hS.aliveC (k := 0) rfl) (Light.quiet (kAt hS (j := 0) rfl rfl aggA_3 rfl rfl)) ?_
            obtain ⟨a46, ha46, hF⟩ := bindE hF
            refine ARL.y rfl rfl rfl rfl (hCallS hS [2, 1, 0] (F := [.cell b10 [(.int .i64 a23.from_), (.int .i64 a23.letter), (.int .i64 a23.to_), (.int .i64 a23.marks)]]) rfl rfl rfl call_98 (impl_graph_add_ok ha46) rfl rfl ?_); rintro _ _ G48 ⟨w45, w47, rfl, rfl⟩ hS
            refine ARL.done ?_
            refine QBlock.nrm ?_
            refine QThen.nrm ?_
            refine AWP.lastR rfl ?_
            refine ASL.q (v := (.int .i64 (W (x21_l1 + 1)))) rfl rfl (Light.quiet (opInt rfl rfl rfl rfl)) ?_
            refine ASL.q (v := (.int .i64 (W (x21_l1 + 1)))) rfl rfl (Light.quiet (opMove rfl rfl)) ?_
            refine ASL.done ?_
            refine QThen.nrm ?_
            exact ⟨(a46.next_, (W (x21_l1 + 1))), (w45, w47), (someE hF).symm, ⟨rfl, rfl, rfl, rfl, rfl, rfl, rfl, rfl, rfl, rfl, trivial⟩, (hS.pick [1, 0] rfl rfl)⟩
          · skip
            refine AWP.skip ?_
            refine QBlock.nrm ?_
            refine QThen.nrm ?_
            refine AWP.lastR rfl ?_
            refine ASL.q (v := (.int .i64 (W (x21_l1 + 1)))) rfl rfl (Light.quiet (opInt rfl rfl rfl rfl)) ?_
            refine ASL.q (v := (.int .i64 (W (x21_l1 + 1)))) rfl rfl (Light.quiet (opMove rfl rfl)) ?_
            refine ASL.done ?_
            refine QThen.nrm ?_
            exact ⟨(y30, (W (x21_l1 + 1))), (w31, w33), (someE hF).symm, ⟨rfl, rfl, rfl, rfl, rfl, rfl, rfl, rfl, rfl, rfl, trivial⟩, (hS.pick [1, 2] rfl rfl)⟩
        · skip
          refine AWP.exit ?_
          refine QThen.ext ?_
          refine QThen.ext ?_
          refine QBlock.hit ?_
          obtain rfl := (hx35 _ (someE hF).symm)
          have hF := hR38
          refine QBlock.nrm ?_
          refine QThen.nrm ?_
          exact ⟨y30, w31, w33, ⟨rfl, rfl, rfl, rfl, rfl, rfl, trivial⟩, (hS.pick [0, 1] rfl rfl), hF⟩
    · skip
      refine AWP.exit ?_
      refine QThen.ext ?_
      refine QThen.ext ?_
      refine QBlock.hit ?_
      obtain rfl := (hx19 _ (someE hF).symm)
      have hF := hR22
      refine QThen.nrm ?_
      exact ⟨y14, w15, w17, ⟨rfl, trivial⟩, (hS.pick [0, 1] rfl rfl), hF⟩

set_option maxRecDepth 10000 in
theorem impl_has_ok (p0 : Int) (p1 : Int) : PC Try.prog 67 [(.int .i64 p0), (.int .i64 p1)] fun v => v = (.bool (impl_has p0 p1)) := by
  generalize hF : impl_has p0 p1 = r
  refine PC.enter Try.func67 rfl Try.ntmps67 (by simp) ?_
  have hS := Sep.void; unfold impl_has at hF
  refine AWP.seqR rfl ?_
  refine ASL.q (v := (.bool false)) rfl rfl (Light.quiet (opAssign rfl rfl)) ?_
  refine ASL.done ?_
  refine AWP.seqR rfl ?_
  refine ASL.q (v := (.int .i64 p0)) rfl rfl (Light.quiet (opMove rfl rfl)) ?_
  refine ASL.q (v := (.int .i64 p1)) rfl rfl (Light.quiet (opMove rfl rfl)) ?_
  refine ASL.q (v := (.int .u64 (IntKind.u64.wrap p1))) rfl rfl (Light.quiet (opConv rfl rfl und_3 und_126 rfl)) ?_
  refine ASL.q (v := (.int .i64 (shr .i64 p0 ((IntKind.u64.wrap p1))))) rfl rfl (Light.quiet (opShr rfl rfl rfl (wrapU_nn rfl _) rfl)) ?_
  refine ASL.q (v := (.int .i64 (bAnd .i64 ((shr .i64 p0 ((IntKind.u64.wrap p1)))) 1))) rfl rfl (Light.quiet (opInt rfl rfl rfl rfl)) ?_
  refine ASL.q (v := (.bool (decide (((bAnd .i64 ((shr .i64 p0 ((IntKind.u64.wrap p1)))) 1)) = 1)))) rfl rfl (Light.quiet (opInt rfl rfl rfl rfl)) ?_
  refine ASL.q (v := (.bool (decide (((bAnd .i64 ((shr .i64 p0 ((IntKind.u64.wrap p1)))) 1)) = 1)))) rfl rfl (Light.quiet (opAssign rfl rfl)) ?_
  refine ASL.done ?_
  refine AWP.ret ?_
  obtain rfl := hF
  exact QRet.sole (v := (.bool (decide (((bAnd .i64 ((shr .i64 p0 ((IntKind.u64.wrap p1)))) 1)) = 1)))) ⟨rfl, trivial⟩ rfl

set_option maxRecDepth 10000 in
theorem impl_SetList_ok {p0 : Int} {r : (List Int)} (hF : impl_SetList p0 = some r) : PO Try.prog 87 [(.int .i64 p0)] 1 (List.map (AV.int .i64) r) := by
  refine HC.enter Try.func87 rfl Try.ntmps87 (by simp) ?_
  have hS := Sep.void; unfold impl_SetList at hF
  refine AWP.seqR rfl ?_
  have hS := hNil (s := 1) (f := (AV.int .i64)) hS
  refine ASL.q (v := .nil) rfl rfl (Light.quiet (opAssign rfl rfl)) ?_
  refine ASL.done ?_
  refine AWP.seq ?_
  refine AWP.seqR rfl ?_
  refine ASL.q (v := (.int .i64 p0)) rfl rfl (Light.quiet (opMove rfl rfl)) ?_
  refine ASL.q (v := (.bool (impl_SetOk p0))) rfl rfl ((qCall rfl rfl call_57 (impl_SetOk_ok p0) rfl)) ?_
  refine ASL.q (v := (.bool (!(impl_SetOk p0)))) rfl rfl (Light.quiet (opNot rfl rfl)) ?_
  refine ASL.done ?_
  refine AWP.ifB hF rfl (fun hc2 hF => ?_) (fun hc2 hF => ?_)
  · skip
    refine AWP.seqR rfl ?_
    have hS := hNil (s := 1) (f := (AV.int .i64)) hS
    refine ASL.q (v := .nil) rfl rfl (Light.quiet (opAssign rfl rfl)) ?_
    refine ASL.done ?_
    refine AWP.ret ?_
    refine QThen.rt ?_
    obtain rfl := someE hF
    exact QRet.sole (v := .nil) ⟨rfl, trivial⟩ (hS.get (k := 0) rfl)
  · skip
    refine AWP.skip ?_
    refine QThen.nrm ?_
    refine AWP.seqR rfl ?_
    have hS := hNil (s := 1) (f := (AV.int .i64)) hS
    refine ASL.q (v := .nil) rfl rfl (Light.quiet (opAssign rfl rfl)) ?_
    refine ASL.done ?_
    refine AWP.seqM (fun e H => ∃ y5 : (List Int), ∃ w6 : AV, E.Told e [(3, w6)] ∧ E.Sep H [.row 1 w6 (List.map (AV.int .i64) y5)] ∧ impl_SetList.k0 y5 = some r) ?_ ?_
    · rintro e0 G8 ⟨y5, w6, hT, hS, hF⟩; refine AWP.only _ hT ?_; unfold impl_SetList.k0 at hF
      refine AWP.seqR rfl ?_
      refine ASL.q (v := w6) rfl rfl (Light.quiet (opMove rfl rfl)) ?_
      refine ASL.q (v := w6) rfl rfl (Light.quiet (opAssign rfl rfl)) ?_
      refine ASL.done ?_
      refine AWP.ret ?_
      obtain rfl := someE hF
      exact QRet.sole (v := w6) ⟨rfl, trivial⟩ (hS.get (k := 0) rfl)
    · skip
      refine AWP.seqR rfl ?_
      refine ASL.q (v := (.int .i64 0)) rfl rfl (Light.quiet (opMove rfl rfl)) ?_
      refine ASL.done ?_
      refine AWP.block ?_
      obtain ⟨o15, hL14, hR16⟩ := bindE hF
      refine AWP.loopF (ω := AV) hL14 (fun s w => [(0, (.int .i64 p0)), (3, w), (8, (.int .i64 s.2))]) (fun s w => [.row 1 w (List.map (AV.int .i64) s.1)]) .nil ⟨rfl, rfl, rfl, trivial⟩ (hS.pick [0] rfl rfl) ?_
      rintro ⟨y9, x8_l0⟩ w10 G17 hS x12 hF hx13
      try dsimp only at hS ⊢
      have hF : impl_SetList.b0 p0 y9 x8_l0 = some x12 := hF; unfold impl_SetList.b0 at hF
      refine AWP.seqR rfl ?_
      refine ASL.q (v := (.bool (decide (x8_l0 < 31)))) rfl rfl (Light.quiet (opInt rfl rfl rfl rfl)) ?_
      refine ASL.done ?_
      refine AWP.seq ?_
      refine AWP.ifP hF rfl (fun hc18 hF => ?_) (fun hc18 hF => ?_)
      · skip
        refine AWP.skip ?_
        refine QThen.nrm ?_
        refine AWP.seq ?_
        refine AWP.block ?_
        refine AWP.seqR rfl ?_
        refine ASL.q (v := (.int .i64 x8_l0)) rfl rfl (Light.quiet (opMove rfl rfl)) ?_
        refine ASL.q (v := (.int .i64 x8_l0)) rfl rfl (Light.quiet (opAssign rfl rfl)) ?_
        refine ASL.done ?_
        refine AWP.seqR rfl ?_
        refine ASL.q (v := (.int .i64 p0)) rfl rfl (Light.quiet (opMove rfl rfl)) ?_
        refine ASL.q (v := (.int .i64 x8_l0)) rfl rfl (Light.quiet (opMove rfl rfl)) ?_
        refine ASL.q (v := (.bool (impl_has p0 x8_l0))) rfl rfl ((qCall rfl rfl call_67 (impl_has_ok p0 x8_l0) rfl)) ?_
        refine ASL.done ?_
        refine AWP.ifB hF rfl (fun hc19 hF => ?_) (fun hc19 hF => ?_)
        · skip
          refine AWP.lastR rfl ?_
          refine ASL.q (v := w10) rfl rfl (Light.quiet (opMove rfl rfl)) ?_
          refine ASL.q (v := (.int .i64 x8_l0)) rfl rfl (Light.quiet (opMove rfl rfl)) ?_
          refine ASL.q (v := (.list 1 (List.map (AV.int .i64) [x8_l0]))) rfl rfl ((qLit (xs := [(.int .i64 x8_l0)]) rfl elemA_34 sizeA_3 zeroA_3 rfl rfl rfl rfl (by simp [cells]) (nlt rfl))) ?_
          obtain ⟨z17, hz17, hF⟩ := bindE hF
          refine ASL.x rfl rfl (hApp (f := (AV.int .i64)) (ws := [x8_l0]) hS (j := 0) rfl hz17 rfl elemA_34 rfl sizeA_3 bytesA_3 zeroA_3 rfl rfl rfl (fun _ => rfl) ?_); rintro v17 G20 hS
          refine ASL.q (v := v17) rfl rfl (Light.quiet (opAssign rfl rfl)) ?_
          refine ASL.done ?_
          refine QBlock.nrm ?_
          refine QThen.nrm ?_
          refine AWP.lastR rfl ?_
          refine ASL.q (v := (.int .i64 (W (x8_l0 + 1)))) rfl rfl (Light.quiet (opInt rfl rfl rfl rfl)) ?_
          refine ASL.q (v := (.int .i64 (W (x8_l0 + 1)))) rfl rfl (Light.quiet (opMove rfl rfl)) ?_
          refine ASL.done ?_
          refine QThen.nrm ?_
          exact ⟨(z17, (W (x8_l0 + 1))), v17, (someE hF).symm, ⟨rfl, rfl, rfl, trivial⟩, (hS.pick [0] rfl rfl)⟩
        · skip
          refine AWP.skip ?_
          refine QBlock.nrm ?_
          refine QThen.nrm ?_
          refine AWP.lastR rfl ?_
          refine ASL.q (v := (.int .i64 (W (x8_l0 + 1)))) rfl rfl (Light.quiet (opInt rfl rfl rfl rfl)) ?_
          refine ASL.q (v := (.int .i64 (W (x8_l0 + 1)))) rfl rfl (Light.quiet (opMove rfl rfl)) ?_
          refine ASL.done ?_
          refine QThen.nrm ?_
          exact ⟨(y9, (W (x8_l0 + 1))), w10, (someE hF).symm, ⟨rfl, rfl, rfl, trivial⟩, (hS.pick [0] rfl rfl)⟩
      · skip
        refine AWP.exit ?_
        refine QThen.ext ?_
        refine QThen.ext ?_
        refine QBlock.hit ?_
        obtain rfl := (hx13 _ (someE hF).symm)
        have hF := hR16
        refine QThen.nrm ?_
        exact ⟨y9, w10, ⟨rfl, trivial⟩, (hS.pick [0] rfl rfl), hF⟩

set_option maxRecDepth 10000 in
theorem impl_graph_far_ok {p0 : Tgraph} {p1 : (List Int)} {r : (List Int)} (hF : impl_graph_far p0 p1 = some r) : PO Try.prog 95 [(.rptr [(.list 1 (List.map (fun xs : (List Tstep) => AV.list 2 (List.map Tstep.av xs)) p0.next_))]), (.list 1 (List.map (AV.int .i64) p1))] 1 (List.map (AV.int .i64) r) := by
  refine HC.enter Try.func95 rfl Try.ntmps95 (by simp) ?_
  have hS := Sep.void; unfold impl_graph_far at hF
  refine AWP.seqR rfl ?_
  have hS := hNil (s := 1) (f := (AV.int .i64)) hS
  refine ASL.q (v := .nil) rfl rfl (Light.quiet (opAssign rfl rfl)) ?_
  refine ASL.done ?_
  refine AWP.seqR rfl ?_
  refine ASL.q (v := (.rptr [(.list 1 (List.map (fun xs : (List Tstep) => AV.list 2 (List.map Tstep.av xs)) p0.next_))])) rfl rfl (Light.quiet (opMove rfl rfl)) ?_
  refine ASL.q (v := (.rptr [(.list 1 (List.map (fun xs : (List Tstep) => AV.list 2 (List.map Tstep.av xs)) p0.next_))])) rfl rfl (Light.quiet (opNil rfl rfl rfl)) ?_
  refine ASL.q (v := (.rptr [(.list 1 (List.map (fun xs : (List Tstep) => AV.list 2 (List.map Tstep.av xs)) p0.next_))])) rfl rfl (Light.quiet (opFieldAddrR rfl fieldA_116_0 rfl rfl)) ?_
  refine ASL.q (v := (.list 1 (List.map (fun xs : (List Tstep) => AV.list 2 (List.map Tstep.av xs)) p0.next_))) rfl rfl (Light.quiet (opLoadR rfl aggA_114 rfl rfl)) ?_
  refine ASL.q (v := (.int .i64 (p0.next_.length : Int))) rfl rfl (Light.quiet (opLenMap (f := (fun xs : (List Tstep) => AV.list 2 (List.map Tstep.av xs))) rfl rfl rfl lenT_114 rfl)) ?_
  obtain ⟨z19, hz19, hF⟩ := bindE hF
  refine ASL.x rfl rfl (hMk (f := (AV.int .i64)) hS hz19 (by decide) rfl elemA_34 sizeA_3 bytesA_3 zeroA_3 rfl rfl (by decide) rfl rfl ?_); rintro v19 G2 hK hS
  refine ASL.q (v := v19) rfl rfl (Light.quiet (opAssign rfl rfl)) ?_
  refine ASL.done ?_
  refine AWP.seqM (fun e H => ∃ y4 : (List Int), E.Told e [(0, (.rptr [(.list 1 (List.map (fun xs : (List Tstep) => AV.list 2 (List.map Tstep.av xs)) p0.next_))])), (1, (.list 1 (List.map (AV.int .i64) p1))), (5, v19)] ∧ E.Sep H [.row 1 v19 (List.map (AV.int .i64) y4)] ∧ impl_graph_far.k0 p1 p0 y4 = some r) ?_ ?_
  · rintro e0 G62 ⟨y4, hT, hS, hF⟩; refine AWP.only _ hT ?_; unfold impl_graph_far.k0 at hF
    refine AWP.seqR rfl ?_
    have hS := hNil (s := 1) (f := (AV.int .i64)) hS
    refine ASL.q (v := .nil) rfl rfl (Light.quiet (opAssign rfl rfl)) ?_
    refine ASL.done ?_
    refine AWP.seqM (fun e H => ∃ y6 : (List Int), ∃ y7 : (List Int), ∃ w8 : AV, E.Told e [(0, (.rptr [(.list 1 (List.map (fun xs : (List Tstep) => AV.list 2 (List.map Tstep.av xs)) p0.next_))])), (5, v19), (7, w8)] ∧ E.Sep H [.row 1 v19 (List.map (AV.int .i64) y6), .row 1 w8 (List.map (AV.int .i64) y7)] ∧ impl_graph_far.k1 p0 y6 y7 = some r) ?_ ?_
    · rintro e0 G46 ⟨y6, y7, w8, hT, hS, hF⟩; refine AWP.only _ hT ?_; unfold impl_graph_far.k1 at hF
      refine AWP.seqM (fun e H => ∃ y10 : (List Int), E.Told e [(5, v19)] ∧ E.Sep H [.row 1 v19 (List.map (AV.int .i64) y10)] ∧ impl_graph_far.k2 y10 = some r) ?_ ?_
      · rintro e0 G11 ⟨y10, hT, hS, hF⟩; refine AWP.only _ hT ?_; unfold impl_graph_far.k2 at hF
        refine AWP.seqR rfl ?_
        refine ASL.q (v := v19) rfl rfl (Light.quiet (opMove rfl rfl)) ?_
        refine ASL.q (v := v19) rfl rfl (Light.quiet (opAssign rfl rfl)) ?_
        refine ASL.done ?_
        refine AWP.ret ?_
        obtain rfl := someE hF
        exact QRet.sole (v := v19) ⟨rfl, trivial⟩ (hS.get (k := 0) rfl)
      · skip
        refine AWP.seqR rfl ?_
        refine ASL.q (v := (.int .i64 0)) rfl rfl (Light.quiet (opAssign rfl rfl)) ?_
        refine ASL.done ?_
        refine AWP.block ?_
        obtain ⟨o19, hL18, hR20⟩ := bindE hF
        refine AWP.loopF (ω := AV) hL18 (fun s w => [(0, (.rptr [(.list 1 (List.map (fun xs : (List Tstep) => AV.list 2 (List.map Tstep.av xs)) p0.next_))])), (5, v19), (7, w), (10, (.int .i64 s.2.2))]) (fun s w => [.row 1 v19 (List.map (AV.int .i64) s.1), .row 1 w (List.map (AV.int .i64) s.2.1)]) w8 ⟨rfl, rfl, rfl, rfl, trivial⟩ (hS.pick [0, 1] rfl rfl) ?_
        rintro ⟨y12, y13, x10_l0⟩ w14 G21 hS x16 hF hx17
        try dsimp only at hS ⊢
        have hF : impl_graph_far.b0 p0 y12 y13 x10_l0 = some x16 := hF; unfold impl_graph_far.b0 at hF
        refine AWP.seq ?_
        refine AWP.seqR rfl ?_
        refine ASL.q (v := (.int .i64 x10_l0)) rfl rfl (Light.quiet (opMove rfl rfl)) ?_
        refine ASL.q (v := w14) rfl rfl (Light.quiet (opMove rfl rfl)) ?_
        refine ASL.q (v := (.int .i64 (y13.length : Int))) rfl rfl (Light.quiet (kLen hS (j := 1) rfl rfl rfl rfl lenT_34 rfl)) ?_
        refine ASL.q (v := (.bool (decide (x10_l0 < ((y13.length : Int)))))) rfl rfl (Light.quiet (opInt rfl rfl rfl rfl)) ?_
        refine ASL.done ?_
        refine AWP.ifP hF rfl (fun hc22 hF => ?_) (fun hc22 hF => ?_)
        · skip
          refine AWP.skip ?_
          refine QThen.nrm ?_
          refine AWP.seqM (fun e H => ∃ y23 : (List Int), ∃ y24 : (List Int), ∃ w25 : AV, E.Told e [(0, (.rptr [(.list 1 (List.map (fun xs : (List Tstep) => AV.list 2 (List.map Tstep.av xs)) p0.next_))])), (5, v19), (7, w25), (10, (.int .i64 x10_l0))] ∧ E.Sep H [.row 1 v19 (List.map (AV.int .i64) y23), .row 1 w25 (List.map (AV.int .i64) y24)] ∧ impl_graph_far.k3 x10_l0 y23 y24 = some x16) ?_ ?_
          · rintro e0 G27 ⟨y23, y24, w25, hT, hS, hF⟩; refine AWP.only _ hT ?_; unfold impl_graph_far.k3 at hF
            refine AWP.lastR rfl ?_
            refine ASL.q (v := (.int .i64 x10_l0)) rfl rfl (Light.quiet (opMove rfl rfl)) ?_
            refine ASL.q (v := (.int .i64 (W (x10_l0 + 1)))) rfl rfl (Light.quiet (opInt rfl rfl rfl rfl)) ?_
            refine ASL.q (v := (.int .i64 (W (x10_l0 + 1)))) rfl rfl (Light.quiet (opAssign rfl rfl)) ?_
            refine ASL.done ?_
            refine QThen.nrm ?_
            exact ⟨(y23, y24, (W (x10_l0 + 1))), w25, (someE hF).symm, ⟨rfl, rfl, rfl, rfl, trivial⟩, (hS.pick [0, 1] rfl rfl)⟩
          · skip
            refine AWP.block ?_
            refine AWP.seqR rfl ?_
            refine ASL.q (v := w14) rfl rfl (Light.quiet (opMove rfl rfl)) ?_
            refine ASL.q (v := (.int .i64 x10_l0)) rfl rfl (Light.quiet (opMove rfl rfl)) ?_
            obtain ⟨a56, ha56, hF⟩ := bindE hF
            refine ASL.q (v := (ptrTo w14 x10_l0.toNat 1)) rfl rfl (Light.quiet (kIxOx hS (j := 1) rfl ha56 rfl rfl rfl elemA_34 sizeA_3)) ?_
            refine ASL.q (v := (.int .i64 a56)) rfl rfl (Light.quiet (kLd (f := (AV.int .i64)) hS (j := 1) rfl ha56 rfl aggA_3 rfl (fun _ => rfl))) ?_
            refine ASL.q (v := (.int .i64 a56)) rfl rfl (Light.quiet (opAssign rfl rfl)) ?_
            refine ASL.done ?_
            refine AWP.seqR rfl ?_
            refine ASL.q (v := (.rptr [(.list 1 (List.map (fun xs : (List Tstep) => AV.list 2 (List.map Tstep.av xs)) p0.next_))])) rfl rfl (Light.quiet (opMove rfl rfl)) ?_
            refine ASL.q (v := (.rptr [(.list 1 (List.map (fun xs : (List Tstep) => AV.list 2 (List.map Tstep.av xs)) p0.next_))])) rfl rfl (Light.quiet (opNil rfl rfl rfl)) ?_
            refine ASL.q (v := (.rptr [(.list 1 (List.map (fun xs : (List Tstep) => AV.list 2 (List.map Tstep.av xs)) p0.next_))])) rfl rfl (Light.quiet (opFieldAddrR rfl fieldA_116_0 rfl rfl)) ?_
            refine ASL.q (v := (.list 1 (List.map (fun xs : (List Tstep) => AV.list 2 (List.map Tstep.av xs)) p0.next_))) rfl rfl (Light.quiet (opLoadR rfl aggA_114 rfl rfl)) ?_
            refine ASL.q (v := (.int .i64 a56)) rfl rfl (Light.quiet (opMove rfl rfl)) ?_
            obtain ⟨a63, ha63, hF⟩ := bindE hF
            refine ASL.q (v := (.rptr [(.list 2 (List.map Tstep.av a63))])) rfl rfl (Light.quiet (kIx (f := (fun xs : (List Tstep) => AV.list 2 (List.map Tstep.av xs))) ha63 rfl rfl rfl elemA_114 sizeA_118 rfl)) ?_
            refine ASL.q (v := (.list 2 (List.map Tstep.av a63))) rfl rfl (Light.quiet (opLoadR rfl aggA_118 rfl rfl)) ?_
            refine ASL.q (v := (.int .i64 (a63.length : Int))) rfl rfl (Light.quiet (opLenMap (f := Tstep.av) rfl rfl rfl lenT_118 rfl)) ?_
            refine ASL.q (v := (.int .i64 0)) rfl rfl (Light.quiet (opMove rfl rfl)) ?_
            refine ASL.done ?_
            refine AWP.block ?_
            obtain ⟨o35, hL34, hR36⟩ := bindE hF
            refine AWP.loopF (ω := AV) hL34 (fun s w => [(0, (.rptr [(.list 1 (List.map (fun xs : (List Tstep) => AV.list 2 (List.map Tstep.av xs)) p0.next_))])), (5, v19), (7, w), (10, (.int .i64 x10_l0)), (11, (.int .i64 a56)), (64, (.list 2 (List.map Tstep.av a63))), (65, (.int .i64 (a63.length : Int))), (66, (.int .i64 s.2.2))]) (fun s w => [.row 1 v19 (List.map (AV.int .i64) s.1), .row 1 w (List.map (AV.int .i64) s.2.1)]) w14 ⟨rfl, rfl, rfl, rfl, rfl, rfl, rfl, rfl, trivial⟩ (hS.pick [0, 1] rfl rfl) ?_
            rintro ⟨y28, y29, x66_l1⟩ w30 G37 hS x32 hF hx33
            try dsimp only at hS ⊢
            have hF : impl_graph_far.b1 a63 a56 y28 y29 x66_l1 = some x32 := hF; unfold impl_graph_far.b1 at hF
            refine AWP.seqR rfl ?_
            refine ASL.q (v := (.bool (decide (x66_l1 < ((a63.length : Int)))))) rfl rfl (Light.quiet (opInt rfl rfl rfl rfl)) ?_
            refine ASL.done ?_
            refine AWP.seq ?_
            refine AWP.ifP hF rfl (fun hc38 hF => ?_) (fun hc38 hF => ?_)
            · skip
              refine AWP.skip ?_
              refine QThen.nrm ?_
              refine AWP.seq ?_
              refine AWP.block ?_
              refine AWP.seqR rfl ?_
              obtain ⟨a68, ha68, hF⟩ := bindE hF
              refine ASL.q (v := (.rptr [(.int .i64 a68.to_), (.int .i64 a68.marks)])) rfl rfl (Light.quiet (kIx (f := Tstep.av) ha68 rfl rfl rfl elemA_118 sizeA_120 rfl)) ?_
              refine ASL.q (v := (Tstep.av a68)) rfl rfl (Light.quiet (opLoadRA rfl aggA_120 sizeA_120 rfl (nlt rfl) rfl)) ?_
              refine ASL.x rfl rfl (hNewZ hS [(.int .i64 0), (.int .i64 0)] rfl zeroA_120 ⟨.inl rfl, .inl rfl, trivial⟩ ?_); rintro b13 G39 hK hS
              refine ASL.n rfl rfl (hPutA hS (j := 0) rfl rfl sizeA_120 rfl rfl rfl rfl rfl (nlt rfl) ?_); rintro G41 hS
              refine ASL.done ?_
              refine AWP.seqR rfl ?_
              refine ASL.q (v := v19) rfl rfl (Light.quiet (opMove rfl rfl)) ?_
              refine ASL.q (v := (.ptr b13 0)) rfl rfl (Light.quiet (opFieldAddr rfl fieldA_120_0 rfl rfl)) ?_
              refine ASL.q (v := (.int .i64 a68.to_)) rfl rfl (Light.quiet (kAt hS (j := 0) rfl rfl aggA_3 rfl rfl)) ?_
              obtain ⟨a73, ha73, hF⟩ := bindE hF
              refine ASL.q (v := (ptrTo v19 a68.to_.toNat 1)) rfl rfl (Light.quiet (kIxOx hS (j := 1) rfl ha73 rfl rfl rfl elemA_34 sizeA_3)) ?_
              refine ASL.q (v := (.int .i64 a73)) rfl rfl (Light.quiet (kLd (f := (AV.int .i64)) hS (j := 1) rfl ha73 rfl aggA_3 rfl (fun _ => rfl))) ?_
              refine ASL.q (v := (.bool (decide (a73 < 0)))) rfl rfl (Light.quiet (opInt rfl rfl rfl rfl)) ?_
              refine ASL.done ?_
              refine AWP.ifP hF rfl (fun hc42 hF => ?_) (fun hc42 hF => ?_)
              · skip
                refine AWP.seqD [(0, false), (1, false), (2, false), (3, false), (4, false), (5, false), (6, false), (7, false), (8, false), (9, true)] mixed (by kernel_rfl) rfl ?_
                refine ARL.q0 (v := v19) rfl rfl (Light.quiet (opMove rfl rfl)) ?_
                refine ARL.q0 (v := (.ptr b13 0)) rfl rfl (Light.quiet (opFieldAddr rfl fieldA_120_0 rfl rfl)) ?_
                refine ARL.q (v := (.int .i64 a68.to_)) rfl rfl (hS.aliveC (k := 0) rfl) (Light.quiet (kAt hS (j := 0) rfl rfl aggA_3 rfl rfl)) ?_
                refine ARL.q0 (v := v19) rfl rfl (Light.quiet (opMove rfl rfl)) ?_
                refine ARL.q0 (v := (.int .i64 a56)) rfl rfl (Light.quiet (opMove rfl rfl)) ?_
                obtain ⟨a81, ha81, hF⟩ := bindE hF
                refine ARL.q0 (v := (ptrTo v19 a56.toNat 1)) rfl rfl (Light.quiet (kIxOx hS (j := 1) rfl ha81 rfl rfl rfl elemA_34 sizeA_3)) ?_
                refine ARL.q (v := (.int .i64 a81)) rfl rfl (hS.aliveR (k := 1) rfl) (Light.quiet (kLd (f := (AV.int .i64)) hS (j := 1) rfl ha81 rfl aggA_3 rfl (fun _ => rfl))) ?_
                refine ARL.q0 (v := (.int .i64 (W (a81 + 1)))) rfl rfl (Light.quiet (opInt rfl rfl rfl rfl)) ?_
                obtain ⟨m84, hm84, hF⟩ := bindE hF
                refine ARL.q0 (v := (ptrTo v19 m84 1)) rfl rfl (Light.quiet (kIxO hS (j := 1) rfl hm84 rfl rfl rfl elemA_34 sizeA_3)) ?_
                refine ARL.n rfl rfl rfl rfl (hSt (f := (AV.int .i64)) (a := (W (a81 + 1))) hS (j := 1) rfl hm84 rfl sizeA_3 rfl rfl ⟨rfl, rfl, rfl⟩ ?_); rintro G43 hS
                refine ARL.done ?_
                refine AWP.lastR rfl ?_
                refine ASL.q (v := w30) rfl rfl (Light.quiet (opMove rfl rfl)) ?_
                refine ASL.q (v := (.ptr b13 0)) rfl rfl (Light.quiet (opFieldAddr rfl fieldA_120_0 rfl rfl)) ?_
                refine ASL.q (v := (.int .i64 a68.to_)) rfl rfl (Light.quiet (kAt hS (j := 0) rfl rfl aggA_3 rfl rfl)) ?_
                refine ASL.q (v := (.list 1 (List.map (AV.int .i64) [a68.to_]))) rfl rfl ((qLit (xs := [(.int .i64 a68.to_)]) rfl elemA_34 sizeA_3 zeroA_3 rfl rfl rfl rfl (by simp [cells]) (nlt rfl))) ?_
                obtain ⟨z89, hz89, hF⟩ := bindE hF
                refine ASL.x rfl rfl (hApp (f := (AV.int .i64)) (ws := [a68.to_]) hS (j := 2) rfl hz89 rfl elemA_34 rfl sizeA_3 bytesA_3 zeroA_3 rfl rfl rfl (fun _ => rfl) ?_); rintro v89 G44 hS
                refine ASL.q (v := v89) rfl rfl (Light.quiet (opAssign rfl rfl)) ?_
                refine ASL.done ?_
                refine QBlock.nrm ?_
                refine QThen.nrm ?_
                refine AWP.lastR rfl ?_
                refine ASL.q (v := (.int .i64 (W (x66_l1 + 1)))) rfl rfl (Light.quiet (opInt rfl rfl rfl rfl)) ?_
                refine ASL.q (v := (.int .i64 (W (x66_l1 + 1)))) rfl rfl (Light.quiet (opMove rfl rfl)) ?_
                refine ASL.done ?_
                refine QThen.nrm ?_
                exact ⟨((y28.set m84 ((W (a81 + 1)))), z89, (W (x66_l1 + 1))), v89, (someE hF).symm, ⟨rfl, rfl, rfl, rfl, rfl, rfl, rfl, rfl, trivial⟩, (hS.pick [1, 2] rfl rfl)⟩
              · skip
                refine AWP.skip ?_
                refine QBlock.nrm ?_
                refine QThen.nrm ?_
                refine AWP.lastR rfl ?_
                refine ASL.q (v := (.int .i64 (W (x66_l1 + 1)))) rfl rfl (Light.quiet (opInt rfl rfl rfl rfl)) ?_
                refine ASL.q (v := (.int .i64 (W (x66_l1 + 1)))) rfl rfl (Light.quiet (opMove rfl rfl)) ?_
                refine ASL.done ?_
                refine QThen.nrm ?_
                exact ⟨(y28, y29, (W (x66_l1 + 1))), w30, (someE hF).symm, ⟨rfl, rfl, rfl, rfl, rfl, rfl, rfl, rfl, trivial⟩, (hS.pick [1, 2] rfl rfl)⟩
            · skip
              refine AWP.exit ?_
              refine QThen.ext ?_
              refine QThen.ext ?_
              refine QBlock.hit ?_
              obtain rfl := (hx33 _ (someE hF).symm)
              have hF := hR36
              refine QBlock.nrm ?_
              refine QThen.nrm ?_
              exact ⟨y28, y29, w30, ⟨rfl, rfl, rfl, rfl, trivial⟩, (hS.pick [0, 1] rfl rfl), hF⟩
        · skip
          refine AWP.exit ?_
          refine QThen.ext ?_
          refine QThen.ext ?_
          refine QBlock.hit ?_
          obtain rfl := (hx17 _ (someE hF).symm)
          have hF := hR20
          refine QThen.nrm ?_
          exact ⟨y12, ⟨rfl, trivial⟩, (hS.pick [0] rfl rfl), hF⟩
    · skip
      refine AWP.seqR rfl ?_
      refine ASL.q (v := (.list 1 (List.map (AV.int .i64) p1))) rfl rfl (Light.quiet (opMove rfl rfl)) ?_
      refine ASL.q (v := (.int .i64 (p1.length : Int))) rfl rfl (Light.quiet (opLenMap (f := (AV.int .i64)) rfl rfl rfl lenT_34 rfl)) ?_
      refine ASL.q (v := (.int .i64 0)) rfl rfl (Light.quiet (opMove rfl rfl)) ?_
      refine ASL.done ?_
      refine AWP.block ?_
      obtain ⟨o54, hL53, hR55⟩ := bindE hF
      refine AWP.loopF (ω := AV) hL53 (fun s w => [(0, (.rptr [(.list 1 (List.map (fun xs : (List Tstep) => AV.list 2 (List.map Tstep.av xs)) p0.next_))])), (5, v19), (7, w), (29, (.list 1 (List.map (AV.int .i64) p1))), (30, (.int .i64 (p1.length : Int))), (31, (.int .i64 s.2.2))]) (fun s w => [.row 1 v19 (List.map (AV.int .i64) s.1), .row 1 w (List.map (AV.int .i64) s.2.1)]) .nil ⟨rfl, rfl, rfl, rfl, rfl, rfl, trivial⟩ (hS.pick [1, 0] rfl rfl) ?_
      rintro ⟨y47, y48, x31_l2⟩ w49 G56 hS x51 hF hx52
      try dsimp only at hS ⊢
      have hF : impl_graph_far.b2 p1 y47 y48 x31_l2 = some x51 := hF; unfold impl_graph_far.b2 at hF
      refine AWP.seqR rfl ?_
      refine ASL.q (v := (.bool (decide (x31_l2 < ((p1.length : Int)))))) rfl rfl (Light.quiet (opInt rfl rfl rfl rfl)) ?_
      refine ASL.done ?_
      refine AWP.seq ?_
      refine AWP.ifP hF rfl (fun hc57 hF => ?_) (fun hc57 hF => ?_)
      · skip
        refine AWP.skip ?_
        refine QThen.nrm ?_
        refine AWP.seq ?_
        refine AWP.block ?_
        refine AWP.seqR rfl ?_
        obtain ⟨a33, ha33, hF⟩ := bindE hF
        refine ASL.q (v := (.rptr [(.int .i64 a33)])) rfl rfl (Light.quiet (kIx (f := (AV.int .i64)) ha33 rfl rfl rfl elemA_34 sizeA_3 rfl)) ?_
        refine ASL.q (v := (.int .i64 a33)) rfl rfl (Light.quiet (opLoadR rfl aggA_3 rfl rfl)) ?_
        refine ASL.q (v := (.int .i64 a33)) rfl rfl (Light.quiet (opAssign rfl rfl)) ?_
        refine ASL.done ?_
        refine AWP.seqR rfl ?_
        refine ASL.q (v := v19) rfl rfl (Light.quiet (opMove rfl rfl)) ?_
        refine ASL.q (v := (.int .i64 a33)) rfl rfl (Light.quiet (opMove rfl rfl)) ?_
        obtain ⟨a37, ha37, hF⟩ := bindE hF
        refine ASL.q (v := (ptrTo v19 a33.toNat 1)) rfl rfl (Light.quiet (kIxOx hS (j := 0) rfl ha37 rfl rfl rfl elemA_34 sizeA_3)) ?_
        refine ASL.q (v := (.int .i64 a37)) rfl rfl (Light.quiet (kLd (f := (AV.int .i64)) hS (j := 0) rfl ha37 rfl aggA_3 rfl (fun _ => rfl))) ?_
        refine ASL.q (v := (.bool (decide (a37 < 0)))) rfl rfl (Light.quiet (opInt rfl rfl rfl rfl)) ?_
        refine ASL.done ?_
        refine AWP.ifP hF rfl (fun hc58 hF => ?_) (fun hc58 hF => ?_)
        · skip
          refine AWP.seqR rfl ?_
          refine ASL.q (v := v19) rfl rfl (Light.quiet (opMove rfl rfl)) ?_
          refine ASL.q (v := (.int .i64 a33)) rfl rfl (Light.quiet (opMove rfl rfl)) ?_
          obtain ⟨m42, hm42, hF⟩ := bindE hF
          refine ASL.q (v := (ptrTo v19 m42 1)) rfl rfl (Light.quiet (kIxO hS (j := 0) rfl hm42 rfl rfl rfl elemA_34 sizeA_3)) ?_
          refine ASL.n rfl rfl (hSt (f := (AV.int .i64)) (a := 0) hS (j := 0) rfl hm42 rfl sizeA_3 rfl rfl ⟨rfl, rfl, rfl⟩ ?_); rintro G59 hS
          refine ASL.done ?_
          refine AWP.lastR rfl ?_
          refine ASL.q (v := w49) rfl rfl (Light.quiet (opMove rfl rfl)) ?_
          refine ASL.q (v := (.int .i64 a33)) rfl rfl (Light.quiet (opMove rfl rfl)) ?_
          refine ASL.q (v := (.list 1 (List.map (AV.int .i64) [a33]))) rfl rfl ((qLit (xs := [(.int .i64 a33)]) rfl elemA_34 sizeA_3 zeroA_3 rfl rfl rfl rfl (by simp [cells]) (nlt rfl))) ?_
          obtain ⟨z46, hz46, hF⟩ := bindE hF
          refine ASL.x rfl rfl (hApp (f := (AV.int .i64)) (ws := [a33]) hS (j := 1) rfl hz46 rfl elemA_34 rfl sizeA_3 bytesA_3 zeroA_3 rfl rfl rfl (fun _ => rfl) ?_); rintro v46 G60 hS
          refine ASL.q (v := v46) rfl rfl (Light.quiet (opAssign rfl rfl)) ?_
          refine ASL.done ?_
          refine QBlock.nrm ?_
          refine QThen.nrm ?_
          refine AWP.lastR rfl ?_
          refine ASL.q (v := (.int .i64 (W (x31_l2 + 1)))) rfl rfl (Light.quiet (opInt rfl rfl rfl rfl)) ?_
          refine ASL.q (v := (.int .i64 (W (x31_l2 + 1)))) rfl rfl (Light.quiet (opMove rfl rfl)) ?_
          refine ASL.done ?_
          refine QThen.nrm ?_
          exact ⟨((y47.set m42 0), z46, (W (x31_l2 + 1))), v46, (someE hF).symm, ⟨rfl, rfl, rfl, rfl, rfl, rfl, trivial⟩, (hS.pick [0, 1] rfl rfl)⟩
        · skip
          refine AWP.skip ?_
          refine QBlock.nrm ?_
          refine QThen.nrm ?_
          refine AWP.lastR rfl ?_
          refine ASL.q (v := (.int .i64 (W (x31_l2 + 1)))) rfl rfl (Light.quiet (opInt rfl rfl rfl rfl)) ?_
          refine ASL.q (v := (.int .i64 (W (x31_l2 + 1)))) rfl rfl (Light.quiet (opMove rfl rfl)) ?_
          refine ASL.done ?_
          refine QThen.nrm ?_
          exact ⟨(y47, y48, (W (x31_l2 + 1))), w49, (someE hF).symm, ⟨rfl, rfl, rfl, rfl, rfl, rfl, trivial⟩, (hS.pick [0, 1] rfl rfl)⟩
      · skip
        refine AWP.exit ?_
        refine QThen.ext ?_
        refine QThen.ext ?_
        refine QBlock.hit ?_
        obtain rfl := (hx52 _ (someE hF).symm)
        have hF := hR55
        refine QThen.nrm ?_
        exact ⟨y47, y48, w49, ⟨rfl, rfl, rfl, trivial⟩, (hS.pick [0, 1] rfl rfl), hF⟩
  · skip
    refine AWP.seqR rfl ?_
    refine ASL.q (v := v19) rfl rfl (Light.quiet (opMove rfl rfl)) ?_
    refine ASL.q (v := (.int .i64 (z19.length : Int))) rfl rfl (Light.quiet (kLen hS (j := 0) rfl rfl rfl rfl lenT_34 rfl)) ?_
    refine ASL.q (v := (.int .i64 0)) rfl rfl (Light.quiet (opMove rfl rfl)) ?_
    refine ASL.done ?_
    refine AWP.block ?_
    obtain ⟨o67, hL66, hR68⟩ := bindE hF
    refine AWP.loopF (ω := Unit) hL66 (fun s w => [(0, (.rptr [(.list 1 (List.map (fun xs : (List Tstep) => AV.list 2 (List.map Tstep.av xs)) p0.next_))])), (1, (.list 1 (List.map (AV.int .i64) p1))), (5, v19), (21, (.int .i64 (z19.length : Int))), (22, (.int .i64 s.2))]) (fun s w => [.row 1 v19 (List.map (AV.int .i64) s.1)]) () ⟨rfl, rfl, rfl, rfl, rfl, trivial⟩ (hS.pick [0] rfl rfl) ?_
    rintro ⟨y63, x22_l3⟩ _ G69 hS x64 hF hx65
    try dsimp only at hS ⊢
    have hF : impl_graph_far.b3 z19 y63 x22_l3 = some x64 := hF; unfold impl_graph_far.b3 at hF
    refine AWP.seqR rfl ?_
    refine ASL.q (v := (.bool (decide (x22_l3 < ((z19.length : Int)))))) rfl rfl (Light.quiet (opInt rfl rfl rfl rfl)) ?_
    refine ASL.done ?_
    refine AWP.seq ?_
    refine AWP.ifP hF rfl (fun hc70 hF => ?_) (fun hc70 hF => ?_)
    · skip
      refine AWP.skip ?_
      refine QThen.nrm ?_
      refine AWP.seq ?_
      refine AWP.block ?_
      refine AWP.seqR rfl ?_
      refine ASL.q (v := (.int .i64 x22_l3)) rfl rfl (Light.quiet (opMove rfl rfl)) ?_
      refine ASL.q (v := (.int .i64 x22_l3)) rfl rfl (Light.quiet (opAssign rfl rfl)) ?_
      refine ASL.done ?_
      refine AWP.lastR rfl ?_
      refine ASL.q (v := v19) rfl rfl (Light.quiet (opMove rfl rfl)) ?_
      refine ASL.q (v := (.int .i64 x22_l3)) rfl rfl (Light.quiet (opMove rfl rfl)) ?_
      obtain ⟨m27, hm27, hF⟩ := bindE hF
      refine ASL.q (v := (ptrTo v19 m27 1)) rfl rfl (Light.quiet (kIxO hS (j := 0) rfl hm27 rfl rfl rfl elemA_34 sizeA_3)) ?_
      refine ASL.n rfl rfl (hSt (f := (AV.int .i64)) (a := (-1)) hS (j := 0) rfl hm27 rfl sizeA_3 rfl rfl ⟨rfl, rfl, rfl⟩ ?_); rintro G71 hS
      refine ASL.done ?_
      refine QBlock.nrm ?_
      refine QThen.nrm ?_
      refine AWP.lastR rfl ?_
      refine ASL.q (v := (.int .i64 (W (x22_l3 + 1)))) rfl rfl (Light.quiet (opInt rfl rfl rfl rfl)) ?_
      refine ASL.q (v := (.int .i64 (W (x22_l3 + 1)))) rfl rfl (Light.quiet (opMove rfl rfl)) ?_
      refine ASL.done ?_
      refine QThen.nrm ?_
      exact ⟨((y63.set m27 ((-1))), (W (x22_l3 + 1))), (), (someE hF).symm, ⟨rfl, rfl, rfl, rfl, rfl, trivial⟩, (hS.pick [0] rfl rfl)⟩
    · skip
      refine AWP.exit ?_
      refine QThen.ext ?_
      refine QThen.ext ?_
      refine QBlock.hit ?_
      obtain rfl := (hx65 _ (someE hF).symm)
      have hF := hR68
      refine QThen.nrm ?_
      exact ⟨y63, ⟨rfl, rfl, rfl, trivial⟩, (hS.pick [0] rfl rfl), hF⟩

set_option maxRecDepth 10000 in
theorem impl_graph_finished_ok {p0 : Tgraph} {r : (List Int)} (hF : impl_graph_finished p0 = some r) : PO Try.prog 99 [(.rptr [(.list 1 (List.map (fun xs : (List Tstep) => AV.list 2 (List.map Tstep.av xs)) p0.next_))])] 1 (List.map (AV.int .i64) r) := by
  refine HC.enter Try.func99 rfl Try.ntmps99 (by simp) ?_
  have hS := Sep.void; unfold impl_graph_finished at hF
  refine AWP.seqR rfl ?_
  have hS := hNil (s := 1) (f := (AV.int .i64)) hS
  refine ASL.q (v := .nil) rfl rfl (Light.quiet (opAssign rfl rfl)) ?_
  refine ASL.done ?_
  refine AWP.seqR rfl ?_
  have hS := hNil (s := 1) (f := (AV.int .i64)) hS
  refine ASL.q (v := .nil) rfl rfl (Light.quiet (opAssign rfl rfl)) ?_
  refine ASL.done ?_
  refine AWP.seqR rfl ?_
  refine ASL.q (v := (.rptr [(.list 1 (List.map (fun xs : (List Tstep) => AV.list 2 (List.map Tstep.av xs)) p0.next_))])) rfl rfl (Light.quiet (opMove rfl rfl)) ?_
  refine ASL.q (v := (.rptr [(.list 1 (List.map (fun xs : (List Tstep) => AV.list 2 (List.map Tstep.av xs)) p0.next_))])) rfl rfl (Light.quiet (opNil rfl rfl rfl)) ?_
  refine ASL.q (v := (.rptr [(.list 1 (List.map (fun xs : (List Tstep) => AV.list 2 (List.map Tstep.av xs)) p0.next_))])) rfl rfl (Light.quiet (opFieldAddrR rfl fieldA_116_0 rfl rfl)) ?_
  refine ASL.q (v := (.list 1 (List.map (fun xs : (List Tstep) => AV.list 2 (List.map Tstep.av xs)) p0.next_))) rfl rfl (Light.quiet (opLoadR rfl aggA_114 rfl rfl)) ?_
  refine ASL.q (v := (.int .i64 (p0.next_.length : Int))) rfl rfl (Light.quiet (opLenMap (f := (fun xs : (List Tstep) => AV.list 2 (List.map Tstep.av xs))) rfl rfl rfl lenT_114 rfl)) ?_
  obtain ⟨z14, hz14, hF⟩ := bindE hF
  refine ASL.x rfl rfl (hMk (f := AV.bool) hS hz14 (by decide) rfl elemA_96 sizeA_4 bytesA_4 zeroA_4 rfl rfl (by decide) rfl rfl ?_); rintro v14 G3 hK hS
  refine ASL.q (v := v14) rfl rfl (Light.quiet (opAssign rfl rfl)) ?_
  refine ASL.done ?_
  refine AWP.seqM (fun e H => ∃ y5 : (List Int), ∃ w6 : AV, E.Told e [(3, w6)] ∧ E.Sep H [.row 1 w6 (List.map (AV.int .i64) y5)] ∧ impl_graph_finished.k0 y5 = some r) ?_ ?_
  · rintro e0 G8 ⟨y5, w6, hT, hS, hF⟩; refine AWP.only _ hT ?_; unfold impl_graph_finished.k0 at hF
    refine AWP.seqR rfl ?_
    refine ASL.q (v := w6) rfl rfl (Light.quiet (opMove rfl rfl)) ?_
    refine ASL.q (v := w6) rfl rfl (Light.quiet (opAssign rfl rfl)) ?_
    refine ASL.done ?_
    refine AWP.ret ?_
    obtain rfl := someE hF
    exact QRet.sole (v := w6) ⟨rfl, trivial⟩ (hS.get (k := 0) rfl)
  · skip
    refine AWP.seqR rfl ?_
    refine ASL.q (v := (.rptr [(.list 1 (List.map (fun xs : (List Tstep) => AV.list 2 (List.map Tstep.av xs)) p0.next_))])) rfl rfl (Light.quiet (opMove rfl rfl)) ?_
    refine ASL.q (v := (.rptr [(.list 1 (List.map (fun xs : (List Tstep) => AV.list 2 (List.map Tstep.av xs)) p0.next_))])) rfl rfl (Light.quiet (opNil rfl rfl rfl)) ?_
    refine ASL.q (v := (.rptr [(.list 1 (List.map (fun xs : (List Tstep) => AV.list 2 (List.map Tstep.av xs)) p0.next_))])) rfl rfl (Light.quiet (opFieldAddrR rfl fieldA_116_0 rfl rfl)) ?_
    refine ASL.q (v := (.list 1 (List.map (fun xs : (List Tstep) => AV.list 2 (List.map Tstep.av xs)) p0.next_))) rfl rfl (Light.quiet (opLoadR rfl aggA_114 rfl rfl)) ?_
    refine ASL.q (v := (.int .i64 (p0.next_.length : Int))) rfl rfl (Light.quiet (opLenMap (f := (fun xs : (List Tstep) => AV.list 2 (List.map Tstep.av xs))) rfl rfl rfl lenT_114 rfl)) ?_
    refine ASL.q (v := (.int .i64 0)) rfl rfl (Light.quiet (opMove rfl rfl)) ?_
    refine ASL.done ?_
    refine AWP.block ?_
    obtain ⟨o16, hL15, hR17⟩ := bindE hF
    refine AWP.loopF (ω := AV) hL15 (fun s w => [(0, (.rptr [(.list 1 (List.map (fun xs : (List Tstep) => AV.list 2 (List.map Tstep.av xs)) p0.next_))])), (3, w), (4, v14), (19, (.int .i64 (p0.next_.length : Int))), (20, (.int .i64 s.2.2))]) (fun s w => [.row 1 w (List.map (AV.int .i64) s.1), .row 1 v14 (List.map AV.bool s.2.1)]) .nil ⟨rfl, rfl, rfl, rfl, rfl, trivial⟩ (hS.pick [1, 0] rfl rfl) ?_
    rintro ⟨y9, y12, x20_l0⟩ w10 G18 hS x13 hF hx14
    try dsimp only at hS ⊢
    have hF : impl_graph_finished.b0 p0 y9 y12 x20_l0 = some x13 := hF; unfold impl_graph_finished.b0 at hF
    refine AWP.seqR rfl ?_
    refine ASL.q (v := (.bool (decide (x20_l0 < ((p0.next_.length : Int)))))) rfl rfl (Light.quiet (opInt rfl rfl rfl rfl)) ?_
    refine ASL.done ?_
    refine AWP.seq ?_
    refine AWP.ifP hF rfl (fun hc19 hF => ?_) (fun hc19 hF => ?_)
    · skip
      refine AWP.skip ?_
      refine QThen.nrm ?_
      refine AWP.seqM (fun e H => ∃ y20 : (List Int), ∃ y23 : (List Bool), ∃ w21 : AV, E.Told e [(0, (.rptr [(.list 1 (List.map (fun xs : (List Tstep) => AV.list 2 (List.map Tstep.av xs)) p0.next_))])), (3, w21), (4, v14), (19, (.int .i64 (p0.next_.length : Int))), (20, (.int .i64 x20_l0))] ∧ E.Sep H [.row 1 w21 (List.map (AV.int .i64) y20), .row 1 v14 (List.map AV.bool y23)] ∧ impl_graph_finished.k1 x20_l0 y20 y23 = some x13) ?_ ?_
      · rintro e0 G24 ⟨y20, y23, w21, hT, hS, hF⟩; refine AWP.only _ hT ?_; unfold impl_graph_finished.k1 at hF
        refine AWP.lastR rfl ?_
        refine ASL.q (v := (.int .i64 (W (x20_l0 + 1)))) rfl rfl (Light.quiet (opInt rfl rfl rfl rfl)) ?_
        refine ASL.q (v := (.int .i64 (W (x20_l0 + 1)))) rfl rfl (Light.quiet (opMove rfl rfl)) ?_
        refine ASL.done ?_
        refine QThen.nrm ?_
        exact ⟨(y20, y23, (W (x20_l0 + 1))), w21, (someE hF).symm, ⟨rfl, rfl, rfl, rfl, rfl, trivial⟩, (hS.pick [0, 1] rfl rfl)⟩
      · skip
        refine AWP.block ?_
        refine AWP.seqR rfl ?_
        refine ASL.q (v := (.int .i64 x20_l0)) rfl rfl (Light.quiet (opMove rfl rfl)) ?_
        refine ASL.q (v := (.int .i64 x20_l0)) rfl rfl (Light.quiet (opAssign rfl rfl)) ?_
        refine ASL.done ?_
        refine AWP.seq ?_
        refine AWP.seqR rfl ?_
        refine ASL.q (v := v14) rfl rfl (Light.quiet (opMove rfl rfl)) ?_
        refine ASL.q (v := (.int .i64 x20_l0)) rfl rfl (Light.quiet (opMove rfl rfl)) ?_
        obtain ⟨a25, ha25, hF⟩ := bindE hF
        refine ASL.q (v := (ptrTo v14 x20_l0.toNat 1)) rfl rfl (Light.quiet (kIxOx hS (j := 1) rfl ha25 rfl rfl rfl elemA_96 sizeA_4)) ?_
        refine ASL.q (v := (.bool a25)) rfl rfl (Light.quiet (kLd (f := AV.bool) hS (j := 1) rfl ha25 rfl aggA_4 rfl (fun _ => rfl))) ?_
        refine ASL.done ?_
        refine AWP.ifB hF rfl (fun hc25 hF => ?_) (fun hc25 hF => ?_)
        · skip
          refine AWP.exit ?_
          refine QThen.ext ?_
          refine QBlock.hit ?_
          refine QThen.nrm ?_
          exact ⟨y9, y12, w10, ⟨rfl, rfl, rfl, rfl, rfl, trivial⟩, (hS.pick [0, 1] rfl rfl), hF⟩
        · skip
          refine AWP.skip ?_
          refine QThen.nrm ?_
          refine AWP.seqR rfl ?_
          refine ASL.q (v := v14) rfl rfl (Light.quiet (opMove rfl rfl)) ?_
          refine ASL.q (v := (.int .i64 x20_l0)) rfl rfl (Light.quiet (opMove rfl rfl)) ?_
          obtain ⟨m29, hm29, hF⟩ := bindE hF
          refine ASL.q (v := (ptrTo v14 m29 1)) rfl rfl (Light.quiet (kIxO hS (j := 1) rfl hm29 rfl rfl rfl elemA_96 sizeA_4)) ?_
          refine ASL.n rfl rfl (hSt (f := AV.bool) (a := true) hS (j := 1) rfl hm29 rfl sizeA_4 rfl rfl ⟨rfl, rfl, rfl⟩ ?_); rintro G26 hS
          refine ASL.done ?_
          refine AWP.seqR rfl ?_
          refine ASL.q (v := (.int .i64 x20_l0)) rfl rfl (Light.quiet (opMove rfl rfl)) ?_
          refine ASL.q (v := (.agg [(.int .i64 x20_l0), (.int .i64 0)])) rfl rfl (Light.quiet (opBuildZ (zs := [(.int .i64 0), (.int .i64 0)]) rfl plan_137 zeroA_137 ⟨.inl rfl, .inl rfl, trivial⟩ rfl)) ?_
          refine ASL.x rfl rfl (hLit (f := Tplace.av) (zs := [(Tplace.mk x20_l0 0)]) hS rfl rfl elemA_138 sizeA_137 zeroA_137 rfl rfl rfl rfl (by simp [cells, Tplace.av]) (nlt rfl) ?_); rintro v32 G27 hK hS
          refine ASL.q (v := v32) rfl rfl (Light.quiet (opAssign rfl rfl)) ?_
          refine ASL.done ?_
          refine AWP.block ?_
          obtain ⟨o39, hL38, hR40⟩ := bindE hF
          refine AWP.loopF (ω := (AV × AV)) hL38 (fun s w => [(0, (.rptr [(.list 1 (List.map (fun xs : (List Tstep) => AV.list 2 (List.map Tstep.av xs)) p0.next_))])), (3, w.1), (4, v14), (6, w.2), (19, (.int .i64 (p0.next_.length : Int))), (20, (.int .i64 x20_l0))]) (fun s w => [.row 1 w.1 (List.map (AV.int .i64) s.1), .row 1 v14 (List.map AV.bool s.2.1), .row 2 w.2 (List.map Tplace.av s.2.2)]) (w10, v32) ⟨rfl, rfl, rfl, rfl, rfl, rfl, trivial⟩ (hS.pick [1, 2, 0] rfl rfl) ?_
          rintro ⟨y29, y32, y33⟩ ⟨w30, w34⟩ G41 hS x36 hF hx37
          try dsimp only at hS ⊢
          have hF : impl_graph_finished.b1 p0 y29 y32 y33 = some x36 := hF; unfold impl_graph_finished.b1 at hF
          refine AWP.seq ?_
          refine AWP.seqR rfl ?_
          refine ASL.q (v := w34) rfl rfl (Light.quiet (opMove rfl rfl)) ?_
          refine ASL.q (v := (.int .i64 (y33.length : Int))) rfl rfl (Light.quiet (kLen hS (j := 2) rfl rfl rfl rfl lenT_138 rfl)) ?_
          refine ASL.q (v := (.bool (decide (((y33.length : Int)) > 0)))) rfl rfl (Light.quiet (opInt rfl rfl rfl rfl)) ?_
          refine ASL.done ?_
          refine AWP.ifP hF rfl (fun hc42 hF => ?_) (fun hc42 hF => ?_)
          · skip
            refine AWP.skip ?_
            refine QThen.nrm ?_
            refine AWP.block ?_
            refine AWP.seqR rfl ?_
            refine ASL.q (v := w34) rfl rfl (Light.quiet (opMove rfl rfl)) ?_
            refine ASL.q (v := w34) rfl rfl (Light.quiet (opMove rfl rfl)) ?_
            refine ASL.q (v := (.int .i64 (y33.length : Int))) rfl rfl (Light.quiet (kLen hS (j := 2) rfl rfl rfl rfl lenT_138 rfl)) ?_
            refine ASL.q (v := (.int .i64 (W (((y33.length : Int)) - 1)))) rfl rfl (Light.quiet (opInt rfl rfl rfl rfl)) ?_
            obtain ⟨m40, hm40, hF⟩ := bindE hF
            refine ASL.q (v := (ptrTo w34 m40 2)) rfl rfl (Light.quiet (kIxO hS (j := 2) rfl hm40 rfl rfl rfl elemA_138 sizeA_137)) ?_
            refine ASL.q (v := (ptrTo w34 m40 2)) rfl rfl (Light.quiet (opAssign rfl rfl)) ?_
            refine ASL.done ?_
            refine AWP.seq ?_
            refine AWP.seqD [(0, false), (1, false), (2, false), (3, false), (4, false), (5, false), (6, false), (7, false), (8, false), (9, false), (10, false), (11, false), (12, false), (13, false), (14, false), (15, false)] mixed (by kernel_rfl) rfl ?_
            refine ARL.q0 (v := (ptrTo w34 m40 2)) rfl rfl (Light.quiet (opMove rfl rfl)) ?_
            refine ARL.q0 (v := (ptrTo w34 m40 2)) rfl rfl (Light.quiet (kNilE hS (j := 2) rfl hm40 rfl rfl)) ?_
            refine ARL.q0 (v := (ptrOff w34 m40 2 1)) rfl rfl (Light.quiet (kFldC (p := 1) hS (j := 2) rfl hm40 rfl fieldA_137_1 rfl)) ?_
            refine ARL.q (v := (.int .i64 ((y33.getD m40 default)).at_)) rfl rfl (hS.aliveR (k := 2) rfl) (Light.quiet (kLdPm (f := Tplace.av) hS (j := 2) rfl hm40 rfl aggA_3 rfl rfl)) ?_
            refine ARL.q0 (v := (.rptr [(.list 1 (List.map (fun xs : (List Tstep) => AV.list 2 (List.map Tstep.av xs)) p0.next_))])) rfl rfl (Light.quiet (opMove rfl rfl)) ?_
            refine ARL.q0 (v := (.rptr [(.list 1 (List.map (fun xs : (List Tstep) => AV.list 2 (List.map Tstep.av xs)) p0.next_))])) rfl rfl (Light.quiet (opNil rfl rfl rfl)) ?_
            refine ARL.q0 (v := (.rptr [(.list 1 (List.map (fun xs : (List Tstep) => AV.list 2 (List.map Tstep.av xs)) p0.next_))])) rfl rfl (Light.quiet (opFieldAddrR rfl fieldA_116_0 rfl rfl)) ?_
            refine ARL.q0 (v := (.list 1 (List.map (fun xs : (List Tstep) => AV.list 2 (List.map Tstep.av xs)) p0.next_))) rfl rfl (Light.quiet (opLoadR rfl aggA_114 rfl rfl)) ?_
            refine ARL.q0 (v := (ptrTo w34 m40 2)) rfl rfl (Light.quiet (opMove rfl rfl)) ?_
            refine ARL.q0 (v := (ptrTo w34 m40 2)) rfl rfl (Light.quiet (kNilE hS (j := 2) rfl hm40 rfl rfl)) ?_
            refine ARL.q0 (v := (ptrOff w34 m40 2 0)) rfl rfl (Light.quiet (kFldC (p := 0) hS (j := 2) rfl hm40 rfl fieldA_137_0 rfl)) ?_
            refine ARL.q (v := (.int .i64 ((y33.getD m40 default)).point)) rfl rfl (hS.aliveR (k := 2) rfl) (Light.quiet (kLdPm (f := Tplace.av) hS (j := 2) rfl hm40 rfl aggA_3 rfl rfl)) ?_
            obtain ⟨a53, ha53, hF⟩ := bindE hF
            refine ARL.q0 (v := (.rptr [(.list 2 (List.map Tstep.av a53))])) rfl rfl (Light.quiet (kIx (f := (fun xs : (List Tstep) => AV.list 2 (List.map Tstep.av xs))) ha53 rfl rfl rfl elemA_114 sizeA_118 rfl)) ?_
            refine ARL.q0 (v := (.list 2 (List.map Tstep.av a53))) rfl rfl (Light.quiet (opLoadR rfl aggA_118 rfl rfl)) ?_
            refine ARL.q0 (v := (.int .i64 (a53.length : Int))) rfl rfl (Light.quiet (opLenMap (f := Tstep.av) rfl rfl rfl lenT_118 rfl)) ?_
            refine ARL.q0 (v := (.bool (decide ((((y33.getD m40 default)).at_) = ((a53.length : Int)))))) rfl rfl (Light.quiet (opInt rfl rfl rfl rfl)) ?_
            refine ARL.done ?_
            refine AWP.ifP hF rfl (fun hc43 hF => ?_) (fun hc43 hF => ?_)
            · skip
              refine AWP.seqR rfl ?_
              refine ASL.q (v := w30) rfl rfl (Light.quiet (opMove rfl rfl)) ?_
              refine ASL.q (v := (ptrTo w34 m40 2)) rfl rfl (Light.quiet (opMove rfl rfl)) ?_
              refine ASL.q (v := (ptrTo w34 m40 2)) rfl rfl (Light.quiet (kNilE hS (j := 2) rfl hm40 rfl rfl)) ?_
              refine ASL.q (v := (ptrOff w34 m40 2 0)) rfl rfl (Light.quiet (kFldC (p := 0) hS (j := 2) rfl hm40 rfl fieldA_137_0 rfl)) ?_
              refine ASL.q (v := (.int .i64 ((y33.getD m40 default)).point)) rfl rfl (Light.quiet (kLdPm (f := Tplace.av) hS (j := 2) rfl hm40 rfl aggA_3 rfl rfl)) ?_
              refine ASL.q (v := (.list 1 (List.map (AV.int .i64) [((y33.getD m40 default)).point]))) rfl rfl ((qLit (xs := [(.int .i64 ((y33.getD m40 default)).point)]) rfl elemA_34 sizeA_3 zeroA_3 rfl rfl rfl rfl (by simp [cells]) (nlt rfl))) ?_
              obtain ⟨z63, hz63, hF⟩ := bindE hF
              refine ASL.x rfl rfl (hApp (f := (AV.int .i64)) (ws := [((y33.getD m40 default)).point]) hS (j := 0) rfl hz63 rfl elemA_34 rfl sizeA_3 bytesA_3 zeroA_3 rfl rfl rfl (fun _ => rfl) ?_); rintro v63 G44 hS
              refine ASL.q (v := v63) rfl rfl (Light.quiet (opAssign rfl rfl)) ?_
              refine ASL.done ?_
              refine AWP.seqR rfl ?_
              refine ASL.q (v := w34) rfl rfl (Light.quiet (opMove rfl rfl)) ?_
              refine ASL.q (v := w34) rfl rfl (Light.quiet (opMove rfl rfl)) ?_
              refine ASL.q (v := (.int .i64 (y33.length : Int))) rfl rfl (Light.quiet (kLen hS (j := 2) rfl rfl rfl rfl lenT_138 rfl)) ?_
              refine ASL.q (v := (.int .i64 (W (((y33.length : Int)) - 1)))) rfl rfl (Light.quiet (opInt rfl rfl rfl rfl)) ?_
              obtain ⟨a68, ha68, hF⟩ := bindE hF
              refine ASL.x rfl rfl (hCutO (f := Tplace.av) hS (j := 2) rfl ha68 rfl elemA_138 sizeA_137 rfl (.inl ⟨rfl, rfl⟩) (.inr ⟨_, _, rfl, rfl, .inl rfl⟩) ?_); rintro v68 G46 hS
              refine ASL.q (v := v68) rfl rfl (Light.quiet (opAssign rfl rfl)) ?_
              refine ASL.done ?_
              refine AWP.exit ?_
              refine QThen.ext ?_
              refine QBlock.hit ?_
              refine QThen.nrm ?_
              exact ⟨(z63, y32, a68), (v63, v68), (someE hF).symm, ⟨rfl, rfl, rfl, rfl, rfl, rfl, trivial⟩, (hS.pick [0, 1, 2] rfl rfl)⟩
            · skip
              refine AWP.skip ?_
              refine QThen.nrm ?_
              refine AWP.seqD [(0, false), (1, false), (2, false), (3, false), (4, false), (5, false), (6, false), (7, false), (8, false), (9, false), (10, false), (11, false), (12, false), (13, false), (14, false), (15, false), (16, false), (17, false)] mixed (by kernel_rfl) rfl ?_
              refine ARL.q0 (v := (.rptr [(.list 1 (List.map (fun xs : (List Tstep) => AV.list 2 (List.map Tstep.av xs)) p0.next_))])) rfl rfl (Light.quiet (opMove rfl rfl)) ?_
              refine ARL.q0 (v := (.rptr [(.list 1 (List.map (fun xs : (List Tstep) => AV.list 2 (List.map Tstep.av xs)) p0.next_))])) rfl rfl (Light.quiet (opNil rfl rfl rfl)) ?_
              refine ARL.q0 (v := (.rptr [(.list 1 (List.map (fun xs : (List Tstep) => AV.list 2 (List.map Tstep.av xs)) p0.next_))])) rfl rfl (Light.quiet (opFieldAddrR rfl fieldA_116_0 rfl rfl)) ?_
              refine ARL.q0 (v := (.list 1 (List.map (fun xs : (List Tstep) => AV.list 2 (List.map Tstep.av xs)) p0.next_))) rfl rfl (Light.quiet (opLoadR rfl aggA_114 rfl rfl)) ?_
              refine ARL.q0 (v := (ptrTo w34 m40 2)) rfl rfl (Light.quiet (opMove rfl rfl)) ?_
              refine ARL.q0 (v := (ptrTo w34 m40 2)) rfl rfl (Light.quiet (kNilE hS (j := 2) rfl hm40 rfl rfl)) ?_
              refine ARL.q0 (v := (ptrOff w34 m40 2 0)) rfl rfl (Light.quiet (kFldC (p := 0) hS (j := 2) rfl hm40 rfl fieldA_137_0 rfl)) ?_
              refine ARL.q (v := (.int .i64 ((y33.getD m40 default)).point)) rfl rfl (hS.aliveR (k := 2) rfl) (Light.quiet (kLdPm (f := Tplace.av) hS (j := 2) rfl hm40 rfl aggA_3 rfl rfl)) ?_
              obtain ⟨a77, ha77, hF⟩ := bindE hF
              refine ARL.q0 (v := (.rptr [(.list 2 (List.map Tstep.av a77))])) rfl rfl (Light.quiet (kIx (f := (fun xs : (List Tstep) => AV.list 2 (List.map Tstep.av xs))) ha77 rfl rfl rfl elemA_114 sizeA_118 rfl)) ?_
              refine ARL.q0 (v := (.list 2 (List.map Tstep.av a77))) rfl rfl (Light.quiet (opLoadR rfl aggA_118 rfl rfl)) ?_
              refine ARL.q0 (v := (ptrTo w34 m40 2)) rfl rfl (Light.quiet (opMove rfl rfl)) ?_
              refine ARL.q0 (v := (ptrTo w34 m40 2)) rfl rfl (Light.quiet (kNilE hS (j := 2) rfl hm40 rfl rfl)) ?_
              refine ARL.q0 (v := (ptrOff w34 m40 2 1)) rfl rfl (Light.quiet (kFldC (p := 1) hS (j := 2) rfl hm40 rfl fieldA_137_1 rfl)) ?_
              refine ARL.q (v := (.int .i64 ((y33.getD m40 default)).at_)) rfl rfl (hS.aliveR (k := 2) rfl) (Light.quiet (kLdPm (f := Tplace.av) hS (j := 2) rfl hm40 rfl aggA_3 rfl rfl)) ?_
              obtain ⟨a83, ha83, hF⟩ := bindE hF
              refine ARL.q0 (v := (.rptr [(.int .i64 a83.to_), (.int .i64 a83.marks)])) rfl rfl (Light.quiet (kIx (f := Tstep.av) ha83 rfl rfl rfl elemA_118 sizeA_120 rfl)) ?_
              refine ARL.q0 (v := (.rptr [(.int .i64 a83.to_), (.int .i64 a83.marks)])) rfl rfl (Light.quiet (opFieldAddrR rfl fieldA_120_0 rfl rfl)) ?_
              refine ARL.q0 (v := (.int .i64 a83.to_)) rfl rfl (Light.quiet (opLoadR rfl aggA_3 rfl rfl)) ?_
              refine ARL.q0 (v := (.int .i64 a83.to_)) rfl rfl (Light.quiet (opAssign rfl rfl)) ?_
              refine ARL.done ?_
              refine AWP.seqR rfl ?_
              refine ASL.q (v := (ptrTo w34 m40 2)) rfl rfl (Light.quiet (opMove rfl rfl)) ?_
              refine ASL.q (v := (ptrTo w34 m40 2)) rfl rfl (Light.quiet (kNilE hS (j := 2) rfl hm40 rfl rfl)) ?_
              refine ASL.q (v := (ptrOff w34 m40 2 1)) rfl rfl (Light.quiet (kFldC (p := 1) hS (j := 2) rfl hm40 rfl fieldA_137_1 rfl)) ?_
              refine ASL.q (v := (.int .i64 ((y33.getD m40 default)).at_)) rfl rfl (Light.quiet (kLdPm (f := Tplace.av) hS (j := 2) rfl hm40 rfl aggA_3 rfl rfl)) ?_
              refine ASL.q (v := (.int .i64 (W ((((y33.getD m40 default)).at_) + 1)))) rfl rfl (Light.quiet (opInt rfl rfl rfl rfl)) ?_
              refine ASL.q (v := (ptrTo w34 m40 2)) rfl rfl (Light.quiet (kNilE hS (j := 2) rfl hm40 rfl rfl)) ?_
              refine ASL.q (v := (ptrOff w34 m40 2 1)) rfl rfl (Light.quiet (kFldC (p := 1) hS (j := 2) rfl hm40 rfl fieldA_137_1 rfl)) ?_
              refine ASL.n rfl rfl (hStF (f := Tplace.av) (g := (fun q : Tplace => { q with at_ := (W ((((y33.getD m40 default)).at_) + 1)) })) (p := 1) hS (j := 2) rfl hm40 rfl sizeA_3 rfl rfl (fun _ => ⟨_, rfl, nlt rfl, rfl⟩) rfl ?_); rintro G48 hS
              refine ASL.done ?_
              refine AWP.seqR rfl ?_
              refine ASL.q (v := v14) rfl rfl (Light.quiet (opMove rfl rfl)) ?_
              refine ASL.q (v := (.int .i64 a83.to_)) rfl rfl (Light.quiet (opMove rfl rfl)) ?_
              obtain ⟨a95, ha95, hF⟩ := bindE hF
              refine ASL.q (v := (ptrTo v14 a83.to_.toNat 1)) rfl rfl (Light.quiet (kIxOx hS (j := 1) rfl ha95 rfl rfl rfl elemA_96 sizeA_4)) ?_
              refine ASL.q (v := (.bool a95)) rfl rfl (Light.quiet (kLd (f := AV.bool) hS (j := 1) rfl ha95 rfl aggA_4 rfl (fun _ => rfl))) ?_
              refine ASL.q (v := (.bool (!a95))) rfl rfl (Light.quiet (opNot rfl rfl)) ?_
              refine ASL.done ?_
              refine AWP.ifB hF rfl (fun hc49 hF => ?_) (fun hc49 hF => ?_)
              · skip
                refine AWP.seqR rfl ?_
                refine ASL.q (v := v14) rfl rfl (Light.quiet (opMove rfl rfl)) ?_
                refine ASL.q (v := (.int .i64 a83.to_)) rfl rfl (Light.quiet (opMove rfl rfl)) ?_
                obtain ⟨m100, hm100, hF⟩ := bindE hF
                refine ASL.q (v := (ptrTo v14 m100 1)) rfl rfl (Light.quiet (kIxO hS (j := 1) rfl hm100 rfl rfl rfl elemA_96 sizeA_4)) ?_
                refine ASL.n rfl rfl (hSt (f := AV.bool) (a := true) hS (j := 1) rfl hm100 rfl sizeA_4 rfl rfl ⟨rfl, rfl, rfl⟩ ?_); rintro G50 hS
                refine ASL.done ?_
                refine AWP.lastR rfl ?_
                refine ASL.q (v := w34) rfl rfl (Light.quiet (opMove rfl rfl)) ?_
                refine ASL.q (v := (.int .i64 a83.to_)) rfl rfl (Light.quiet (opMove rfl rfl)) ?_
                refine ASL.q (v := (.agg [(.int .i64 a83.to_), (.int .i64 0)])) rfl rfl (Light.quiet (opBuildZ (zs := [(.int .i64 0), (.int .i64 0)]) rfl plan_137 zeroA_137 ⟨.inl rfl, .inl rfl, trivial⟩ rfl)) ?_
                refine ASL.q (v := (.list 2 (List.map Tplace.av [(Tplace.mk a83.to_ 0)]))) rfl rfl ((qLit (xs := [(.agg [(.int .i64 a83.to_), (.int .i64 0)])]) rfl elemA_138 sizeA_137 zeroA_137 rfl rfl rfl rfl (by simp [cells, Tplace.av]) (nlt rfl))) ?_
                obtain ⟨z105, hz105, hF⟩ := bindE hF
                refine ASL.x rfl rfl (hApp (f := Tplace.av) (ws := [(Tplace.mk a83.to_ 0)]) hS (j := 2) rfl hz105 rfl elemA_138 rfl sizeA_137 bytesA_137 zeroA_137 rfl rfl rfl (fun _ => rfl) ?_); rintro v105 G51 hS
                refine ASL.q (v := v105) rfl rfl (Light.quiet (opAssign rfl rfl)) ?_
                refine ASL.done ?_
                refine QBlock.nrm ?_
                refine QThen.nrm ?_
                exact ⟨(y29, (y32.set m100 true), z105), (w30, v105), (someE hF).symm, ⟨rfl, rfl, rfl, rfl, rfl, rfl, trivial⟩, (hS.pick [0, 1, 2] rfl rfl)⟩
              · skip
                refine AWP.skip ?_
                refine QBlock.nrm ?_
                refine QThen.nrm ?_
                exact ⟨(y29, y32, (y33.set m40 ((fun q : Tplace => { q with at_ := (W ((((y33.getD m40 default)).at_) + 1)) }) (y33.getD m40 default)))), (w30, w34), (someE hF).symm, ⟨rfl, rfl, rfl, rfl, rfl, rfl, trivial⟩, (hS.pick [0, 1, 2] rfl rfl)⟩
          · skip
            refine AWP.exit ?_
            refine QThen.ext ?_
            refine QThen.ext ?_
            refine QBlock.hit ?_
            obtain rfl := (hx37 _ (someE hF).symm)
            have hF := hR40
            refine QBlock.nrm ?_
            refine QThen.nrm ?_
            exact ⟨y29, y32, w30, ⟨rfl, rfl, rfl, rfl, rfl, trivial⟩, (hS.pick [0, 1] rfl rfl), hF⟩
    · skip
      refine AWP.exit ?_
      refine QThen.ext ?_
      refine QThen.ext ?_
      refine QBlock.hit ?_
      obtain rfl := (hx14 _ (someE hF).symm)
      have hF := hR17
      refine QThen.nrm ?_
      exact ⟨y9, w10, ⟨rfl, trivial⟩, (hS.pick [0] rfl rfl), hF⟩

set_option maxRecDepth 10000 in
theorem impl_graph_back_ok {p0 : Tgraph} {r : Tgraph} (hF : impl_graph_back p0 = some r) : PC Try.prog 94 [(.rptr [(.list 1 (List.map (fun xs : (List Tstep) => AV.list 2 (List.map Tstep.av xs)) p0.next_))])] fun v => v = (.rptr [(.list 1 (List.map (fun xs : (List Tstep) => AV.list 2 (List.map Tstep.av xs)) r.next_))]) := by
  refine PC.enter Try.func94 rfl Try.ntmps94 (by simp) ?_
  have hS := Sep.void; unfold impl_graph_back at hF
  refine AWP.seqR rfl ?_
  refine ASL.q (v := .nilptr) rfl rfl (Light.quiet (opAssign rfl rfl)) ?_
  refine ASL.done ?_
  refine AWP.seqR rfl ?_
  refine ASL.q (v := (.rptr [(.list 1 (List.map (fun xs : (List Tstep) => AV.list 2 (List.map Tstep.av xs)) p0.next_))])) rfl rfl (Light.quiet (opMove rfl rfl)) ?_
  refine ASL.q (v := (.rptr [(.list 1 (List.map (fun xs : (List Tstep) => AV.list 2 (List.map Tstep.av xs)) p0.next_))])) rfl rfl (Light.quiet (opNil rfl rfl rfl)) ?_
  refine ASL.q (v := (.rptr [(.list 1 (List.map (fun xs : (List Tstep) => AV.list 2 (List.map Tstep.av xs)) p0.next_))])) rfl rfl (Light.quiet (opFieldAddrR rfl fieldA_116_0 rfl rfl)) ?_
  refine ASL.q (v := (.list 1 (List.map (fun xs : (List Tstep) => AV.list 2 (List.map Tstep.av xs)) p0.next_))) rfl rfl (Light.quiet (opLoadR rfl aggA_114 rfl rfl)) ?_
  refine ASL.q (v := (.int .i64 (p0.next_.length : Int))) rfl rfl (Light.quiet (opLenMap (f := (fun xs : (List Tstep) => AV.list 2 (List.map Tstep.av xs))) rfl rfl rfl lenT_114 rfl)) ?_
  obtain ⟨a13, ha13, hF⟩ := bindE hF
  refine ASL.x rfl rfl (hCallS hS [] (F := []) rfl rfl rfl call_97 (impl_graphOf_ok ha13) rfl rfl ?_); rintro _ _ G6 ⟨bq1, w3, w5, rfl, rfl⟩ hS
  refine ASL.q (v := (.ptr bq1 0)) rfl rfl (Light.quiet (opAssign rfl rfl)) ?_
  refine ASL.done ?_
  refine AWP.seqM (fun e H => ∃ y7 : (List (List Tstep)), ∃ w8 : AV, ∃ w10 : List AV, E.Told e [(3, (.ptr bq1 0))] ∧ E.Sep H [.rows 2 w8 w10 (List.map (List.map Tstep.av) y7) none, .cell bq1 [w8]] ∧ impl_graph_back.k0 y7 = some r) ?_ ?_
  · rintro e0 G13 ⟨y7, w8, w10, hT, hS, hF⟩; refine AWP.only _ hT ?_; unfold impl_graph_back.k0 at hF
    refine AWP.seqR rfl ?_
    refine ASL.q (v := (.ptr bq1 0)) rfl rfl (Light.quiet (opMove rfl rfl)) ?_
    refine ASL.q (v := (.ptr bq1 0)) rfl rfl (Light.quiet (opAssign rfl rfl)) ?_
    refine ASL.done ?_
    refine AWP.frzRows (L' := [.cell bq1 [(.list 1 (List.map (fun xs : (List Tstep) => AV.list 2 (List.map Tstep.av xs)) y7))]]) hS (k := 0) rfl [(2, (.ptr bq1 0))] ⟨.inl rfl, trivial⟩ ⟨⟨_, rfl, ⟨.inr ⟨rfl, rfl⟩, trivial⟩⟩, trivial⟩ (fun G11 hS => ?_)
    refine AWP.frzCell (L' := []) hS (k := 0) rfl [(2, (.rptr [(.list 1 (List.map (fun xs : (List Tstep) => AV.list 2 (List.map Tstep.av xs)) y7))]))] ⟨.inr (.inl ⟨rfl, rfl⟩), trivial⟩ trivial (fun G12 hS => ?_)
    refine AWP.ret ?_
    obtain rfl := someE hF
    exact QRet.sole (v := (.rptr [(.list 1 (List.map (fun xs : (List Tstep) => AV.list 2 (List.map Tstep.av xs)) y7))])) ⟨rfl, trivial⟩ rfl
  · skip
    refine AWP.seqR rfl ?_
    refine ASL.q (v := (.rptr [(.list 1 (List.map (fun xs : (List Tstep) => AV.list 2 (List.map Tstep.av xs)) p0.next_))])) rfl rfl (Light.quiet (opMove rfl rfl)) ?_
    refine ASL.q (v := (.rptr [(.list 1 (List.map (fun xs : (List Tstep) => AV.list 2 (List.map Tstep.av xs)) p0.next_))])) rfl rfl (Light.quiet (opNil rfl rfl rfl)) ?_
    refine ASL.q (v := (.rptr [(.list 1 (List.map (fun xs : (List Tstep) => AV.list 2 (List.map Tstep.av xs)) p0.next_))])) rfl rfl (Light.quiet (opFieldAddrR rfl fieldA_116_0 rfl rfl)) ?_
    refine ASL.q (v := (.list 1 (List.map (fun xs : (List Tstep) => AV.list 2 (List.map Tstep.av xs)) p0.next_))) rfl rfl (Light.quiet (opLoadR rfl aggA_114 rfl rfl)) ?_
    refine ASL.q (v := (.int .i64 (p0.next_.length : Int))) rfl rfl (Light.quiet (opLenMap (f := (fun xs : (List Tstep) => AV.list 2 (List.map Tstep.av xs))) rfl rfl rfl lenT_114 rfl)) ?_
    refine ASL.q (v := (.int .i64 0)) rfl rfl (Light.quiet (opMove rfl rfl)) ?_
    refine ASL.done ?_
    refine AWP.block ?_
    obtain ⟨o21, hL20, hR22⟩ := bindE hF
    refine AWP.loopF (ω := (AV × (List AV))) hL20 (fun s w => [(3, (.ptr bq1 0)), (17, (.list 1 (List.map (fun xs : (List Tstep) => AV.list 2 (List.map Tstep.av xs)) p0.next_))), (18, (.int .i64 (p0.next_.length : Int))), (19, (.int .i64 s.2))]) (fun s w => [.rows 2 w.1 w.2 (List.map (List.map Tstep.av) s.1) none, .cell bq1 [w.1]]) (w3, w5) ⟨rfl, rfl, rfl, rfl, trivial⟩ (hS.pick [1, 0] rfl rfl) ?_
    rintro ⟨y14, x19_l0⟩ ⟨w15, w17⟩ G23 hS x18 hF hx19
    try dsimp only at hS ⊢
    have hF : impl_graph_back.b0 p0 y14 x19_l0 = some x18 := hF; unfold impl_graph_back.b0 at hF
    refine AWP.seqR rfl ?_
    refine ASL.q (v := (.bool (decide (x19_l0 < ((p0.next_.length : Int)))))) rfl rfl (Light.quiet (opInt rfl rfl rfl rfl)) ?_
    refine ASL.done ?_
    refine AWP.seq ?_
    refine AWP.ifP hF rfl (fun hc24 hF => ?_) (fun hc24 hF => ?_)
    · skip
      refine AWP.skip ?_
      refine QThen.nrm ?_
      refine AWP.seqM (fun e H => ∃ y25 : (List (List Tstep)), ∃ w26 : AV, ∃ w28 : List AV, E.Told e [(3, (.ptr bq1 0)), (17, (.list 1 (List.map (fun xs : (List Tstep) => AV.list 2 (List.map Tstep.av xs)) p0.next_))), (18, (.int .i64 (p0.next_.length : Int))), (19, (.int .i64 x19_l0))] ∧ E.Sep H [.rows 2 w26 w28 (List.map (List.map Tstep.av) y25) none, .cell bq1 [w26]] ∧ impl_graph_back.k1 x19_l0 y25 = some x18) ?_ ?_
      · rintro e0 G29 ⟨y25, w26, w28, hT, hS, hF⟩; refine AWP.only _ hT ?_; unfold impl_graph_back.k1 at hF
        refine AWP.lastR rfl ?_
        refine ASL.q (v := (.int .i64 (W (x19_l0 + 1)))) rfl rfl (Light.quiet (opInt rfl rfl rfl rfl)) ?_
        refine ASL.q (v := (.int .i64 (W (x19_l0 + 1)))) rfl rfl (Light.quiet (opMove rfl rfl)) ?_
        refine ASL.done ?_
        refine QThen.nrm ?_
        exact ⟨(y25, (W (x19_l0 + 1))), (w26, w28), (someE hF).symm, ⟨rfl, rfl, rfl, rfl, trivial⟩, (hS.pick [0, 1] rfl rfl)⟩
      · skip
        refine AWP.block ?_
        refine AWP.seqR rfl ?_
        refine ASL.q (v := (.int .i64 x19_l0)) rfl rfl (Light.quiet (opMove rfl rfl)) ?_
        obtain ⟨a22, ha22, hF⟩ := bindE hF
        refine ASL.q (v := (.rptr [(.list 2 (List.map Tstep.av a22))])) rfl rfl (Light.quiet (kIx (f := (fun xs : (List Tstep) => AV.list 2 (List.map Tstep.av xs))) ha22 rfl rfl rfl elemA_114 sizeA_118 rfl)) ?_
        refine ASL.q (v := (.list 2 (List.map Tstep.av a22))) rfl rfl (Light.quiet (opLoadR rfl aggA_118 rfl rfl)) ?_
        refine ASL.q (v := (.int .i64 x19_l0)) rfl rfl (Light.quiet (opAssign rfl rfl)) ?_
        refine ASL.q (v := (.list 2 (List.map Tstep.av a22))) rfl rfl (Light.quiet (opAssign rfl rfl)) ?_
        refine ASL.done ?_
        refine AWP.seqR rfl ?_
        refine ASL.q (v := (.list 2 (List.map Tstep.av a22))) rfl rfl (Light.quiet (opMove rfl rfl)) ?_
        refine ASL.q (v := (.int .i64 (a22.length : Int))) rfl rfl (Light.quiet (opLenMap (f := Tstep.av) rfl rfl rfl lenT_118 rfl)) ?_
        refine ASL.q (v := (.int .i64 0)) rfl rfl (Light.quiet (opMove rfl rfl)) ?_
        refine ASL.done ?_
        refine AWP.block ?_
        obtain ⟨o37, hL36, hR38⟩ := bindE hF
        refine AWP.loopF (ω := (AV × (List AV))) hL36 (fun s w => [(3, (.ptr bq1 0)), (4, (.int .i64 x19_l0)), (17, (.list 1 (List.map (fun xs : (List Tstep) => AV.list 2 (List.map Tstep.av xs)) p0.next_))), (18, (.int .i64 (p0.next_.length : Int))), (19, (.int .i64 x19_l0)), (24, (.list 2 (List.map Tstep.av a22))), (25, (.int .i64 (a22.length : Int))), (26, (.int .i64 s.2))]) (fun s w => [.rows 2 w.1 w.2 (List.map (List.map Tstep.av) s.1) none, .cell bq1 [w.1]]) (w15, w17) ⟨rfl, rfl, rfl, rfl, rfl, rfl, rfl, rfl, trivial⟩ (hS.pick [0, 1] rfl rfl) ?_
        rintro ⟨y30, x26_l1⟩ ⟨w31, w33⟩ G39 hS x34 hF hx35
        try dsimp only at hS ⊢
        have hF : impl_graph_back.b1 a22 x19_l0 y30 x26_l1 = some x34 := hF; unfold impl_graph_back.b1 at hF
        refine AWP.seqR rfl ?_
        refine ASL.q (v := (.bool (decide (x26_l1 < ((a22.length : Int)))))) rfl rfl (Light.quiet (opInt rfl rfl rfl rfl)) ?_
        refine ASL.done ?_
        refine AWP.seq ?_
        refine AWP.ifP hF rfl (fun hc40 hF => ?_) (fun hc40 hF => ?_)
        · skip
          refine AWP.skip ?_
          refine QThen.nrm ?_
          refine AWP.seq ?_
          refine AWP.block ?_
          refine AWP.seqR rfl ?_
          obtain ⟨a28, ha28, hF⟩ := bindE hF
          refine ASL.q (v := (.rptr [(.int .i64 a28.to_), (.int .i64 a28.marks)])) rfl rfl (Light.quiet (kIx (f := Tstep.av) ha28 rfl rfl rfl elemA_118 sizeA_120 rfl)) ?_
          refine ASL.q (v := (Tstep.av a28)) rfl rfl (Light.quiet (opLoadRA rfl aggA_120 sizeA_120 rfl (nlt rfl) rfl)) ?_
          refine ASL.x rfl rfl (hNewZ hS [(.int .i64 0), (.int .i64 0)] rfl zeroA_120 ⟨.inl rfl, .inl rfl, trivial⟩ ?_); rintro b7 G41 hK hS
          refine ASL.n rfl rfl (hPutA hS (j := 0) rfl rfl sizeA_120 rfl rfl rfl rfl rfl (nlt rfl) ?_); rintro G43 hS
          refine ASL.done ?_
          refine AWP.lastR rfl ?_
          refine ASL.q (v := (.ptr bq1 0)) rfl rfl (Light.quiet (opMove rfl rfl)) ?_
          refine ASL.q (v := (.ptr b7 0)) rfl rfl (Light.quiet (opFieldAddr rfl fieldA_120_0 rfl rfl)) ?_
          refine ASL.q (v := (.int .i64 a28.to_)) rfl rfl (Light.quiet (kAt hS (j := 0) rfl rfl aggA_3 rfl rfl)) ?_
          refine ASL.q (v := (.int .i64 x19_l0)) rfl rfl (Light.quiet (opMove rfl rfl)) ?_
          refine ASL.q (v := (.ptr b7 1)) rfl rfl (Light.quiet (opFieldAddr rfl fieldA_120_1 rfl rfl)) ?_
          refine ASL.q (v := (.int .i64 a28.marks)) rfl rfl (Light.quiet (kAt hS (j := 0) rfl rfl aggA_3 rfl rfl)) ?_
          obtain ⟨a36, ha36, hF⟩ := bindE hF
          refine ASL.x rfl rfl (hCallS hS [2, 1, 0] (F := [.cell b7 [(.int .i64 a28.to_), (.int .i64 a28.marks)]]) rfl rfl rfl call_98 (impl_graph_add_ok ha36) rfl rfl ?_); rintro _ _ G47 ⟨w44, w46, rfl, rfl⟩ hS
          refine ASL.done ?_
          refine QBlock.nrm ?_
          refine QThen.nrm ?_
          refine AWP.lastR rfl ?_
          refine ASL.q (v := (.int .i64 (W (x26_l1 + 1)))) rfl rfl (Light.quiet (opInt rfl rfl rfl rfl)) ?_
          refine ASL.q (v := (.int .i64 (W (x26_l1 + 1)))) rfl rfl (Light.quiet (opMove rfl rfl)) ?_
          refine ASL.done ?_
          refine QThen.nrm ?_
          exact ⟨(a36.next_, (W (x26_l1 + 1))), (w44, w46), (someE hF).symm, ⟨rfl, rfl, rfl, rfl, rfl, rfl, rfl, rfl, trivial⟩, (hS.pick [1, 0] rfl rfl)⟩
        · skip
          refine AWP.exit ?_
          refine QThen.ext ?_
          refine QThen.ext ?_
          refine QBlock.hit ?_
          obtain rfl := (hx35 _ (someE hF).symm)
          have hF := hR38
          refine QBlock.nrm ?_
          refine QThen.nrm ?_
          exact ⟨y30, w31, w33, ⟨rfl, rfl, rfl, rfl, trivial⟩, (hS.pick [0, 1] rfl rfl), hF⟩
    · skip
      refine AWP.exit ?_
      refine QThen.ext ?_
      refine QThen.ext ?_
      refine QBlock.hit ?_
      obtain rfl := (hx19 _ (someE hF).symm)
      have hF := hR22
      refine QThen.nrm ?_
      exact ⟨y14, w15, w17, ⟨rfl, trivial⟩, (hS.pick [0, 1] rfl rfl), hF⟩

set_option maxRecDepth 10000 in
theorem slices_Reverse_int_int_ok {p0 : (List Int)} {r : (List Int)} {vp0 : AV} (hF : slices_Reverse_int_int p0 = some r) : HS Try.prog 100 [vp0] [.row 1 vp0 (List.map (AV.int .i64) p0)] fun v L' => v = .tup [] ∧ L' = [.row 1 vp0 (List.map (AV.int .i64) r)] := by
  intro H S hS
  refine HC.enter Try.func100 rfl Try.ntmps100 (by simp) ?_
  simp only [List.cons_append, List.nil_append] at hS
  unfold slices_Reverse_int_int at hF
  refine AWP.seqR rfl ?_
  refine ASL.q (v := vp0) rfl rfl (Light.quiet (opMove rfl rfl)) ?_
  refine ASL.q (v := (.int .i64 (p0.length : Int))) rfl rfl (Light.quiet (kLen hS (j := 0) rfl rfl rfl rfl lenT_34 rfl)) ?_
  refine ASL.q (v := (.int .i64 (W (((p0.length : Int)) - 1)))) rfl rfl (Light.quiet (opInt rfl rfl rfl rfl)) ?_
  refine ASL.q (v := (.int .i64 0)) rfl rfl (Light.quiet (opAssign rfl rfl)) ?_
  refine ASL.q (v := (.int .i64 (W (((p0.length : Int)) - 1)))) rfl rfl (Light.quiet (opAssign rfl rfl)) ?_
  refine ASL.done ?_
  refine AWP.block ?_
  obtain ⟨o6, hL5, hR7⟩ := bindE hF
  refine AWP.loopF (ω := Unit) hL5 (fun s w => [(0, vp0), (2, (.int .i64 s.2.1)), (3, (.int .i64 s.2.2))]) (fun s w => [.row 1 vp0 (List.map (AV.int .i64) s.1), .snap S]) () ⟨rfl, rfl, rfl, trivial⟩ (hS.pick [0, 1] rfl rfl) ?_
  rintro ⟨y2, x2_l0, x3_l0⟩ _ G8 hS x3 hF hx4
  try dsimp only at hS ⊢
  have hF : slices_Reverse_int_int.b0 y2 x2_l0 x3_l0 = some x3 := hF; unfold slices_Reverse_int_int.b0 at hF
  refine AWP.seq ?_
  refine AWP.seqR rfl ?_
  refine ASL.q (v := (.int .i64 x2_l0)) rfl rfl (Light.quiet (opMove rfl rfl)) ?_
  refine ASL.q (v := (.int .i64 x3_l0)) rfl rfl (Light.quiet (opMove rfl rfl)) ?_
  refine ASL.q (v := (.bool (decide (x2_l0 < x3_l0)))) rfl rfl (Light.quiet (opInt rfl rfl rfl rfl)) ?_
  refine ASL.done ?_
  refine AWP.ifP hF rfl (fun hc9 hF => ?_) (fun hc9 hF => ?_)
  · skip
    refine AWP.skip ?_
    refine QThen.nrm ?_
    refine AWP.seq ?_
    refine AWP.block ?_
    refine AWP.lastD [(0, false), (1, false), (2, false), (3, false), (4, false), (5, false), (6, false), (7, false), (8, false), (9, false), (10, false), (11, false), (12, false), (13, true), (14, false), (15, true)] mixed (by kernel_rfl) rfl ?_
    refine ARL.q0 (v := vp0) rfl rfl (Light.quiet (opMove rfl rfl)) ?_
    refine ARL.q0 (v := (.int .i64 x2_l0)) rfl rfl (Light.quiet (opMove rfl rfl)) ?_
    refine ARL.q0 (v := vp0) rfl rfl (Light.quiet (opMove rfl rfl)) ?_
    refine ARL.q0 (v := (.int .i64 x3_l0)) rfl rfl (Light.quiet (opMove rfl rfl)) ?_
    refine ARL.q0 (v := vp0) rfl rfl (Light.quiet (opMove rfl rfl)) ?_
    refine ARL.q0 (v := (.int .i64 x3_l0)) rfl rfl (Light.quiet (opMove rfl rfl)) ?_
    obtain ⟨a20, ha20, hF⟩ := bindE hF
    refine ARL.q0 (v := (ptrTo vp0 x3_l0.toNat 1)) rfl rfl (Light.quiet (kIxOx hS (j := 0) rfl ha20 rfl rfl rfl elemA_34 sizeA_3)) ?_
    refine ARL.q (v := (.int .i64 a20)) rfl rfl (hS.aliveR (k := 0) rfl) (Light.quiet (kLd (f := (AV.int .i64)) hS (j := 0) rfl ha20 rfl aggA_3 rfl (fun _ => rfl))) ?_
    refine ARL.q0 (v := vp0) rfl rfl (Light.quiet (opMove rfl rfl)) ?_
    refine ARL.q0 (v := (.int .i64 x2_l0)) rfl rfl (Light.quiet (opMove rfl rfl)) ?_
    obtain ⟨a24, ha24, hF⟩ := bindE hF
    refine ARL.q0 (v := (ptrTo vp0 x2_l0.toNat 1)) rfl rfl (Light.quiet (kIxOx hS (j := 0) rfl ha24 rfl rfl rfl elemA_34 sizeA_3)) ?_
    refine ARL.q (v := (.int .i64 a24)) rfl rfl (hS.aliveR (k := 0) rfl) (Light.quiet (kLd (f := (AV.int .i64)) hS (j := 0) rfl ha24 rfl aggA_3 rfl (fun _ => rfl))) ?_
    obtain ⟨m26, hm26, hF⟩ := bindE hF
    refine ARL.q0 (v := (ptrTo vp0 m26 1)) rfl rfl (Light.quiet (kIxO hS (j := 0) rfl hm26 rfl rfl rfl elemA_34 sizeA_3)) ?_
    refine ARL.n rfl rfl rfl rfl (hSt (f := (AV.int .i64)) (a := a20) hS (j := 0) rfl hm26 rfl sizeA_3 rfl rfl ⟨rfl, rfl, rfl⟩ ?_); rintro G10 hS
    obtain ⟨m27, hm27, hF⟩ := bindE hF
    refine ARL.q0 (v := (ptrTo vp0 m27 1)) rfl rfl (Light.quiet (kIxO hS (j := 0) rfl hm27 rfl rfl rfl elemA_34 sizeA_3)) ?_
    refine ARL.n rfl rfl rfl rfl (hSt (f := (AV.int .i64)) (a := a24) hS (j := 0) rfl hm27 rfl sizeA_3 rfl rfl ⟨rfl, rfl, rfl⟩ ?_); rintro G11 hS
    refine ARL.done ?_
    refine QBlock.nrm ?_
    refine QThen.nrm ?_
    refine AWP.lastR rfl ?_
    refine ASL.q (v := (.int .i64 x2_l0)) rfl rfl (Light.quiet (opMove rfl rfl)) ?_
    refine ASL.q (v := (.int .i64 (W (x2_l0 + 1)))) rfl rfl (Light.quiet (opInt rfl rfl rfl rfl)) ?_
    refine ASL.q (v := (.int .i64 x3_l0)) rfl rfl (Light.quiet (opMove rfl rfl)) ?_
    refine ASL.q (v := (.int .i64 (W (x3_l0 - 1)))) rfl rfl (Light.quiet (opInt rfl rfl rfl rfl)) ?_
    refine ASL.q (v := (.int .i64 (W (x2_l0 + 1)))) rfl rfl (Light.quiet (opAssign rfl rfl)) ?_
    refine ASL.q (v := (.int .i64 (W (x3_l0 - 1)))) rfl rfl (Light.quiet (opAssign rfl rfl)) ?_
    refine ASL.done ?_
    refine QThen.nrm ?_
    exact ⟨((((y2.set m26 a20)).set m27 a24), (W (x2_l0 + 1)), (W (x3_l0 - 1))), (), (someE hF).symm, ⟨rfl, rfl, rfl, trivial⟩, (hS.pick [0, 1] rfl rfl)⟩
  · skip
    refine AWP.exit ?_
    refine QThen.ext ?_
    refine QThen.ext ?_
    refine QBlock.hit ?_
    obtain rfl := (hx4 _ (someE hF).symm)
    have hF := hR7
    refine QRet.end ?_
    obtain rfl := someE hF
    exact QRet.many (vs := []) trivial (by simp) ⟨_, ⟨rfl, rfl⟩, hS.pick [0, 1] rfl rfl⟩

set_option maxRecDepth 10000 in
theorem impl_graph_rings_ok {p0 : Tgraph} {r : (List Int)} (hF : impl_graph_rings p0 = some r) : PO Try.prog 50 [(.rptr [(.list 1 (List.map (fun xs : (List Tstep) => AV.list 2 (List.map Tstep.av xs)) p0.next_))])] 1 (List.map (AV.int .i64) r) := by
  refine HC.enter Try.func50 rfl Try.ntmps50 (by simp) ?_
  have hS := Sep.void; unfold impl_graph_rings at hF
  refine AWP.seqR rfl ?_
  have hS := hNil (s := 1) (f := (AV.int .i64)) hS
  refine ASL.q (v := .nil) rfl rfl (Light.quiet (opAssign rfl rfl)) ?_
  refine ASL.done ?_
  refine AWP.seqR rfl ?_
  refine ASL.q (v := (.rptr [(.list 1 (List.map (fun xs : (List Tstep) => AV.list 2 (List.map Tstep.av xs)) p0.next_))])) rfl rfl (Light.quiet (opMove rfl rfl)) ?_
  obtain ⟨a14, ha14, hF⟩ := bindE hF
  refine ASL.x rfl rfl (hCallO hS rfl rfl call_99 (impl_graph_finished_ok ha14) rfl ?_); rintro v14 G2 hK hS
  refine ASL.q (v := v14) rfl rfl (Light.quiet (opAssign rfl rfl)) ?_
  refine ASL.done ?_
  refine AWP.seqR rfl ?_
  refine ASL.q (v := (.rptr [(.list 1 (List.map (fun xs : (List Tstep) => AV.list 2 (List.map Tstep.av xs)) p0.next_))])) rfl rfl (Light.quiet (opMove rfl rfl)) ?_
  obtain ⟨a16, ha16, hF⟩ := bindE hF
  refine ASL.q (v := (.rptr [(.list 1 (List.map (fun xs : (List Tstep) => AV.list 2 (List.map Tstep.av xs)) a16.next_))])) rfl rfl ((qCall rfl rfl call_94 (impl_graph_back_ok ha16) rfl)) ?_
  refine ASL.q (v := (.rptr [(.list 1 (List.map (fun xs : (List Tstep) => AV.list 2 (List.map Tstep.av xs)) a16.next_))])) rfl rfl (Light.quiet (opAssign rfl rfl)) ?_
  refine ASL.done ?_
  refine AWP.seqR rfl ?_
  refine ASL.q (v := (.rptr [(.list 1 (List.map (fun xs : (List Tstep) => AV.list 2 (List.map Tstep.av xs)) p0.next_))])) rfl rfl (Light.quiet (opMove rfl rfl)) ?_
  refine ASL.q (v := (.rptr [(.list 1 (List.map (fun xs : (List Tstep) => AV.list 2 (List.map Tstep.av xs)) p0.next_))])) rfl rfl (Light.quiet (opNil rfl rfl rfl)) ?_
  refine ASL.q (v := (.rptr [(.list 1 (List.map (fun xs : (List Tstep) => AV.list 2 (List.map Tstep.av xs)) p0.next_))])) rfl rfl (Light.quiet (opFieldAddrR rfl fieldA_116_0 rfl rfl)) ?_
  refine ASL.q (v := (.list 1 (List.map (fun xs : (List Tstep) => AV.list 2 (List.map Tstep.av xs)) p0.next_))) rfl rfl (Light.quiet (opLoadR rfl aggA_114 rfl rfl)) ?_
  refine ASL.q (v := (.int .i64 (p0.next_.length : Int))) rfl rfl (Light.quiet (opLenMap (f := (fun xs : (List Tstep) => AV.list 2 (List.map Tstep.av xs))) rfl rfl rfl lenT_114 rfl)) ?_
  obtain ⟨z22, hz22, hF⟩ := bindE hF
  refine ASL.x rfl rfl (hMk (f := (AV.int .i64)) hS hz22 (by decide) rfl elemA_34 sizeA_3 bytesA_3 zeroA_3 rfl rfl (by decide) rfl rfl ?_); rintro v22 G4 hK hS
  refine ASL.q (v := v22) rfl rfl (Light.quiet (opAssign rfl rfl)) ?_
  refine ASL.done ?_
  refine AWP.seqM (fun e H => ∃ y6 : (List Int), E.Told e [(3, v14), (4, (.rptr [(.list 1 (List.map (fun xs : (List Tstep) => AV.list 2 (List.map Tstep.av xs)) a16.next_))])), (5, v22)] ∧ E.Sep H [.row 1 v14 (List.map (AV.int .i64) a14), .row 1 v22 (List.map (AV.int .i64) y6)] ∧ impl_graph_rings.k0 a14 a16 y6 = some r) ?_ ?_
  · rintro e0 G55 ⟨y6, hT, hS, hF⟩; refine AWP.only _ hT ?_; unfold impl_graph_rings.k0 at hF
    refine AWP.seqR rfl ?_
    refine ASL.q (v := v14) rfl rfl (Light.quiet (opMove rfl rfl)) ?_
    obtain ⟨a33, ha33, hF⟩ := bindE hF
    refine ASL.x rfl rfl (hCallS hS [0, 1] (F := [.row 1 v22 (List.map (AV.int .i64) y6)]) rfl rfl rfl call_100 (slices_Reverse_int_int_ok ha33) rfl rfl ?_); rintro _ _ G7 ⟨rfl, rfl⟩ hS
    refine ASL.done ?_
    refine AWP.seqM (fun e H => ∃ y8 : (List Int), E.Told e [(5, v22)] ∧ E.Sep H [.row 1 v22 (List.map (AV.int .i64) y8)] ∧ impl_graph_rings.k1 y8 = some r) ?_ ?_
    · rintro e0 G9 ⟨y8, hT, hS, hF⟩; refine AWP.only _ hT ?_; unfold impl_graph_rings.k1 at hF
      refine AWP.seqR rfl ?_
      refine ASL.q (v := v22) rfl rfl (Light.quiet (opMove rfl rfl)) ?_
      refine ASL.q (v := v22) rfl rfl (Light.quiet (opAssign rfl rfl)) ?_
      refine ASL.done ?_
      refine AWP.ret ?_
      obtain rfl := someE hF
      exact QRet.sole (v := v22) ⟨rfl, trivial⟩ (hS.get (k := 0) rfl)
    · skip
      refine AWP.seqR rfl ?_
      refine ASL.q (v := v14) rfl rfl (Light.quiet (opMove rfl rfl)) ?_
      refine ASL.q (v := (.int .i64 (a33.length : Int))) rfl rfl (Light.quiet (kLen hS (j := 0) rfl rfl rfl rfl lenT_34 rfl)) ?_
      refine ASL.q (v := (.int .i64 0)) rfl rfl (Light.quiet (opMove rfl rfl)) ?_
      refine ASL.done ?_
      refine AWP.block ?_
      obtain ⟨o14, hL13, hR15⟩ := bindE hF
      refine AWP.loopF (ω := Unit) hL13 (fun s w => [(4, (.rptr [(.list 1 (List.map (fun xs : (List Tstep) => AV.list 2 (List.map Tstep.av xs)) a16.next_))])), (5, v22), (34, v14), (35, (.int .i64 (a33.length : Int))), (36, (.int .i64 s.2))]) (fun s w => [.row 1 v22 (List.map (AV.int .i64) s.1), .row 1 v14 (List.map (AV.int .i64) a33)]) () ⟨rfl, rfl, rfl, rfl, rfl, trivial⟩ (hS.pick [1, 0] rfl rfl) ?_
      rintro ⟨y10, x36_l0⟩ _ G16 hS x11 hF hx12
      try dsimp only at hS ⊢
      have hF : impl_graph_rings.b0 a33 a16 y10 x36_l0 = some x11 := hF; unfold impl_graph_rings.b0 at hF
      refine AWP.seqR rfl ?_
      refine ASL.q (v := (.bool (decide (x36_l0 < ((a33.length : Int)))))) rfl rfl (Light.quiet (opInt rfl rfl rfl rfl)) ?_
      refine ASL.done ?_
      refine AWP.seq ?_
      refine AWP.ifP hF rfl (fun hc17 hF => ?_) (fun hc17 hF => ?_)
      · skip
        refine AWP.skip ?_
        refine QThen.nrm ?_
        refine AWP.seqM (fun e H => ∃ y18 : (List Int), E.Told e [(4, (.rptr [(.list 1 (List.map (fun xs : (List Tstep) => AV.list 2 (List.map Tstep.av xs)) a16.next_))])), (5, v22), (34, v14), (35, (.int .i64 (a33.length : Int))), (36, (.int .i64 x36_l0))] ∧ E.Sep H [.row 1 v22 (List.map (AV.int .i64) y18), .row 1 v14 (List.map (AV.int .i64) a33)] ∧ impl_graph_rings.k2 x36_l0 y18 = some x11) ?_ ?_
        · rintro e0 G19 ⟨y18, hT, hS, hF⟩; refine AWP.only _ hT ?_; unfold impl_graph_rings.k2 at hF
          refine AWP.lastR rfl ?_
          refine ASL.q (v := (.int .i64 (W (x36_l0 + 1)))) rfl rfl (Light.quiet (opInt rfl rfl rfl rfl)) ?_
          refine ASL.q (v := (.int .i64 (W (x36_l0 + 1)))) rfl rfl (Light.quiet (opMove rfl rfl)) ?_
          refine ASL.done ?_
          refine QThen.nrm ?_
          exact ⟨(y18, (W (x36_l0 + 1))), (), (someE hF).symm, ⟨rfl, rfl, rfl, rfl, rfl, trivial⟩, (hS.pick [0, 1] rfl rfl)⟩
        · skip
          refine AWP.block ?_
          refine AWP.seqR rfl ?_
          refine ASL.q (v := (.int .i64 x36_l0)) rfl rfl (Light.quiet (opMove rfl rfl)) ?_
          obtain ⟨a39, ha39, hF⟩ := bindE hF
          refine ASL.q (v := (ptrTo v14 x36_l0.toNat 1)) rfl rfl (Light.quiet (kIxOx hS (j := 1) rfl ha39 rfl rfl rfl elemA_34 sizeA_3)) ?_
          refine ASL.q (v := (.int .i64 a39)) rfl rfl (Light.quiet (kLd (f := (AV.int .i64)) hS (j := 1) rfl ha39 rfl aggA_3 rfl (fun _ => rfl))) ?_
          refine ASL.q (v := (.int .i64 x36_l0)) rfl rfl (Light.quiet (opAssign rfl rfl)) ?_
          refine ASL.q (v := (.int .i64 a39)) rfl rfl (Light.quiet (opAssign rfl rfl)) ?_
          refine ASL.done ?_
          refine AWP.seq ?_
          refine AWP.seqR rfl ?_
          refine ASL.q (v := v22) rfl rfl (Light.quiet (opMove rfl rfl)) ?_
          refine ASL.q (v := (.int .i64 a39)) rfl rfl (Light.quiet (opMove rfl rfl)) ?_
          obtain ⟨a43, ha43, hF⟩ := bindE hF
          refine ASL.q (v := (ptrTo v22 a39.toNat 1)) rfl rfl (Light.quiet (kIxOx hS (j := 0) rfl ha43 rfl rfl rfl elemA_34 sizeA_3)) ?_
          refine ASL.q (v := (.int .i64 a43)) rfl rfl (Light.quiet (kLd (f := (AV.int .i64)) hS (j := 0) rfl ha43 rfl aggA_3 rfl (fun _ => rfl))) ?_
          refine ASL.q (v := (.bool (decide (a43 ≥ 0)))) rfl rfl (Light.quiet (opInt rfl rfl rfl rfl)) ?_
          refine ASL.done ?_
          refine AWP.ifP hF rfl (fun hc20 hF => ?_) (fun hc20 hF => ?_)
          · skip
            refine AWP.exit ?_
            refine QThen.ext ?_
            refine QBlock.hit ?_
            refine QThen.nrm ?_
            exact ⟨y10, ⟨rfl, rfl, rfl, rfl, rfl, trivial⟩, (hS.pick [0, 1] rfl rfl), hF⟩
          · skip
            refine AWP.skip ?_
            refine QThen.nrm ?_
            refine AWP.seqR rfl ?_
            refine ASL.q (v := v22) rfl rfl (Light.quiet (opMove rfl rfl)) ?_
            refine ASL.q (v := (.int .i64 a39)) rfl rfl (Light.quiet (opMove rfl rfl)) ?_
            refine ASL.q (v := (.int .i64 x36_l0)) rfl rfl (Light.quiet (opMove rfl rfl)) ?_
            obtain ⟨m49, hm49, hF⟩ := bindE hF
            refine ASL.q (v := (ptrTo v22 m49 1)) rfl rfl (Light.quiet (kIxO hS (j := 0) rfl hm49 rfl rfl rfl elemA_34 sizeA_3)) ?_
            refine ASL.n rfl rfl (hSt (f := (AV.int .i64)) (a := x36_l0) hS (j := 0) rfl hm49 rfl sizeA_3 rfl rfl ⟨rfl, rfl, rfl⟩ ?_); rintro G21 hS
            refine ASL.done ?_
            refine AWP.seqR rfl ?_
            refine ASL.q (v := (.int .i64 a39)) rfl rfl (Light.quiet (opMove rfl rfl)) ?_
            refine ASL.x rfl rfl (hLit (f := (AV.int .i64)) (zs := [a39]) hS rfl rfl elemA_34 sizeA_3 zeroA_3 rfl rfl rfl rfl (by simp [cells]) (nlt rfl) ?_); rintro v51 G22 hK hS
            refine ASL.q (v := v51) rfl rfl (Light.quiet (opAssign rfl rfl)) ?_
            refine ASL.done ?_
            refine AWP.block ?_
            obtain ⟨o31, hL30, hR32⟩ := bindE hF
            refine AWP.loopF (ω := AV) hL30 (fun s w => [(4, (.rptr [(.list 1 (List.map (fun xs : (List Tstep) => AV.list 2 (List.map Tstep.av xs)) a16.next_))])), (5, v22), (7, (.int .i64 x36_l0)), (9, w), (34, v14), (35, (.int .i64 (a33.length : Int))), (36, (.int .i64 x36_l0))]) (fun s w => [.row 1 v22 (List.map (AV.int .i64) s.1), .row 1 w (List.map (AV.int .i64) s.2), .row 1 v14 (List.map (AV.int .i64) a33)]) v51 ⟨rfl, rfl, rfl, rfl, rfl, rfl, rfl, trivial⟩ (hS.pick [1, 0, 2] rfl rfl) ?_
            rintro ⟨y24, y25⟩ w26 G33 hS x28 hF hx29
            try dsimp only at hS ⊢
            have hF : impl_graph_rings.b1 a16 x36_l0 y24 y25 = some x28 := hF; unfold impl_graph_rings.b1 at hF
            refine AWP.seq ?_
            refine AWP.seqR rfl ?_
            refine ASL.q (v := w26) rfl rfl (Light.quiet (opMove rfl rfl)) ?_
            refine ASL.q (v := (.int .i64 (y25.length : Int))) rfl rfl (Light.quiet (kLen hS (j := 1) rfl rfl rfl rfl lenT_34 rfl)) ?_
            refine ASL.q (v := (.bool (decide (((y25.length : Int)) > 0)))) rfl rfl (Light.quiet (opInt rfl rfl rfl rfl)) ?_
            refine ASL.done ?_
            refine AWP.ifP hF rfl (fun hc34 hF => ?_) (fun hc34 hF => ?_)
            · skip
              refine AWP.skip ?_
              refine QThen.nrm ?_
              refine AWP.block ?_
              refine AWP.seqR rfl ?_
              refine ASL.q (v := w26) rfl rfl (Light.quiet (opMove rfl rfl)) ?_
              refine ASL.q (v := w26) rfl rfl (Light.quiet (opMove rfl rfl)) ?_
              refine ASL.q (v := (.int .i64 (y25.length : Int))) rfl rfl (Light.quiet (kLen hS (j := 1) rfl rfl rfl rfl lenT_34 rfl)) ?_
              refine ASL.q (v := (.int .i64 (W (((y25.length : Int)) - 1)))) rfl rfl (Light.quiet (opInt rfl rfl rfl rfl)) ?_
              obtain ⟨a59, ha59, hF⟩ := bindE hF
              refine ASL.q (v := (ptrTo w26 ((W (((y25.length : Int)) - 1))).toNat 1)) rfl rfl (Light.quiet (kIxOx hS (j := 1) rfl ha59 rfl rfl rfl elemA_34 sizeA_3)) ?_
              refine ASL.q (v := (.int .i64 a59)) rfl rfl (Light.quiet (kLd (f := (AV.int .i64)) hS (j := 1) rfl ha59 rfl aggA_3 rfl (fun _ => rfl))) ?_
              refine ASL.q (v := (.int .i64 a59)) rfl rfl (Light.quiet (opAssign rfl rfl)) ?_
              refine ASL.done ?_
              refine AWP.seqR rfl ?_
              refine ASL.q (v := w26) rfl rfl (Light.quiet (opMove rfl rfl)) ?_
              refine ASL.q (v := w26) rfl rfl (Light.quiet (opMove rfl rfl)) ?_
              refine ASL.q (v := (.int .i64 (y25.length : Int))) rfl rfl (Light.quiet (kLen hS (j := 1) rfl rfl rfl rfl lenT_34 rfl)) ?_
              refine ASL.q (v := (.int .i64 (W (((y25.length : Int)) - 1)))) rfl rfl (Light.quiet (opInt rfl rfl rfl rfl)) ?_
              obtain ⟨a65, ha65, hF⟩ := bindE hF
              refine ASL.x rfl rfl (hCutO (f := (AV.int .i64)) hS (j := 1) rfl ha65 rfl elemA_34 sizeA_3 rfl (.inl ⟨rfl, rfl⟩) (.inr ⟨_, _, rfl, rfl, .inl rfl⟩) ?_); rintro v65 G35 hS
              refine ASL.q (v := v65) rfl rfl (Light.quiet (opAssign rfl rfl)) ?_
              refine ASL.done ?_
              refine AWP.seqR rfl ?_
              refine ASL.q (v := (.rptr [(.list 1 (List.map (fun xs : (List Tstep) => AV.list 2 (List.map Tstep.av xs)) a16.next_))])) rfl rfl (Light.quiet (opMove rfl rfl)) ?_
              refine ASL.q (v := (.rptr [(.list 1 (List.map (fun xs : (List Tstep) => AV.list 2 (List.map Tstep.av xs)) a16.next_))])) rfl rfl (Light.quiet (opNil rfl rfl rfl)) ?_
              refine ASL.q (v := (.rptr [(.list 1 (List.map (fun xs : (List Tstep) => AV.list 2 (List.map Tstep.av xs)) a16.next_))])) rfl rfl (Light.quiet (opFieldAddrR rfl fieldA_116_0 rfl rfl)) ?_
              refine ASL.q (v := (.list 1 (List.map (fun xs : (List Tstep) => AV.list 2 (List.map Tstep.av xs)) a16.next_))) rfl rfl (Light.quiet (opLoadR rfl aggA_114 rfl rfl)) ?_
              refine ASL.q (v := (.int .i64 a59)) rfl rfl (Light.quiet (opMove rfl rfl)) ?_
              obtain ⟨a71, ha71, hF⟩ := bindE hF
              refine ASL.q (v := (.rptr [(.list 2 (List.map Tstep.av a71))])) rfl rfl (Light.quiet (kIx (f := (fun xs : (List Tstep) => AV.list 2 (List.map Tstep.av xs))) ha71 rfl rfl rfl elemA_114 sizeA_118 rfl)) ?_
              refine ASL.q (v := (.list 2 (List.map Tstep.av a71))) rfl rfl (Light.quiet (opLoadR rfl aggA_118 rfl rfl)) ?_
              refine ASL.q (v := (.int .i64 (a71.length : Int))) rfl rfl (Light.quiet (opLenMap (f := Tstep.av) rfl rfl rfl lenT_118 rfl)) ?_
              refine ASL.q (v := (.int .i64 0)) rfl rfl (Light.quiet (opMove rfl rfl)) ?_
              refine ASL.done ?_
              refine AWP.block ?_
              obtain ⟨o44, hL43, hR45⟩ := bindE hF
              refine AWP.loopF (ω := AV) hL43 (fun s w => [(4, (.rptr [(.list 1 (List.map (fun xs : (List Tstep) => AV.list 2 (List.map Tstep.av xs)) a16.next_))])), (5, v22), (7, (.int .i64 x36_l0)), (9, w), (34, v14), (35, (.int .i64 (a33.length : Int))), (36, (.int .i64 x36_l0)), (72, (.list 2 (List.map Tstep.av a71))), (73, (.int .i64 (a71.length : Int))), (74, (.int .i64 s.2.2))]) (fun s w => [.row 1 v22 (List.map (AV.int .i64) s.1), .row 1 w (List.map (AV.int .i64) s.2.1), .row 1 v14 (List.map (AV.int .i64) a33)]) v65 ⟨rfl, rfl, rfl, rfl, rfl, rfl, rfl, rfl, rfl, rfl, trivial⟩ (hS.pick [0, 1, 2] rfl rfl) ?_
              rintro ⟨y37, y38, x74_l2⟩ w39 G46 hS x41 hF hx42
              try dsimp only at hS ⊢
              have hF : impl_graph_rings.b2 a71 x36_l0 y37 y38 x74_l2 = some x41 := hF; unfold impl_graph_rings.b2 at hF
              refine AWP.seqR rfl ?_
              refine ASL.q (v := (.bool (decide (x74_l2 < ((a71.length : Int)))))) rfl rfl (Light.quiet (opInt rfl rfl rfl rfl)) ?_
              refine ASL.done ?_
              refine AWP.seq ?_
              refine AWP.ifP hF rfl (fun hc47 hF => ?_) (fun hc47 hF => ?_)
              · skip
                refine AWP.skip ?_
                refine QThen.nrm ?_
                refine AWP.seq ?_
                refine AWP.block ?_
                refine AWP.seqR rfl ?_
                obtain ⟨a76, ha76, hF⟩ := bindE hF
                refine ASL.q (v := (.rptr [(.int .i64 a76.to_), (.int .i64 a76.marks)])) rfl rfl (Light.quiet (kIx (f := Tstep.av) ha76 rfl rfl rfl elemA_118 sizeA_120 rfl)) ?_
                refine ASL.q (v := (Tstep.av a76)) rfl rfl (Light.quiet (opLoadRA rfl aggA_120 sizeA_120 rfl (nlt rfl) rfl)) ?_
                refine ASL.x rfl rfl (hNewZ hS [(.int .i64 0), (.int .i64 0)] rfl zeroA_120 ⟨.inl rfl, .inl rfl, trivial⟩ ?_); rintro b12 G48 hK hS
                refine ASL.n rfl rfl (hPutA hS (j := 0) rfl rfl sizeA_120 rfl rfl rfl rfl rfl (nlt rfl) ?_); rintro G50 hS
                refine ASL.done ?_
                refine AWP.seqR rfl ?_
                refine ASL.q (v := v22) rfl rfl (Light.quiet (opMove rfl rfl)) ?_
                refine ASL.q (v := (.ptr b12 0)) rfl rfl (Light.quiet (opFieldAddr rfl fieldA_120_0 rfl rfl)) ?_
                refine ASL.q (v := (.int .i64 a76.to_)) rfl rfl (Light.quiet (kAt hS (j := 0) rfl rfl aggA_3 rfl rfl)) ?_
                obtain ⟨a81, ha81, hF⟩ := bindE hF
                refine ASL.q (v := (ptrTo v22 a76.to_.toNat 1)) rfl rfl (Light.quiet (kIxOx hS (j := 1) rfl ha81 rfl rfl rfl elemA_34 sizeA_3)) ?_
                refine ASL.q (v := (.int .i64 a81)) rfl rfl (Light.quiet (kLd (f := (AV.int .i64)) hS (j := 1) rfl ha81 rfl aggA_3 rfl (fun _ => rfl))) ?_
                refine ASL.q (v := (.bool (decide (a81 < 0)))) rfl rfl (Light.quiet (opInt rfl rfl rfl rfl)) ?_
                refine ASL.done ?_
                refine AWP.ifP hF rfl (fun hc51 hF => ?_) (fun hc51 hF => ?_)
                · skip
                  refine AWP.seqR rfl ?_
                  refine ASL.q (v := v22) rfl rfl (Light.quiet (opMove rfl rfl)) ?_
                  refine ASL.q (v := (.ptr b12 0)) rfl rfl (Light.quiet (opFieldAddr rfl fieldA_120_0 rfl rfl)) ?_
                  refine ASL.q (v := (.int .i64 a76.to_)) rfl rfl (Light.quiet (kAt hS (j := 0) rfl rfl aggA_3 rfl rfl)) ?_
                  refine ASL.q (v := (.int .i64 x36_l0)) rfl rfl (Light.quiet (opMove rfl rfl)) ?_
                  obtain ⟨m88, hm88, hF⟩ := bindE hF
                  refine ASL.q (v := (ptrTo v22 m88 1)) rfl rfl (Light.quiet (kIxO hS (j := 1) rfl hm88 rfl rfl rfl elemA_34 sizeA_3)) ?_
                  refine ASL.n rfl rfl (hSt (f := (AV.int .i64)) (a := x36_l0) hS (j := 1) rfl hm88 rfl sizeA_3 rfl rfl ⟨rfl, rfl, rfl⟩ ?_); rintro G52 hS
                  refine ASL.done ?_
                  refine AWP.lastR rfl ?_
                  refine ASL.q (v := w39) rfl rfl (Light.quiet (opMove rfl rfl)) ?_
                  refine ASL.q (v := (.ptr b12 0)) rfl rfl (Light.quiet (opFieldAddr rfl fieldA_120_0 rfl rfl)) ?_
                  refine ASL.q (v := (.int .i64 a76.to_)) rfl rfl (Light.quiet (kAt hS (j := 0) rfl rfl aggA_3 rfl rfl)) ?_
                  refine ASL.q (v := (.list 1 (List.map (AV.int .i64) [a76.to_]))) rfl rfl ((qLit (xs := [(.int .i64 a76.to_)]) rfl elemA_34 sizeA_3 zeroA_3 rfl rfl rfl rfl (by simp [cells]) (nlt rfl))) ?_
                  obtain ⟨z93, hz93, hF⟩ := bindE hF
                  refine ASL.x rfl rfl (hApp (f := (AV.int .i64)) (ws := [a76.to_]) hS (j := 2) rfl hz93 rfl elemA_34 rfl sizeA_3 bytesA_3 zeroA_3 rfl rfl rfl (fun _ => rfl) ?_); rintro v93 G53 hS
                  refine ASL.q (v := v93) rfl rfl (Light.quiet (opAssign rfl rfl)) ?_
                  refine ASL.done ?_
                  refine QBlock.nrm ?_
                  refine QThen.nrm ?_
                  refine AWP.lastR rfl ?_
                  refine ASL.q (v := (.int .i64 (W (x74_l2 + 1)))) rfl rfl (Light.quiet (opInt rfl rfl rfl rfl)) ?_
                  refine ASL.q (v := (.int .i64 (W (x74_l2 + 1)))) rfl rfl (Light.quiet (opMove rfl rfl)) ?_
                  refine ASL.done ?_
                  refine QThen.nrm ?_
                  exact ⟨((y37.set m88 x36_l0), z93, (W (x74_l2 + 1))), v93, (someE hF).symm, ⟨rfl, rfl, rfl, rfl, rfl, rfl, rfl, rfl, rfl, rfl, trivial⟩, (hS.pick [1, 2, 3] rfl rfl)⟩
                · skip
                  refine AWP.skip ?_
                  refine QBlock.nrm ?_
                  refine QThen.nrm ?_
                  refine AWP.lastR rfl ?_
                  refine ASL.q (v := (.int .i64 (W (x74_l2 + 1)))) rfl rfl (Light.quiet (opInt rfl rfl rfl rfl)) ?_
                  refine ASL.q (v := (.int .i64 (W (x74_l2 + 1)))) rfl rfl (Light.quiet (opMove rfl rfl)) ?_
                  refine ASL.done ?_
                  refine QThen.nrm ?_
                  exact ⟨(y37, y38, (W (x74_l2 + 1))), w39, (someE hF).symm, ⟨rfl, rfl, rfl, rfl, rfl, rfl, rfl, rfl, rfl, rfl, trivial⟩, (hS.pick [1, 2, 3] rfl rfl)⟩
              · skip
                refine AWP.exit ?_
                refine QThen.ext ?_
                refine QThen.ext ?_
                refine QBlock.hit ?_
                obtain rfl := (hx42 _ (someE hF).symm)
                have hF := hR45
                refine QBlock.nrm ?_
                refine QThen.nrm ?_
                exact ⟨(y37, y38), w39, (someE hF).symm, ⟨rfl, rfl, rfl, rfl, rfl, rfl, rfl, trivial⟩, (hS.pick [0, 1, 2] rfl rfl)⟩
            · skip
              refine AWP.exit ?_
              refine QThen.ext ?_
              refine QThen.ext ?_
              refine QBlock.hit ?_
              obtain rfl := (hx29 _ (someE hF).symm)
              have hF := hR32
              refine QBlock.nrm ?_
              refine QThen.nrm ?_
              exact ⟨y24, ⟨rfl, rfl, rfl, rfl, rfl, trivial⟩, (hS.pick [0, 2] rfl rfl), hF⟩
      · skip
        refine AWP.exit ?_
        refine QThen.ext ?_
        refine QThen.ext ?_
        refine QBlock.hit ?_
        obtain rfl := (hx12 _ (someE hF).symm)
        have hF := hR15
        refine QThen.nrm ?_
        exact ⟨y10, ⟨rfl, trivial⟩, (hS.pick [0] rfl rfl), hF⟩
  · skip
    refine AWP.seqR rfl ?_
    refine ASL.q (v := v22) rfl rfl (Light.quiet (opMove rfl rfl)) ?_
    refine ASL.q (v := (.int .i64 (z22.length : Int))) rfl rfl (Light.quiet (kLen hS (j := 0) rfl rfl rfl rfl lenT_34 rfl)) ?_
    refine ASL.q (v := (.int .i64 0)) rfl rfl (Light.quiet (opMove rfl rfl)) ?_
    refine ASL.done ?_
    refine AWP.block ?_
    obtain ⟨o60, hL59, hR61⟩ := bindE hF
    refine AWP.loopF (ω := Unit) hL59 (fun s w => [(3, v14), (4, (.rptr [(.list 1 (List.map (fun xs : (List Tstep) => AV.list 2 (List.map Tstep.av xs)) a16.next_))])), (5, v22), (24, (.int .i64 (z22.length : Int))), (25, (.int .i64 s.2))]) (fun s w => [.row 1 v14 (List.map (AV.int .i64) a14), .row 1 v22 (List.map (AV.int .i64) s.1)]) () ⟨rfl, rfl, rfl, rfl, rfl, trivial⟩ (hS.pick [1, 0] rfl rfl) ?_
    rintro ⟨y56, x25_l3⟩ _ G62 hS x57 hF hx58
    try dsimp only at hS ⊢
    have hF : impl_graph_rings.b3 z22 y56 x25_l3 = some x57 := hF; unfold impl_graph_rings.b3 at hF
    refine AWP.seqR rfl ?_
    refine ASL.q (v := (.bool (decide (x25_l3 < ((z22.length : Int)))))) rfl rfl (Light.quiet (opInt rfl rfl rfl rfl)) ?_
    refine ASL.done ?_
    refine AWP.seq ?_
    refine AWP.ifP hF rfl (fun hc63 hF => ?_) (fun hc63 hF => ?_)
    · skip
      refine AWP.skip ?_
      refine QThen.nrm ?_
      refine AWP.seq ?_
      refine AWP.block ?_
      refine AWP.seqR rfl ?_
      refine ASL.q (v := (.int .i64 x25_l3)) rfl rfl (Light.quiet (opMove rfl rfl)) ?_
      refine ASL.q (v := (.int .i64 x25_l3)) rfl rfl (Light.quiet (opAssign rfl rfl)) ?_
      refine ASL.done ?_
      refine AWP.lastR rfl ?_
      refine ASL.q (v := v22) rfl rfl (Light.quiet (opMove rfl rfl)) ?_
      refine ASL.q (v := (.int .i64 x25_l3)) rfl rfl (Light.quiet (opMove rfl rfl)) ?_
      obtain ⟨m30, hm30, hF⟩ := bindE hF
      refine ASL.q (v := (ptrTo v22 m30 1)) rfl rfl (Light.quiet (kIxO hS (j := 1) rfl hm30 rfl rfl rfl elemA_34 sizeA_3)) ?_
      refine ASL.n rfl rfl (hSt (f := (AV.int .i64)) (a := (-1)) hS (j := 1) rfl hm30 rfl sizeA_3 rfl rfl ⟨rfl, rfl, rfl⟩ ?_); rintro G64 hS
      refine ASL.done ?_
      refine QBlock.nrm ?_
      refine QThen.nrm ?_
      refine AWP.lastR rfl ?_
      refine ASL.q (v := (.int .i64 (W (x25_l3 + 1)))) rfl rfl (Light.quiet (opInt rfl rfl rfl rfl)) ?_
      refine ASL.q (v := (.int .i64 (W (x25_l3 + 1)))) rfl rfl (Light.quiet (opMove rfl rfl)) ?_
      refine ASL.done ?_
      refine QThen.nrm ?_
      exact ⟨((y56.set m30 ((-1))), (W (x25_l3 + 1))), (), (someE hF).symm, ⟨rfl, rfl, rfl, rfl, rfl, trivial⟩, (hS.pick [0, 1] rfl rfl)⟩
    · skip
      refine AWP.exit ?_
      refine QThen.ext ?_
      refine QThen.ext ?_
      refine QBlock.hit ?_
      obtain rfl := (hx58 _ (someE hF).symm)
      have hF := hR61
      refine QThen.nrm ?_
      exact ⟨y56, ⟨rfl, rfl, rfl, trivial⟩, (hS.pick [0, 1] rfl rfl), hF⟩

set_option maxRecDepth 10000 in
theorem impl_isIn_ok (p0 : Int) (p1 : Int) : PC Try.prog 117 [(.int .i64 p0), (.int .i64 p1)] fun v => v = (.bool (impl_isIn p0 p1)) := by
  generalize hF : impl_isIn p0 p1 = r
  refine PC.enter Try.func117 rfl Try.ntmps117 (by simp) ?_
  have hS := Sep.void; unfold impl_isIn at hF
  refine AWP.seqR rfl ?_
  refine ASL.q (v := (.bool false)) rfl rfl (Light.quiet (opAssign rfl rfl)) ?_
  refine ASL.done ?_
  refine AWP.seqR rfl ?_
  refine ASL.q (v := (.int .i64 p0)) rfl rfl (Light.quiet (opMove rfl rfl)) ?_
  refine ASL.q (v := (.int .i64 p1)) rfl rfl (Light.quiet (opMove rfl rfl)) ?_
  refine ASL.q (v := (.int .i64 (bNot .i64 p0 p1))) rfl rfl (Light.quiet (opInt rfl rfl rfl rfl)) ?_
  refine ASL.q (v := (.bool (decide (((bNot .i64 p0 p1)) = 0)))) rfl rfl (Light.quiet (opInt rfl rfl rfl rfl)) ?_
  refine ASL.q (v := (.bool (decide (((bNot .i64 p0 p1)) = 0)))) rfl rfl (Light.quiet (opAssign rfl rfl)) ?_
  refine ASL.done ?_
  refine AWP.ret ?_
  obtain rfl := hF
  exact QRet.sole (v := (.bool (decide (((bNot .i64 p0 p1)) = 0)))) ⟨rfl, trivial⟩ rfl

-- lives 86
noncomputable abbrev livGr (p0 : Tgraph) : AV := .rptr [.list 1 (List.map (fun xs : List Tstep => AV.list 2 (List.map Tstep.av xs)) p0.next_)]
noncomputable abbrev livNx (p0 : Tgraph) : AV := .list 1 (List.map (fun xs : List Tstep => AV.list 2 (List.map Tstep.av xs)) p0.next_)
noncomputable abbrev livIs (xs : List Int) : AV := .list 1 (List.map (AV.int .i64) xs)
noncomputable abbrev livM (r1 r2 : Nat) (m : List (Int × Int)) : List Res := [.snap [(r2, mapB Try.prog 3 3 m.length (ringD m))], .snap [(r1, mapB Try.prog 3 3 m.length (markD m))]]
set_option maxRecDepth 10000 in
theorem impl_graph_lives_ok {p0 : Tgraph} {p1 : List Int} {p2 : Int} {r : Bool} (hF : impl_graph_lives p0 p1 p2 = some r) : PC Try.prog 86 [livGr p0, livIs p1, .int .i64 p2] fun v => v = .bool r := by
  have hz3 : ∀ w, (zeroValue 3).run Try.prog w = .ok (.int .i64 0) w := fun w => run_zero zeroA_3
  refine PC.enter Try.func86 rfl Try.ntmps86 (by simp) ?_
  have hS := Sep.void; unfold impl_graph_lives at hF
  refine AWP.seqR rfl ?_
  refine ASL.q (v := (.bool false)) rfl rfl (Light.quiet (opAssign rfl rfl)) ?_
  refine ASL.done ?_
  refine AWP.seqR rfl ?_
  refine ASL.q (v := livGr p0) rfl rfl (Light.quiet (opMove rfl rfl)) ?_
  refine ASL.q (v := livIs p1) rfl rfl (Light.quiet (opMove rfl rfl)) ?_
  obtain ⟨far, hfar, hF⟩ := bindE hF
  refine ASL.q (v := livIs far) rfl rfl ((qCall rfl rfl (by kernel_rfl) (PO.list (impl_graph_far_ok hfar)) rfl)) ?_
  refine ASL.q (v := livGr p0) rfl rfl (Light.quiet (opMove rfl rfl)) ?_
  obtain ⟨rings, hrings, hF⟩ := bindE hF
  refine ASL.q (v := livIs rings) rfl rfl ((qCall rfl rfl (by kernel_rfl) (PO.list (impl_graph_rings_ok hrings)) rfl)) ?_
  refine ASL.q (v := livIs far) rfl rfl (Light.quiet (opAssign rfl rfl)) ?_
  refine ASL.q (v := livIs rings) rfl rfl (Light.quiet (opAssign rfl rfl)) ?_
  refine ASL.done ?_
  obtain ⟨mF, hall, hF⟩ := bindE hF
  refine AWP.seqR rfl ?_
  refine ASL.x rfl rfl (hMakeM (kt := 3) (et := 3) hS rfl ?_); rintro r1 G1 hS
  refine ASL.q (v := .mapp r1) rfl rfl (Light.quiet (opAssign rfl rfl)) ?_
  refine ASL.done ?_
  refine AWP.seqR rfl ?_
  refine ASL.x rfl rfl (hMakeM (kt := 3) (et := 3) hS rfl ?_); rintro r2 G2 hS
  refine ASL.q (v := .mapp r2) rfl rfl (Light.quiet (opAssign rfl rfl)) ?_
  refine ASL.done ?_
  refine AWP.seqM (fun e H => E.Told e [(2, (.int .i64 p2)), (9, .mapp r1), (10, .mapp r2)] ∧ E.Sep H (livM r1 r2 mF)) ?_ ?_
  · rintro e0 G3 ⟨hT, hS⟩; refine AWP.only _ hT ?_
    refine AWP.seq ?_
    refine AWP.seqR rfl ?_
    refine ASL.q (v := .mapp r2) rfl rfl (Light.quiet (opMove rfl rfl)) ?_
    refine ASL.x rfl rfl (hRangeM (j := 0) (kt := 3) (et := 3) hS rfl rfl Try.underlying134 Try.underlying3 rfl ?_); rintro ri es clock since seen c0 G4 hRg hS
    refine ASL.done ?_
    refine AWP.block ?_
    refine AWP.loop (fun n e H => ∃ (left : Lit → Bool) (since : Nat) (seen : Array Nat) (c0 : Nat), RgF Try.prog 3 3 r2 mF.length (ringD mF) left n es clock since seen c0 ∧ (∀ k : Int, left (.int .i64 k) = true → Maps.has (ringD mF) (.int .i64 k) = true) ∧
      (∀ k : Int, Maps.has (ringD mF) (.int .i64 k) = true → left (.int .i64 k) = false → impl_isIn p2 (marksOf mF k) = false) ∧ E.Told e [(2, (.int .i64 p2)), (9, .mapp r1), (73, .ptr ri 0)] ∧
      E.Sep H [.snap [(ri, exB (.mapIter (some r2) since seen c0))], .snap [(r2, exB (.map es clock))], .snap [(r1, mapB Try.prog 3 3 mF.length (markD mF))]]) (m := Maps.size (ringD mF)) ⟨Maps.has (ringD mF), since, seen, c0, hRg, fun k hk => hk, fun k h1 h2 => absurd h1 (by rw [h2]; exact Bool.false_ne_true), ⟨rfl, rfl, rfl, trivial⟩, hS⟩ ?_
    rintro n e H ⟨left, since, seen, c0, hRg, hL, hN, hT, hS⟩; refine AWP.only _ hT ?_
    refine AWP.seqR rfl ?_
    refine ASL.x rfl rfl (hNextM (j := 0) (kt := 3) (et := 3) hS rfl rfl Try.underlying3 Try.underlying3 rfl hRg ?_ ?_)
    · intro hcnt hleft
      refine ASL.q (v := .bool false) rfl rfl (Light.quiet (opExtract rfl rfl rfl)) ?_
      refine ASL.done ?_
      refine AWP.seq ?_
      refine AWP.condF rfl ?_
      refine AWP.exit ?_
      refine QThen.ext ?_
      refine QThen.ext ?_
      refine QBlock.hit ?_
      refine QThen.nrm ?_
      refine AWP.seqR rfl ?_
      refine ASL.q (v := .bool false) rfl rfl (Light.quiet (opAssign rfl rfl)) ?_
      refine ASL.done ?_
      refine AWP.ret ?_
      have hr : r = false := by
        rw [← someE hF, List.any_eq_false]
        intro x hx
        rw [hN x.1 ((rings_has mF x.1).mpr ⟨x, hx, rfl⟩) (hleft _)]
        exact Bool.false_ne_true
      subst hr
      exact QRet.sole (v := .bool false) ⟨rfl, trivial⟩ rfl
    · intro key val cnt' since' seen' c0' G5 hwf hlk hRg' hlt hEnt hS
      refine ASL.q (v := .bool true) rfl rfl (Light.quiet (opExtract rfl rfl rfl)) ?_
      refine ASL.done ?_
      refine AWP.seq ?_
      refine AWP.condT rfl ?_
      refine AWP.skip ?_
      refine QThen.nrm ?_
      refine AWP.block ?_
      refine AWP.seqR rfl ?_
      refine ASL.q (v := .tup [.int .i64 key, .int .i64 val]) rfl rfl (Light.quiet (kEntryM hS (i := 0) (j := 1) rfl rfl rfl rfl hEnt)) ?_
      refine ASL.q (v := .int .i64 key) rfl rfl (Light.quiet (opExtract rfl rfl rfl)) ?_
      refine ASL.q (v := .int .i64 key) rfl rfl (Light.quiet (opAssign rfl rfl)) ?_
      refine ASL.done ?_
      refine AWP.seqR rfl ?_
      refine ASL.q (v := .int .i64 p2) rfl rfl (Light.quiet (opMove rfl rfl)) ?_
      refine ASL.q (v := .mapp r1) rfl rfl (Light.quiet (opMove rfl rfl)) ?_
      refine ASL.q (v := .int .i64 key) rfl rfl (Light.quiet (opMove rfl rfl)) ?_
      refine ASL.q (v := .int .i64 (numAt (markD mF) key)) rfl rfl (Light.quiet (kLookM hS (j := 2) rfl rfl Try.underlying134 Try.underlying3 Try.underlying3 hz3 rfl rfl hwf)) ?_
      refine ASL.q (v := .bool (impl_isIn p2 (numAt (markD mF) key))) rfl rfl ((qCall rfl rfl (by kernel_rfl) (impl_isIn_ok p2 (numAt (markD mF) key)) rfl)) ?_
      refine ASL.done ?_
      have hm := marks_eq mF key
      refine AWP.cond (b := impl_isIn p2 (numAt (markD mF) key)) rfl (fun hc => ?_) (fun hc => ?_)
      · refine AWP.seqR rfl ?_
        refine ASL.q (v := .bool true) rfl rfl (Light.quiet (opAssign rfl rfl)) ?_
        refine ASL.done ?_
        refine AWP.ret ?_
        refine QBlock.ret ?_
        refine QThen.rt ?_
        refine QBlock.ret ?_
        refine QThen.rt ?_
        have hr : r = true := by
          obtain ⟨x, hx, e1⟩ := (rings_has mF key).mp (hL key hlk)
          rw [← someE hF, List.any_eq_true]
          exact ⟨x, hx, by rw [e1, ← hm]; exact hc⟩
        subst hr
        exact QRet.sole (v := .bool true) ⟨rfl, trivial⟩ rfl
      · refine AWP.skip ?_
        refine QBlock.nrm ?_
        refine QThen.nrm ?_
        refine ⟨cnt', hlt, _, since', seen', c0', hRg', fun k hk => hL k (by simp only [Bool.and_eq_true] at hk; exact hk.1), fun k h1 h2 => ?_, ⟨rfl, rfl, rfl, trivial⟩, hS⟩
        cases hl : left (.int .i64 k) with
        | false => exact hN k h1 hl
        | true =>
          rw [hl, Bool.true_and, Bool.not_eq_false'] at h2
          rw [sameKey_int h2, ← hm]; exact hc
  · refine AWP.seqR rfl ?_
    refine ASL.q (v := livGr p0) rfl rfl (Light.quiet (opMove rfl rfl)) ?_
    refine ASL.q (v := livGr p0) rfl rfl (Light.quiet (opNil rfl rfl rfl)) ?_
    refine ASL.q (v := livGr p0) rfl rfl (Light.quiet (opFieldAddrR rfl fieldA_116_0 rfl rfl)) ?_
    refine ASL.q (v := livNx p0) rfl rfl (Light.quiet (opLoadR rfl aggA_114 rfl rfl)) ?_
    refine ASL.q (v := (.int .i64 (p0.next_.length : Int))) rfl rfl (Light.quiet (opLenMap (f := (fun xs : (List Tstep) => AV.list 2 (List.map Tstep.av xs))) rfl rfl rfl lenT_114 rfl)) ?_
    refine ASL.q (v := (.int .i64 0)) rfl rfl (Light.quiet (opMove rfl rfl)) ?_
    refine ASL.done ?_
    refine AWP.block ?_
    refine AWP.loopL (α := Nat × List (Int × Int)) (fun a => [(2, (.int .i64 p2)), (7, livIs far), (8, livIs rings), (9, .mapp r1), (10, .mapp r2), (26, livNx p0), (27, (.int .i64 (p0.next_.length : Int))), (28, (.int .i64 (a.1 : Int)))]) (fun a H => E.Sep H (livM r1 r2 a.2)) (fun a => p0.next_.length - a.1)
      (fun a => a.1 ≤ p0.next_.length ∧ livesAll far rings p0.next_ a.1 (p0.next_.drop a.1) a.2 = some mF) (0, []) ⟨Nat.zero_le _, hall⟩ ⟨rfl, rfl, rfl, rfl, rfl, rfl, rfl, rfl, trivial⟩ hS ?_
    rintro ⟨p, m⟩ G6 ⟨hp, hI⟩ hS
    dsimp only at hp hI hS ⊢
    refine AWP.seqR rfl ?_
    refine ASL.q (v := (.bool (decide ((p : Int) < (p0.next_.length : Int))))) rfl rfl (Light.quiet (opInt rfl rfl rfl rfl)) ?_
    refine ASL.done ?_
    refine AWP.seq ?_
    refine AWP.cond (b := decide ((p : Int) < (p0.next_.length : Int))) rfl (fun hc => ?_) (fun hc => ?_)
    · have hlt : p < p0.next_.length := by have := of_decide_eq_true hc; omega
      refine AWP.skip ?_
      refine QThen.nrm ?_
      rw [List.drop_eq_getElem_cons hlt] at hI
      generalize hrow : p0.next_[p] = row at hI
      have hrow : ix p0.next_ (p : Int) = some row := by rw [ix_get hlt, hrow]
      have hI : (if p < 4611686018427387904 ∧ row.length < 4611686018427387904 then (livesRow far rings p0.next_ p row m).bind fun m' => livesAll far rings p0.next_ (p + 1) (p0.next_.drop (p + 1)) m' else none) = some mF := hI
      by_cases hbd : p < 4611686018427387904 ∧ row.length < 4611686018427387904
      · rw [if_pos hbd] at hI
        obtain ⟨m1, hI1, hI2⟩ := bindE hI
        obtain ⟨hb1, hb2⟩ := hbd
        refine AWP.seq ?_
        refine AWP.block ?_
        refine AWP.seqR rfl ?_
        refine ASL.q (v := (.int .i64 (p : Int))) rfl rfl (Light.quiet (opMove rfl rfl)) ?_
        refine ASL.q (v := (.rptr [(.list 2 (List.map Tstep.av row))])) rfl rfl (Light.quiet (kIx (f := (fun xs : (List Tstep) => AV.list 2 (List.map Tstep.av xs))) hrow rfl rfl rfl elemA_114 sizeA_118 rfl)) ?_
        refine ASL.q (v := (.list 2 (List.map Tstep.av row))) rfl rfl (Light.quiet (opLoadR rfl aggA_118 rfl rfl)) ?_
        refine ASL.q (v := (.int .i64 (p : Int))) rfl rfl (Light.quiet (opAssign rfl rfl)) ?_
        refine ASL.q (v := (.list 2 (List.map Tstep.av row))) rfl rfl (Light.quiet (opAssign rfl rfl)) ?_
        refine ASL.done ?_
        refine AWP.seqR rfl ?_
        refine ASL.q (v := (.list 2 (List.map Tstep.av row))) rfl rfl (Light.quiet (opMove rfl rfl)) ?_
        refine ASL.q (v := (.int .i64 (row.length : Int))) rfl rfl (Light.quiet (opLenMap (f := Tstep.av) rfl rfl rfl lenT_118 rfl)) ?_
        refine ASL.q (v := (.int .i64 0)) rfl rfl (Light.quiet (opMove rfl rfl)) ?_
        refine ASL.done ?_
        refine AWP.block ?_
        refine AWP.loopL (α := Nat × List (Int × Int)) (fun a => [(2, (.int .i64 p2)), (7, livIs far), (8, livIs rings), (9, .mapp r1), (10, .mapp r2), (11, (.int .i64 (p : Int))), (26, livNx p0), (27, (.int .i64 (p0.next_.length : Int))), (28, (.int .i64 (p : Int))), (33, (.list 2 (List.map Tstep.av row))), (34, (.int .i64 (row.length : Int))), (35, (.int .i64 (a.1 : Int)))]) (fun a H => E.Sep H (livM r1 r2 a.2)) (fun a => row.length - a.1)
          (fun a => a.1 ≤ row.length ∧ livesRow far rings p0.next_ p (row.drop a.1) a.2 = some m1) (0, m) ⟨Nat.zero_le _, hI1⟩ ⟨rfl, rfl, rfl, rfl, rfl, rfl, rfl, rfl, rfl, rfl, rfl, rfl, trivial⟩ hS ?_
        rintro ⟨q, n⟩ G7 ⟨hq, hI⟩ hS
        dsimp only at hq hI hS ⊢
        refine AWP.seqR rfl ?_
        refine ASL.q (v := (.bool (decide ((q : Int) < (row.length : Int))))) rfl rfl (Light.quiet (opInt rfl rfl rfl rfl)) ?_
        refine ASL.done ?_
        refine AWP.seq ?_
        refine AWP.cond (b := decide ((q : Int) < (row.length : Int))) rfl (fun hc => ?_) (fun hc => ?_)
        · have hlq : q < row.length := by have := of_decide_eq_true hc; omega
          refine AWP.skip ?_
          refine QThen.nrm ?_
          rw [List.drop_eq_getElem_cons hlq] at hI
          generalize hst : row[q] = s at hI
          have hst : ix row (q : Int) = some s := by rw [ix_get hlq, hst]
          have hI : ((livesAt far rings p0.next_ p s).bind fun t => if t = true then (ix rings (p : Int)).bind fun k => (if (-9223372036854775808 ≤ k ∧ k ≤ 9223372036854775807) ∧ n.length < 4611686018427387904 then livesRow far rings p0.next_ p (row.drop (q + 1)) (n ++ [(k, s.marks)]) else none) else livesRow far rings p0.next_ p (row.drop (q + 1)) n) = some m1 := hI
          obtain ⟨t, ht, hI⟩ := bindE hI
          unfold livesAt at ht
          have hW : IntKind.i64.wrap ((q : Int) + 1) = ((q + 1 : Nat) : Int) := by rw [W_eq (by omega) (by omega)]; rfl
          refine AWP.seq ?_
          refine AWP.block ?_
          refine AWP.seqR rfl ?_
          refine ASL.q (v := (.rptr [(.int .i64 s.to_), (.int .i64 s.marks)])) rfl rfl (Light.quiet (kIx (f := Tstep.av) hst rfl rfl rfl elemA_118 sizeA_120 rfl)) ?_
          refine ASL.q (v := (Tstep.av s)) rfl rfl (Light.quiet (opLoadRA rfl aggA_120 sizeA_120 rfl (nlt rfl) rfl)) ?_
          refine ASL.x rfl rfl (hNewZ hS [(.int .i64 0), (.int .i64 0)] rfl zeroA_120 ⟨.inl rfl, .inl rfl, trivial⟩ ?_); rintro b13 G8 hK hS
          refine ASL.n rfl rfl (hPutA hS (j := 0) rfl rfl sizeA_120 rfl rfl rfl rfl rfl (nlt rfl) ?_); rintro G9 hS
          refine ASL.done ?_
          refine AWP.seqD [(0, false), (1, false), (2, false), (3, false), (4, false), (5, false), (6, false), (7, false), (8, false), (9, false), (10, false), (11, false), (12, false), (13, false), (14, false), (15, false), (16, false)] mixed (by kernel_rfl) rfl ?_
          refine ARL.q0 (v := livIs far) rfl rfl (Light.quiet (opMove rfl rfl)) ?_
          refine ARL.q0 (v := (.int .i64 (p : Int))) rfl rfl (Light.quiet (opMove rfl rfl)) ?_
          obtain ⟨a, ha, ht⟩ := bindE ht
          refine ARL.q0 (v := (.rptr [(.int .i64 a)])) rfl rfl (Light.quiet (kIx (f := (AV.int .i64)) ha rfl rfl rfl elemA_34 sizeA_3 rfl)) ?_
          refine ARL.q0 (v := (.int .i64 a)) rfl rfl (Light.quiet (opLoadR rfl aggA_3 rfl rfl)) ?_
          refine ARL.q0 (v := (.bool (decide (a ≥ 0)))) rfl rfl (Light.quiet (opInt rfl rfl rfl rfl)) ?_
          generalize hcd : decide (a ≥ 0) = c at ht
          refine ARL.q0 (v := (.bool c)) rfl rfl (Light.quiet (opMove rfl rfl)) ?_
          refine ARL.g (v := livIs rings) (.bool c) true rfl (wT _) rfl noneAlive (fun hG => by have q0 := hG; subst q0; exact Light.quiet (opMove rfl rfl)) ?_
          refine ARL.g (v := (.int .i64 (p : Int))) (.bool c) true rfl (wT _) rfl noneAlive (fun hG => by have q0 := hG; subst q0; exact Light.quiet (opMove rfl rfl)) ?_
          obtain ⟨b, hb, ht⟩ := bindE ht
          refine ARL.g (v := (.rptr [(.int .i64 b)])) (.bool c) true rfl (wT _) rfl noneAlive (fun hG => by have q0 := hG; subst q0; exact Light.quiet (kIx (f := (AV.int .i64)) (whenE hb) rfl rfl rfl elemA_34 sizeA_3 rfl)) ?_
          refine ARL.g (v := (.int .i64 b)) (.bool c) true rfl (wT _) rfl noneAlive (fun hG => by have q0 := hG; subst q0; exact Light.quiet (opLoadR rfl aggA_3 rfl rfl)) ?_
          refine ARL.g (v := livIs rings) (.bool c) true rfl (wT _) rfl noneAlive (fun hG => by have q0 := hG; subst q0; exact Light.quiet (opMove rfl rfl)) ?_
          refine ARL.g (v := (.ptr b13 0)) (.bool c) true rfl (wT _) rfl noneAlive (fun hG => by have q0 := hG; subst q0; exact Light.quiet (opFieldAddr rfl fieldA_120_0 rfl rfl)) ?_
          refine ARL.g (v := (.int .i64 s.to_)) (.bool c) true rfl (wT _) rfl (hS.aliveC (k := 0) rfl) (fun hG => by have q0 := hG; subst q0; exact Light.quiet (kAt hS (j := 0) rfl rfl aggA_3 rfl rfl)) ?_
          obtain ⟨d, hd, ht⟩ := bindE ht
          refine ARL.g (v := (.rptr [(.int .i64 d)])) (.bool c) true rfl (wT _) rfl noneAlive (fun hG => by have q0 := hG; subst q0; exact Light.quiet (kIx (f := (AV.int .i64)) (whenE hd) rfl rfl rfl elemA_34 sizeA_3 rfl)) ?_
          refine ARL.g (v := (.int .i64 d)) (.bool c) true rfl (wT _) rfl noneAlive (fun hG => by have q0 := hG; subst q0; exact Light.quiet (opLoadR rfl aggA_3 rfl rfl)) ?_
          refine ARL.g (v := (.bool (decide (b = d)))) (.bool c) true rfl (wT _) rfl noneAlive (fun hG => by have q0 := hG; subst q0; exact Light.quiet (opInt rfl rfl rfl rfl)) ?_
          refine ARL.q0 (v := (.bool (c && decide (b = d)))) rfl rfl (Light.quiet (opPick (b := c) rfl rfl (by cases c <;> rfl))) ?_
          refine ARL.done ?_
          obtain rfl := someE ht
          refine AWP.cond (b := c && decide (b = d)) rfl (fun hc2 => ?_) (fun hc2 => ?_)
          · rw [if_pos hc2] at hI
            rw [Bool.and_eq_true] at hc2
            obtain ⟨rfl, hc2⟩ := hc2
            have hb := whenE hb
            obtain ⟨k, hk, hI⟩ := bindE hI
            obtain rfl : b = k := by rw [hb] at hk; exact someE hk
            by_cases hkb : (-9223372036854775808 ≤ b ∧ b ≤ 9223372036854775807) ∧ n.length < 4611686018427387904
            · rw [if_pos hkb] at hI
              obtain ⟨hkb, hnb⟩ := hkb
              refine AWP.seqD [(0, false), (1, false), (2, false), (3, false), (4, false), (5, false), (6, false), (7, false), (8, false), (9, true)] mixed (by kernel_rfl) rfl ?_
              refine ARL.q0 (v := .mapp r1) rfl rfl (Light.quiet (opMove rfl rfl)) ?_
              refine ARL.q0 (v := livIs rings) rfl rfl (Light.quiet (opMove rfl rfl)) ?_
              refine ARL.q0 (v := (.int .i64 (p : Int))) rfl rfl (Light.quiet (opMove rfl rfl)) ?_
              refine ARL.q0 (v := (.rptr [(.int .i64 b)])) rfl rfl (Light.quiet (kIx (f := (AV.int .i64)) hb rfl rfl rfl elemA_34 sizeA_3 rfl)) ?_
              refine ARL.q0 (v := (.int .i64 b)) rfl rfl (Light.quiet (opLoadR rfl aggA_3 rfl rfl)) ?_
              refine ARL.q (v := (.int .i64 (numAt (markD n) b))) rfl rfl (fun x hx => (hS.get (k := 2) rfl).alive (by simpa [Res.blks] using hx)) (Light.quiet (kLookM hS (j := 2) rfl rfl Try.underlying134 Try.underlying3 Try.underlying3 hz3 rfl rfl (wfKey hkb))) ?_
              refine ARL.q0 (v := (.ptr b13 1)) rfl rfl (Light.quiet (opFieldAddr rfl fieldA_120_1 rfl rfl)) ?_
              refine ARL.q (v := (.int .i64 s.marks)) rfl rfl (hS.aliveC (k := 0) rfl) (Light.quiet (kAt hS (j := 0) rfl rfl aggA_3 rfl rfl)) ?_
              refine ARL.q0 (v := (.int .i64 (bOr .i64 (numAt (markD n) b) s.marks))) rfl rfl (Light.quiet (opInt rfl rfl rfl rfl)) ?_
              refine ARL.n rfl rfl rfl rfl (hPutM (j := 2) (kt := 3) (et := 3) hS rfl rfl Try.underlying134 Try.underlying3 Try.underlying3 rfl rfl rfl (wfKey hkb) (wfOr _ _) (by unfold maxLen; omega) ?_); rintro G10 hS
              refine ARL.done ?_
              refine AWP.lastR rfl ?_
              refine ASL.q (v := .mapp r2) rfl rfl (Light.quiet (opMove rfl rfl)) ?_
              refine ASL.q (v := livIs rings) rfl rfl (Light.quiet (opMove rfl rfl)) ?_
              refine ASL.q (v := (.int .i64 (p : Int))) rfl rfl (Light.quiet (opMove rfl rfl)) ?_
              refine ASL.q (v := (.rptr [(.int .i64 b)])) rfl rfl (Light.quiet (kIx (f := (AV.int .i64)) hb rfl rfl rfl elemA_34 sizeA_3 rfl)) ?_
              refine ASL.q (v := (.int .i64 b)) rfl rfl (Light.quiet (opLoadR rfl aggA_3 rfl rfl)) ?_
              refine ASL.n rfl rfl (hPutM (j := 1) (kt := 3) (et := 3) hS rfl rfl Try.underlying134 Try.underlying3 Try.underlying3 rfl rfl rfl (wfKey hkb) (by decide) (by unfold maxLen; omega) ?_); rintro G11 hS
              refine ASL.done ?_
              refine QBlock.nrm ?_
              refine QThen.nrm ?_
              refine AWP.lastR rfl ?_
              refine ASL.q (v := (.int .i64 ((q + 1 : Nat) : Int))) rfl rfl (Quiet.cast (Light.quiet (opInt rfl rfl rfl rfl)) (congrArg (AV.int .i64) hW)) ?_
              refine ASL.q (v := (.int .i64 ((q + 1 : Nat) : Int))) rfl rfl (Light.quiet (opMove rfl rfl)) ?_
              refine ASL.done ?_
              refine QThen.nrm ?_
              have hS : E.Sep G11 (livM r1 r2 (n ++ [(b, s.marks)])) := by
                have hS := hS.pick (L' := [.snap [(r2, mapB Try.prog 3 3 (n.length + 1) ((ringD n).put (.int .i64 b) (.lit (.int .i64 1))))], .snap [(r1, mapB Try.prog 3 3 (n.length + 1) ((markD n).put (.int .i64 b) (.lit (.int .i64 (bOr .i64 (numAt (markD n) b) s.marks)))))]]) [1, 2] rfl rfl
                unfold livM
                rw [ringD_snoc, markD_snoc, List.length_append, List.length_singleton]
                exact hS
              exact ⟨(q + 1, n ++ [(b, s.marks)]), ⟨hlq, hI⟩, by dsimp only; omega, ⟨rfl, rfl, rfl, rfl, rfl, rfl, rfl, rfl, rfl, rfl, rfl, rfl, trivial⟩, hS⟩
            · rw [if_neg hkb] at hI; cases hI
          · rw [if_neg (by rw [hc2]; exact Bool.false_ne_true)] at hI
            refine AWP.skip ?_
            refine QBlock.nrm ?_
            refine QThen.nrm ?_
            refine AWP.lastR rfl ?_
            refine ASL.q (v := (.int .i64 ((q + 1 : Nat) : Int))) rfl rfl (Quiet.cast (Light.quiet (opInt rfl rfl rfl rfl)) (congrArg (AV.int .i64) hW)) ?_
            refine ASL.q (v := (.int .i64 ((q + 1 : Nat) : Int))) rfl rfl (Light.quiet (opMove rfl rfl)) ?_
            refine ASL.done ?_
            refine QThen.nrm ?_
            exact ⟨(q + 1, n), ⟨hlq, hI⟩, by dsimp only; omega, ⟨rfl, rfl, rfl, rfl, rfl, rfl, rfl, rfl, rfl, rfl, rfl, rfl, trivial⟩, hS.pick [1, 2] rfl rfl⟩
        · have hge : q = row.length := by have := of_decide_eq_false hc; omega
          subst hge
          rw [List.drop_length] at hI
          obtain rfl := someE hI
          have hW : IntKind.i64.wrap ((p : Int) + 1) = ((p + 1 : Nat) : Int) := by rw [W_eq (by omega) (by omega)]; rfl
          refine AWP.exit ?_
          refine QThen.ext ?_
          refine QThen.ext ?_
          refine QBlock.hit ?_
          refine QBlock.nrm ?_
          refine QThen.nrm ?_
          refine AWP.lastR rfl ?_
          refine ASL.q (v := (.int .i64 ((p + 1 : Nat) : Int))) rfl rfl (Quiet.cast (Light.quiet (opInt rfl rfl rfl rfl)) (congrArg (AV.int .i64) hW)) ?_
          refine ASL.q (v := (.int .i64 ((p + 1 : Nat) : Int))) rfl rfl (Light.quiet (opMove rfl rfl)) ?_
          refine ASL.done ?_
          refine QThen.nrm ?_
          exact ⟨(p + 1, n), ⟨hlt, hI2⟩, by dsimp only; omega, ⟨rfl, rfl, rfl, rfl, rfl, rfl, rfl, rfl, trivial⟩, hS⟩
      · rw [if_neg hbd] at hI; cases hI
    · have hge : p = p0.next_.length := by have := of_decide_eq_false hc; omega
      subst hge
      rw [List.drop_length] at hI
      obtain rfl := someE hI
      refine AWP.exit ?_
      refine QThen.ext ?_
      refine QThen.ext ?_
      refine QBlock.hit ?_
      refine QThen.nrm ?_
      exact ⟨⟨rfl, rfl, rfl, trivial⟩, hS⟩

set_option maxRecDepth 10000 in
theorem impl_GenTakes_ok {p0 : TGen} {p1 : TWord} {r : Bool} (hF : impl_GenTakes p0 p1 = some r) : PC Try.prog 37 [(TGen.av p0), (TWord.av p1)] fun v => v = (.bool r) := by
  refine PC.enter Try.func37 rfl Try.ntmps37 (by simp) ?_
  have hS := Sep.void; unfold impl_GenTakes at hF
  refine AWP.seqR rfl ?_
  refine ASL.q (v := (.rptr [(.int .i64 p0.letters), (.int .i64 p0.states), (.int .i64 p0.start), (.int .i64 p0.sets), (.list 4 (List.map TGEdge.av p0.edges))])) rfl rfl ((qBoxI (v := (TGen.av p0)) rfl rfl rfl rfl)) ?_
  refine ASL.q (v := (.rptr [(.list 1 (List.map (AV.int .i64) p1.stem)), (.list 1 (List.map (AV.int .i64) p1.loop))])) rfl rfl ((qBoxI (v := (TWord.av p1)) rfl rfl rfl rfl)) ?_
  refine ASL.q (v := (.bool false)) rfl rfl (Light.quiet (opAssign rfl rfl)) ?_
  refine ASL.done ?_
  refine AWP.seq ?_
  refine AWP.seqR rfl ?_
  refine ASL.q (v := (TGen.av p0)) rfl rfl (Light.quiet (opLoadRA rfl aggA_60 sizeA_60 rfl (nlt rfl) rfl)) ?_
  obtain ⟨a6, ha6, hF⟩ := bindE hF
  refine ASL.q (v := (.bool a6)) rfl rfl ((qCall rfl rfl call_83 (impl_GenOk_ok ha6) rfl)) ?_
  refine ASL.q (v := (.bool (!a6))) rfl rfl (Light.quiet (opNot rfl rfl)) ?_
  obtain ⟨c8, hc8, hF⟩ := bndE hF
  refine ASL.q (v := (.bool c8)) rfl rfl ((Quiet.cast (Light.quiet (opMove rfl rfl)) (congrArg AV.bool hc8.symm))) ?_
  refine ASL.g (v := (TWord.av p1)) (.bool c8) false rfl (wF _) rfl (fun hG => by have q0 := gN hG; subst q0; exact Light.quiet (opLoadRA rfl aggA_62 sizeA_62 rfl (nlt rfl) rfl)) ?_
  refine ASL.g (v := (.rptr [(.int .i64 p0.letters), (.int .i64 p0.states), (.int .i64 p0.start), (.int .i64 p0.sets), (.list 4 (List.map TGEdge.av p0.edges))])) (.bool c8) false rfl (wF _) rfl (fun hG => by have q0 := gN hG; subst q0; exact Light.quiet (opFieldAddrR rfl fieldA_60_0 rfl rfl)) ?_
  refine ASL.g (v := (.int .i64 p0.letters)) (.bool c8) false rfl (wF _) rfl (fun hG => by have q0 := gN hG; subst q0; exact Light.quiet (opLoadR rfl aggA_3 rfl rfl)) ?_
  obtain ⟨a12, ha12, hF⟩ := bindE hF
  refine ASL.g (v := (.bool a12)) (.bool c8) false rfl (wF _) rfl (fun hG => by have q0 := gN hG; subst q0; exact (qCall rfl rfl call_84 (impl_WordOk_ok (whenE ha12)) rfl)) ?_
  refine ASL.g (v := (.bool (!a12))) (.bool c8) false rfl (wF _) rfl (fun hG => by have q0 := gN hG; subst q0; exact Light.quiet (opNot rfl rfl)) ?_
  refine ASL.q (v := (.bool (c8 || (!a12)))) rfl rfl (Light.quiet (opPick (b := c8) rfl rfl (by cases c8 <;> rfl))) ?_
  refine ASL.done ?_
  refine AWP.ifB hF rfl (fun hc1 hF => ?_) (fun hc1 hF => ?_)
  · skip
    refine AWP.seqR rfl ?_
    refine ASL.q (v := (.bool false)) rfl rfl (Light.quiet (opAssign rfl rfl)) ?_
    refine ASL.done ?_
    refine AWP.ret ?_
    refine QThen.rt ?_
    obtain rfl := someE hF
    exact QRet.sole (v := (.bool false)) ⟨rfl, trivial⟩ rfl
  · skip
    refine AWP.skip ?_
    refine QThen.nrm ?_
    refine AWP.seqD [(0, false), (1, false), (2, false), (3, false), (4, false), (5, false), (6, false), (7, false), (8, false), (9, false), (10, false), (11, false), (12, false), (13, false), (14, false)] mixed (by kernel_rfl) rfl ?_
    refine ARL.q0 (v := (.rptr [(.int .i64 p0.states), (.int .i64 p0.start), (.int .i64 p0.sets), (.list 4 (List.map TGEdge.av p0.edges))])) rfl rfl (Light.quiet (opFieldAddrR rfl fieldA_60_1 rfl rfl)) ?_
    refine ARL.q0 (v := (.int .i64 p0.states)) rfl rfl (Light.quiet (opLoadR rfl aggA_3 rfl rfl)) ?_
    refine ARL.q0 (v := (.rptr [(.list 4 (List.map TGEdge.av p0.edges))])) rfl rfl (Light.quiet (opFieldAddrR rfl fieldA_60_4 rfl rfl)) ?_
    refine ARL.q0 (v := (.list 4 (List.map TGEdge.av p0.edges))) rfl rfl (Light.quiet (opLoadR rfl aggA_58 rfl rfl)) ?_
    refine ARL.q0 (v := (TWord.av p1)) rfl rfl (Light.quiet (opLoadRA rfl aggA_62 sizeA_62 rfl (nlt rfl) rfl)) ?_
    obtain ⟨a20, ha20, hF⟩ := bindE hF
    refine ARL.q0 (v := (.rptr [(.list 1 (List.map (fun xs : (List Tstep) => AV.list 2 (List.map Tstep.av xs)) a20.next_))])) rfl rfl ((qCall rfl rfl call_85 (impl_pointsBy_ok ha20) rfl)) ?_
    refine ARL.q0 (v := (.rptr [(.int .i64 p0.start), (.int .i64 p0.sets), (.list 4 (List.map TGEdge.av p0.edges))])) rfl rfl (Light.quiet (opFieldAddrR rfl fieldA_60_2 rfl rfl)) ?_
    refine ARL.q0 (v := (.int .i64 p0.start)) rfl rfl (Light.quiet (opLoadR rfl aggA_3 rfl rfl)) ?_
    obtain ⟨a23, ha23, hF⟩ := bindE hF
    refine ARL.q0 (v := (.list 1 (List.map (AV.int .i64) a23))) rfl rfl ((qCall rfl rfl call_87 (PO.list (impl_SetList_ok ha23)) rfl)) ?_
    refine ARL.q0 (v := (.rptr [(.int .i64 p0.sets), (.list 4 (List.map TGEdge.av p0.edges))])) rfl rfl (Light.quiet (opFieldAddrR rfl fieldA_60_3 rfl rfl)) ?_
    refine ARL.q0 (v := (.int .i64 p0.sets)) rfl rfl (Light.quiet (opLoadR rfl aggA_3 rfl rfl)) ?_
    refine ARL.q0 (v := (.int .i64 (impl_only p0.sets))) rfl rfl ((qCall rfl rfl call_58 (impl_only_ok p0.sets) rfl)) ?_
    refine ARL.q0 (v := (.int .i64 (W (((impl_only p0.sets)) - 1)))) rfl rfl (Light.quiet (opInt rfl rfl rfl rfl)) ?_
    obtain ⟨a28, ha28, hF⟩ := bindE hF
    refine ARL.q0 (v := (.bool a28)) rfl rfl ((qCall rfl rfl call_86 (impl_graph_lives_ok ha28) rfl)) ?_
    refine ARL.q0 (v := (.bool a28)) rfl rfl (Light.quiet (opAssign rfl rfl)) ?_
    refine ARL.done ?_
    refine AWP.ret ?_
    obtain rfl := someE hF
    exact QRet.sole (v := (.bool a28)) ⟨rfl, trivial⟩ rfl

set_option maxRecDepth 10000 in
theorem laws_eqGEdge_ok (p0 : TGEdge) (p1 : TGEdge) : PC Try.prog 118 [(TGEdge.av p0), (TGEdge.av p1)] fun v => v = (.bool (laws_eqGEdge p0 p1)) := by
  generalize hF : laws_eqGEdge p0 p1 = r
  refine PC.enter Try.func118 rfl Try.ntmps118 (by simp) ?_
  have hS := Sep.void; unfold laws_eqGEdge at hF
  refine AWP.seqR rfl ?_
  refine ASL.q (v := (.rptr [(.int .i64 p0.from_), (.int .i64 p0.letter), (.int .i64 p0.to_), (.int .i64 p0.marks)])) rfl rfl ((qBoxI (v := (TGEdge.av p0)) rfl rfl rfl rfl)) ?_
  refine ASL.q (v := (.rptr [(.int .i64 p1.from_), (.int .i64 p1.letter), (.int .i64 p1.to_), (.int .i64 p1.marks)])) rfl rfl ((qBoxI (v := (TGEdge.av p1)) rfl rfl rfl rfl)) ?_
  refine ASL.q (v := (.bool false)) rfl rfl (Light.quiet (opAssign rfl rfl)) ?_
  refine ASL.done ?_
  refine AWP.seq ?_
  refine AWP.seqR rfl ?_
  refine ASL.q (v := (.rptr [(.int .i64 p0.from_), (.int .i64 p0.letter), (.int .i64 p0.to_), (.int .i64 p0.marks)])) rfl rfl (Light.quiet (opFieldAddrR rfl fieldA_99_0 rfl rfl)) ?_
  refine ASL.q (v := (.int .i64 p0.from_)) rfl rfl (Light.quiet (opLoadR rfl aggA_3 rfl rfl)) ?_
  refine ASL.q (v := (.rptr [(.int .i64 p1.from_), (.int .i64 p1.letter), (.int .i64 p1.to_), (.int .i64 p1.marks)])) rfl rfl (Light.quiet (opFieldAddrR rfl fieldA_99_0 rfl rfl)) ?_
  refine ASL.q (v := (.int .i64 p1.from_)) rfl rfl (Light.quiet (opLoadR rfl aggA_3 rfl rfl)) ?_
  refine ASL.q (v := (.bool (decide (p0.from_ ≠ p1.from_)))) rfl rfl (Light.quiet (opInt rfl rfl rfl rfl)) ?_
  refine ASL.done ?_
  refine AWP.ifP hF rfl (fun hc1 hF => ?_) (fun hc1 hF => ?_)
  · skip
    refine AWP.seqR rfl ?_
    refine ASL.q (v := (.bool false)) rfl rfl (Light.quiet (opAssign rfl rfl)) ?_
    refine ASL.done ?_
    refine AWP.ret ?_
    refine QThen.rt ?_
    obtain rfl := hF
    exact QRet.sole (v := (.bool false)) ⟨rfl, trivial⟩ rfl
  · skip
    refine AWP.skip ?_
    refine QThen.nrm ?_
    refine AWP.seq ?_
    refine AWP.seqR rfl ?_
    refine ASL.q (v := (.rptr [(.int .i64 p0.letter), (.int .i64 p0.to_), (.int .i64 p0.marks)])) rfl rfl (Light.quiet (opFieldAddrR rfl fieldA_99_1 rfl rfl)) ?_
    refine ASL.q (v := (.int .i64 p0.letter)) rfl rfl (Light.quiet (opLoadR rfl aggA_3 rfl rfl)) ?_
    refine ASL.q (v := (.rptr [(.int .i64 p1.letter), (.int .i64 p1.to_), (.int .i64 p1.marks)])) rfl rfl (Light.quiet (opFieldAddrR rfl fieldA_99_1 rfl rfl)) ?_
    refine ASL.q (v := (.int .i64 p1.letter)) rfl rfl (Light.quiet (opLoadR rfl aggA_3 rfl rfl)) ?_
    refine ASL.q (v := (.bool (decide (p0.letter ≠ p1.letter)))) rfl rfl (Light.quiet (opInt rfl rfl rfl rfl)) ?_
    refine ASL.done ?_
    refine AWP.ifP hF rfl (fun hc2 hF => ?_) (fun hc2 hF => ?_)
    · skip
      refine AWP.seqR rfl ?_
      refine ASL.q (v := (.bool false)) rfl rfl (Light.quiet (opAssign rfl rfl)) ?_
      refine ASL.done ?_
      refine AWP.ret ?_
      refine QThen.rt ?_
      obtain rfl := hF
      exact QRet.sole (v := (.bool false)) ⟨rfl, trivial⟩ rfl
    · skip
      refine AWP.skip ?_
      refine QThen.nrm ?_
      refine AWP.seq ?_
      refine AWP.seqR rfl ?_
      refine ASL.q (v := (.rptr [(.int .i64 p0.to_), (.int .i64 p0.marks)])) rfl rfl (Light.quiet (opFieldAddrR rfl fieldA_99_2 rfl rfl)) ?_
      refine ASL.q (v := (.int .i64 p0.to_)) rfl rfl (Light.quiet (opLoadR rfl aggA_3 rfl rfl)) ?_
      refine ASL.q (v := (.rptr [(.int .i64 p1.to_), (.int .i64 p1.marks)])) rfl rfl (Light.quiet (opFieldAddrR rfl fieldA_99_2 rfl rfl)) ?_
      refine ASL.q (v := (.int .i64 p1.to_)) rfl rfl (Light.quiet (opLoadR rfl aggA_3 rfl rfl)) ?_
      refine ASL.q (v := (.bool (decide (p0.to_ ≠ p1.to_)))) rfl rfl (Light.quiet (opInt rfl rfl rfl rfl)) ?_
      refine ASL.done ?_
      refine AWP.ifP hF rfl (fun hc3 hF => ?_) (fun hc3 hF => ?_)
      · skip
        refine AWP.seqR rfl ?_
        refine ASL.q (v := (.bool false)) rfl rfl (Light.quiet (opAssign rfl rfl)) ?_
        refine ASL.done ?_
        refine AWP.ret ?_
        refine QThen.rt ?_
        obtain rfl := hF
        exact QRet.sole (v := (.bool false)) ⟨rfl, trivial⟩ rfl
      · skip
        refine AWP.skip ?_
        refine QThen.nrm ?_
        refine AWP.seq ?_
        refine AWP.seqR rfl ?_
        refine ASL.q (v := (.rptr [(.int .i64 p0.marks)])) rfl rfl (Light.quiet (opFieldAddrR rfl fieldA_99_3 rfl rfl)) ?_
        refine ASL.q (v := (.int .i64 p0.marks)) rfl rfl (Light.quiet (opLoadR rfl aggA_3 rfl rfl)) ?_
        refine ASL.q (v := (.rptr [(.int .i64 p1.marks)])) rfl rfl (Light.quiet (opFieldAddrR rfl fieldA_99_3 rfl rfl)) ?_
        refine ASL.q (v := (.int .i64 p1.marks)) rfl rfl (Light.quiet (opLoadR rfl aggA_3 rfl rfl)) ?_
        refine ASL.q (v := (.bool (decide (p0.marks ≠ p1.marks)))) rfl rfl (Light.quiet (opInt rfl rfl rfl rfl)) ?_
        refine ASL.done ?_
        refine AWP.ifP hF rfl (fun hc4 hF => ?_) (fun hc4 hF => ?_)
        · skip
          refine AWP.seqR rfl ?_
          refine ASL.q (v := (.bool false)) rfl rfl (Light.quiet (opAssign rfl rfl)) ?_
          refine ASL.done ?_
          refine AWP.ret ?_
          refine QThen.rt ?_
          obtain rfl := hF
          exact QRet.sole (v := (.bool false)) ⟨rfl, trivial⟩ rfl
        · skip
          refine AWP.skip ?_
          refine QThen.nrm ?_
          refine AWP.seqR rfl ?_
          refine ASL.q (v := (.bool true)) rfl rfl (Light.quiet (opAssign rfl rfl)) ?_
          refine ASL.done ?_
          refine AWP.ret ?_
          obtain rfl := hF
          exact QRet.sole (v := (.bool true)) ⟨rfl, trivial⟩ rfl

set_option maxRecDepth 10000 in
theorem laws_eqGEdgeS_ok {p0 : (List TGEdge)} {p1 : (List TGEdge)} {r : Bool} (hF : laws_eqGEdgeS p0 p1 = some r) : PC Try.prog 88 [(.list 4 (List.map TGEdge.av p0)), (.list 4 (List.map TGEdge.av p1))] fun v => v = (.bool r) := by
  refine PC.enter Try.func88 rfl Try.ntmps88 (by simp) ?_
  have hS := Sep.void; unfold laws_eqGEdgeS at hF
  refine AWP.seqR rfl ?_
  refine ASL.q (v := (.bool false)) rfl rfl (Light.quiet (opAssign rfl rfl)) ?_
  refine ASL.done ?_
  refine AWP.seq ?_
  refine AWP.seqR rfl ?_
  refine ASL.q (v := (.list 4 (List.map TGEdge.av p0))) rfl rfl (Light.quiet (opMove rfl rfl)) ?_
  refine ASL.q (v := (.int .i64 (p0.length : Int))) rfl rfl (Light.quiet (opLenMap (f := TGEdge.av) rfl rfl rfl lenT_58 rfl)) ?_
  refine ASL.q (v := (.list 4 (List.map TGEdge.av p1))) rfl rfl (Light.quiet (opMove rfl rfl)) ?_
  refine ASL.q (v := (.int .i64 (p1.length : Int))) rfl rfl (Light.quiet (opLenMap (f := TGEdge.av) rfl rfl rfl lenT_58 rfl)) ?_
  refine ASL.q (v := (.bool (decide (((p0.length : Int)) ≠ ((p1.length : Int)))))) rfl rfl (Light.quiet (opInt rfl rfl rfl rfl)) ?_
  refine ASL.done ?_
  refine AWP.ifP hF rfl (fun hc1 hF => ?_) (fun hc1 hF => ?_)
  · skip
    refine AWP.seqR rfl ?_
    refine ASL.q (v := (.bool false)) rfl rfl (Light.quiet (opAssign rfl rfl)) ?_
    refine ASL.done ?_
    refine AWP.ret ?_
    refine QThen.rt ?_
    obtain rfl := someE hF
    exact QRet.sole (v := (.bool false)) ⟨rfl, trivial⟩ rfl
  · skip
    refine AWP.skip ?_
    refine QThen.nrm ?_
    refine AWP.seqM (fun e H => E.Told e [] ∧ E.Sep H [] ∧ laws_eqGEdgeS.k0 = some r) ?_ ?_
    · rintro e0 G2 ⟨hT, hS, hF⟩; refine AWP.only _ hT ?_; unfold laws_eqGEdgeS.k0 at hF
      refine AWP.seqR rfl ?_
      refine ASL.q (v := (.bool true)) rfl rfl (Light.quiet (opAssign rfl rfl)) ?_
      refine ASL.done ?_
      refine AWP.ret ?_
      obtain rfl := someE hF
      exact QRet.sole (v := (.bool true)) ⟨rfl, trivial⟩ rfl
    · skip
      refine AWP.seqR rfl ?_
      refine ASL.q (v := (.int .i64 0)) rfl rfl (Light.quiet (opAssign rfl rfl)) ?_
      refine ASL.done ?_
      refine AWP.block ?_
      obtain ⟨o6, hL5, hR7⟩ := bindE hF
      refine AWP.loopF (ω := Unit) hL5 (fun s w => [(0, (.list 4 (List.map TGEdge.av p0))), (1, (.list 4 (List.map TGEdge.av p1))), (5, (.int .i64 s))]) (fun s w => []) () ⟨rfl, rfl, rfl, trivial⟩ (hS.pick [] rfl rfl) ?_
      rintro x5_l0 _ G8 hS x3 hF hx4
      try dsimp only at hS ⊢
      have hF : laws_eqGEdgeS.b0 p0 p1 x5_l0 = some x3 := hF; unfold laws_eqGEdgeS.b0 at hF
      refine AWP.seq ?_
      refine AWP.seqR rfl ?_
      refine ASL.q (v := (.int .i64 x5_l0)) rfl rfl (Light.quiet (opMove rfl rfl)) ?_
      refine ASL.q (v := (.list 4 (List.map TGEdge.av p0))) rfl rfl (Light.quiet (opMove rfl rfl)) ?_
      refine ASL.q (v := (.int .i64 (p0.length : Int))) rfl rfl (Light.quiet (opLenMap (f := TGEdge.av) rfl rfl rfl lenT_58 rfl)) ?_
      refine ASL.q (v := (.bool (decide (x5_l0 < ((p0.length : Int)))))) rfl rfl (Light.quiet (opInt rfl rfl rfl rfl)) ?_
      refine ASL.done ?_
      refine AWP.ifP hF rfl (fun hc9 hF => ?_) (fun hc9 hF => ?_)
      · skip
        refine AWP.skip ?_
        refine QThen.nrm ?_
        refine AWP.seq ?_
        refine AWP.block ?_
        refine AWP.seqD [(0, false), (1, false), (2, false), (3, false), (4, false), (5, false), (6, false), (7, false), (8, false), (9, false)] mixed (by kernel_rfl) rfl ?_
        refine ARL.q0 (v := (.list 4 (List.map TGEdge.av p0))) rfl rfl (Light.quiet (opMove rfl rfl)) ?_
        refine ARL.q0 (v := (.int .i64 x5_l0)) rfl rfl (Light.quiet (opMove rfl rfl)) ?_
        obtain ⟨a19, ha19, hF⟩ := bindE hF
        refine ARL.q0 (v := (.rptr [(.int .i64 a19.from_), (.int .i64 a19.letter), (.int .i64 a19.to_), (.int .i64 a19.marks)])) rfl rfl (Light.quiet (kIx (f := TGEdge.av) ha19 rfl rfl rfl elemA_58 sizeA_99 rfl)) ?_
        refine ARL.q0 (v := (TGEdge.av a19)) rfl rfl (Light.quiet (opLoadRA rfl aggA_99 sizeA_99 rfl (nlt rfl) rfl)) ?_
        refine ARL.q0 (v := (.list 4 (List.map TGEdge.av p1))) rfl rfl (Light.quiet (opMove rfl rfl)) ?_
        refine ARL.q0 (v := (.int .i64 x5_l0)) rfl rfl (Light.quiet (opMove rfl rfl)) ?_
        obtain ⟨a23, ha23, hF⟩ := bindE hF
        refine ARL.q0 (v := (.rptr [(.int .i64 a23.from_), (.int .i64 a23.letter), (.int .i64 a23.to_), (.int .i64 a23.marks)])) rfl rfl (Light.quiet (kIx (f := TGEdge.av) ha23 rfl rfl rfl elemA_58 sizeA_99 rfl)) ?_
        refine ARL.q0 (v := (TGEdge.av a23)) rfl rfl (Light.quiet (opLoadRA rfl aggA_99 sizeA_99 rfl (nlt rfl) rfl)) ?_
        refine ARL.q0 (v := (.bool (laws_eqGEdge a19 a23))) rfl rfl ((qCall rfl rfl call_118 (laws_eqGEdge_ok a19 a23) rfl)) ?_
        refine ARL.q0 (v := (.bool (!(laws_eqGEdge a19 a23)))) rfl rfl (Light.quiet (opNot rfl rfl)) ?_
        refine ARL.done ?_
        refine AWP.ifB hF rfl (fun hc10 hF => ?_) (fun hc10 hF => ?_)
        · skip
          refine AWP.seqR rfl ?_
          refine ASL.q (v := (.bool false)) rfl rfl (Light.quiet (opAssign rfl rfl)) ?_
          refine ASL.done ?_
          refine AWP.ret ?_
          refine QBlock.ret ?_
          refine QThen.rt ?_
          refine QThen.rt ?_
          refine QBlock.ret ?_
          refine QThen.rt ?_
          obtain rfl := (hx4 _ (someE hF).symm)
          have hF := hR7
          have hF := sumR hF
          obtain rfl := someE hF
          exact QRet.sole (v := (.bool false)) ⟨rfl, trivial⟩ rfl
        · skip
          refine AWP.skip ?_
          refine QBlock.nrm ?_
          refine QThen.nrm ?_
          refine AWP.lastR rfl ?_
          refine ASL.q (v := (.int .i64 x5_l0)) rfl rfl (Light.quiet (opMove rfl rfl)) ?_
          refine ASL.q (v := (.int .i64 (W (x5_l0 + 1)))) rfl rfl (Light.quiet (opInt rfl rfl rfl rfl)) ?_
          refine ASL.q (v := (.int .i64 (W (x5_l0 + 1)))) rfl rfl (Light.quiet (opAssign rfl rfl)) ?_
          refine ASL.done ?_
          refine QThen.nrm ?_
          exact ⟨(W (x5_l0 + 1)), (), (someE hF).symm, ⟨rfl, rfl, rfl, trivial⟩, (hS.pick [] rfl rfl)⟩
      · skip
        refine AWP.exit ?_
        refine QThen.ext ?_
        refine QThen.ext ?_
        refine QBlock.hit ?_
        obtain rfl := (hx4 _ (someE hF).symm)
        have hF := hR7
        have hF := sumL hF
        refine QThen.nrm ?_
        exact ⟨trivial, (hS.pick [] rfl rfl), hF⟩

set_option maxRecDepth 10000 in
theorem laws_eqGen_ok {p0 : TGen} {p1 : TGen} {r : Bool} (hF : laws_eqGen p0 p1 = some r) : PC Try.prog 38 [(TGen.av p0), (TGen.av p1)] fun v => v = (.bool r) := by
  refine PC.enter Try.func38 rfl Try.ntmps38 (by simp) ?_
  have hS := Sep.void; unfold laws_eqGen at hF
  refine AWP.seqR rfl ?_
  refine ASL.q (v := (.rptr [(.int .i64 p0.letters), (.int .i64 p0.states), (.int .i64 p0.start), (.int .i64 p0.sets), (.list 4 (List.map TGEdge.av p0.edges))])) rfl rfl ((qBoxI (v := (TGen.av p0)) rfl rfl rfl rfl)) ?_
  refine ASL.q (v := (.rptr [(.int .i64 p1.letters), (.int .i64 p1.states), (.int .i64 p1.start), (.int .i64 p1.sets), (.list 4 (List.map TGEdge.av p1.edges))])) rfl rfl ((qBoxI (v := (TGen.av p1)) rfl rfl rfl rfl)) ?_
  refine ASL.q (v := (.bool false)) rfl rfl (Light.quiet (opAssign rfl rfl)) ?_
  refine ASL.done ?_
  refine AWP.seq ?_
  refine AWP.seqR rfl ?_
  refine ASL.q (v := (.rptr [(.int .i64 p0.letters), (.int .i64 p0.states), (.int .i64 p0.start), (.int .i64 p0.sets), (.list 4 (List.map TGEdge.av p0.edges))])) rfl rfl (Light.quiet (opFieldAddrR rfl fieldA_60_0 rfl rfl)) ?_
  refine ASL.q (v := (.int .i64 p0.letters)) rfl rfl (Light.quiet (opLoadR rfl aggA_3 rfl rfl)) ?_
  refine ASL.q (v := (.rptr [(.int .i64 p1.letters), (.int .i64 p1.states), (.int .i64 p1.start), (.int .i64 p1.sets), (.list 4 (List.map TGEdge.av p1.edges))])) rfl rfl (Light.quiet (opFieldAddrR rfl fieldA_60_0 rfl rfl)) ?_
  refine ASL.q (v := (.int .i64 p1.letters)) rfl rfl (Light.quiet (opLoadR rfl aggA_3 rfl rfl)) ?_
  refine ASL.q (v := (.bool (decide (p0.letters ≠ p1.letters)))) rfl rfl (Light.quiet (opInt rfl rfl rfl rfl)) ?_
  refine ASL.done ?_
  refine AWP.ifP hF rfl (fun hc1 hF => ?_) (fun hc1 hF => ?_)
  · skip
    refine AWP.seqR rfl ?_
    refine ASL.q (v := (.bool false)) rfl rfl (Light.quiet (opAssign rfl rfl)) ?_
    refine ASL.done ?_
    refine AWP.ret ?_
    refine QThen.rt ?_
    obtain rfl := someE hF
    exact QRet.sole (v := (.bool false)) ⟨rfl, trivial⟩ rfl
  · skip
    refine AWP.skip ?_
    refine QThen.nrm ?_
    refine AWP.seq ?_
    refine AWP.seqR rfl ?_
    refine ASL.q (v := (.rptr [(.int .i64 p0.states), (.int .i64 p0.start), (.int .i64 p0.sets), (.list 4 (List.map TGEdge.av p0.edges))])) rfl rfl (Light.quiet (opFieldAddrR rfl fieldA_60_1 rfl rfl)) ?_
    refine ASL.q (v := (.int .i64 p0.states)) rfl rfl (Light.quiet (opLoadR rfl aggA_3 rfl rfl)) ?_
    refine ASL.q (v := (.rptr [(.int .i64 p1.states), (.int .i64 p1.start), (.int .i64 p1.sets), (.list 4 (List.map TGEdge.av p1.edges))])) rfl rfl (Light.quiet (opFieldAddrR rfl fieldA_60_1 rfl rfl)) ?_
    refine ASL.q (v := (.int .i64 p1.states)) rfl rfl (Light.quiet (opLoadR rfl aggA_3 rfl rfl)) ?_
    refine ASL.q (v := (.bool (decide (p0.states ≠ p1.states)))) rfl rfl (Light.quiet (opInt rfl rfl rfl rfl)) ?_
    refine ASL.done ?_
    refine AWP.ifP hF rfl (fun hc2 hF => ?_) (fun hc2 hF => ?_)
    · skip
      refine AWP.seqR rfl ?_
      refine ASL.q (v := (.bool false)) rfl rfl (Light.quiet (opAssign rfl rfl)) ?_
      refine ASL.done ?_
      refine AWP.ret ?_
      refine QThen.rt ?_
      obtain rfl := someE hF
      exact QRet.sole (v := (.bool false)) ⟨rfl, trivial⟩ rfl
    · skip
      refine AWP.skip ?_
      refine QThen.nrm ?_
      refine AWP.seq ?_
      refine AWP.seqR rfl ?_
      refine ASL.q (v := (.rptr [(.int .i64 p0.start), (.int .i64 p0.sets), (.list 4 (List.map TGEdge.av p0.edges))])) rfl rfl (Light.quiet (opFieldAddrR rfl fieldA_60_2 rfl rfl)) ?_
      refine ASL.q (v := (.int .i64 p0.start)) rfl rfl (Light.quiet (opLoadR rfl aggA_3 rfl rfl)) ?_
      refine ASL.q (v := (.rptr [(.int .i64 p1.start), (.int .i64 p1.sets), (.list 4 (List.map TGEdge.av p1.edges))])) rfl rfl (Light.quiet (opFieldAddrR rfl fieldA_60_2 rfl rfl)) ?_
      refine ASL.q (v := (.int .i64 p1.start)) rfl rfl (Light.quiet (opLoadR rfl aggA_3 rfl rfl)) ?_
      refine ASL.q (v := (.bool (decide (p0.start ≠ p1.start)))) rfl rfl (Light.quiet (opInt rfl rfl rfl rfl)) ?_
      refine ASL.done ?_
      refine AWP.ifP hF rfl (fun hc3 hF => ?_) (fun hc3 hF => ?_)
      · skip
        refine AWP.seqR rfl ?_
        refine ASL.q (v := (.bool false)) rfl rfl (Light.quiet (opAssign rfl rfl)) ?_
        refine ASL.done ?_
        refine AWP.ret ?_
        refine QThen.rt ?_
        obtain rfl := someE hF
        exact QRet.sole (v := (.bool false)) ⟨rfl, trivial⟩ rfl
      · skip
        refine AWP.skip ?_
        refine QThen.nrm ?_
        refine AWP.seq ?_
        refine AWP.seqR rfl ?_
        refine ASL.q (v := (.rptr [(.int .i64 p0.sets), (.list 4 (List.map TGEdge.av p0.edges))])) rfl rfl (Light.quiet (opFieldAddrR rfl fieldA_60_3 rfl rfl)) ?_
        refine ASL.q (v := (.int .i64 p0.sets)) rfl rfl (Light.quiet (opLoadR rfl aggA_3 rfl rfl)) ?_
        refine ASL.q (v := (.rptr [(.int .i64 p1.sets), (.list 4 (List.map TGEdge.av p1.edges))])) rfl rfl (Light.quiet (opFieldAddrR rfl fieldA_60_3 rfl rfl)) ?_
        refine ASL.q (v := (.int .i64 p1.sets)) rfl rfl (Light.quiet (opLoadR rfl aggA_3 rfl rfl)) ?_
        refine ASL.q (v := (.bool (decide (p0.sets ≠ p1.sets)))) rfl rfl (Light.quiet (opInt rfl rfl rfl rfl)) ?_
        refine ASL.done ?_
        refine AWP.ifP hF rfl (fun hc4 hF => ?_) (fun hc4 hF => ?_)
        · skip
          refine AWP.seqR rfl ?_
          refine ASL.q (v := (.bool false)) rfl rfl (Light.quiet (opAssign rfl rfl)) ?_
          refine ASL.done ?_
          refine AWP.ret ?_
          refine QThen.rt ?_
          obtain rfl := someE hF
          exact QRet.sole (v := (.bool false)) ⟨rfl, trivial⟩ rfl
        · skip
          refine AWP.skip ?_
          refine QThen.nrm ?_
          refine AWP.seq ?_
          refine AWP.seqR rfl ?_
          refine ASL.q (v := (.rptr [(.list 4 (List.map TGEdge.av p0.edges))])) rfl rfl (Light.quiet (opFieldAddrR rfl fieldA_60_4 rfl rfl)) ?_
          refine ASL.q (v := (.list 4 (List.map TGEdge.av p0.edges))) rfl rfl (Light.quiet (opLoadR rfl aggA_58 rfl rfl)) ?_
          refine ASL.q (v := (.rptr [(.list 4 (List.map TGEdge.av p1.edges))])) rfl rfl (Light.quiet (opFieldAddrR rfl fieldA_60_4 rfl rfl)) ?_
          refine ASL.q (v := (.list 4 (List.map TGEdge.av p1.edges))) rfl rfl (Light.quiet (opLoadR rfl aggA_58 rfl rfl)) ?_
          obtain ⟨a29, ha29, hF⟩ := bindE hF
          refine ASL.q (v := (.bool a29)) rfl rfl ((qCall rfl rfl call_88 (laws_eqGEdgeS_ok ha29) rfl)) ?_
          refine ASL.q (v := (.bool (!a29))) rfl rfl (Light.quiet (opNot rfl rfl)) ?_
          refine ASL.done ?_
          refine AWP.ifB hF rfl (fun hc5 hF => ?_) (fun hc5 hF => ?_)
          · skip
            refine AWP.seqR rfl ?_
            refine ASL.q (v := (.bool false)) rfl rfl (Light.quiet (opAssign rfl rfl)) ?_
            refine ASL.done ?_
            refine AWP.ret ?_
            refine QThen.rt ?_
            obtain rfl := someE hF
            exact QRet.sole (v := (.bool false)) ⟨rfl, trivial⟩ rfl
          · skip
            refine AWP.skip ?_
            refine QThen.nrm ?_
            refine AWP.seqR rfl ?_
            refine ASL.q (v := (.bool true)) rfl rfl (Light.quiet (opAssign rfl rfl)) ?_
            refine ASL.done ?_
            refine AWP.ret ?_
            obtain rfl := someE hF
            exact QRet.sole (v := (.bool true)) ⟨rfl, trivial⟩ rfl

set_option maxRecDepth 10000 in
theorem laws_eqIntS_ok {p0 : (List Int)} {p1 : (List Int)} {r : Bool} (hF : laws_eqIntS p0 p1 = some r) : PC Try.prog 19 [(.list 1 (List.map (AV.int .i64) p0)), (.list 1 (List.map (AV.int .i64) p1))] fun v => v = (.bool r) := by
  refine PC.enter Try.func19 rfl Try.ntmps19 (by simp) ?_
  have hS := Sep.void; unfold laws_eqIntS at hF
  refine AWP.seqR rfl ?_
  refine ASL.q (v := (.bool false)) rfl rfl (Light.quiet (opAssign rfl rfl)) ?_
  refine ASL.done ?_
  refine AWP.seq ?_
  refine AWP.seqR rfl ?_
  refine ASL.q (v := (.list 1 (List.map (AV.int .i64) p0))) rfl rfl (Light.quiet (opMove rfl rfl)) ?_
  refine ASL.q (v := (.int .i64 (p0.length : Int))) rfl rfl (Light.quiet (opLenMap (f := (AV.int .i64)) rfl rfl rfl lenT_34 rfl)) ?_
  refine ASL.q (v := (.list 1 (List.map (AV.int .i64) p1))) rfl rfl (Light.quiet (opMove rfl rfl)) ?_
  refine ASL.q (v := (.int .i64 (p1.length : Int))) rfl rfl (Light.quiet (opLenMap (f := (AV.int .i64)) rfl rfl rfl lenT_34 rfl)) ?_
  refine ASL.q (v := (.bool (decide (((p0.length : Int)) ≠ ((p1.length : Int)))))) rfl rfl (Light.quiet (opInt rfl rfl rfl rfl)) ?_
  refine ASL.done ?_
  refine AWP.ifP hF rfl (fun hc1 hF => ?_) (fun hc1 hF => ?_)
  · skip
    refine AWP.seqR rfl ?_
    refine ASL.q (v := (.bool false)) rfl rfl (Light.quiet (opAssign rfl rfl)) ?_
    refine ASL.done ?_
    refine AWP.ret ?_
    refine QThen.rt ?_
    obtain rfl := someE hF
    exact QRet.sole (v := (.bool false)) ⟨rfl, trivial⟩ rfl
  · skip
    refine AWP.skip ?_
    refine QThen.nrm ?_
    refine AWP.seqM (fun e H => E.Told e [] ∧ E.Sep H [] ∧ laws_eqIntS.k0 = some r) ?_ ?_
    · rintro e0 G2 ⟨hT, hS, hF⟩; refine AWP.only _ hT ?_; unfold laws_eqIntS.k0 at hF
      refine AWP.seqR rfl ?_
      refine ASL.q (v := (.bool true)) rfl rfl (Light.quiet (opAssign rfl rfl)) ?_
      refine ASL.done ?_
      refine AWP.ret ?_
      obtain rfl := someE hF
      exact QRet.sole (v := (.bool true)) ⟨rfl, trivial⟩ rfl
    · skip
      refine AWP.seqR rfl ?_
      refine ASL.q (v := (.int .i64 0)) rfl rfl (Light.quiet (opAssign rfl rfl)) ?_
      refine ASL.done ?_
      refine AWP.block ?_
      obtain ⟨o6, hL5, hR7⟩ := bindE hF
      refine AWP.loopF (ω := Unit) hL5 (fun s w => [(0, (.list 1 (List.map (AV.int .i64) p0))), (1, (.list 1 (List.map (AV.int .i64) p1))), (5, (.int .i64 s))]) (fun s w => []) () ⟨rfl, rfl, rfl, trivial⟩ (hS.pick [] rfl rfl) ?_
      rintro x5_l0 _ G8 hS x3 hF hx4
      try dsimp only at hS ⊢
      have hF : laws_eqIntS.b0 p0 p1 x5_l0 = some x3 := hF; unfold laws_eqIntS.b0 at hF
      refine AWP.seq ?_
      refine AWP.seqR rfl ?_
      refine ASL.q (v := (.int .i64 x5_l0)) rfl rfl (Light.quiet (opMove rfl rfl)) ?_
      refine ASL.q (v := (.list 1 (List.map (AV.int .i64) p0))) rfl rfl (Light.quiet (opMove rfl rfl)) ?_
      refine ASL.q (v := (.int .i64 (p0.length : Int))) rfl rfl (Light.quiet (opLenMap (f := (AV.int .i64)) rfl rfl rfl lenT_34 rfl)) ?_
      refine ASL.q (v := (.bool (decide (x5_l0 < ((p0.length : Int)))))) rfl rfl (Light.quiet (opInt rfl rfl rfl rfl)) ?_
      refine ASL.done ?_
      refine AWP.ifP hF rfl (fun hc9 hF => ?_) (fun hc9 hF => ?_)
      · skip
        refine AWP.skip ?_
        refine QThen.nrm ?_
        refine AWP.seq ?_
        refine AWP.block ?_
        refine AWP.seqD [(0, false), (1, false), (2, false), (3, false), (4, false), (5, false), (6, false), (7, false), (8, false)] mixed (by kernel_rfl) rfl ?_
        refine ARL.q0 (v := (.list 1 (List.map (AV.int .i64) p0))) rfl rfl (Light.quiet (opMove rfl rfl)) ?_
        refine ARL.q0 (v := (.int .i64 x5_l0)) rfl rfl (Light.quiet (opMove rfl rfl)) ?_
        obtain ⟨a19, ha19, hF⟩ := bindE hF
        refine ARL.q0 (v := (.rptr [(.int .i64 a19)])) rfl rfl (Light.quiet (kIx (f := (AV.int .i64)) ha19 rfl rfl rfl elemA_34 sizeA_3 rfl)) ?_
        refine ARL.q0 (v := (.int .i64 a19)) rfl rfl (Light.quiet (opLoadR rfl aggA_3 rfl rfl)) ?_
        refine ARL.q0 (v := (.list 1 (List.map (AV.int .i64) p1))) rfl rfl (Light.quiet (opMove rfl rfl)) ?_
        refine ARL.q0 (v := (.int .i64 x5_l0)) rfl rfl (Light.quiet (opMove rfl rfl)) ?_
        obtain ⟨a23, ha23, hF⟩ := bindE hF
        refine ARL.q0 (v := (.rptr [(.int .i64 a23)])) rfl rfl (Light.quiet (kIx (f := (AV.int .i64)) ha23 rfl rfl rfl elemA_34 sizeA_3 rfl)) ?_
        refine ARL.q0 (v := (.int .i64 a23)) rfl rfl (Light.quiet (opLoadR rfl aggA_3 rfl rfl)) ?_
        refine ARL.q0 (v := (.bool (decide (a19 ≠ a23)))) rfl rfl (Light.quiet (opInt rfl rfl rfl rfl)) ?_
        refine ARL.done ?_
        refine AWP.ifP hF rfl (fun hc10 hF => ?_) (fun hc10 hF => ?_)
        · skip
          refine AWP.seqR rfl ?_
          refine ASL.q (v := (.bool false)) rfl rfl (Light.quiet (opAssign rfl rfl)) ?_
          refine ASL.done ?_
          refine AWP.ret ?_
          refine QBlock.ret ?_
          refine QThen.rt ?_
          refine QThen.rt ?_
          refine QBlock.ret ?_
          refine QThen.rt ?_
          obtain rfl := (hx4 _ (someE hF).symm)
          have hF := hR7
          have hF := sumR hF
          obtain rfl := someE hF
          exact QRet.sole (v := (.bool false)) ⟨rfl, trivial⟩ rfl
        · skip
          refine AWP.skip ?_
          refine QBlock.nrm ?_
          refine QThen.nrm ?_
          refine AWP.lastR rfl ?_
          refine ASL.q (v := (.int .i64 x5_l0)) rfl rfl (Light.quiet (opMove rfl rfl)) ?_
          refine ASL.q (v := (.int .i64 (W (x5_l0 + 1)))) rfl rfl (Light.quiet (opInt rfl rfl rfl rfl)) ?_
          refine ASL.q (v := (.int .i64 (W (x5_l0 + 1)))) rfl rfl (Light.quiet (opAssign rfl rfl)) ?_
          refine ASL.done ?_
          refine QThen.nrm ?_
          exact ⟨(W (x5_l0 + 1)), (), (someE hF).symm, ⟨rfl, rfl, rfl, trivial⟩, (hS.pick [] rfl rfl)⟩
      · skip
        refine AWP.exit ?_
        refine QThen.ext ?_
        refine QThen.ext ?_
        refine QBlock.hit ?_
        obtain rfl := (hx4 _ (someE hF).symm)
        have hF := hR7
        have hF := sumL hF
        refine QThen.nrm ?_
        exact ⟨trivial, (hS.pick [] rfl rfl), hF⟩

set_option maxRecDepth 10000 in
theorem laws_eqWord_ok {p0 : TWord} {p1 : TWord} {r : Bool} (hF : laws_eqWord p0 p1 = some r) : PC Try.prog 39 [(TWord.av p0), (TWord.av p1)] fun v => v = (.bool r) := by
  refine PC.enter Try.func39 rfl Try.ntmps39 (by simp) ?_
  have hS := Sep.void; unfold laws_eqWord at hF
  refine AWP.seqR rfl ?_
  refine ASL.q (v := (.rptr [(.list 1 (List.map (AV.int .i64) p0.stem)), (.list 1 (List.map (AV.int .i64) p0.loop))])) rfl rfl ((qBoxI (v := (TWord.av p0)) rfl rfl rfl rfl)) ?_
  refine ASL.q (v := (.rptr [(.list 1 (List.map (AV.int .i64) p1.stem)), (.list 1 (List.map (AV.int .i64) p1.loop))])) rfl rfl ((qBoxI (v := (TWord.av p1)) rfl rfl rfl rfl)) ?_
  refine ASL.q (v := (.bool false)) rfl rfl (Light.quiet (opAssign rfl rfl)) ?_
  refine ASL.done ?_
  refine AWP.seq ?_
  refine AWP.seqR rfl ?_
  refine ASL.q (v := (.rptr [(.list 1 (List.map (AV.int .i64) p0.stem)), (.list 1 (List.map (AV.int .i64) p0.loop))])) rfl rfl (Light.quiet (opFieldAddrR rfl fieldA_62_0 rfl rfl)) ?_
  refine ASL.q (v := (.list 1 (List.map (AV.int .i64) p0.stem))) rfl rfl (Light.quiet (opLoadR rfl aggA_34 rfl rfl)) ?_
  refine ASL.q (v := (.rptr [(.list 1 (List.map (AV.int .i64) p1.stem)), (.list 1 (List.map (AV.int .i64) p1.loop))])) rfl rfl (Light.quiet (opFieldAddrR rfl fieldA_62_0 rfl rfl)) ?_
  refine ASL.q (v := (.list 1 (List.map (AV.int .i64) p1.stem))) rfl rfl (Light.quiet (opLoadR rfl aggA_34 rfl rfl)) ?_
  obtain ⟨a9, ha9, hF⟩ := bindE hF
  refine ASL.q (v := (.bool a9)) rfl rfl ((qCall rfl rfl call_19 (laws_eqIntS_ok ha9) rfl)) ?_
  refine ASL.q (v := (.bool (!a9))) rfl rfl (Light.quiet (opNot rfl rfl)) ?_
  refine ASL.done ?_
  refine AWP.ifB hF rfl (fun hc1 hF => ?_) (fun hc1 hF => ?_)
  · skip
    refine AWP.seqR rfl ?_
    refine ASL.q (v := (.bool false)) rfl rfl (Light.quiet (opAssign rfl rfl)) ?_
    refine ASL.done ?_
    refine AWP.ret ?_
    refine QThen.rt ?_
    obtain rfl := someE hF
    exact QRet.sole (v := (.bool false)) ⟨rfl, trivial⟩ rfl
  · skip
    refine AWP.skip ?_
    refine QThen.nrm ?_
    refine AWP.seq ?_
    refine AWP.seqR rfl ?_
    refine ASL.q (v := (.rptr [(.list 1 (List.map (AV.int .i64) p0.loop))])) rfl rfl (Light.quiet (opFieldAddrR rfl fieldA_62_1 rfl rfl)) ?_
    refine ASL.q (v := (.list 1 (List.map (AV.int .i64) p0.loop))) rfl rfl (Light.quiet (opLoadR rfl aggA_34 rfl rfl)) ?_
    refine ASL.q (v := (.rptr [(.list 1 (List.map (AV.int .i64) p1.loop))])) rfl rfl (Light.quiet (opFieldAddrR rfl fieldA_62_1 rfl rfl)) ?_
    refine ASL.q (v := (.list 1 (List.map (AV.int .i64) p1.loop))) rfl rfl (Light.quiet (opLoadR rfl aggA_34 rfl rfl)) ?_
    obtain ⟨a15, ha15, hF⟩ := bindE hF
    refine ASL.q (v := (.bool a15)) rfl rfl ((qCall rfl rfl call_19 (laws_eqIntS_ok ha15) rfl)) ?_
    refine ASL.q (v := (.bool (!a15))) rfl rfl (Light.quiet (opNot rfl rfl)) ?_
    refine ASL.done ?_
    refine AWP.ifB hF rfl (fun hc2 hF => ?_) (fun hc2 hF => ?_)
    · skip
      refine AWP.seqR rfl ?_
      refine ASL.q (v := (.bool false)) rfl rfl (Light.quiet (opAssign rfl rfl)) ?_
      refine ASL.done ?_
      refine AWP.ret ?_
      refine QThen.rt ?_
      obtain rfl := someE hF
      exact QRet.sole (v := (.bool false)) ⟨rfl, trivial⟩ rfl
    · skip
      refine AWP.skip ?_
      refine QThen.nrm ?_
      refine AWP.seqR rfl ?_
      refine ASL.q (v := (.bool true)) rfl rfl (Light.quiet (opAssign rfl rfl)) ?_
      refine ASL.done ?_
      refine AWP.ret ?_
      obtain rfl := someE hF
      exact QRet.sole (v := (.bool true)) ⟨rfl, trivial⟩ rfl

set_option maxRecDepth 10000 in
theorem laws_FnExactGenTakes_ok {p0 : TGen} {p1 : TWord} {r : Bool} (hF : laws_FnExactGenTakes p0 p1 = some r) : PC Try.prog 9 [(TGen.av p0), (TWord.av p1)] fun v => v = (.bool r) := by
  refine PC.enter Try.func9 rfl Try.ntmps9 (by simp) ?_
  have hS := Sep.void; unfold laws_FnExactGenTakes at hF
  refine AWP.seqR rfl ?_
  refine ASL.q (v := (.rptr [(.int .i64 p0.letters), (.int .i64 p0.states), (.int .i64 p0.start), (.int .i64 p0.sets), (.list 4 (List.map TGEdge.av p0.edges))])) rfl rfl ((qBoxI (v := (TGen.av p0)) rfl rfl rfl rfl)) ?_
  refine ASL.q (v := (.rptr [(.list 1 (List.map (AV.int .i64) p1.stem)), (.list 1 (List.map (AV.int .i64) p1.loop))])) rfl rfl ((qBoxI (v := (TWord.av p1)) rfl rfl rfl rfl)) ?_
  refine ASL.q (v := (.bool false)) rfl rfl (Light.quiet (opAssign rfl rfl)) ?_
  refine ASL.done ?_
  refine AWP.seqR rfl ?_
  refine ASL.q (v := (.int .i64 1048576)) rfl rfl (Light.quiet (opAssign rfl rfl)) ?_
  refine ASL.done ?_
  refine AWP.seqR rfl ?_
  refine ASL.q (v := (TGen.av p0)) rfl rfl (Light.quiet (opLoadRA rfl aggA_52 sizeA_52 rfl (nlt rfl) rfl)) ?_
  refine ASL.q (v := (.int .i64 1048576)) rfl rfl (Light.quiet (opMove rfl rfl)) ?_
  refine ASL.q (v := (.int .i64 (laws_szGen p0 1048576))) rfl rfl ((qCall rfl rfl call_32 (laws_szGen_ok p0 1048576) rfl)) ?_
  refine ASL.q (v := (.int .i64 (laws_szGen p0 1048576))) rfl rfl (Light.quiet (opAssign rfl rfl)) ?_
  refine ASL.done ?_
  refine AWP.seq ?_
  refine AWP.seqR rfl ?_
  refine ASL.q (v := (.int .i64 (laws_szGen p0 1048576))) rfl rfl (Light.quiet (opMove rfl rfl)) ?_
  refine ASL.q (v := (.bool (decide (((laws_szGen p0 1048576)) < 0)))) rfl rfl (Light.quiet (opInt rfl rfl rfl rfl)) ?_
  refine ASL.done ?_
  refine AWP.ifP hF rfl (fun hc1 hF => ?_) (fun hc1 hF => ?_)
  · skip
    refine AWP.seqR rfl ?_
    refine ASL.q (v := (.bool true)) rfl rfl (Light.quiet (opAssign rfl rfl)) ?_
    refine ASL.done ?_
    refine AWP.ret ?_
    refine QThen.rt ?_
    obtain rfl := someE hF
    exact QRet.sole (v := (.bool true)) ⟨rfl, trivial⟩ rfl
  · skip
    refine AWP.skip ?_
    refine QThen.nrm ?_
    refine AWP.seqR rfl ?_
    refine ASL.q (v := (TWord.av p1)) rfl rfl (Light.quiet (opLoadRA rfl aggA_54 sizeA_54 rfl (nlt rfl) rfl)) ?_
    refine ASL.q (v := (.int .i64 (laws_szGen p0 1048576))) rfl rfl (Light.quiet (opMove rfl rfl)) ?_
    refine ASL.q (v := (.int .i64 (laws_szWord p1 ((laws_szGen p0 1048576))))) rfl rfl ((qCall rfl rfl call_33 (laws_szWord_ok p1 ((laws_szGen p0 1048576))) rfl)) ?_
    refine ASL.q (v := (.int .i64 (laws_szWord p1 ((laws_szGen p0 1048576))))) rfl rfl (Light.quiet (opAssign rfl rfl)) ?_
    refine ASL.done ?_
    refine AWP.seq ?_
    refine AWP.seqR rfl ?_
    refine ASL.q (v := (.int .i64 (laws_szWord p1 ((laws_szGen p0 1048576))))) rfl rfl (Light.quiet (opMove rfl rfl)) ?_
    refine ASL.q (v := (.bool (decide (((laws_szWord p1 ((laws_szGen p0 1048576)))) < 0)))) rfl rfl (Light.quiet (opInt rfl rfl rfl rfl)) ?_
    refine ASL.done ?_
    refine AWP.ifP hF rfl (fun hc2 hF => ?_) (fun hc2 hF => ?_)
    · skip
      refine AWP.seqR rfl ?_
      refine ASL.q (v := (.bool true)) rfl rfl (Light.quiet (opAssign rfl rfl)) ?_
      refine ASL.done ?_
      refine AWP.ret ?_
      refine QThen.rt ?_
      obtain rfl := someE hF
      exact QRet.sole (v := (.bool true)) ⟨rfl, trivial⟩ rfl
    · skip
      refine AWP.skip ?_
      refine QThen.nrm ?_
      refine AWP.seqD [(0, false), (2, false), (1, true), (3, true), (4, false), (5, false)] mixed (by kernel_rfl) rfl ?_
      refine ARL.q0 (v := (TGen.av p0)) rfl rfl (Light.quiet (opLoadRA rfl aggA_52 sizeA_52 rfl (nlt rfl) rfl)) ?_
      refine ARL.q0 (v := (TWord.av p1)) rfl rfl (Light.quiet (opLoadRA rfl aggA_54 sizeA_54 rfl (nlt rfl) rfl)) ?_
      obtain ⟨a21, ha21, hF⟩ := bindE hF
      refine ARL.x rfl rfl rfl (hCallSR hS rfl rfl call_35 (laws_toGen_ok ha21) ⟨.same _, trivial⟩ (by rintro _ _ G ⟨w3, rfl, rfl⟩ hG; exact ⟨(Scal.agg (ScalC.cons (by constructor) (ScalC.cons (by constructor) (ScalC.cons (by constructor) (ScalC.cons (by constructor) (ScalC.cons (hG.scR (k := 0) rfl) ScalC.nil)))))), ⟨(Scal.row (fun _ => by simp only [TGEdge.av, cells, List.mem_cons, List.not_mem_nil, or_false]; rintro c hc; rcases hc with rfl | rfl | rfl | rfl <;> constructor)), trivial⟩⟩) ?_); rintro _ _ G5 ⟨w3, rfl, rfl⟩ hK hS; refine ⟨hK, ?_⟩
      obtain ⟨a23, ha23, hF⟩ := bindE hF
      refine ARL.x rfl rfl rfl (hCallSR hS rfl rfl call_36 (laws_toWord_ok ha23) ⟨.same _, trivial⟩ (by rintro _ _ G ⟨w6, w8, rfl, rfl⟩ hG; exact ⟨(Scal.agg (ScalC.cons (hG.scR (k := 0) rfl) (ScalC.cons (hG.scR (k := 1) rfl) ScalC.nil))), ⟨(Scal.ints _ _), (Scal.ints _ _), trivial⟩⟩) ?_); rintro _ _ G10 ⟨w6, w8, rfl, rfl⟩ hK hS; refine ⟨hK, ?_⟩
      obtain ⟨a24, ha24, hF⟩ := bindE hF
      refine ARL.q (v := (.bool a24)) rfl rfl (hS.aliveAll) ((qCallR hS rfl rfl call_34 (spec_GenTakes_ok ha24) ⟨.aggL ⟨.same _, .same _, .same _, .same _, .row (k := 2) rfl, trivial⟩, .aggL ⟨.row (k := 0) rfl, .row (k := 1) rfl, trivial⟩, trivial⟩ (by constructor))) ?_
      refine ARL.q0 (v := (.bool a24)) rfl rfl (Light.quiet (opAssign rfl rfl)) ?_
      refine ARL.done ?_
      refine AWP.seqR rfl ?_
      refine ASL.q (v := (TGen.av p0)) rfl rfl (Light.quiet (opLoadRA rfl aggA_52 sizeA_52 rfl (nlt rfl) rfl)) ?_
      obtain ⟨a26, ha26, hF⟩ := bindE hF
      refine ASL.x rfl rfl (hCallSR hS rfl rfl call_35 (laws_toGen_ok ha26) ⟨.same _, trivial⟩ (by rintro _ _ G ⟨w11, rfl, rfl⟩ hG; exact ⟨(Scal.agg (ScalC.cons (by constructor) (ScalC.cons (by constructor) (ScalC.cons (by constructor) (ScalC.cons (by constructor) (ScalC.cons (hG.scR (k := 0) rfl) ScalC.nil)))))), ⟨(Scal.row (fun _ => by simp only [TGEdge.av, cells, List.mem_cons, List.not_mem_nil, or_false]; rintro c hc; rcases hc with rfl | rfl | rfl | rfl <;> constructor)), trivial⟩⟩) ?_); rintro _ _ G13 ⟨w11, rfl, rfl⟩ hK hS
      refine ASL.x rfl rfl (hNewZ hS [(.int .i64 0), (.int .i64 0), (.int .i64 0), (.int .i64 0), (.list 4 (List.map TGEdge.av []))] rfl zeroA_60 ⟨.inl rfl, .inl rfl, .inl rfl, .inl rfl, .inr ⟨_, rfl, rfl⟩, trivial⟩ ?_); rintro b7 G14 hK hS
      refine ASL.n rfl rfl (hPutA hS (j := 0) rfl rfl sizeA_60 rfl rfl rfl rfl (allC rfl (allC rfl (allC rfl (allC rfl (allC (hS.one (k := 1) rfl) rfl))))) (nlt rfl) ?_); rintro G16 hS
      refine ASL.done ?_
      refine AWP.seqR rfl ?_
      refine ASL.q (v := (TWord.av p1)) rfl rfl (Light.quiet (opLoadRA rfl aggA_54 sizeA_54 rfl (nlt rfl) rfl)) ?_
      obtain ⟨a28, ha28, hF⟩ := bindE hF
      refine ASL.x rfl rfl (hCallSR hS rfl rfl call_36 (laws_toWord_ok ha28) ⟨.same _, trivial⟩ (by rintro _ _ G ⟨w17, w19, rfl, rfl⟩ hG; exact ⟨(Scal.agg (ScalC.cons (hG.scR (k := 0) rfl) (ScalC.cons (hG.scR (k := 1) rfl) ScalC.nil))), ⟨(Scal.ints _ _), (Scal.ints _ _), trivial⟩⟩) ?_); rintro _ _ G21 ⟨w17, w19, rfl, rfl⟩ hK hS
      refine ASL.x rfl rfl (hNewZ hS [(.list 1 (List.map (AV.int .i64) [])), (.list 1 (List.map (AV.int .i64) []))] rfl zeroA_62 ⟨.inr ⟨_, rfl, rfl⟩, .inr ⟨_, rfl, rfl⟩, trivial⟩ ?_); rintro b8 G22 hK hS
      refine ASL.n rfl rfl (hPutA hS (j := 0) rfl rfl sizeA_62 rfl rfl rfl rfl (allC (hS.one (k := 1) rfl) (allC (hS.one (k := 2) rfl) rfl)) (nlt rfl) ?_); rintro G24 hS
      refine ASL.done ?_
      refine AWP.seqR rfl ?_
      refine ASL.q (v := (.agg [(.int .i64 a26.letters), (.int .i64 a26.states), (.int .i64 a26.start), (.int .i64 a26.sets), w11])) rfl rfl (Light.quiet (kAtA hS (j := 3) rfl rfl aggA_60 sizeA_60 rfl (nlt rfl) rfl)) ?_
      refine ASL.q (v := (.agg [w17, w19])) rfl rfl (Light.quiet (kAtA hS (j := 0) rfl rfl aggA_62 sizeA_62 rfl (nlt rfl) rfl)) ?_
      obtain ⟨a31, ha31, hF⟩ := bindE hF
      refine ASL.q (v := (.bool a31)) rfl rfl ((qCallR hS rfl rfl call_37 (impl_GenTakes_ok ha31) ⟨.aggL ⟨.same _, .same _, .same _, .same _, .row (k := 4) rfl, trivial⟩, .aggL ⟨.row (k := 1) rfl, .row (k := 2) rfl, trivial⟩, trivial⟩ (by constructor))) ?_
      refine ASL.q (v := (.bool a31)) rfl rfl (Light.quiet (opAssign rfl rfl)) ?_
      refine ASL.done ?_
      refine AWP.seq ?_
      refine AWP.seqR rfl ?_
      refine ASL.q (v := (.bool a31)) rfl rfl (Light.quiet (opMove rfl rfl)) ?_
      refine ASL.q (v := (.bool a24)) rfl rfl (Light.quiet (opMove rfl rfl)) ?_
      refine ASL.q (v := (.bool (!(a31 == a24)))) rfl rfl (Light.quiet (opBoolEq rfl rfl rfl und_4 rfl)) ?_
      refine ASL.done ?_
      refine AWP.ifB hF rfl (fun hc25 hF => ?_) (fun hc25 hF => ?_)
      · skip
        refine AWP.seqR rfl ?_
        refine ASL.q (v := (.bool false)) rfl rfl (Light.quiet (opAssign rfl rfl)) ?_
        refine ASL.done ?_
        refine AWP.ret ?_
        refine QThen.rt ?_
        obtain rfl := someE hF
        exact QRet.sole (v := (.bool false)) ⟨rfl, trivial⟩ rfl
      · skip
        refine AWP.skip ?_
        refine QThen.nrm ?_
        refine AWP.seq ?_
        refine AWP.seqD [(0, false), (1, false), (2, true), (3, false), (4, false)] mixed (by kernel_rfl) rfl ?_
        refine ARL.q (v := (.agg [(.int .i64 a26.letters), (.int .i64 a26.states), (.int .i64 a26.start), (.int .i64 a26.sets), w11])) rfl rfl (hS.aliveC (k := 3) rfl) (Light.quiet (kAtA hS (j := 3) rfl rfl aggA_60 sizeA_60 rfl (nlt rfl) rfl)) ?_
        refine ARL.q0 (v := (TGen.av p0)) rfl rfl (Light.quiet (opLoadRA rfl aggA_52 sizeA_52 rfl (nlt rfl) rfl)) ?_
        obtain ⟨a37, ha37, hF⟩ := bindE hF
        refine ARL.x rfl rfl rfl (hCallSR hS rfl rfl call_35 (laws_toGen_ok ha37) ⟨.same _, trivial⟩ (by rintro _ _ G ⟨w26, rfl, rfl⟩ hG; exact ⟨(Scal.agg (ScalC.cons (by constructor) (ScalC.cons (by constructor) (ScalC.cons (by constructor) (ScalC.cons (by constructor) (ScalC.cons (hG.scR (k := 0) rfl) ScalC.nil)))))), ⟨(Scal.row (fun _ => by simp only [TGEdge.av, cells, List.mem_cons, List.not_mem_nil, or_false]; rintro c hc; rcases hc with rfl | rfl | rfl | rfl <;> constructor)), trivial⟩⟩) ?_); rintro _ _ G28 ⟨w26, rfl, rfl⟩ hK hS; refine ⟨hK, ?_⟩
        obtain ⟨a38, ha38, hF⟩ := bindE hF
        refine ARL.q (v := (.bool a38)) rfl rfl (hS.aliveAll) ((qCallR hS rfl rfl call_38 (laws_eqGen_ok ha38) ⟨.aggL ⟨.same _, .same _, .same _, .same _, .row (k := 5) rfl, trivial⟩, .aggL ⟨.same _, .same _, .same _, .same _, .row (k := 0) rfl, trivial⟩, trivial⟩ (by constructor))) ?_
        refine ARL.q0 (v := (.bool (!a38))) rfl rfl (Light.quiet (opNot rfl rfl)) ?_
        refine ARL.done ?_
        refine AWP.ifB hF rfl (fun hc29 hF => ?_) (fun hc29 hF => ?_)
        · skip
          refine AWP.seqR rfl ?_
          refine ASL.q (v := (.bool false)) rfl rfl (Light.quiet (opAssign rfl rfl)) ?_
          refine ASL.done ?_
          refine AWP.ret ?_
          refine QThen.rt ?_
          obtain rfl := someE hF
          exact QRet.sole (v := (.bool false)) ⟨rfl, trivial⟩ rfl
        · skip
          refine AWP.skip ?_
          refine QThen.nrm ?_
          refine AWP.seq ?_
          refine AWP.seqD [(0, false), (1, false), (2, true), (3, false), (4, false)] mixed (by kernel_rfl) rfl ?_
          refine ARL.q (v := (.agg [w17, w19])) rfl rfl (hS.aliveC (k := 1) rfl) (Light.quiet (kAtA hS (j := 1) rfl rfl aggA_62 sizeA_62 rfl (nlt rfl) rfl)) ?_
          refine ARL.q0 (v := (TWord.av p1)) rfl rfl (Light.quiet (opLoadRA rfl aggA_54 sizeA_54 rfl (nlt rfl) rfl)) ?_
          obtain ⟨a42, ha42, hF⟩ := bindE hF
          refine ARL.x rfl rfl rfl (hCallSR hS rfl rfl call_36 (laws_toWord_ok ha42) ⟨.same _, trivial⟩ (by rintro _ _ G ⟨w30, w32, rfl, rfl⟩ hG; exact ⟨(Scal.agg (ScalC.cons (hG.scR (k := 0) rfl) (ScalC.cons (hG.scR (k := 1) rfl) ScalC.nil))), ⟨(Scal.ints _ _), (Scal.ints _ _), trivial⟩⟩) ?_); rintro _ _ G34 ⟨w30, w32, rfl, rfl⟩ hK hS; refine ⟨hK, ?_⟩
          obtain ⟨a43, ha43, hF⟩ := bindE hF
          refine ARL.q (v := (.bool a43)) rfl rfl (hS.aliveAll) ((qCallR hS rfl rfl call_39 (laws_eqWord_ok ha43) ⟨.aggL ⟨.row (k := 4) rfl, .row (k := 5) rfl, trivial⟩, .aggL ⟨.row (k := 0) rfl, .row (k := 1) rfl, trivial⟩, trivial⟩ (by constructor))) ?_
          refine ARL.q0 (v := (.bool (!a43))) rfl rfl (Light.quiet (opNot rfl rfl)) ?_
          refine ARL.done ?_
          refine AWP.ifB hF rfl (fun hc35 hF => ?_) (fun hc35 hF => ?_)
          · skip
            refine AWP.seqR rfl ?_
            refine ASL.q (v := (.bool false)) rfl rfl (Light.quiet (opAssign rfl rfl)) ?_
            refine ASL.done ?_
            refine AWP.ret ?_
            refine QThen.rt ?_
            obtain rfl := someE hF
            exact QRet.sole (v := (.bool false)) ⟨rfl, trivial⟩ rfl
          · skip
            refine AWP.skip ?_
            refine QThen.nrm ?_
            refine AWP.seqR rfl ?_
            refine ASL.q (v := (.bool true)) rfl rfl (Light.quiet (opAssign rfl rfl)) ?_
            refine ASL.done ?_
            refine AWP.ret ?_
            obtain rfl := someE hF
            exact QRet.sole (v := (.bool true)) ⟨rfl, trivial⟩ rfl

end Go.Proofs.Ythdclobnmicdaaa
