/- Each of these functions of the program comes to just what its plain function says: FnExactLtlAuto. -/
import Derived.Test.YthdoebgikbfndaaGreatKLtlAutop0
namespace Go.Proofs.YthdoebgikbfndaaGreat
open Go Go.RowKit E
set_option linter.unusedVariables false
set_option maxRecDepth 10000 in
theorem spec_AutoOk_ok {p0 : TAuto} {r : Bool} (hF : spec_AutoOk p0 = some r) : PC Tryz.prog 36 [(TAuto.av p0)] fun v => v = (.bool r) := by
  refine PC.enter Tryz.func36 rfl Tryz.ntmps36 (by simp) ?_
  have hS := Sep.void; unfold spec_AutoOk at hF
  refine AWP.seqR rfl ?_
  refine ASL.q (v := (.rptr [(.int .i64 p0.letters), (.int .i64 p0.states), (.int .i64 p0.start), (.list 4 (List.map TEdge.av p0.edges))])) rfl rfl ((qBoxI (v := (TAuto.av p0)) rfl rfl rfl rfl)) ?_
  refine ASL.q (v := (.bool false)) rfl rfl (Light.quiet (opAssign rfl rfl)) ?_
  refine ASL.done ?_
  refine AWP.seq ?_
  refine AWP.seqD [(0, false), (1, false), (2, false), (3, false), (4, false), (5, false), (6, false), (7, false), (8, false), (9, false), (10, false), (11, false), (12, false), (13, false), (14, false), (15, false), (16, false), (17, false), (18, false), (19, false), (20, false), (21, false), (22, false), (23, false), (24, false), (25, false)] mixed (by kernel_rfl) rfl ?_
  refine ARL.q0 (v := (.rptr [(.int .i64 p0.letters), (.int .i64 p0.states), (.int .i64 p0.start), (.list 4 (List.map TEdge.av p0.edges))])) rfl rfl (Light.quiet (opFieldAddrR rfl fieldA_26_0 rfl rfl)) ?_
  refine ARL.q0 (v := (.int .i64 p0.letters)) rfl rfl (Light.quiet (opLoadR rfl aggA_3 rfl rfl)) ?_
  refine ARL.q0 (v := (.bool (spec_l1In p0.letters 1 8))) rfl rfl ((qCall rfl rfl call_26 (spec_l1In_ok p0.letters 1 8) rfl)) ?_
  refine ARL.q0 (v := (.bool (!(spec_l1In p0.letters 1 8)))) rfl rfl (Light.quiet (opNot rfl rfl)) ?_
  obtain ⟨c9, hc9, hF⟩ := bndE hF
  refine ARL.q0 (v := (.bool c9)) rfl rfl ((Quiet.cast (Light.quiet (opMove rfl rfl)) (congrArg AV.bool hc9.symm))) ?_
  refine ARL.g (v := (.rptr [(.int .i64 p0.states), (.int .i64 p0.start), (.list 4 (List.map TEdge.av p0.edges))])) (.bool c9) false rfl (wF _) rfl noneAlive (fun hG => by have q0 := gN hG; subst q0; exact Light.quiet (opFieldAddrR rfl fieldA_26_1 rfl rfl)) ?_
  refine ARL.g (v := (.int .i64 p0.states)) (.bool c9) false rfl (wF _) rfl noneAlive (fun hG => by have q0 := gN hG; subst q0; exact Light.quiet (opLoadR rfl aggA_3 rfl rfl)) ?_
  refine ARL.g (v := (.bool (spec_l1In p0.states 0 31))) (.bool c9) false rfl (wF _) rfl noneAlive (fun hG => by have q0 := gN hG; subst q0; exact (qCall rfl rfl call_26 (spec_l1In_ok p0.states 0 31) rfl)) ?_
  refine ARL.g (v := (.bool (!(spec_l1In p0.states 0 31)))) (.bool c9) false rfl (wF _) rfl noneAlive (fun hG => by have q0 := gN hG; subst q0; exact Light.quiet (opNot rfl rfl)) ?_
  refine ARL.q0 (v := (.bool (c9 || (!(spec_l1In p0.states 0 31))))) rfl rfl (Light.quiet (opPick (b := c9) rfl rfl (by cases c9 <;> rfl))) ?_
  obtain ⟨c15, hc15, hF⟩ := bndE hF
  refine ARL.q0 (v := (.bool c15)) rfl rfl ((Quiet.cast (Light.quiet (opMove rfl rfl)) (congrArg AV.bool hc15.symm))) ?_
  refine ARL.g (v := (.rptr [(.int .i64 p0.start), (.list 4 (List.map TEdge.av p0.edges))])) (.bool c15) false rfl (wF _) rfl noneAlive (fun hG => by have q0 := gN hG; subst q0; exact Light.quiet (opFieldAddrR rfl fieldA_26_2 rfl rfl)) ?_
  refine ARL.g (v := (.int .i64 p0.start)) (.bool c15) false rfl (wF _) rfl noneAlive (fun hG => by have q0 := gN hG; subst q0; exact Light.quiet (opLoadR rfl aggA_3 rfl rfl)) ?_
  refine ARL.g (v := (.rptr [(.int .i64 p0.states), (.int .i64 p0.start), (.list 4 (List.map TEdge.av p0.edges))])) (.bool c15) false rfl (wF _) rfl noneAlive (fun hG => by have q0 := gN hG; subst q0; exact Light.quiet (opFieldAddrR rfl fieldA_26_1 rfl rfl)) ?_
  refine ARL.g (v := (.int .i64 p0.states)) (.bool c15) false rfl (wF _) rfl noneAlive (fun hG => by have q0 := gN hG; subst q0; exact Light.quiet (opLoadR rfl aggA_3 rfl rfl)) ?_
  obtain ⟨u1, hu1, hF⟩ := bindE hF
  refine ARL.g (v := (.int .i64 (shl .i64 1 p0.states))) (.bool c15) false rfl (wF _) rfl noneAlive (fun hG => by have q0 := gN hG; subst q0; exact Light.quiet (opShl rfl rfl rfl (of_decide_eq_true (chkE (whenE hu1))) rfl)) ?_
  refine ARL.g (v := (.int .i64 (W (((shl .i64 1 p0.states)) - 1)))) (.bool c15) false rfl (wF _) rfl noneAlive (fun hG => by have q0 := gN hG; subst q0; exact Light.quiet (opInt rfl rfl rfl rfl)) ?_
  refine ARL.g (v := (.bool (spec_SetIn p0.start ((W (((shl .i64 1 p0.states)) - 1)))))) (.bool c15) false rfl (wF _) rfl noneAlive (fun hG => by have q0 := gN hG; subst q0; exact (qCall rfl rfl call_62 (spec_SetIn_ok p0.start ((W (((shl .i64 1 p0.states)) - 1)))) rfl)) ?_
  refine ARL.g (v := (.bool (!(spec_SetIn p0.start ((W (((shl .i64 1 p0.states)) - 1))))))) (.bool c15) false rfl (wF _) rfl noneAlive (fun hG => by have q0 := gN hG; subst q0; exact Light.quiet (opNot rfl rfl)) ?_
  refine ARL.q0 (v := (.bool (c15 || (!(spec_SetIn p0.start ((W (((shl .i64 1 p0.states)) - 1)))))))) rfl rfl (Light.quiet (opPick (b := c15) rfl rfl (by cases c15 <;> rfl))) ?_
  obtain ⟨c25, hc25, hF⟩ := bndE hF
  refine ARL.q0 (v := (.bool c25)) rfl rfl ((Quiet.cast (Light.quiet (opMove rfl rfl)) (congrArg AV.bool hc25.symm))) ?_
  refine ARL.g (v := (.rptr [(.list 4 (List.map TEdge.av p0.edges))])) (.bool c25) false rfl (wF _) rfl noneAlive (fun hG => by have q0 := gN hG; subst q0; exact Light.quiet (opFieldAddrR rfl fieldA_26_3 rfl rfl)) ?_
  refine ARL.g (v := (.list 4 (List.map TEdge.av p0.edges))) (.bool c25) false rfl (wF _) rfl noneAlive (fun hG => by have q0 := gN hG; subst q0; exact Light.quiet (opLoadR rfl aggA_24 rfl rfl)) ?_
  refine ARL.g (v := (.int .i64 (p0.edges.length : Int))) (.bool c25) false rfl (wF _) rfl noneAlive (fun hG => by have q0 := gN hG; subst q0; exact Light.quiet (opLenMap (f := TEdge.av) rfl rfl rfl lenT_24 rfl)) ?_
  refine ARL.g (v := (.bool (decide (((p0.edges.length : Int)) > 2000)))) (.bool c25) false rfl (wF _) rfl noneAlive (fun hG => by have q0 := gN hG; subst q0; exact Light.quiet (opInt rfl rfl rfl rfl)) ?_
  refine ARL.q0 (v := (.bool (c25 || (decide (((p0.edges.length : Int)) > 2000))))) rfl rfl (Light.quiet (opPick (b := c25) rfl rfl (by cases c25 <;> rfl))) ?_
  refine ARL.done ?_
  refine AWP.ifB hF rfl (fun hc2 hF => ?_) (fun hc2 hF => ?_)
  · skip
    refine AWP.seqR rfl ?_
    refine ASL.q (v := (.bool false)) rfl rfl (Light.quiet (opAssign rfl rfl)) ?_
    refine ASL.done ?_
    refine AWP.ret ?_
    refine QThen.rt ?_
    obtain rfl := someE hF
    exact QRet.sole (v := (.bool false)) ⟨rfl, trivial⟩ rfl
  · skip
    refine AWP.skip ?_
    refine QThen.nrm ?_
    refine AWP.seqM (fun e H => E.Told e [] ∧ E.Sep H [] ∧ spec_AutoOk.k0 = some r) ?_ ?_
    · rintro e0 G3 ⟨hT, hS, hF⟩; refine AWP.only _ hT ?_; unfold spec_AutoOk.k0 at hF
      refine AWP.seqR rfl ?_
      refine ASL.q (v := (.bool true)) rfl rfl (Light.quiet (opAssign rfl rfl)) ?_
      refine ASL.done ?_
      refine AWP.ret ?_
      obtain rfl := someE hF
      exact QRet.sole (v := (.bool true)) ⟨rfl, trivial⟩ rfl
    · skip
      refine AWP.seqR rfl ?_
      refine ASL.q (v := (.int .i64 0)) rfl rfl (Light.quiet (opAssign rfl rfl)) ?_
      refine ASL.done ?_
      refine AWP.block ?_
      obtain ⟨o7, hL6, hR8⟩ := bindE hF
      refine AWP.loopF (ω := Unit) hL6 (fun s w => [(1, (.rptr [(.int .i64 p0.letters), (.int .i64 p0.states), (.int .i64 p0.start), (.list 4 (List.map TEdge.av p0.edges))])), (3, (.int .i64 s))]) (fun s w => []) () ⟨rfl, rfl, trivial⟩ (hS.pick [] rfl rfl) ?_
      rintro x3_l0 _ G9 hS x4 hF hx5
      try dsimp only at hS ⊢
      have hF : spec_AutoOk.b0 p0 x3_l0 = some x4 := hF; unfold spec_AutoOk.b0 at hF
      refine AWP.seq ?_
      refine AWP.seqR rfl ?_
      refine ASL.q (v := (.int .i64 x3_l0)) rfl rfl (Light.quiet (opMove rfl rfl)) ?_
      refine ASL.q (v := (.rptr [(.list 4 (List.map TEdge.av p0.edges))])) rfl rfl (Light.quiet (opFieldAddrR rfl fieldA_26_3 rfl rfl)) ?_
      refine ASL.q (v := (.list 4 (List.map TEdge.av p0.edges))) rfl rfl (Light.quiet (opLoadR rfl aggA_24 rfl rfl)) ?_
      refine ASL.q (v := (.int .i64 (p0.edges.length : Int))) rfl rfl (Light.quiet (opLenMap (f := TEdge.av) rfl rfl rfl lenT_24 rfl)) ?_
      refine ASL.q (v := (.bool (decide (x3_l0 < ((p0.edges.length : Int)))))) rfl rfl (Light.quiet (opInt rfl rfl rfl rfl)) ?_
      refine ASL.done ?_
      refine AWP.ifP hF rfl (fun hc10 hF => ?_) (fun hc10 hF => ?_)
      · skip
        refine AWP.skip ?_
        refine QThen.nrm ?_
        refine AWP.seq ?_
        refine AWP.block ?_
        refine AWP.seqR rfl ?_
        refine ASL.q (v := (.rptr [(.list 4 (List.map TEdge.av p0.edges))])) rfl rfl (Light.quiet (opFieldAddrR rfl fieldA_26_3 rfl rfl)) ?_
        refine ASL.q (v := (.list 4 (List.map TEdge.av p0.edges))) rfl rfl (Light.quiet (opLoadR rfl aggA_24 rfl rfl)) ?_
        refine ASL.q (v := (.int .i64 x3_l0)) rfl rfl (Light.quiet (opMove rfl rfl)) ?_
        obtain ⟨a41, ha41, hF⟩ := bindE hF
        refine ASL.q (v := (.rptr [(.int .i64 a41.from_), (.int .i64 a41.letter), (.int .i64 a41.to_), (.bool a41.good)])) rfl rfl (Light.quiet (kIx (f := TEdge.av) ha41 rfl rfl rfl elemA_24 sizeA_68 rfl)) ?_
        refine ASL.q (v := (TEdge.av a41)) rfl rfl (Light.quiet (opLoadRA rfl aggA_68 sizeA_68 rfl (nlt rfl) rfl)) ?_
        refine ASL.x rfl rfl (hNewZ hS [(.int .i64 0), (.int .i64 0), (.int .i64 0), (.bool false)] rfl zeroA_68 ⟨.inl rfl, .inl rfl, .inl rfl, .inl rfl, trivial⟩ ?_); rintro b4 G11 hK hS
        refine ASL.n rfl rfl (hPutA hS (j := 0) rfl rfl sizeA_68 rfl rfl rfl rfl rfl (nlt rfl) ?_); rintro G13 hS
        refine ASL.done ?_
        refine AWP.seqD [(0, false), (1, false), (2, false), (3, false), (4, false), (5, false), (6, false), (7, false), (8, false), (9, false), (10, false), (11, false), (12, false), (13, false), (14, false), (15, false), (16, false), (17, false), (18, false), (19, false), (20, false), (21, false), (22, false), (23, false), (24, false), (25, false), (26, false), (27, false), (28, false), (29, false), (30, false), (31, false), (32, false), (33, false), (34, false), (35, false), (36, false), (37, false)] mixed (by kernel_rfl) rfl ?_
        refine ARL.q0 (v := (.ptr b4 0)) rfl rfl (Light.quiet (opFieldAddr rfl fieldA_68_0 rfl rfl)) ?_
        refine ARL.q (v := (.int .i64 a41.from_)) rfl rfl (hS.aliveC (k := 0) rfl) (Light.quiet (kAt hS (j := 0) rfl rfl aggA_3 rfl rfl)) ?_
        refine ARL.q0 (v := (.rptr [(.int .i64 p0.states), (.int .i64 p0.start), (.list 4 (List.map TEdge.av p0.edges))])) rfl rfl (Light.quiet (opFieldAddrR rfl fieldA_26_1 rfl rfl)) ?_
        refine ARL.q0 (v := (.int .i64 p0.states)) rfl rfl (Light.quiet (opLoadR rfl aggA_3 rfl rfl)) ?_
        refine ARL.q0 (v := (.bool (spec_l4State a41.from_ p0.states))) rfl rfl ((qCall rfl rfl call_63 (spec_l4State_ok a41.from_ p0.states) rfl)) ?_
        refine ARL.q0 (v := (.bool (!(spec_l4State a41.from_ p0.states)))) rfl rfl (Light.quiet (opNot rfl rfl)) ?_
        obtain ⟨c49, hc49, hF⟩ := bndE hF
        refine ARL.q0 (v := (.bool c49)) rfl rfl ((Quiet.cast (Light.quiet (opMove rfl rfl)) (congrArg AV.bool hc49.symm))) ?_
        refine ARL.g (v := (.ptr b4 2)) (.bool c49) false rfl (wF _) rfl noneAlive (fun hG => by have q0 := gN hG; subst q0; exact Light.quiet (opFieldAddr rfl fieldA_68_2 rfl rfl)) ?_
        refine ARL.g (v := (.int .i64 a41.to_)) (.bool c49) false rfl (wF _) rfl (hS.aliveC (k := 0) rfl) (fun hG => by have q0 := gN hG; subst q0; exact Light.quiet (kAt hS (j := 0) rfl rfl aggA_3 rfl rfl)) ?_
        refine ARL.g (v := (.rptr [(.int .i64 p0.states), (.int .i64 p0.start), (.list 4 (List.map TEdge.av p0.edges))])) (.bool c49) false rfl (wF _) rfl noneAlive (fun hG => by have q0 := gN hG; subst q0; exact Light.quiet (opFieldAddrR rfl fieldA_26_1 rfl rfl)) ?_
        refine ARL.g (v := (.int .i64 p0.states)) (.bool c49) false rfl (wF _) rfl noneAlive (fun hG => by have q0 := gN hG; subst q0; exact Light.quiet (opLoadR rfl aggA_3 rfl rfl)) ?_
        refine ARL.g (v := (.bool (spec_l4State a41.to_ p0.states))) (.bool c49) false rfl (wF _) rfl noneAlive (fun hG => by have q0 := gN hG; subst q0; exact (qCall rfl rfl call_63 (spec_l4State_ok a41.to_ p0.states) rfl)) ?_
        refine ARL.g (v := (.bool (!(spec_l4State a41.to_ p0.states)))) (.bool c49) false rfl (wF _) rfl noneAlive (fun hG => by have q0 := gN hG; subst q0; exact Light.quiet (opNot rfl rfl)) ?_
        refine ARL.q0 (v := (.bool (c49 || (!(spec_l4State a41.to_ p0.states))))) rfl rfl (Light.quiet (opPick (b := c49) rfl rfl (by cases c49 <;> rfl))) ?_
        obtain ⟨c57, hc57, hF⟩ := bndE hF
        refine ARL.q0 (v := (.bool c57)) rfl rfl ((Quiet.cast (Light.quiet (opMove rfl rfl)) (congrArg AV.bool hc57.symm))) ?_
        refine ARL.g (v := (.ptr b4 1)) (.bool c57) false rfl (wF _) rfl noneAlive (fun hG => by have q0 := gN hG; subst q0; exact Light.quiet (opFieldAddr rfl fieldA_68_1 rfl rfl)) ?_
        refine ARL.g (v := (.int .i64 a41.letter)) (.bool c57) false rfl (wF _) rfl (hS.aliveC (k := 0) rfl) (fun hG => by have q0 := gN hG; subst q0; exact Light.quiet (kAt hS (j := 0) rfl rfl aggA_3 rfl rfl)) ?_
        refine ARL.g (v := (.rptr [(.int .i64 p0.letters), (.int .i64 p0.states), (.int .i64 p0.start), (.list 4 (List.map TEdge.av p0.edges))])) (.bool c57) false rfl (wF _) rfl noneAlive (fun hG => by have q0 := gN hG; subst q0; exact Light.quiet (opFieldAddrR rfl fieldA_26_0 rfl rfl)) ?_
        refine ARL.g (v := (.int .i64 p0.letters)) (.bool c57) false rfl (wF _) rfl noneAlive (fun hG => by have q0 := gN hG; subst q0; exact Light.quiet (opLoadR rfl aggA_3 rfl rfl)) ?_
        refine ARL.g (v := (.int .i64 (W (p0.letters - 1)))) (.bool c57) false rfl (wF _) rfl noneAlive (fun hG => by have q0 := gN hG; subst q0; exact Light.quiet (opInt rfl rfl rfl rfl)) ?_
        refine ARL.g (v := (.bool (spec_l1In a41.letter 0 ((W (p0.letters - 1)))))) (.bool c57) false rfl (wF _) rfl noneAlive (fun hG => by have q0 := gN hG; subst q0; exact (qCall rfl rfl call_26 (spec_l1In_ok a41.letter 0 ((W (p0.letters - 1)))) rfl)) ?_
        refine ARL.g (v := (.bool (!(spec_l1In a41.letter 0 ((W (p0.letters - 1))))))) (.bool c57) false rfl (wF _) rfl noneAlive (fun hG => by have q0 := gN hG; subst q0; exact Light.quiet (opNot rfl rfl)) ?_
        refine ARL.q0 (v := (.bool (c57 || (!(spec_l1In a41.letter 0 ((W (p0.letters - 1)))))))) rfl rfl (Light.quiet (opPick (b := c57) rfl rfl (by cases c57 <;> rfl))) ?_
        obtain ⟨c66, hc66, hF⟩ := bndE hF
        refine ARL.q0 (v := (.bool c66)) rfl rfl ((Quiet.cast (Light.quiet (opMove rfl rfl)) (congrArg AV.bool hc66.symm))) ?_
        refine ARL.g (v := (.int .i64 x3_l0)) (.bool c66) false rfl (wF _) rfl noneAlive (fun hG => by have q0 := gN hG; subst q0; exact Light.quiet (opMove rfl rfl)) ?_
        refine ARL.g (v := (.bool (decide (x3_l0 > 0)))) (.bool c66) false rfl (wF _) rfl noneAlive (fun hG => by have q0 := gN hG; subst q0; exact Light.quiet (opInt rfl rfl rfl rfl)) ?_
        obtain ⟨c69, hc69, hF⟩ := bndE hF
        refine ARL.g (v := (.bool c69)) (.bool c66) false rfl (wF _) rfl noneAlive (fun hG => by have q0 := gN hG; subst q0; exact (Quiet.cast (Light.quiet (opMove rfl rfl)) (congrArg AV.bool hc69.symm))) ?_
        refine ARL.g (v := (.rptr [(.list 4 (List.map TEdge.av p0.edges))])) (bif (!c66) then (.bool c69) else .tup []) true rfl (wGT _ _) rfl noneAlive (fun hG => by have q0 := gN (gA1 hG); have q1 := gA2 hG; subst q0; subst q1; exact Light.quiet (opFieldAddrR rfl fieldA_26_3 rfl rfl)) ?_
        refine ARL.g (v := (.list 4 (List.map TEdge.av p0.edges))) (bif (!c66) then (.bool c69) else .tup []) true rfl (wGT _ _) rfl noneAlive (fun hG => by have q0 := gN (gA1 hG); have q1 := gA2 hG; subst q0; subst q1; exact Light.quiet (opLoadR rfl aggA_24 rfl rfl)) ?_
        refine ARL.g (v := (.int .i64 x3_l0)) (bif (!c66) then (.bool c69) else .tup []) true rfl (wGT _ _) rfl noneAlive (fun hG => by have q0 := gN (gA1 hG); have q1 := gA2 hG; subst q0; subst q1; exact Light.quiet (opMove rfl rfl)) ?_
        refine ARL.g (v := (.int .i64 (W (x3_l0 - 1)))) (bif (!c66) then (.bool c69) else .tup []) true rfl (wGT _ _) rfl noneAlive (fun hG => by have q0 := gN (gA1 hG); have q1 := gA2 hG; subst q0; subst q1; exact Light.quiet (opInt rfl rfl rfl rfl)) ?_
        obtain ⟨a74, ha74, hF⟩ := bindE hF
        refine ARL.g (v := (.rptr [(.int .i64 a74.from_), (.int .i64 a74.letter), (.int .i64 a74.to_), (.bool a74.good)])) (bif (!c66) then (.bool c69) else .tup []) true rfl (wGT _ _) rfl noneAlive (fun hG => by have q0 := gN (gA1 hG); have q1 := gA2 hG; subst q0; subst q1; exact Light.quiet (kIx (f := TEdge.av) (whenE ha74) rfl rfl rfl elemA_24 sizeA_68 rfl)) ?_
        refine ARL.g (v := (TEdge.av a74)) (bif (!c66) then (.bool c69) else .tup []) true rfl (wGT _ _) rfl noneAlive (fun hG => by have q0 := gN (gA1 hG); have q1 := gA2 hG; subst q0; subst q1; exact Light.quiet (opLoadRA rfl aggA_68 sizeA_68 rfl (nlt rfl) rfl)) ?_
        refine ARL.g (v := (TEdge.av a41)) (bif (!c66) then (.bool c69) else .tup []) true rfl (wGT _ _) rfl (hS.aliveC (k := 0) rfl) (fun hG => by have q0 := gN (gA1 hG); have q1 := gA2 hG; subst q0; subst q1; exact Light.quiet (kAtA hS (j := 0) rfl rfl aggA_68 sizeA_68 rfl (nlt rfl) rfl)) ?_
        refine ARL.g (v := (.bool (spec_l4Less a74 a41))) (bif (!c66) then (.bool c69) else .tup []) true rfl (wGT _ _) rfl noneAlive (fun hG => by have q0 := gN (gA1 hG); have q1 := gA2 hG; subst q0; subst q1; exact (qCall rfl rfl call_65 (spec_l4Less_ok a74 a41) rfl)) ?_
        refine ARL.g (v := (.bool (!(spec_l4Less a74 a41)))) (bif (!c66) then (.bool c69) else .tup []) true rfl (wGT _ _) rfl noneAlive (fun hG => by have q0 := gN (gA1 hG); have q1 := gA2 hG; subst q0; subst q1; exact Light.quiet (opNot rfl rfl)) ?_
        refine ARL.g (v := (.bool (c69 && (!(spec_l4Less a74 a41))))) (.bool c66) false rfl (wF _) rfl noneAlive (fun hG => by have q0 := gN hG; subst q0; exact Light.quiet (opPick (b := c69) rfl rfl (by cases c69 <;> rfl))) ?_
        refine ARL.q0 (v := (.bool (c66 || (c69 && (!(spec_l4Less a74 a41)))))) rfl rfl (Light.quiet (opPick (b := c66) rfl rfl (by cases c66 <;> rfl))) ?_
        refine ARL.done ?_
        refine AWP.ifB hF rfl (fun hc14 hF => ?_) (fun hc14 hF => ?_)
        · skip
          refine AWP.seqR rfl ?_
          refine ASL.q (v := (.bool false)) rfl rfl (Light.quiet (opAssign rfl rfl)) ?_
          refine ASL.done ?_
          refine AWP.ret ?_
          refine QBlock.ret ?_
          refine QThen.rt ?_
          refine QThen.rt ?_
          refine QBlock.ret ?_
          refine QThen.rt ?_
          obtain rfl := (hx5 _ (someE hF).symm)
          have hF := hR8
          have hF := sumR hF
          obtain rfl := someE hF
          exact QRet.sole (v := (.bool false)) ⟨rfl, trivial⟩ rfl
        · skip
          refine AWP.skip ?_
          refine QBlock.nrm ?_
          refine QThen.nrm ?_
          refine AWP.lastR rfl ?_
          refine ASL.q (v := (.int .i64 x3_l0)) rfl rfl (Light.quiet (opMove rfl rfl)) ?_
          refine ASL.q (v := (.int .i64 (W (x3_l0 + 1)))) rfl rfl (Light.quiet (opInt rfl rfl rfl rfl)) ?_
          refine ASL.q (v := (.int .i64 (W (x3_l0 + 1)))) rfl rfl (Light.quiet (opAssign rfl rfl)) ?_
          refine ASL.done ?_
          refine QThen.nrm ?_
          exact ⟨(W (x3_l0 + 1)), (), (someE hF).symm, ⟨rfl, rfl, trivial⟩, (hS.pick [] rfl rfl)⟩
      · skip
        refine AWP.exit ?_
        refine QThen.ext ?_
        refine QThen.ext ?_
        refine QBlock.hit ?_
        obtain rfl := (hx5 _ (someE hF).symm)
        have hF := hR8
        have hF := sumL hF
        refine QThen.nrm ?_
        exact ⟨trivial, (hS.pick [] rfl rfl), hF⟩

set_option maxRecDepth 10000 in
theorem spec_AutoMake_ok {p0 : Int} {p1 : Int} {p2 : Int} {p3 : (List TEdge)} {r : (TAuto × Bool)} (hF : spec_AutoMake p0 p1 p2 p3 = some r) : HS Tryz.prog 35 [(.int .i64 p0), (.int .i64 p1), (.int .i64 p2), (.list 4 (List.map TEdge.av p3))] [] fun v L' => ∃ o0_Edges : AV, v = .tup [(.agg [(.int .i64 r.1.letters), (.int .i64 r.1.states), (.int .i64 r.1.start), o0_Edges]), (.bool r.2)] ∧ L' = [.row 4 o0_Edges (List.map TEdge.av r.1.edges)] := by
  intro H S hS
  refine HC.enter Tryz.func35 rfl Tryz.ntmps35 (by simp) ?_
  simp only [List.cons_append, List.nil_append] at hS
  unfold spec_AutoMake at hF
  refine AWP.seqR rfl ?_
  have hS := hNil (s := 4) (f := TEdge.av) hS
  refine ASL.x rfl rfl (hNewZ hS [(.int .i64 0), (.int .i64 0), (.int .i64 0), .nil] rfl zeroA_26 ⟨.inl rfl, .inl rfl, .inl rfl, .inl rfl, trivial⟩ ?_); rintro b8 G1 hK hS
  refine ASL.q (v := (.bool false)) rfl rfl (Light.quiet (opAssign rfl rfl)) ?_
  refine ASL.done ?_
  refine AWP.seqR rfl ?_
  refine ASL.q (v := (.int .i64 p0)) rfl rfl (Light.quiet (opMove rfl rfl)) ?_
  refine ASL.q (v := (.int .i64 p1)) rfl rfl (Light.quiet (opMove rfl rfl)) ?_
  refine ASL.q (v := (.int .i64 p2)) rfl rfl (Light.quiet (opMove rfl rfl)) ?_
  refine ASL.q (v := (.agg [(.int .i64 p0), (.int .i64 p1), (.int .i64 p2), .nil])) rfl rfl (Light.quiet (opBuildZ (zs := [(.int .i64 0), (.int .i64 0), (.int .i64 0), .nil]) rfl plan_26 zeroA_26 ⟨.inl rfl, .inl rfl, .inl rfl, .inl rfl, trivial⟩ rfl)) ?_
  have hS := hNil (s := 4) (f := TEdge.av) hS
  refine ASL.x rfl rfl (hNewZ hS [(.int .i64 0), (.int .i64 0), (.int .i64 0), .nil] rfl zeroA_26 ⟨.inl rfl, .inl rfl, .inl rfl, .inl rfl, trivial⟩ ?_); rintro b10 G4 hK hS
  have hS := hNil (s := 4) (f := TEdge.av) hS
  refine ASL.n rfl rfl (hPutA hS (j := 1) rfl rfl sizeA_26 rfl rfl rfl rfl (allC rfl (allC rfl (allC rfl (allC (hS.one (k := 0) rfl) rfl)))) (nlt rfl) ?_); rintro G7 hS
  refine ASL.done ?_
  refine AWP.seq ?_
  refine AWP.seqR rfl ?_
  refine ASL.q (v := (.agg [(.int .i64 p0), (.int .i64 p1), (.int .i64 p2), .nil])) rfl rfl (Light.quiet (kAtA hS (j := 1) rfl rfl aggA_26 sizeA_26 rfl (nlt rfl) rfl)) ?_
  obtain ⟨a22, ha22, hF⟩ := bindE hF
  refine ASL.q (v := (.bool a22)) rfl rfl ((qCallR hS rfl rfl call_36 (spec_AutoOk_ok ha22) ⟨.aggL ⟨.same _, .same _, .same _, .row (k := 0) rfl, trivial⟩, trivial⟩ (by constructor))) ?_
  refine ASL.q (v := (.bool (!a22))) rfl rfl (Light.quiet (opNot rfl rfl)) ?_
  obtain ⟨c24, hc24, hF⟩ := bndE hF
  refine ASL.q (v := (.bool c24)) rfl rfl ((Quiet.cast (Light.quiet (opMove rfl rfl)) (congrArg AV.bool hc24.symm))) ?_
  refine ASL.g (v := (.list 4 (List.map TEdge.av p3))) (.bool c24) false rfl (wF _) rfl (fun hG => by have q0 := gN hG; subst q0; exact Light.quiet (opMove rfl rfl)) ?_
  refine ASL.g (v := (.int .i64 (p3.length : Int))) (.bool c24) false rfl (wF _) rfl (fun hG => by have q0 := gN hG; subst q0; exact Light.quiet (opLenMap (f := TEdge.av) rfl rfl rfl lenT_24 rfl)) ?_
  refine ASL.g (v := (.bool (decide (((p3.length : Int)) > 2000)))) (.bool c24) false rfl (wF _) rfl (fun hG => by have q0 := gN hG; subst q0; exact Light.quiet (opInt rfl rfl rfl rfl)) ?_
  refine ASL.q (v := (.bool (c24 || (decide (((p3.length : Int)) > 2000))))) rfl rfl (Light.quiet (opPick (b := c24) rfl rfl (by cases c24 <;> rfl))) ?_
  refine ASL.done ?_
  refine AWP.ifB hF rfl (fun hc9 hF => ?_) (fun hc9 hF => ?_)
  · skip
    refine AWP.seqR rfl ?_
    refine ASL.q (v := (.agg [(.int .i64 0), (.int .i64 0), (.int .i64 0), .nil])) rfl rfl (Light.quiet (opBuildZ (zs := [(.int .i64 0), (.int .i64 0), (.int .i64 0), .nil]) rfl plan_26 zeroA_26 ⟨.inl rfl, .inl rfl, .inl rfl, .inl rfl, trivial⟩ rfl)) ?_
    have hS := hNil (s := 4) (f := TEdge.av) hS
    refine ASL.n rfl rfl (hPutA hS (j := 4) rfl rfl sizeA_26 rfl rfl rfl rfl (allC rfl (allC rfl (allC rfl (allC (hS.one (k := 0) rfl) rfl)))) (nlt rfl) ?_); rintro G10 hS
    refine ASL.q (v := (.bool false)) rfl rfl (Light.quiet (opAssign rfl rfl)) ?_
    refine ASL.done ?_
    refine AWP.ret ?_
    refine QThen.rt ?_
    obtain rfl := someE hF
    exact QRet.many (vs := [(.agg [(.int .i64 0), (.int .i64 0), (.int .i64 0), .nil]), (.bool false)]) ⟨resOne.at hS (k := 4) rfl rfl aggA_26 sizeA_26, rfl, trivial⟩ (by simp) ⟨_, ⟨.nil, rfl, rfl⟩, hS.pick [0, 6] rfl rfl⟩
  · skip
    refine AWP.skip ?_
    refine QThen.nrm ?_
    refine AWP.seqR rfl ?_
    refine ASL.q (v := (.int .i64 p1)) rfl rfl (Light.quiet (opMove rfl rfl)) ?_
    refine ASL.q (v := (.int .i64 p0)) rfl rfl (Light.quiet (opMove rfl rfl)) ?_
    refine ASL.q (v := (.int .i64 (W (p1 * p0)))) rfl rfl (Light.quiet (opInt rfl rfl rfl rfl)) ?_
    refine ASL.q (v := (.int .i64 p1)) rfl rfl (Light.quiet (opMove rfl rfl)) ?_
    refine ASL.q (v := (.int .i64 (W (((W (p1 * p0))) * p1)))) rfl rfl (Light.quiet (opInt rfl rfl rfl rfl)) ?_
    obtain ⟨z35, hz35, hF⟩ := bindE hF
    refine ASL.x rfl rfl (hMk (f := (AV.int .i64)) hS hz35 (by decide) rfl elemA_42 sizeA_3 bytesA_3 zeroA_3 rfl rfl (by decide) rfl rfl ?_); rintro v35 G12 hK hS
    refine ASL.q (v := v35) rfl rfl (Light.quiet (opAssign rfl rfl)) ?_
    refine ASL.done ?_
    refine AWP.seqM (fun e H => ∃ y14 : Int, ∃ y15 : Int, ∃ y16 : Int, ∃ y17 : (List TEdge), ∃ y20 : (List Int), ∃ w18 : AV, E.Told e [(0, (.int .i64 p0)), (1, (.int .i64 p1)), (8, (.ptr b8 0)), (10, (.ptr b10 0)), (11, v35)] ∧ E.Sep H [.row 4 w18 (List.map TEdge.av y17), .cell b8 [(.int .i64 y14), (.int .i64 y15), (.int .i64 y16), w18], .row 4 .nil (List.map TEdge.av ([])), .cell b10 [(.int .i64 p0), (.int .i64 p1), (.int .i64 p2), .nil], .row 1 v35 (List.map (AV.int .i64) y20), .snap S] ∧ spec_AutoMake.k0 p1 p0 p2 y14 y15 y16 y17 y20 = some r) ?_ ?_
    · rintro e0 G51 ⟨y14, y15, y16, y17, y20, w18, hT, hS, hF⟩; refine AWP.only _ hT ?_; unfold spec_AutoMake.k0 at hF
      refine AWP.seqM (fun e H => ∃ y21 : Int, ∃ y22 : Int, ∃ y23 : Int, ∃ y24 : (List TEdge), ∃ w25 : AV, E.Told e [(8, (.ptr b8 0)), (10, (.ptr b10 0))] ∧ E.Sep H [.row 4 w18 (List.map TEdge.av y17), .cell b8 [(.int .i64 y14), (.int .i64 y15), (.int .i64 y16), w18], .row 4 w25 (List.map TEdge.av y24), .cell b10 [(.int .i64 y21), (.int .i64 y22), (.int .i64 y23), w25], .snap S] ∧ spec_AutoMake.k1 y21 y22 y23 y24 = some r) ?_ ?_
      · rintro e0 G28 ⟨y21, y22, y23, y24, w25, hT, hS, hF⟩; refine AWP.only _ hT ?_; unfold spec_AutoMake.k1 at hF
        refine AWP.seqR rfl ?_
        refine ASL.q (v := (.agg [(.int .i64 y21), (.int .i64 y22), (.int .i64 y23), w25])) rfl rfl (Light.quiet (kAtA hS (j := 3) rfl rfl aggA_26 sizeA_26 rfl (nlt rfl) rfl)) ?_
        refine ASL.n rfl rfl (hPutA hS (j := 1) rfl rfl sizeA_26 rfl rfl rfl rfl (allC rfl (allC rfl (allC rfl (allC (hS.one (k := 2) rfl) rfl)))) (nlt rfl) ?_); rintro G27 hS
        refine ASL.q (v := (.bool true)) rfl rfl (Light.quiet (opAssign rfl rfl)) ?_
        refine ASL.done ?_
        refine AWP.ret ?_
        obtain rfl := someE hF
        exact QRet.many (vs := [(.agg [(.int .i64 y21), (.int .i64 y22), (.int .i64 y23), w25]), (.bool true)]) ⟨resOne.at hS (k := 1) rfl rfl aggA_26 sizeA_26, rfl, trivial⟩ (by simp) ⟨_, ⟨w25, rfl, rfl⟩, hS.pick [2, 4] rfl rfl⟩
      · skip
        refine AWP.seqR rfl ?_
        refine ASL.q (v := (.int .i64 0)) rfl rfl (Light.quiet (opAssign rfl rfl)) ?_
        refine ASL.done ?_
        refine AWP.block ?_
        obtain ⟨o38, hL37, hR39⟩ := bindE hF
        refine AWP.loopF (ω := AV) hL37 (fun s w => [(0, (.int .i64 p0)), (1, (.int .i64 p1)), (8, (.ptr b8 0)), (10, (.ptr b10 0)), (11, v35), (16, (.int .i64 s.2.2.2.2))]) (fun s w => [.row 4 w18 (List.map TEdge.av y17), .cell b8 [(.int .i64 y14), (.int .i64 y15), (.int .i64 y16), w18], .row 4 w (List.map TEdge.av s.2.2.2.1), .cell b10 [(.int .i64 s.1), (.int .i64 s.2.1), (.int .i64 s.2.2.1), w], .row 1 v35 (List.map (AV.int .i64) y20), .snap S]) .nil ⟨rfl, rfl, rfl, rfl, rfl, rfl, trivial⟩ (hS.pick [0, 1, 2, 3, 4, 5] rfl rfl) ?_
        rintro ⟨y29, y30, y31, y32, x16_l0⟩ w33 G40 hS x35 hF hx36
        try dsimp only at hS ⊢
        have hF : spec_AutoMake.b0 y20 p1 p0 y29 y30 y31 y32 x16_l0 = some x35 := hF; unfold spec_AutoMake.b0 at hF
        refine AWP.seq ?_
        refine AWP.seqR rfl ?_
        refine ASL.q (v := (.int .i64 x16_l0)) rfl rfl (Light.quiet (opMove rfl rfl)) ?_
        refine ASL.q (v := v35) rfl rfl (Light.quiet (opMove rfl rfl)) ?_
        refine ASL.q (v := (.int .i64 (y20.length : Int))) rfl rfl (Light.quiet (kLen hS (j := 4) rfl rfl rfl rfl lenT_42 rfl)) ?_
        refine ASL.q (v := (.bool (decide (x16_l0 < ((y20.length : Int)))))) rfl rfl (Light.quiet (opInt rfl rfl rfl rfl)) ?_
        refine ASL.done ?_
        refine AWP.ifP hF rfl (fun hc41 hF => ?_) (fun hc41 hF => ?_)
        · skip
          refine AWP.skip ?_
          refine QThen.nrm ?_
          refine AWP.seq ?_
          refine AWP.block ?_
          refine AWP.seqR rfl ?_
          refine ASL.q (v := v35) rfl rfl (Light.quiet (opMove rfl rfl)) ?_
          refine ASL.q (v := (.int .i64 x16_l0)) rfl rfl (Light.quiet (opMove rfl rfl)) ?_
          obtain ⟨a98, ha98, hF⟩ := bindE hF
          refine ASL.q (v := (ptrTo v35 x16_l0.toNat 1)) rfl rfl (Light.quiet (kIxOx hS (j := 4) rfl ha98 rfl rfl rfl elemA_42 sizeA_3)) ?_
          refine ASL.q (v := (.int .i64 a98)) rfl rfl (Light.quiet (kLd (f := (AV.int .i64)) hS (j := 4) rfl ha98 rfl aggA_3 rfl (fun _ => rfl))) ?_
          refine ASL.q (v := (.bool (decide (a98 > 0)))) rfl rfl (Light.quiet (opInt rfl rfl rfl rfl)) ?_
          refine ASL.done ?_
          refine AWP.ifP hF rfl (fun hc42 hF => ?_) (fun hc42 hF => ?_)
          · skip
            refine AWP.lastD [(0, false), (1, false), (2, false), (3, false), (4, false), (5, false), (6, false), (7, false), (8, false), (9, false), (10, false), (11, false), (12, false), (13, false), (14, false), (15, false), (16, false), (17, false), (18, false), (19, false), (20, false), (21, false), (22, true), (23, false), (24, true)] mixed (by kernel_rfl) rfl ?_
            refine ARL.q0 (v := (.ptr b10 3)) rfl rfl (Light.quiet (opFieldAddr rfl fieldA_26_3 rfl rfl)) ?_
            refine ARL.q (v := w33) rfl rfl (hS.aliveC (k := 3) rfl) (Light.quiet (kAt hS (j := 3) rfl rfl aggA_24 rfl rfl)) ?_
            refine ARL.q0 (v := (.int .i64 x16_l0)) rfl rfl (Light.quiet (opMove rfl rfl)) ?_
            refine ARL.q0 (v := (.int .i64 p1)) rfl rfl (Light.quiet (opMove rfl rfl)) ?_
            obtain ⟨u43, hu43, hF⟩ := bindE hF
            refine ARL.q0 (v := (.int .i64 (quo .i64 x16_l0 p1))) rfl rfl (Light.quiet (opQuo rfl rfl rfl (of_decide_eq_true (chkE hu43)) rfl)) ?_
            refine ARL.q0 (v := (.int .i64 p0)) rfl rfl (Light.quiet (opMove rfl rfl)) ?_
            obtain ⟨u44, hu44, hF⟩ := bindE hF
            refine ARL.q0 (v := (.int .i64 (quo .i64 ((quo .i64 x16_l0 p1)) p0))) rfl rfl (Light.quiet (opQuo rfl rfl rfl (of_decide_eq_true (chkE hu44)) rfl)) ?_
            refine ARL.q0 (v := (.int .i64 x16_l0)) rfl rfl (Light.quiet (opMove rfl rfl)) ?_
            refine ARL.q0 (v := (.int .i64 p1)) rfl rfl (Light.quiet (opMove rfl rfl)) ?_
            obtain ⟨u45, hu45, hF⟩ := bindE hF
            refine ARL.q0 (v := (.int .i64 (quo .i64 x16_l0 p1))) rfl rfl (Light.quiet (opQuo rfl rfl rfl (of_decide_eq_true (chkE hu45)) rfl)) ?_
            refine ARL.q0 (v := (.int .i64 p0)) rfl rfl (Light.quiet (opMove rfl rfl)) ?_
            obtain ⟨u46, hu46, hF⟩ := bindE hF
            refine ARL.q0 (v := (.int .i64 (Int.tmod ((quo .i64 x16_l0 p1)) p0))) rfl rfl (Light.quiet (opRem rfl rfl rfl (of_decide_eq_true (chkE hu46)) rfl)) ?_
            refine ARL.q0 (v := (.int .i64 x16_l0)) rfl rfl (Light.quiet (opMove rfl rfl)) ?_
            refine ARL.q0 (v := (.int .i64 p1)) rfl rfl (Light.quiet (opMove rfl rfl)) ?_
            obtain ⟨u47, hu47, hF⟩ := bindE hF
            refine ARL.q0 (v := (.int .i64 (Int.tmod x16_l0 p1))) rfl rfl (Light.quiet (opRem rfl rfl rfl (of_decide_eq_true (chkE hu47)) rfl)) ?_
            refine ARL.q0 (v := v35) rfl rfl (Light.quiet (opMove rfl rfl)) ?_
            refine ARL.q0 (v := (.int .i64 x16_l0)) rfl rfl (Light.quiet (opMove rfl rfl)) ?_
            obtain ⟨a118, ha118, hF⟩ := bindE hF
            refine ARL.q0 (v := (ptrTo v35 x16_l0.toNat 1)) rfl rfl (Light.quiet (kIxOx hS (j := 4) rfl ha118 rfl rfl rfl elemA_42 sizeA_3)) ?_
            refine ARL.q (v := (.int .i64 a118)) rfl rfl (hS.aliveR (k := 4) rfl) (Light.quiet (kLd (f := (AV.int .i64)) hS (j := 4) rfl ha118 rfl aggA_3 rfl (fun _ => rfl))) ?_
            refine ARL.q0 (v := (.bool (decide (a118 = 2)))) rfl rfl (Light.quiet (opInt rfl rfl rfl rfl)) ?_
            refine ARL.q0 (v := (.agg [(.int .i64 (quo .i64 ((quo .i64 x16_l0 p1)) p0)), (.int .i64 (Int.tmod ((quo .i64 x16_l0 p1)) p0)), (.int .i64 (Int.tmod x16_l0 p1)), (.bool (decide (a118 = 2)))])) rfl rfl (Light.quiet (opBuildZ (zs := [(.int .i64 0), (.int .i64 0), (.int .i64 0), (.bool false)]) rfl plan_68 zeroA_68 ⟨.inl rfl, .inl rfl, .inl rfl, .inl rfl, trivial⟩ rfl)) ?_
            refine ARL.q0 (v := (.list 4 (List.map TEdge.av [(TEdge.mk ((quo .i64 ((quo .i64 x16_l0 p1)) p0)) ((Int.tmod ((quo .i64 x16_l0 p1)) p0)) ((Int.tmod x16_l0 p1)) ((decide (a118 = 2))))]))) rfl rfl ((qLit (xs := [(.agg [(.int .i64 (quo .i64 ((quo .i64 x16_l0 p1)) p0)), (.int .i64 (Int.tmod ((quo .i64 x16_l0 p1)) p0)), (.int .i64 (Int.tmod x16_l0 p1)), (.bool (decide (a118 = 2)))])]) rfl elemA_24 sizeA_68 zeroA_68 rfl rfl rfl rfl (by simp [cells, TEdge.av]) (nlt rfl))) ?_
            obtain ⟨z123, hz123, hF⟩ := bindE hF
            refine ARL.y rfl rfl rfl rfl (hApp (f := TEdge.av) (ws := [(TEdge.mk ((quo .i64 ((quo .i64 x16_l0 p1)) p0)) ((Int.tmod ((quo .i64 x16_l0 p1)) p0)) ((Int.tmod x16_l0 p1)) ((decide (a118 = 2))))]) hS (j := 2) rfl hz123 rfl elemA_24 rfl sizeA_68 bytesA_68 zeroA_68 rfl rfl rfl (fun _ => rfl) ?_); rintro v123 G48 hS
            refine ARL.q0 (v := (.ptr b10 3)) rfl rfl (Light.quiet (opFieldAddr rfl fieldA_26_3 rfl rfl)) ?_
            refine ARL.n rfl rfl rfl rfl (hPut hS (j := 3) rfl rfl sizeA_24 rfl rfl (hS.one (k := 2) rfl) (nlt rfl) ?_); rintro G50 hS
            refine ARL.done ?_
            refine QBlock.nrm ?_
            refine QThen.nrm ?_
            refine AWP.lastR rfl ?_
            refine ASL.q (v := (.int .i64 x16_l0)) rfl rfl (Light.quiet (opMove rfl rfl)) ?_
            refine ASL.q (v := (.int .i64 (W (x16_l0 + 1)))) rfl rfl (Light.quiet (opInt rfl rfl rfl rfl)) ?_
            refine ASL.q (v := (.int .i64 (W (x16_l0 + 1)))) rfl rfl (Light.quiet (opAssign rfl rfl)) ?_
            refine ASL.done ?_
            refine QThen.nrm ?_
            exact ⟨(y29, y30, y31, z123, (W (x16_l0 + 1))), v123, (someE hF).symm, ⟨rfl, rfl, rfl, rfl, rfl, rfl, trivial⟩, (hS.pick [0, 1, 2, 3, 4, 5] rfl rfl)⟩
          · skip
            refine AWP.skip ?_
            refine QBlock.nrm ?_
            refine QThen.nrm ?_
            refine AWP.lastR rfl ?_
            refine ASL.q (v := (.int .i64 x16_l0)) rfl rfl (Light.quiet (opMove rfl rfl)) ?_
            refine ASL.q (v := (.int .i64 (W (x16_l0 + 1)))) rfl rfl (Light.quiet (opInt rfl rfl rfl rfl)) ?_
            refine ASL.q (v := (.int .i64 (W (x16_l0 + 1)))) rfl rfl (Light.quiet (opAssign rfl rfl)) ?_
            refine ASL.done ?_
            refine QThen.nrm ?_
            exact ⟨(y29, y30, y31, y32, (W (x16_l0 + 1))), w33, (someE hF).symm, ⟨rfl, rfl, rfl, rfl, rfl, rfl, trivial⟩, (hS.pick [0, 1, 2, 3, 4, 5] rfl rfl)⟩
        · skip
          refine AWP.exit ?_
          refine QThen.ext ?_
          refine QThen.ext ?_
          refine QBlock.hit ?_
          obtain rfl := (hx36 _ (someE hF).symm)
          have hF := hR39
          refine QThen.nrm ?_
          exact ⟨y29, y30, y31, y32, w33, ⟨rfl, rfl, trivial⟩, (hS.pick [0, 1, 2, 3, 5] rfl rfl), hF⟩
    · skip
      refine AWP.seqR rfl ?_
      refine ASL.q (v := (.int .i64 0)) rfl rfl (Light.quiet (opAssign rfl rfl)) ?_
      refine ASL.done ?_
      refine AWP.block ?_
      obtain ⟨o62, hL61, hR63⟩ := bindE hF
      refine AWP.loopF (ω := AV) hL61 (fun s w => [(0, (.int .i64 p0)), (1, (.int .i64 p1)), (3, (.list 4 (List.map TEdge.av p3))), (8, (.ptr b8 0)), (10, (.ptr b10 0)), (11, v35), (12, (.int .i64 s.2.2.2.2.2))]) (fun s w => [.row 4 w (List.map TEdge.av s.2.2.2.1), .cell b8 [(.int .i64 s.1), (.int .i64 s.2.1), (.int .i64 s.2.2.1), w], .row 4 .nil (List.map TEdge.av ([])), .cell b10 [(.int .i64 p0), (.int .i64 p1), (.int .i64 p2), .nil], .row 1 v35 (List.map (AV.int .i64) s.2.2.2.2.1), .snap S]) .nil ⟨rfl, rfl, rfl, rfl, rfl, rfl, rfl, trivial⟩ (hS.pick [5, 4, 1, 2, 0, 6] rfl rfl) ?_
      rintro ⟨y52, y53, y54, y55, y58, x12_l1⟩ w56 G64 hS x59 hF hx60
      try dsimp only at hS ⊢
      have hF : spec_AutoMake.b1 p3 p1 p0 y52 y53 y54 y55 y58 x12_l1 = some x59 := hF; unfold spec_AutoMake.b1 at hF
      refine AWP.seq ?_
      refine AWP.seqR rfl ?_
      refine ASL.q (v := (.int .i64 x12_l1)) rfl rfl (Light.quiet (opMove rfl rfl)) ?_
      refine ASL.q (v := (.list 4 (List.map TEdge.av p3))) rfl rfl (Light.quiet (opMove rfl rfl)) ?_
      refine ASL.q (v := (.int .i64 (p3.length : Int))) rfl rfl (Light.quiet (opLenMap (f := TEdge.av) rfl rfl rfl lenT_24 rfl)) ?_
      refine ASL.q (v := (.bool (decide (x12_l1 < ((p3.length : Int)))))) rfl rfl (Light.quiet (opInt rfl rfl rfl rfl)) ?_
      refine ASL.done ?_
      refine AWP.ifP hF rfl (fun hc65 hF => ?_) (fun hc65 hF => ?_)
      · skip
        refine AWP.skip ?_
        refine QThen.nrm ?_
        refine AWP.seq ?_
        refine AWP.block ?_
        refine AWP.seqR rfl ?_
        refine ASL.q (v := (.list 4 (List.map TEdge.av p3))) rfl rfl (Light.quiet (opMove rfl rfl)) ?_
        refine ASL.q (v := (.int .i64 x12_l1)) rfl rfl (Light.quiet (opMove rfl rfl)) ?_
        obtain ⟨a44, ha44, hF⟩ := bindE hF
        refine ASL.q (v := (.rptr [(.int .i64 a44.from_), (.int .i64 a44.letter), (.int .i64 a44.to_), (.bool a44.good)])) rfl rfl (Light.quiet (kIx (f := TEdge.av) ha44 rfl rfl rfl elemA_24 sizeA_68 rfl)) ?_
        refine ASL.q (v := (TEdge.av a44)) rfl rfl (Light.quiet (opLoadRA rfl aggA_68 sizeA_68 rfl (nlt rfl) rfl)) ?_
        refine ASL.x rfl rfl (hNewZ hS [(.int .i64 0), (.int .i64 0), (.int .i64 0), (.bool false)] rfl zeroA_68 ⟨.inl rfl, .inl rfl, .inl rfl, .inl rfl, trivial⟩ ?_); rintro b13 G66 hK hS
        refine ASL.n rfl rfl (hPutA hS (j := 0) rfl rfl sizeA_68 rfl rfl rfl rfl rfl (nlt rfl) ?_); rintro G68 hS
        refine ASL.done ?_
        refine AWP.seq ?_
        refine AWP.seqR rfl ?_
        refine ASL.q (v := (.ptr b13 0)) rfl rfl (Light.quiet (opFieldAddr rfl fieldA_68_0 rfl rfl)) ?_
        refine ASL.q (v := (.int .i64 a44.from_)) rfl rfl (Light.quiet (kAt hS (j := 0) rfl rfl aggA_3 rfl rfl)) ?_
        refine ASL.q (v := (.int .i64 p1)) rfl rfl (Light.quiet (opMove rfl rfl)) ?_
        refine ASL.q (v := (.bool (spec_l4State a44.from_ p1))) rfl rfl ((qCall rfl rfl call_63 (spec_l4State_ok a44.from_ p1) rfl)) ?_
        refine ASL.q (v := (.bool (!(spec_l4State a44.from_ p1)))) rfl rfl (Light.quiet (opNot rfl rfl)) ?_
        obtain ⟨c51, hc51, hF⟩ := bndE hF
        refine ASL.q (v := (.bool c51)) rfl rfl ((Quiet.cast (Light.quiet (opMove rfl rfl)) (congrArg AV.bool hc51.symm))) ?_
        refine ASL.g (v := (.ptr b13 2)) (.bool c51) false rfl (wF _) rfl (fun hG => by have q0 := gN hG; subst q0; exact Light.quiet (opFieldAddr rfl fieldA_68_2 rfl rfl)) ?_
        refine ASL.g (v := (.int .i64 a44.to_)) (.bool c51) false rfl (wF _) rfl (fun hG => by have q0 := gN hG; subst q0; exact Light.quiet (kAt hS (j := 0) rfl rfl aggA_3 rfl rfl)) ?_
        refine ASL.g (v := (.int .i64 p1)) (.bool c51) false rfl (wF _) rfl (fun hG => by have q0 := gN hG; subst q0; exact Light.quiet (opMove rfl rfl)) ?_
        refine ASL.g (v := (.bool (spec_l4State a44.to_ p1))) (.bool c51) false rfl (wF _) rfl (fun hG => by have q0 := gN hG; subst q0; exact (qCall rfl rfl call_63 (spec_l4State_ok a44.to_ p1) rfl)) ?_
        refine ASL.g (v := (.bool (!(spec_l4State a44.to_ p1)))) (.bool c51) false rfl (wF _) rfl (fun hG => by have q0 := gN hG; subst q0; exact Light.quiet (opNot rfl rfl)) ?_
        refine ASL.q (v := (.bool (c51 || (!(spec_l4State a44.to_ p1))))) rfl rfl (Light.quiet (opPick (b := c51) rfl rfl (by cases c51 <;> rfl))) ?_
        obtain ⟨c58, hc58, hF⟩ := bndE hF
        refine ASL.q (v := (.bool c58)) rfl rfl ((Quiet.cast (Light.quiet (opMove rfl rfl)) (congrArg AV.bool hc58.symm))) ?_
        refine ASL.g (v := (.ptr b13 1)) (.bool c58) false rfl (wF _) rfl (fun hG => by have q0 := gN hG; subst q0; exact Light.quiet (opFieldAddr rfl fieldA_68_1 rfl rfl)) ?_
        refine ASL.g (v := (.int .i64 a44.letter)) (.bool c58) false rfl (wF _) rfl (fun hG => by have q0 := gN hG; subst q0; exact Light.quiet (kAt hS (j := 0) rfl rfl aggA_3 rfl rfl)) ?_
        refine ASL.g (v := (.int .i64 p0)) (.bool c58) false rfl (wF _) rfl (fun hG => by have q0 := gN hG; subst q0; exact Light.quiet (opMove rfl rfl)) ?_
        refine ASL.g (v := (.int .i64 (W (p0 - 1)))) (.bool c58) false rfl (wF _) rfl (fun hG => by have q0 := gN hG; subst q0; exact Light.quiet (opInt rfl rfl rfl rfl)) ?_
        refine ASL.g (v := (.bool (spec_l1In a44.letter 0 ((W (p0 - 1)))))) (.bool c58) false rfl (wF _) rfl (fun hG => by have q0 := gN hG; subst q0; exact (qCall rfl rfl call_26 (spec_l1In_ok a44.letter 0 ((W (p0 - 1)))) rfl)) ?_
        refine ASL.g (v := (.bool (!(spec_l1In a44.letter 0 ((W (p0 - 1))))))) (.bool c58) false rfl (wF _) rfl (fun hG => by have q0 := gN hG; subst q0; exact Light.quiet (opNot rfl rfl)) ?_
        refine ASL.q (v := (.bool (c58 || (!(spec_l1In a44.letter 0 ((W (p0 - 1)))))))) rfl rfl (Light.quiet (opPick (b := c58) rfl rfl (by cases c58 <;> rfl))) ?_
        refine ASL.done ?_
        refine AWP.ifB hF rfl (fun hc69 hF => ?_) (fun hc69 hF => ?_)
        · skip
          refine AWP.seqR rfl ?_
          refine ASL.q (v := (.agg [(.int .i64 0), (.int .i64 0), (.int .i64 0), .nil])) rfl rfl (Light.quiet (opBuildZ (zs := [(.int .i64 0), (.int .i64 0), (.int .i64 0), .nil]) rfl plan_26 zeroA_26 ⟨.inl rfl, .inl rfl, .inl rfl, .inl rfl, trivial⟩ rfl)) ?_
          have hS := hNil (s := 4) (f := TEdge.av) hS
          refine ASL.n rfl rfl (hPutA hS (j := 3) rfl rfl sizeA_26 rfl rfl rfl rfl (allC rfl (allC rfl (allC rfl (allC (hS.one (k := 0) rfl) rfl)))) (nlt rfl) ?_); rintro G70 hS
          refine ASL.q (v := (.bool false)) rfl rfl (Light.quiet (opAssign rfl rfl)) ?_
          refine ASL.done ?_
          refine AWP.ret ?_
          refine QThen.rt ?_
          refine QBlock.ret ?_
          refine QThen.rt ?_
          refine QThen.rt ?_
          refine QBlock.ret ?_
          refine QThen.rt ?_
          obtain rfl := (hx60 _ (someE hF).symm)
          have hF := hR63
          have hF := sumR hF
          obtain rfl := someE hF
          exact QRet.many (vs := [(.agg [(.int .i64 0), (.int .i64 0), (.int .i64 0), .nil]), (.bool false)]) ⟨resOne.at hS (k := 3) rfl rfl aggA_26 sizeA_26, rfl, trivial⟩ (by simp) ⟨_, ⟨.nil, rfl, rfl⟩, hS.pick [0, 7] rfl rfl⟩
        · skip
          refine AWP.skip ?_
          refine QThen.nrm ?_
          refine AWP.seqR rfl ?_
          refine ASL.q (v := (.ptr b13 0)) rfl rfl (Light.quiet (opFieldAddr rfl fieldA_68_0 rfl rfl)) ?_
          refine ASL.q (v := (.int .i64 a44.from_)) rfl rfl (Light.quiet (kAt hS (j := 0) rfl rfl aggA_3 rfl rfl)) ?_
          refine ASL.q (v := (.int .i64 p0)) rfl rfl (Light.quiet (opMove rfl rfl)) ?_
          refine ASL.q (v := (.int .i64 (W (a44.from_ * p0)))) rfl rfl (Light.quiet (opInt rfl rfl rfl rfl)) ?_
          refine ASL.q (v := (.ptr b13 1)) rfl rfl (Light.quiet (opFieldAddr rfl fieldA_68_1 rfl rfl)) ?_
          refine ASL.q (v := (.int .i64 a44.letter)) rfl rfl (Light.quiet (kAt hS (j := 0) rfl rfl aggA_3 rfl rfl)) ?_
          refine ASL.q (v := (.int .i64 (W (((W (a44.from_ * p0))) + a44.letter)))) rfl rfl (Light.quiet (opInt rfl rfl rfl rfl)) ?_
          refine ASL.q (v := (.int .i64 p1)) rfl rfl (Light.quiet (opMove rfl rfl)) ?_
          refine ASL.q (v := (.int .i64 (W (((W (((W (a44.from_ * p0))) + a44.letter))) * p1)))) rfl rfl (Light.quiet (opInt rfl rfl rfl rfl)) ?_
          refine ASL.q (v := (.ptr b13 2)) rfl rfl (Light.quiet (opFieldAddr rfl fieldA_68_2 rfl rfl)) ?_
          refine ASL.q (v := (.int .i64 a44.to_)) rfl rfl (Light.quiet (kAt hS (j := 0) rfl rfl aggA_3 rfl rfl)) ?_
          refine ASL.q (v := (.int .i64 (W (((W (((W (((W (a44.from_ * p0))) + a44.letter))) * p1))) + a44.to_)))) rfl rfl (Light.quiet (opInt rfl rfl rfl rfl)) ?_
          refine ASL.q (v := (.int .i64 (W (((W (((W (((W (a44.from_ * p0))) + a44.letter))) * p1))) + a44.to_)))) rfl rfl (Light.quiet (opAssign rfl rfl)) ?_
          refine ASL.done ?_
          refine AWP.seqR rfl ?_
          refine ASL.q (v := (.int .i64 1)) rfl rfl (Light.quiet (opAssign rfl rfl)) ?_
          refine ASL.done ?_
          refine AWP.seqM (fun e H => ∃ x15_3 : Int, E.Told e [(0, (.int .i64 p0)), (1, (.int .i64 p1)), (3, (.list 4 (List.map TEdge.av p3))), (8, (.ptr b8 0)), (10, (.ptr b10 0)), (11, v35), (12, (.int .i64 x12_l1)), (14, (.int .i64 (W (((W (((W (((W (a44.from_ * p0))) + a44.letter))) * p1))) + a44.to_)))), (15, (.int .i64 x15_3))] ∧ E.Sep H [.row 4 w56 (List.map TEdge.av y55), .cell b8 [(.int .i64 y52), (.int .i64 y53), (.int .i64 y54), w56], .row 4 .nil (List.map TEdge.av ([])), .cell b10 [(.int .i64 p0), (.int .i64 p1), (.int .i64 p2), .nil], .row 1 v35 (List.map (AV.int .i64) y58), .snap S] ∧ spec_AutoMake.k2 y58 a44 p0 p1 y52 y53 y54 y55 x12_l1 x15_3 = some x59) ?_ ?_
          · rintro e0 G73 ⟨x15_3, hT, hS, hF⟩; refine AWP.only _ hT ?_; unfold spec_AutoMake.k2 at hF
            refine AWP.lastR rfl ?_
            refine ASL.q (v := v35) rfl rfl (Light.quiet (opMove rfl rfl)) ?_
            refine ASL.q (v := (.int .i64 (W (((W (((W (((W (a44.from_ * p0))) + a44.letter))) * p1))) + a44.to_)))) rfl rfl (Light.quiet (opMove rfl rfl)) ?_
            refine ASL.q (v := v35) rfl rfl (Light.quiet (opMove rfl rfl)) ?_
            refine ASL.q (v := (.int .i64 (W (((W (((W (((W (a44.from_ * p0))) + a44.letter))) * p1))) + a44.to_)))) rfl rfl (Light.quiet (opMove rfl rfl)) ?_
            obtain ⟨a85, ha85, hF⟩ := bindE hF
            refine ASL.q (v := (ptrTo v35 ((W (((W (((W (((W (a44.from_ * p0))) + a44.letter))) * p1))) + a44.to_))).toNat 1)) rfl rfl (Light.quiet (kIxOx hS (j := 4) rfl ha85 rfl rfl rfl elemA_42 sizeA_3)) ?_
            refine ASL.q (v := (.int .i64 a85)) rfl rfl (Light.quiet (kLd (f := (AV.int .i64)) hS (j := 4) rfl ha85 rfl aggA_3 rfl (fun _ => rfl))) ?_
            refine ASL.q (v := (.int .i64 x15_3)) rfl rfl (Light.quiet (opMove rfl rfl)) ?_
            refine ASL.q (v := (.int .i64 (spec_l1Max a85 x15_3))) rfl rfl ((qCall rfl rfl call_32 (spec_l1Max_ok a85 x15_3) rfl)) ?_
            obtain ⟨m89, hm89, hF⟩ := bindE hF
            refine ASL.q (v := (ptrTo v35 m89 1)) rfl rfl (Light.quiet (kIxO hS (j := 4) rfl hm89 rfl rfl rfl elemA_42 sizeA_3)) ?_
            refine ASL.n rfl rfl (hSt (f := (AV.int .i64)) (a := (spec_l1Max a85 x15_3)) hS (j := 4) rfl hm89 rfl sizeA_3 rfl rfl ⟨rfl, rfl, rfl⟩ ?_); rintro G72 hS
            refine ASL.done ?_
            refine QBlock.nrm ?_
            refine QThen.nrm ?_
            refine AWP.lastR rfl ?_
            refine ASL.q (v := (.int .i64 x12_l1)) rfl rfl (Light.quiet (opMove rfl rfl)) ?_
            refine ASL.q (v := (.int .i64 (W (x12_l1 + 1)))) rfl rfl (Light.quiet (opInt rfl rfl rfl rfl)) ?_
            refine ASL.q (v := (.int .i64 (W (x12_l1 + 1)))) rfl rfl (Light.quiet (opAssign rfl rfl)) ?_
            refine ASL.done ?_
            refine QThen.nrm ?_
            exact ⟨(y52, y53, y54, y55, (y58.set m89 ((spec_l1Max a85 x15_3))), (W (x12_l1 + 1))), w56, (someE hF).symm, ⟨rfl, rfl, rfl, rfl, rfl, rfl, rfl, trivial⟩, (hS.pick [0, 1, 2, 3, 4, 5] rfl rfl)⟩
          · skip
            refine AWP.seqR rfl ?_
            refine ASL.q (v := (.ptr b13 3)) rfl rfl (Light.quiet (opFieldAddr rfl fieldA_68_3 rfl rfl)) ?_
            refine ASL.q (v := (.bool a44.good)) rfl rfl (Light.quiet (kAt hS (j := 0) rfl rfl aggA_4 rfl rfl)) ?_
            refine ASL.done ?_
            refine AWP.ifB hF rfl (fun hc74 hF => ?_) (fun hc74 hF => ?_)
            · skip
              refine AWP.lastR rfl ?_
              refine ASL.q (v := (.int .i64 2)) rfl rfl (Light.quiet (opAssign rfl rfl)) ?_
              refine ASL.done ?_
              refine QThen.nrm ?_
              exact ⟨2, ⟨rfl, rfl, rfl, rfl, rfl, rfl, rfl, rfl, rfl, trivial⟩, (hS.pick [1, 2, 3, 4, 5, 6] rfl rfl), hF⟩
            · skip
              refine AWP.skip ?_
              refine QThen.nrm ?_
              exact ⟨1, ⟨rfl, rfl, rfl, rfl, rfl, rfl, rfl, rfl, rfl, trivial⟩, (hS.pick [1, 2, 3, 4, 5, 6] rfl rfl), hF⟩
      · skip
        refine AWP.exit ?_
        refine QThen.ext ?_
        refine QThen.ext ?_
        refine QBlock.hit ?_
        obtain rfl := (hx60 _ (someE hF).symm)
        have hF := hR63
        have hF := sumL hF
        refine QThen.nrm ?_
        exact ⟨y52, y53, y54, y55, y58, w56, ⟨rfl, rfl, rfl, rfl, rfl, trivial⟩, (hS.pick [0, 1, 2, 3, 4, 5] rfl rfl), hF⟩

set_option maxRecDepth 10000 in
theorem spec_GenDegen_ok {p0 : TGen} {r : (TAuto × Bool)} (hF : spec_GenDegen p0 = some r) : PC Tryz.prog 14 [(TGen.av p0)] fun v => v = .tup [(TAuto.av r.1), (.bool r.2)] := by
  refine PC.enter Tryz.func14 rfl Tryz.ntmps14 (by simp) ?_
  have hS := Sep.void; unfold spec_GenDegen at hF
  refine AWP.seqR rfl ?_
  refine ASL.q (v := (.rptr [(.int .i64 p0.letters), (.int .i64 p0.states), (.int .i64 p0.start), (.int .i64 p0.sets), (.list 4 (List.map TGEdge.av p0.edges))])) rfl rfl ((qBoxI (v := (TGen.av p0)) rfl rfl rfl rfl)) ?_
  refine ASL.x rfl rfl (hNewZ hS [(.int .i64 0), (.int .i64 0), (.int .i64 0), (.list 4 (List.map TEdge.av []))] rfl zeroA_26 ⟨.inl rfl, .inl rfl, .inl rfl, .inr ⟨_, rfl, rfl⟩, trivial⟩ ?_); rintro b2 G1 hK hS
  refine ASL.q (v := (.bool false)) rfl rfl (Light.quiet (opAssign rfl rfl)) ?_
  refine ASL.done ?_
  refine AWP.seq ?_
  refine AWP.seqD [(0, false), (1, false), (2, false), (3, false), (4, false), (5, false), (6, false), (7, false), (8, false), (9, false), (10, false), (11, false), (12, false), (13, false), (14, false), (15, false), (16, false), (17, false), (18, false), (19, false), (20, false), (21, false)] mixed (by kernel_rfl) rfl ?_
  refine ARL.q0 (v := (TGen.av p0)) rfl rfl (Light.quiet (opLoadRA rfl aggA_38 sizeA_38 rfl (nlt rfl) rfl)) ?_
  obtain ⟨a14, ha14, hF⟩ := bindE hF
  refine ARL.q0 (v := (.bool a14)) rfl rfl ((qCall rfl rfl call_31 (spec_GenOk_ok ha14) rfl)) ?_
  refine ARL.q0 (v := (.bool (!a14))) rfl rfl (Light.quiet (opNot rfl rfl)) ?_
  obtain ⟨c16, hc16, hF⟩ := bndE hF
  refine ARL.q0 (v := (.bool c16)) rfl rfl ((Quiet.cast (Light.quiet (opMove rfl rfl)) (congrArg AV.bool hc16.symm))) ?_
  refine ARL.g (v := (.rptr [(.int .i64 p0.states), (.int .i64 p0.start), (.int .i64 p0.sets), (.list 4 (List.map TGEdge.av p0.edges))])) (.bool c16) false rfl (wF _) rfl noneAlive (fun hG => by have q0 := gN hG; subst q0; exact Light.quiet (opFieldAddrR rfl fieldA_38_1 rfl rfl)) ?_
  refine ARL.g (v := (.int .i64 p0.states)) (.bool c16) false rfl (wF _) rfl noneAlive (fun hG => by have q0 := gN hG; subst q0; exact Light.quiet (opLoadR rfl aggA_3 rfl rfl)) ?_
  refine ARL.g (v := (.rptr [(.int .i64 p0.sets), (.list 4 (List.map TGEdge.av p0.edges))])) (.bool c16) false rfl (wF _) rfl noneAlive (fun hG => by have q0 := gN hG; subst q0; exact Light.quiet (opFieldAddrR rfl fieldA_38_3 rfl rfl)) ?_
  refine ARL.g (v := (.int .i64 p0.sets)) (.bool c16) false rfl (wF _) rfl noneAlive (fun hG => by have q0 := gN hG; subst q0; exact Light.quiet (opLoadR rfl aggA_3 rfl rfl)) ?_
  refine ARL.g (v := (.int .i64 (spec_l1Max p0.sets 1))) (.bool c16) false rfl (wF _) rfl noneAlive (fun hG => by have q0 := gN hG; subst q0; exact (qCall rfl rfl call_32 (spec_l1Max_ok p0.sets 1) rfl)) ?_
  refine ARL.g (v := (.int .i64 (W (p0.states * ((spec_l1Max p0.sets 1)))))) (.bool c16) false rfl (wF _) rfl noneAlive (fun hG => by have q0 := gN hG; subst q0; exact Light.quiet (opInt rfl rfl rfl rfl)) ?_
  refine ARL.g (v := (.bool (decide (((W (p0.states * ((spec_l1Max p0.sets 1))))) > 31)))) (.bool c16) false rfl (wF _) rfl noneAlive (fun hG => by have q0 := gN hG; subst q0; exact Light.quiet (opInt rfl rfl rfl rfl)) ?_
  refine ARL.q0 (v := (.bool (c16 || (decide (((W (p0.states * ((spec_l1Max p0.sets 1))))) > 31))))) rfl rfl (Light.quiet (opPick (b := c16) rfl rfl (by cases c16 <;> rfl))) ?_
  obtain ⟨c25, hc25, hF⟩ := bndE hF
  refine ARL.q0 (v := (.bool c25)) rfl rfl ((Quiet.cast (Light.quiet (opMove rfl rfl)) (congrArg AV.bool hc25.symm))) ?_
  refine ARL.g (v := (.rptr [(.list 4 (List.map TGEdge.av p0.edges))])) (.bool c25) false rfl (wF _) rfl noneAlive (fun hG => by have q0 := gN hG; subst q0; exact Light.quiet (opFieldAddrR rfl fieldA_38_4 rfl rfl)) ?_
  refine ARL.g (v := (.list 4 (List.map TGEdge.av p0.edges))) (.bool c25) false rfl (wF _) rfl noneAlive (fun hG => by have q0 := gN hG; subst q0; exact Light.quiet (opLoadR rfl aggA_36 rfl rfl)) ?_
  refine ARL.g (v := (.int .i64 (p0.edges.length : Int))) (.bool c25) false rfl (wF _) rfl noneAlive (fun hG => by have q0 := gN hG; subst q0; exact Light.quiet (opLenMap (f := TGEdge.av) rfl rfl rfl lenT_36 rfl)) ?_
  refine ARL.g (v := (.rptr [(.int .i64 p0.sets), (.list 4 (List.map TGEdge.av p0.edges))])) (.bool c25) false rfl (wF _) rfl noneAlive (fun hG => by have q0 := gN hG; subst q0; exact Light.quiet (opFieldAddrR rfl fieldA_38_3 rfl rfl)) ?_
  refine ARL.g (v := (.int .i64 p0.sets)) (.bool c25) false rfl (wF _) rfl noneAlive (fun hG => by have q0 := gN hG; subst q0; exact Light.quiet (opLoadR rfl aggA_3 rfl rfl)) ?_
  refine ARL.g (v := (.int .i64 (spec_l1Max p0.sets 1))) (.bool c25) false rfl (wF _) rfl noneAlive (fun hG => by have q0 := gN hG; subst q0; exact (qCall rfl rfl call_32 (spec_l1Max_ok p0.sets 1) rfl)) ?_
  refine ARL.g (v := (.int .i64 (W (((p0.edges.length : Int)) * ((spec_l1Max p0.sets 1)))))) (.bool c25) false rfl (wF _) rfl noneAlive (fun hG => by have q0 := gN hG; subst q0; exact Light.quiet (opInt rfl rfl rfl rfl)) ?_
  refine ARL.g (v := (.bool (decide (((W (((p0.edges.length : Int)) * ((spec_l1Max p0.sets 1))))) > 2000)))) (.bool c25) false rfl (wF _) rfl noneAlive (fun hG => by have q0 := gN hG; subst q0; exact Light.quiet (opInt rfl rfl rfl rfl)) ?_
  refine ARL.q0 (v := (.bool (c25 || (decide (((W (((p0.edges.length : Int)) * ((spec_l1Max p0.sets 1))))) > 2000))))) rfl rfl (Light.quiet (opPick (b := c25) rfl rfl (by cases c25 <;> rfl))) ?_
  refine ARL.done ?_
  refine AWP.ifB hF rfl (fun hc3 hF => ?_) (fun hc3 hF => ?_)
  · skip
    refine AWP.seqR rfl ?_
    refine ASL.q (v := (.agg [(.int .i64 0), (.int .i64 0), (.int .i64 0), (.list 4 (List.map TEdge.av []))])) rfl rfl (Light.quiet (opBuildZ (zs := [(.int .i64 0), (.int .i64 0), (.int .i64 0), (.list 4 (List.map TEdge.av []))]) rfl plan_26 zeroA_26 ⟨.inl rfl, .inl rfl, .inl rfl, .inr ⟨_, rfl, rfl⟩, trivial⟩ rfl)) ?_
    refine ASL.n rfl rfl (hPutA hS (j := 0) rfl rfl sizeA_26 rfl rfl rfl rfl rfl (nlt rfl) ?_); rintro G4 hS
    refine ASL.q (v := (.bool false)) rfl rfl (Light.quiet (opAssign rfl rfl)) ?_
    refine ASL.done ?_
    refine AWP.ret ?_
    refine QThen.rt ?_
    obtain rfl := someE hF
    exact QRet.many (vs := [(.agg [(.int .i64 0), (.int .i64 0), (.int .i64 0), (.list 4 (List.map TEdge.av []))]), (.bool false)]) ⟨resOne.at hS (k := 0) rfl rfl aggA_26 sizeA_26, rfl, trivial⟩ (by simp) rfl
  · skip
    refine AWP.skip ?_
    refine QThen.nrm ?_
    refine AWP.seqR rfl ?_
    refine ASL.q (v := (.rptr [(.int .i64 p0.sets), (.list 4 (List.map TGEdge.av p0.edges))])) rfl rfl (Light.quiet (opFieldAddrR rfl fieldA_38_3 rfl rfl)) ?_
    refine ASL.q (v := (.int .i64 p0.sets)) rfl rfl (Light.quiet (opLoadR rfl aggA_3 rfl rfl)) ?_
    refine ASL.q (v := (.int .i64 (spec_l1Max p0.sets 1))) rfl rfl ((qCall rfl rfl call_32 (spec_l1Max_ok p0.sets 1) rfl)) ?_
    refine ASL.q (v := (.int .i64 (spec_l1Max p0.sets 1))) rfl rfl (Light.quiet (opAssign rfl rfl)) ?_
    refine ASL.done ?_
    refine AWP.seqR rfl ?_
    refine ASL.q (v := (.int .i64 0)) rfl rfl (Light.quiet (opAssign rfl rfl)) ?_
    refine ASL.done ?_
    refine AWP.seqM (fun e H => ∃ x5_1 : Int, E.Told e [(1, (.rptr [(.int .i64 p0.letters), (.int .i64 p0.states), (.int .i64 p0.start), (.int .i64 p0.sets), (.list 4 (List.map TGEdge.av p0.edges))])), (2, (.ptr b2 0)), (4, (.int .i64 (spec_l1Max p0.sets 1))), (5, (.int .i64 x5_1))] ∧ E.Sep H [.cell b2 [(.int .i64 0), (.int .i64 0), (.int .i64 0), (.list 4 (List.map TEdge.av []))]] ∧ spec_GenDegen.k0 p0 x5_1 = some r) ?_ ?_
    · rintro e0 G59 ⟨x5_1, hT, hS, hF⟩; refine AWP.only _ hT ?_; unfold spec_GenDegen.k0 at hF
      refine AWP.seqR rfl ?_
      refine ASL.x rfl rfl (hLit (f := TEdge.av) (zs := []) hS rfl rfl elemA_24 sizeA_68 zeroA_68 rfl rfl rfl rfl (by simp [cells, TEdge.av]) (nlt rfl) ?_); rintro v55 G5 hK hS
      refine ASL.q (v := v55) rfl rfl (Light.quiet (opAssign rfl rfl)) ?_
      refine ASL.done ?_
      refine AWP.seqM (fun e H => ∃ y7 : (List TEdge), ∃ w8 : AV, E.Told e [(1, (.rptr [(.int .i64 p0.letters), (.int .i64 p0.states), (.int .i64 p0.start), (.int .i64 p0.sets), (.list 4 (List.map TGEdge.av p0.edges))])), (2, (.ptr b2 0)), (4, (.int .i64 (spec_l1Max p0.sets 1))), (5, (.int .i64 x5_1)), (7, w8)] ∧ E.Sep H [.cell b2 [(.int .i64 0), (.int .i64 0), (.int .i64 0), (.list 4 (List.map TEdge.av []))], .row 4 w8 (List.map TEdge.av y7)] ∧ spec_GenDegen.k1 p0 x5_1 y7 = some r) ?_ ?_
      · rintro e0 G15 ⟨y7, w8, hT, hS, hF⟩; refine AWP.only _ hT ?_; unfold spec_GenDegen.k1 at hF
        refine AWP.seqR rfl ?_
        refine ASL.q (v := (.rptr [(.int .i64 p0.letters), (.int .i64 p0.states), (.int .i64 p0.start), (.int .i64 p0.sets), (.list 4 (List.map TGEdge.av p0.edges))])) rfl rfl (Light.quiet (opFieldAddrR rfl fieldA_38_0 rfl rfl)) ?_
        refine ASL.q (v := (.int .i64 p0.letters)) rfl rfl (Light.quiet (opLoadR rfl aggA_3 rfl rfl)) ?_
        refine ASL.q (v := (.rptr [(.int .i64 p0.states), (.int .i64 p0.start), (.int .i64 p0.sets), (.list 4 (List.map TGEdge.av p0.edges))])) rfl rfl (Light.quiet (opFieldAddrR rfl fieldA_38_1 rfl rfl)) ?_
        refine ASL.q (v := (.int .i64 p0.states)) rfl rfl (Light.quiet (opLoadR rfl aggA_3 rfl rfl)) ?_
        refine ASL.q (v := (.int .i64 (spec_l1Max p0.sets 1))) rfl rfl (Light.quiet (opMove rfl rfl)) ?_
        refine ASL.q (v := (.int .i64 (W (p0.states * ((spec_l1Max p0.sets 1)))))) rfl rfl (Light.quiet (opInt rfl rfl rfl rfl)) ?_
        refine ASL.q (v := (.int .i64 x5_1)) rfl rfl (Light.quiet (opMove rfl rfl)) ?_
        refine ASL.q (v := w8) rfl rfl (Light.quiet (opMove rfl rfl)) ?_
        obtain ⟨a118, ha118, hF⟩ := bindE hF
        refine ASL.x rfl rfl (hCallSR hS rfl rfl call_35 (spec_AutoMake_ok ha118) ⟨.same _, .same _, .same _, .row (k := 1) rfl, trivial⟩ (by rintro _ _ G ⟨w10, rfl, rfl⟩ hG; exact ⟨(Scal.tup (ScalC.cons (Scal.agg (ScalC.cons (by constructor) (ScalC.cons (by constructor) (ScalC.cons (by constructor) (ScalC.cons (hG.scR (k := 0) rfl) ScalC.nil))))) (ScalC.cons (by constructor) ScalC.nil))), ⟨(Scal.row (fun _ => by simp only [TEdge.av, cells, List.mem_cons, List.not_mem_nil, or_false]; rintro c hc; rcases hc with rfl | rfl | rfl | rfl <;> constructor)), trivial⟩⟩) ?_); rintro _ _ G12 ⟨w10, rfl, rfl⟩ hK hS
        refine ASL.q (v := (.agg [(.int .i64 a118.1.letters), (.int .i64 a118.1.states), (.int .i64 a118.1.start), w10])) rfl rfl (Light.quiet (opExtract rfl rfl rfl)) ?_
        refine ASL.q (v := (.bool a118.2)) rfl rfl (Light.quiet (opExtract rfl rfl rfl)) ?_
        refine ASL.n rfl rfl (hPutA hS (j := 1) rfl rfl sizeA_26 rfl rfl rfl rfl (allC rfl (allC rfl (allC rfl (allC (hS.one (k := 0) rfl) rfl)))) (nlt rfl) ?_); rintro G13 hS
        refine ASL.q (v := (.bool a118.2)) rfl rfl (Light.quiet (opAssign rfl rfl)) ?_
        refine ASL.done ?_
        refine AWP.frz (L' := [.cell b2 [(.int .i64 a118.1.letters), (.int .i64 a118.1.states), (.int .i64 a118.1.start), (.list 4 (List.map TEdge.av a118.1.edges))], .row 4 w8 (List.map TEdge.av y7)]) hS (k := 0) rfl [(1, (.rptr [(.int .i64 p0.letters), (.int .i64 p0.states), (.int .i64 p0.start), (.int .i64 p0.sets), (.list 4 (List.map TGEdge.av p0.edges))])), (2, (.ptr b2 0)), (3, (.bool a118.2)), (4, (.int .i64 (spec_l1Max p0.sets 1))), (5, (.int .i64 x5_1)), (7, w8)] ⟨.inl rfl, .inl rfl, .inl rfl, .inl rfl, .inl rfl, .inl rfl, trivial⟩ ⟨⟨_, rfl, ⟨.inl rfl, .inl rfl, .inl rfl, .inr ⟨rfl, rfl⟩, trivial⟩⟩, rfl, trivial⟩ (fun G14 hS => ?_)
        refine AWP.ret ?_
        obtain rfl := someE hF
        exact QRet.many (vs := [(TAuto.av a118.1), (.bool a118.2)]) ⟨resOne.at hS (k := 0) rfl rfl aggA_26 sizeA_26, rfl, trivial⟩ (by simp) rfl
      · skip
        refine AWP.seqR rfl ?_
        refine ASL.q (v := (.int .i64 0)) rfl rfl (Light.quiet (opAssign rfl rfl)) ?_
        refine ASL.done ?_
        refine AWP.block ?_
        obtain ⟨o22, hL21, hR23⟩ := bindE hF
        refine AWP.loopF (ω := AV) hL21 (fun s w => [(1, (.rptr [(.int .i64 p0.letters), (.int .i64 p0.states), (.int .i64 p0.start), (.int .i64 p0.sets), (.list 4 (List.map TGEdge.av p0.edges))])), (2, (.ptr b2 0)), (4, (.int .i64 (spec_l1Max p0.sets 1))), (5, (.int .i64 x5_1)), (7, w), (8, (.int .i64 s.2))]) (fun s w => [.cell b2 [(.int .i64 0), (.int .i64 0), (.int .i64 0), (.list 4 (List.map TEdge.av []))], .row 4 w (List.map TEdge.av s.1)]) v55 ⟨rfl, rfl, rfl, rfl, rfl, rfl, trivial⟩ (hS.pick [1, 0] rfl rfl) ?_
        rintro ⟨y16, x8_l0⟩ w17 G24 hS x19 hF hx20
        try dsimp only at hS ⊢
        have hF : spec_GenDegen.b0 p0 y16 x8_l0 = some x19 := hF; unfold spec_GenDegen.b0 at hF
        refine AWP.seq ?_
        refine AWP.seqR rfl ?_
        refine ASL.q (v := (.int .i64 x8_l0)) rfl rfl (Light.quiet (opMove rfl rfl)) ?_
        refine ASL.q (v := (.rptr [(.list 4 (List.map TGEdge.av p0.edges))])) rfl rfl (Light.quiet (opFieldAddrR rfl fieldA_38_4 rfl rfl)) ?_
        refine ASL.q (v := (.list 4 (List.map TGEdge.av p0.edges))) rfl rfl (Light.quiet (opLoadR rfl aggA_36 rfl rfl)) ?_
        refine ASL.q (v := (.int .i64 (p0.edges.length : Int))) rfl rfl (Light.quiet (opLenMap (f := TGEdge.av) rfl rfl rfl lenT_36 rfl)) ?_
        refine ASL.q (v := (.bool (decide (x8_l0 < ((p0.edges.length : Int)))))) rfl rfl (Light.quiet (opInt rfl rfl rfl rfl)) ?_
        refine ASL.done ?_
        refine AWP.ifP hF rfl (fun hc25 hF => ?_) (fun hc25 hF => ?_)
        · skip
          refine AWP.skip ?_
          refine QThen.nrm ?_
          refine AWP.seqM (fun e H => ∃ y26 : (List TEdge), ∃ w27 : AV, E.Told e [(1, (.rptr [(.int .i64 p0.letters), (.int .i64 p0.states), (.int .i64 p0.start), (.int .i64 p0.sets), (.list 4 (List.map TGEdge.av p0.edges))])), (2, (.ptr b2 0)), (4, (.int .i64 (spec_l1Max p0.sets 1))), (5, (.int .i64 x5_1)), (7, w27), (8, (.int .i64 x8_l0))] ∧ E.Sep H [.cell b2 [(.int .i64 0), (.int .i64 0), (.int .i64 0), (.list 4 (List.map TEdge.av []))], .row 4 w27 (List.map TEdge.av y26)] ∧ spec_GenDegen.k2 x8_l0 y26 = some x19) ?_ ?_
          · rintro e0 G29 ⟨y26, w27, hT, hS, hF⟩; refine AWP.only _ hT ?_; unfold spec_GenDegen.k2 at hF
            refine AWP.lastR rfl ?_
            refine ASL.q (v := (.int .i64 x8_l0)) rfl rfl (Light.quiet (opMove rfl rfl)) ?_
            refine ASL.q (v := (.int .i64 (W (x8_l0 + 1)))) rfl rfl (Light.quiet (opInt rfl rfl rfl rfl)) ?_
            refine ASL.q (v := (.int .i64 (W (x8_l0 + 1)))) rfl rfl (Light.quiet (opAssign rfl rfl)) ?_
            refine ASL.done ?_
            refine QThen.nrm ?_
            exact ⟨(y26, (W (x8_l0 + 1))), w27, (someE hF).symm, ⟨rfl, rfl, rfl, rfl, rfl, rfl, trivial⟩, (hS.pick [0, 1] rfl rfl)⟩
          · skip
            refine AWP.block ?_
            refine AWP.seqR rfl ?_
            refine ASL.q (v := (.rptr [(.list 4 (List.map TGEdge.av p0.edges))])) rfl rfl (Light.quiet (opFieldAddrR rfl fieldA_38_4 rfl rfl)) ?_
            refine ASL.q (v := (.list 4 (List.map TGEdge.av p0.edges))) rfl rfl (Light.quiet (opLoadR rfl aggA_36 rfl rfl)) ?_
            refine ASL.q (v := (.int .i64 x8_l0)) rfl rfl (Light.quiet (opMove rfl rfl)) ?_
            obtain ⟨a66, ha66, hF⟩ := bindE hF
            refine ASL.q (v := (.rptr [(.int .i64 a66.from_), (.int .i64 a66.letter), (.int .i64 a66.to_), (.int .i64 a66.marks)])) rfl rfl (Light.quiet (kIx (f := TGEdge.av) ha66 rfl rfl rfl elemA_36 sizeA_61 rfl)) ?_
            refine ASL.q (v := (TGEdge.av a66)) rfl rfl (Light.quiet (opLoadRA rfl aggA_61 sizeA_61 rfl (nlt rfl) rfl)) ?_
            refine ASL.x rfl rfl (hNewZ hS [(.int .i64 0), (.int .i64 0), (.int .i64 0), (.int .i64 0)] rfl zeroA_61 ⟨.inl rfl, .inl rfl, .inl rfl, .inl rfl, trivial⟩ ?_); rintro b9 G30 hK hS
            refine ASL.n rfl rfl (hPutA hS (j := 0) rfl rfl sizeA_61 rfl rfl rfl rfl rfl (nlt rfl) ?_); rintro G32 hS
            refine ASL.done ?_
            refine AWP.seqR rfl ?_
            refine ASL.q (v := (.int .i64 0)) rfl rfl (Light.quiet (opAssign rfl rfl)) ?_
            refine ASL.done ?_
            refine AWP.block ?_
            obtain ⟨o39, hL38, hR40⟩ := bindE hF
            refine AWP.loopF (ω := AV) hL38 (fun s w => [(1, (.rptr [(.int .i64 p0.letters), (.int .i64 p0.states), (.int .i64 p0.start), (.int .i64 p0.sets), (.list 4 (List.map TGEdge.av p0.edges))])), (2, (.ptr b2 0)), (4, (.int .i64 (spec_l1Max p0.sets 1))), (5, (.int .i64 x5_1)), (7, w), (8, (.int .i64 x8_l0)), (9, (.ptr b9 0)), (10, (.int .i64 s.2))]) (fun s w => [.cell b2 [(.int .i64 0), (.int .i64 0), (.int .i64 0), (.list 4 (List.map TEdge.av []))], .row 4 w (List.map TEdge.av s.1), .cell b9 [(.int .i64 a66.from_), (.int .i64 a66.letter), (.int .i64 a66.to_), (.int .i64 a66.marks)]]) w17 ⟨rfl, rfl, rfl, rfl, rfl, rfl, rfl, rfl, trivial⟩ (hS.pick [1, 2, 0] rfl rfl) ?_
            rintro ⟨y33, x10_l1⟩ w34 G41 hS x36 hF hx37
            try dsimp only at hS ⊢
            have hF : spec_GenDegen.b1 p0 a66 y33 x10_l1 = some x36 := hF; unfold spec_GenDegen.b1 at hF
            refine AWP.seq ?_
            refine AWP.seqR rfl ?_
            refine ASL.q (v := (.int .i64 x10_l1)) rfl rfl (Light.quiet (opMove rfl rfl)) ?_
            refine ASL.q (v := (.int .i64 (spec_l1Max p0.sets 1))) rfl rfl (Light.quiet (opMove rfl rfl)) ?_
            refine ASL.q (v := (.bool (decide (x10_l1 < ((spec_l1Max p0.sets 1)))))) rfl rfl (Light.quiet (opInt rfl rfl rfl rfl)) ?_
            refine ASL.done ?_
            refine AWP.ifP hF rfl (fun hc42 hF => ?_) (fun hc42 hF => ?_)
            · skip
              refine AWP.skip ?_
              refine QThen.nrm ?_
              refine AWP.seqM (fun e H => ∃ y43 : (List TEdge), ∃ w44 : AV, E.Told e [(1, (.rptr [(.int .i64 p0.letters), (.int .i64 p0.states), (.int .i64 p0.start), (.int .i64 p0.sets), (.list 4 (List.map TGEdge.av p0.edges))])), (2, (.ptr b2 0)), (4, (.int .i64 (spec_l1Max p0.sets 1))), (5, (.int .i64 x5_1)), (7, w44), (8, (.int .i64 x8_l0)), (9, (.ptr b9 0)), (10, (.int .i64 x10_l1))] ∧ E.Sep H [.cell b2 [(.int .i64 0), (.int .i64 0), (.int .i64 0), (.list 4 (List.map TEdge.av []))], .row 4 w44 (List.map TEdge.av y43), .cell b9 [(.int .i64 a66.from_), (.int .i64 a66.letter), (.int .i64 a66.to_), (.int .i64 a66.marks)]] ∧ spec_GenDegen.k3 x10_l1 y43 = some x36) ?_ ?_
              · rintro e0 G46 ⟨y43, w44, hT, hS, hF⟩; refine AWP.only _ hT ?_; unfold spec_GenDegen.k3 at hF
                refine AWP.lastR rfl ?_
                refine ASL.q (v := (.int .i64 x10_l1)) rfl rfl (Light.quiet (opMove rfl rfl)) ?_
                refine ASL.q (v := (.int .i64 (W (x10_l1 + 1)))) rfl rfl (Light.quiet (opInt rfl rfl rfl rfl)) ?_
                refine ASL.q (v := (.int .i64 (W (x10_l1 + 1)))) rfl rfl (Light.quiet (opAssign rfl rfl)) ?_
                refine ASL.done ?_
                refine QThen.nrm ?_
                exact ⟨(y43, (W (x10_l1 + 1))), w44, (someE hF).symm, ⟨rfl, rfl, rfl, rfl, rfl, rfl, rfl, rfl, trivial⟩, (hS.pick [0, 1, 2] rfl rfl)⟩
              · skip
                refine AWP.block ?_
                refine AWP.seqR rfl ?_
                refine ASL.q (v := (.int .i64 x10_l1)) rfl rfl (Light.quiet (opMove rfl rfl)) ?_
                refine ASL.q (v := (.int .i64 x10_l1)) rfl rfl (Light.quiet (opAssign rfl rfl)) ?_
                refine ASL.done ?_
                refine AWP.seqM (fun e H => ∃ x11_5 : Int, E.Told e [(1, (.rptr [(.int .i64 p0.letters), (.int .i64 p0.states), (.int .i64 p0.start), (.int .i64 p0.sets), (.list 4 (List.map TGEdge.av p0.edges))])), (2, (.ptr b2 0)), (4, (.int .i64 (spec_l1Max p0.sets 1))), (5, (.int .i64 x5_1)), (7, w34), (8, (.int .i64 x8_l0)), (9, (.ptr b9 0)), (10, (.int .i64 x10_l1)), (11, (.int .i64 x11_5))] ∧ E.Sep H [.cell b2 [(.int .i64 0), (.int .i64 0), (.int .i64 0), (.list 4 (List.map TEdge.av []))], .row 4 w34 (List.map TEdge.av y33), .cell b9 [(.int .i64 a66.from_), (.int .i64 a66.letter), (.int .i64 a66.to_), (.int .i64 a66.marks)]] ∧ spec_GenDegen.k4 p0 y33 a66 x10_l1 x11_5 = some x36) ?_ ?_
                · rintro e0 G51 ⟨x11_5, hT, hS, hF⟩; refine AWP.only _ hT ?_; unfold spec_GenDegen.k4 at hF
                  refine AWP.seqR rfl ?_
                  refine ASL.q (v := (.int .i64 x11_5)) rfl rfl (Light.quiet (opMove rfl rfl)) ?_
                  refine ASL.q (v := (.rptr [(.int .i64 p0.sets), (.list 4 (List.map TGEdge.av p0.edges))])) rfl rfl (Light.quiet (opFieldAddrR rfl fieldA_38_3 rfl rfl)) ?_
                  refine ASL.q (v := (.int .i64 p0.sets)) rfl rfl (Light.quiet (opLoadR rfl aggA_3 rfl rfl)) ?_
                  refine ASL.q (v := (.bool (decide (x11_5 ≥ p0.sets)))) rfl rfl (Light.quiet (opInt rfl rfl rfl rfl)) ?_
                  refine ASL.q (v := (.bool (decide (x11_5 ≥ p0.sets)))) rfl rfl (Light.quiet (opAssign rfl rfl)) ?_
                  refine ASL.done ?_
                  refine AWP.seqM (fun e H => ∃ x11_6 : Int, E.Told e [(1, (.rptr [(.int .i64 p0.letters), (.int .i64 p0.states), (.int .i64 p0.start), (.int .i64 p0.sets), (.list 4 (List.map TGEdge.av p0.edges))])), (2, (.ptr b2 0)), (4, (.int .i64 (spec_l1Max p0.sets 1))), (5, (.int .i64 x5_1)), (7, w34), (8, (.int .i64 x8_l0)), (9, (.ptr b9 0)), (10, (.int .i64 x10_l1)), (11, (.int .i64 x11_6)), (12, (.bool (decide (x11_5 ≥ p0.sets))))] ∧ E.Sep H [.cell b2 [(.int .i64 0), (.int .i64 0), (.int .i64 0), (.list 4 (List.map TEdge.av []))], .row 4 w34 (List.map TEdge.av y33), .cell b9 [(.int .i64 a66.from_), (.int .i64 a66.letter), (.int .i64 a66.to_), (.int .i64 a66.marks)]] ∧ spec_GenDegen.k5 y33 a66 p0 x10_l1 x11_5 x11_6 = some x36) ?_ ?_
                  · rintro e0 G49 ⟨x11_6, hT, hS, hF⟩; refine AWP.only _ hT ?_; unfold spec_GenDegen.k5 at hF
                    refine AWP.lastR rfl ?_
                    refine ASL.q (v := w34) rfl rfl (Light.quiet (opMove rfl rfl)) ?_
                    refine ASL.q (v := (.ptr b9 0)) rfl rfl (Light.quiet (opFieldAddr rfl fieldA_61_0 rfl rfl)) ?_
                    refine ASL.q (v := (.int .i64 a66.from_)) rfl rfl (Light.quiet (kAt hS (j := 2) rfl rfl aggA_3 rfl rfl)) ?_
                    refine ASL.q (v := (.int .i64 (spec_l1Max p0.sets 1))) rfl rfl (Light.quiet (opMove rfl rfl)) ?_
                    refine ASL.q (v := (.int .i64 (W (a66.from_ * ((spec_l1Max p0.sets 1)))))) rfl rfl (Light.quiet (opInt rfl rfl rfl rfl)) ?_
                    refine ASL.q (v := (.int .i64 x10_l1)) rfl rfl (Light.quiet (opMove rfl rfl)) ?_
                    refine ASL.q (v := (.int .i64 (W (((W (a66.from_ * ((spec_l1Max p0.sets 1))))) + x10_l1)))) rfl rfl (Light.quiet (opInt rfl rfl rfl rfl)) ?_
                    refine ASL.q (v := (.ptr b9 1)) rfl rfl (Light.quiet (opFieldAddr rfl fieldA_61_1 rfl rfl)) ?_
                    refine ASL.q (v := (.int .i64 a66.letter)) rfl rfl (Light.quiet (kAt hS (j := 2) rfl rfl aggA_3 rfl rfl)) ?_
                    refine ASL.q (v := (.ptr b9 2)) rfl rfl (Light.quiet (opFieldAddr rfl fieldA_61_2 rfl rfl)) ?_
                    refine ASL.q (v := (.int .i64 a66.to_)) rfl rfl (Light.quiet (kAt hS (j := 2) rfl rfl aggA_3 rfl rfl)) ?_
                    refine ASL.q (v := (.int .i64 (spec_l1Max p0.sets 1))) rfl rfl (Light.quiet (opMove rfl rfl)) ?_
                    refine ASL.q (v := (.int .i64 (W (a66.to_ * ((spec_l1Max p0.sets 1)))))) rfl rfl (Light.quiet (opInt rfl rfl rfl rfl)) ?_
                    refine ASL.q (v := (.int .i64 x11_6)) rfl rfl (Light.quiet (opMove rfl rfl)) ?_
                    refine ASL.q (v := (.int .i64 (W (((W (a66.to_ * ((spec_l1Max p0.sets 1))))) + x11_6)))) rfl rfl (Light.quiet (opInt rfl rfl rfl rfl)) ?_
                    refine ASL.q (v := (.bool (decide (x11_5 ≥ p0.sets)))) rfl rfl (Light.quiet (opMove rfl rfl)) ?_
                    refine ASL.q (v := (.agg [(.int .i64 (W (((W (a66.from_ * ((spec_l1Max p0.sets 1))))) + x10_l1))), (.int .i64 a66.letter), (.int .i64 (W (((W (a66.to_ * ((spec_l1Max p0.sets 1))))) + x11_6))), (.bool (decide (x11_5 ≥ p0.sets)))])) rfl rfl (Light.quiet (opBuildZ (zs := [(.int .i64 0), (.int .i64 0), (.int .i64 0), (.bool false)]) rfl plan_68 zeroA_68 ⟨.inl rfl, .inl rfl, .inl rfl, .inl rfl, trivial⟩ rfl)) ?_
                    refine ASL.q (v := (.list 4 (List.map TEdge.av [(TEdge.mk ((W (((W (a66.from_ * ((spec_l1Max p0.sets 1))))) + x10_l1))) a66.letter ((W (((W (a66.to_ * ((spec_l1Max p0.sets 1))))) + x11_6))) ((decide (x11_5 ≥ p0.sets))))]))) rfl rfl ((qLit (xs := [(.agg [(.int .i64 (W (((W (a66.from_ * ((spec_l1Max p0.sets 1))))) + x10_l1))), (.int .i64 a66.letter), (.int .i64 (W (((W (a66.to_ * ((spec_l1Max p0.sets 1))))) + x11_6))), (.bool (decide (x11_5 ≥ p0.sets)))])]) rfl elemA_24 sizeA_68 zeroA_68 rfl rfl rfl rfl (by simp [cells, TEdge.av]) (nlt rfl))) ?_
                    obtain ⟨z109, hz109, hF⟩ := bindE hF
                    refine ASL.x rfl rfl (hApp (f := TEdge.av) (ws := [(TEdge.mk ((W (((W (a66.from_ * ((spec_l1Max p0.sets 1))))) + x10_l1))) a66.letter ((W (((W (a66.to_ * ((spec_l1Max p0.sets 1))))) + x11_6))) ((decide (x11_5 ≥ p0.sets))))]) hS (j := 1) rfl hz109 rfl elemA_24 rfl sizeA_68 bytesA_68 zeroA_68 rfl rfl rfl (fun _ => rfl) ?_); rintro v109 G47 hS
                    refine ASL.q (v := v109) rfl rfl (Light.quiet (opAssign rfl rfl)) ?_
                    refine ASL.done ?_
                    refine QBlock.nrm ?_
                    refine QThen.nrm ?_
                    exact ⟨z109, v109, ⟨rfl, rfl, rfl, rfl, rfl, rfl, rfl, rfl, trivial⟩, (hS.pick [0, 1, 2] rfl rfl), hF⟩
                  · skip
                    refine AWP.seqR rfl ?_
                    refine ASL.q (v := (.bool (decide (x11_5 ≥ p0.sets)))) rfl rfl (Light.quiet (opMove rfl rfl)) ?_
                    refine ASL.done ?_
                    refine AWP.ifP hF rfl (fun hc50 hF => ?_) (fun hc50 hF => ?_)
                    · skip
                      refine AWP.lastR rfl ?_
                      refine ASL.q (v := (.int .i64 0)) rfl rfl (Light.quiet (opAssign rfl rfl)) ?_
                      refine ASL.done ?_
                      refine QThen.nrm ?_
                      exact ⟨0, ⟨rfl, rfl, rfl, rfl, rfl, rfl, rfl, rfl, rfl, rfl, trivial⟩, (hS.pick [0, 1, 2] rfl rfl), hF⟩
                    · skip
                      refine AWP.skip ?_
                      refine QThen.nrm ?_
                      exact ⟨x11_5, ⟨rfl, rfl, rfl, rfl, rfl, rfl, rfl, rfl, rfl, rfl, trivial⟩, (hS.pick [0, 1, 2] rfl rfl), hF⟩
                · skip
                  refine AWP.block ?_
                  obtain ⟨o55, hL54, hR56⟩ := bindE hF
                  refine AWP.loopF (ω := Unit) hL54 (fun s w => [(1, (.rptr [(.int .i64 p0.letters), (.int .i64 p0.states), (.int .i64 p0.start), (.int .i64 p0.sets), (.list 4 (List.map TGEdge.av p0.edges))])), (2, (.ptr b2 0)), (4, (.int .i64 (spec_l1Max p0.sets 1))), (5, (.int .i64 x5_1)), (7, w34), (8, (.int .i64 x8_l0)), (9, (.ptr b9 0)), (10, (.int .i64 x10_l1)), (11, (.int .i64 s))]) (fun s w => [.cell b2 [(.int .i64 0), (.int .i64 0), (.int .i64 0), (.list 4 (List.map TEdge.av []))], .row 4 w34 (List.map TEdge.av y33), .cell b9 [(.int .i64 a66.from_), (.int .i64 a66.letter), (.int .i64 a66.to_), (.int .i64 a66.marks)]]) () ⟨rfl, rfl, rfl, rfl, rfl, rfl, rfl, rfl, rfl, trivial⟩ (hS.pick [0, 1, 2] rfl rfl) ?_
                  rintro x11_l2 _ G57 hS x52 hF hx53
                  try dsimp only at hS ⊢
                  have hF : spec_GenDegen.b2 p0 a66 x11_l2 = some x52 := hF; unfold spec_GenDegen.b2 at hF
                  refine AWP.seq ?_
                  refine AWP.seqR rfl ?_
                  refine ASL.q (v := (.int .i64 x11_l2)) rfl rfl (Light.quiet (opMove rfl rfl)) ?_
                  refine ASL.q (v := (.rptr [(.int .i64 p0.sets), (.list 4 (List.map TGEdge.av p0.edges))])) rfl rfl (Light.quiet (opFieldAddrR rfl fieldA_38_3 rfl rfl)) ?_
                  refine ASL.q (v := (.int .i64 p0.sets)) rfl rfl (Light.quiet (opLoadR rfl aggA_3 rfl rfl)) ?_
                  refine ASL.q (v := (.bool (decide (x11_l2 < p0.sets)))) rfl rfl (Light.quiet (opInt rfl rfl rfl rfl)) ?_
                  obtain ⟨c78, hc78, hF⟩ := bndE hF
                  refine ASL.q (v := (.bool c78)) rfl rfl ((Quiet.cast (Light.quiet (opMove rfl rfl)) (congrArg AV.bool hc78.symm))) ?_
                  refine ASL.g (v := (.ptr b9 3)) (.bool c78) true rfl (wT _) rfl (fun hG => by have q0 := hG; subst q0; exact Light.quiet (opFieldAddr rfl fieldA_61_3 rfl rfl)) ?_
                  refine ASL.g (v := (.int .i64 a66.marks)) (.bool c78) true rfl (wT _) rfl (fun hG => by have q0 := hG; subst q0; exact Light.quiet (kAt hS (j := 2) rfl rfl aggA_3 rfl rfl)) ?_
                  refine ASL.g (v := (.int .i64 x11_l2)) (.bool c78) true rfl (wT _) rfl (fun hG => by have q0 := hG; subst q0; exact Light.quiet (opMove rfl rfl)) ?_
                  obtain ⟨a82, ha82, hF⟩ := bindE hF
                  refine ASL.g (v := (.bool a82)) (.bool c78) true rfl (wT _) rfl (fun hG => by have q0 := hG; subst q0; exact (qCall rfl rfl call_33 (spec_l1Has_ok (whenE ha82)) rfl)) ?_
                  refine ASL.q (v := (.bool (c78 && a82))) rfl rfl (Light.quiet (opPick (b := c78) rfl rfl (by cases c78 <;> rfl))) ?_
                  refine ASL.done ?_
                  refine AWP.ifB hF rfl (fun hc58 hF => ?_) (fun hc58 hF => ?_)
                  · skip
                    refine AWP.skip ?_
                    refine QThen.nrm ?_
                    refine AWP.block ?_
                    refine AWP.lastR rfl ?_
                    refine ASL.q (v := (.int .i64 x11_l2)) rfl rfl (Light.quiet (opMove rfl rfl)) ?_
                    refine ASL.q (v := (.int .i64 (W (x11_l2 + 1)))) rfl rfl (Light.quiet (opInt rfl rfl rfl rfl)) ?_
                    refine ASL.q (v := (.int .i64 (W (x11_l2 + 1)))) rfl rfl (Light.quiet (opAssign rfl rfl)) ?_
                    refine ASL.done ?_
                    refine QBlock.nrm ?_
                    refine QThen.nrm ?_
                    exact ⟨(W (x11_l2 + 1)), (), (someE hF).symm, ⟨rfl, rfl, rfl, rfl, rfl, rfl, rfl, rfl, rfl, trivial⟩, (hS.pick [0, 1, 2] rfl rfl)⟩
                  · skip
                    refine AWP.exit ?_
                    refine QThen.ext ?_
                    refine QThen.ext ?_
                    refine QBlock.hit ?_
                    obtain rfl := (hx53 _ (someE hF).symm)
                    have hF := hR56
                    refine QThen.nrm ?_
                    exact ⟨x11_l2, ⟨rfl, rfl, rfl, rfl, rfl, rfl, rfl, rfl, rfl, trivial⟩, (hS.pick [0, 1, 2] rfl rfl), hF⟩
            · skip
              refine AWP.exit ?_
              refine QThen.ext ?_
              refine QThen.ext ?_
              refine QBlock.hit ?_
              obtain rfl := (hx37 _ (someE hF).symm)
              have hF := hR40
              refine QBlock.nrm ?_
              refine QThen.nrm ?_
              exact ⟨y33, w34, ⟨rfl, rfl, rfl, rfl, rfl, rfl, trivial⟩, (hS.pick [0, 1] rfl rfl), hF⟩
        · skip
          refine AWP.exit ?_
          refine QThen.ext ?_
          refine QThen.ext ?_
          refine QBlock.hit ?_
          obtain rfl := (hx20 _ (someE hF).symm)
          have hF := hR23
          refine QThen.nrm ?_
          exact ⟨y16, w17, ⟨rfl, rfl, rfl, rfl, rfl, trivial⟩, (hS.pick [0, 1] rfl rfl), hF⟩
    · skip
      refine AWP.seqR rfl ?_
      refine ASL.q (v := (.int .i64 0)) rfl rfl (Light.quiet (opAssign rfl rfl)) ?_
      refine ASL.done ?_
      refine AWP.block ?_
      obtain ⟨o63, hL62, hR64⟩ := bindE hF
      refine AWP.loopF (ω := Unit) hL62 (fun s w => [(1, (.rptr [(.int .i64 p0.letters), (.int .i64 p0.states), (.int .i64 p0.start), (.int .i64 p0.sets), (.list 4 (List.map TGEdge.av p0.edges))])), (2, (.ptr b2 0)), (4, (.int .i64 (spec_l1Max p0.sets 1))), (5, (.int .i64 s.1)), (6, (.int .i64 s.2))]) (fun s w => [.cell b2 [(.int .i64 0), (.int .i64 0), (.int .i64 0), (.list 4 (List.map TEdge.av []))]]) () ⟨rfl, rfl, rfl, rfl, rfl, trivial⟩ (hS.pick [0] rfl rfl) ?_
      rintro ⟨x5_l3, x6_l3⟩ _ G65 hS x60 hF hx61
      try dsimp only at hS ⊢
      have hF : spec_GenDegen.b3 p0 x5_l3 x6_l3 = some x60 := hF; unfold spec_GenDegen.b3 at hF
      refine AWP.seq ?_
      refine AWP.seqR rfl ?_
      refine ASL.q (v := (.int .i64 x6_l3)) rfl rfl (Light.quiet (opMove rfl rfl)) ?_
      refine ASL.q (v := (.rptr [(.int .i64 p0.states), (.int .i64 p0.start), (.int .i64 p0.sets), (.list 4 (List.map TGEdge.av p0.edges))])) rfl rfl (Light.quiet (opFieldAddrR rfl fieldA_38_1 rfl rfl)) ?_
      refine ASL.q (v := (.int .i64 p0.states)) rfl rfl (Light.quiet (opLoadR rfl aggA_3 rfl rfl)) ?_
      refine ASL.q (v := (.bool (decide (x6_l3 < p0.states)))) rfl rfl (Light.quiet (opInt rfl rfl rfl rfl)) ?_
      refine ASL.done ?_
      refine AWP.ifP hF rfl (fun hc66 hF => ?_) (fun hc66 hF => ?_)
      · skip
        refine AWP.skip ?_
        refine QThen.nrm ?_
        refine AWP.seq ?_
        refine AWP.block ?_
        refine AWP.seqR rfl ?_
        refine ASL.q (v := (.rptr [(.int .i64 p0.start), (.int .i64 p0.sets), (.list 4 (List.map TGEdge.av p0.edges))])) rfl rfl (Light.quiet (opFieldAddrR rfl fieldA_38_2 rfl rfl)) ?_
        refine ASL.q (v := (.int .i64 p0.start)) rfl rfl (Light.quiet (opLoadR rfl aggA_3 rfl rfl)) ?_
        refine ASL.q (v := (.int .i64 x6_l3)) rfl rfl (Light.quiet (opMove rfl rfl)) ?_
        obtain ⟨a48, ha48, hF⟩ := bindE hF
        refine ASL.q (v := (.bool a48)) rfl rfl ((qCall rfl rfl call_33 (spec_l1Has_ok ha48) rfl)) ?_
        refine ASL.done ?_
        refine AWP.ifB hF rfl (fun hc67 hF => ?_) (fun hc67 hF => ?_)
        · skip
          refine AWP.lastR rfl ?_
          refine ASL.q (v := (.int .i64 x5_l3)) rfl rfl (Light.quiet (opMove rfl rfl)) ?_
          refine ASL.q (v := (.int .i64 x6_l3)) rfl rfl (Light.quiet (opMove rfl rfl)) ?_
          refine ASL.q (v := (.int .i64 (spec_l1Max p0.sets 1))) rfl rfl (Light.quiet (opMove rfl rfl)) ?_
          refine ASL.q (v := (.int .i64 (W (x6_l3 * ((spec_l1Max p0.sets 1)))))) rfl rfl (Light.quiet (opInt rfl rfl rfl rfl)) ?_
          obtain ⟨a53, ha53, hF⟩ := bindE hF
          refine ASL.q (v := (.int .i64 a53)) rfl rfl ((qCall rfl rfl call_34 (spec_l1Bit_ok ha53) rfl)) ?_
          refine ASL.q (v := (.int .i64 (bOr .i64 x5_l3 a53))) rfl rfl (Light.quiet (opInt rfl rfl rfl rfl)) ?_
          refine ASL.q (v := (.int .i64 (bOr .i64 x5_l3 a53))) rfl rfl (Light.quiet (opAssign rfl rfl)) ?_
          refine ASL.done ?_
          refine QBlock.nrm ?_
          refine QThen.nrm ?_
          refine AWP.lastR rfl ?_
          refine ASL.q (v := (.int .i64 x6_l3)) rfl rfl (Light.quiet (opMove rfl rfl)) ?_
          refine ASL.q (v := (.int .i64 (W (x6_l3 + 1)))) rfl rfl (Light.quiet (opInt rfl rfl rfl rfl)) ?_
          refine ASL.q (v := (.int .i64 (W (x6_l3 + 1)))) rfl rfl (Light.quiet (opAssign rfl rfl)) ?_
          refine ASL.done ?_
          refine QThen.nrm ?_
          exact ⟨((bOr .i64 x5_l3 a53), (W (x6_l3 + 1))), (), (someE hF).symm, ⟨rfl, rfl, rfl, rfl, rfl, trivial⟩, (hS.pick [0] rfl rfl)⟩
        · skip
          refine AWP.skip ?_
          refine QBlock.nrm ?_
          refine QThen.nrm ?_
          refine AWP.lastR rfl ?_
          refine ASL.q (v := (.int .i64 x6_l3)) rfl rfl (Light.quiet (opMove rfl rfl)) ?_
          refine ASL.q (v := (.int .i64 (W (x6_l3 + 1)))) rfl rfl (Light.quiet (opInt rfl rfl rfl rfl)) ?_
          refine ASL.q (v := (.int .i64 (W (x6_l3 + 1)))) rfl rfl (Light.quiet (opAssign rfl rfl)) ?_
          refine ASL.done ?_
          refine QThen.nrm ?_
          exact ⟨(x5_l3, (W (x6_l3 + 1))), (), (someE hF).symm, ⟨rfl, rfl, rfl, rfl, rfl, trivial⟩, (hS.pick [0] rfl rfl)⟩
      · skip
        refine AWP.exit ?_
        refine QThen.ext ?_
        refine QThen.ext ?_
        refine QBlock.hit ?_
        obtain rfl := (hx61 _ (someE hF).symm)
        have hF := hR64
        refine QThen.nrm ?_
        exact ⟨x5_l3, ⟨rfl, rfl, rfl, rfl, trivial⟩, (hS.pick [0] rfl rfl), hF⟩

set_option maxRecDepth 10000 in
theorem spec_l4Reach_ok {p0 : TAuto} {p1 : Int} {r : Int} (hF : spec_l4Reach p0 p1 = some r) : PC Tryz.prog 38 [(TAuto.av p0), (.int .i64 p1)] fun v => v = (.int .i64 r) := by
  refine PC.enter Tryz.func38 rfl Tryz.ntmps38 (by simp) ?_
  have hS := Sep.void; unfold spec_l4Reach at hF
  refine AWP.seqR rfl ?_
  refine ASL.q (v := (.rptr [(.int .i64 p0.letters), (.int .i64 p0.states), (.int .i64 p0.start), (.list 4 (List.map TEdge.av p0.edges))])) rfl rfl ((qBoxI (v := (TAuto.av p0)) rfl rfl rfl rfl)) ?_
  refine ASL.q (v := (.int .i64 0)) rfl rfl (Light.quiet (opAssign rfl rfl)) ?_
  refine ASL.done ?_
  refine AWP.seqM (fun e H => ∃ x1_1 : Int, E.Told e [(1, (.int .i64 x1_1))] ∧ E.Sep H [] ∧ spec_l4Reach.k0 x1_1 = some r) ?_ ?_
  · rintro e0 G1 ⟨x1_1, hT, hS, hF⟩; refine AWP.only _ hT ?_; unfold spec_l4Reach.k0 at hF
    refine AWP.seqR rfl ?_
    refine ASL.q (v := (.int .i64 x1_1)) rfl rfl (Light.quiet (opMove rfl rfl)) ?_
    refine ASL.q (v := (.int .i64 x1_1)) rfl rfl (Light.quiet (opAssign rfl rfl)) ?_
    refine ASL.done ?_
    refine AWP.ret ?_
    obtain rfl := someE hF
    exact QRet.sole (v := (.int .i64 x1_1)) ⟨rfl, trivial⟩ rfl
  · skip
    refine AWP.seqR rfl ?_
    refine ASL.q (v := (.int .i64 0)) rfl rfl (Light.quiet (opAssign rfl rfl)) ?_
    refine ASL.done ?_
    refine AWP.block ?_
    obtain ⟨o5, hL4, hR6⟩ := bindE hF
    refine AWP.loopF (ω := Unit) hL4 (fun s w => [(1, (.int .i64 s.1)), (2, (.rptr [(.int .i64 p0.letters), (.int .i64 p0.states), (.int .i64 p0.start), (.list 4 (List.map TEdge.av p0.edges))])), (5, (.int .i64 s.2))]) (fun s w => []) () ⟨rfl, rfl, rfl, trivial⟩ (hS.pick [] rfl rfl) ?_
    rintro ⟨x1_l0, x5_l0⟩ _ G7 hS x2 hF hx3
    try dsimp only at hS ⊢
    have hF : spec_l4Reach.b0 p0 x1_l0 x5_l0 = some x2 := hF; unfold spec_l4Reach.b0 at hF
    refine AWP.seq ?_
    refine AWP.seqR rfl ?_
    refine ASL.q (v := (.int .i64 x5_l0)) rfl rfl (Light.quiet (opMove rfl rfl)) ?_
    refine ASL.q (v := (.rptr [(.int .i64 p0.states), (.int .i64 p0.start), (.list 4 (List.map TEdge.av p0.edges))])) rfl rfl (Light.quiet (opFieldAddrR rfl fieldA_26_1 rfl rfl)) ?_
    refine ASL.q (v := (.int .i64 p0.states)) rfl rfl (Light.quiet (opLoadR rfl aggA_3 rfl rfl)) ?_
    refine ASL.q (v := (.bool (decide (x5_l0 ≤ p0.states)))) rfl rfl (Light.quiet (opInt rfl rfl rfl rfl)) ?_
    refine ASL.done ?_
    refine AWP.ifP hF rfl (fun hc8 hF => ?_) (fun hc8 hF => ?_)
    · skip
      refine AWP.skip ?_
      refine QThen.nrm ?_
      refine AWP.seqM (fun e H => ∃ x1_2 : Int, E.Told e [(1, (.int .i64 x1_2)), (2, (.rptr [(.int .i64 p0.letters), (.int .i64 p0.states), (.int .i64 p0.start), (.list 4 (List.map TEdge.av p0.edges))])), (5, (.int .i64 x5_l0))] ∧ E.Sep H [] ∧ spec_l4Reach.k1 x5_l0 x1_2 = some x2) ?_ ?_
      · rintro e0 G9 ⟨x1_2, hT, hS, hF⟩; refine AWP.only _ hT ?_; unfold spec_l4Reach.k1 at hF
        refine AWP.lastR rfl ?_
        refine ASL.q (v := (.int .i64 x5_l0)) rfl rfl (Light.quiet (opMove rfl rfl)) ?_
        refine ASL.q (v := (.int .i64 (W (x5_l0 + 1)))) rfl rfl (Light.quiet (opInt rfl rfl rfl rfl)) ?_
        refine ASL.q (v := (.int .i64 (W (x5_l0 + 1)))) rfl rfl (Light.quiet (opAssign rfl rfl)) ?_
        refine ASL.done ?_
        refine QThen.nrm ?_
        exact ⟨(x1_2, (W (x5_l0 + 1))), (), (someE hF).symm, ⟨rfl, rfl, rfl, trivial⟩, (hS.pick [] rfl rfl)⟩
      · skip
        refine AWP.block ?_
        refine AWP.seqR rfl ?_
        refine ASL.q (v := (.int .i64 0)) rfl rfl (Light.quiet (opAssign rfl rfl)) ?_
        refine ASL.done ?_
        refine AWP.block ?_
        obtain ⟨o13, hL12, hR14⟩ := bindE hF
        refine AWP.loopF (ω := Unit) hL12 (fun s w => [(1, (.int .i64 s.1)), (2, (.rptr [(.int .i64 p0.letters), (.int .i64 p0.states), (.int .i64 p0.start), (.list 4 (List.map TEdge.av p0.edges))])), (5, (.int .i64 x5_l0)), (6, (.int .i64 s.2))]) (fun s w => []) () ⟨rfl, rfl, rfl, rfl, trivial⟩ (hS.pick [] rfl rfl) ?_
        rintro ⟨x1_l1, x6_l1⟩ _ G15 hS x10 hF hx11
        try dsimp only at hS ⊢
        have hF : spec_l4Reach.b1 p0 x1_l1 x6_l1 = some x10 := hF; unfold spec_l4Reach.b1 at hF
        refine AWP.seq ?_
        refine AWP.seqR rfl ?_
        refine ASL.q (v := (.int .i64 x6_l1)) rfl rfl (Light.quiet (opMove rfl rfl)) ?_
        refine ASL.q (v := (.rptr [(.list 4 (List.map TEdge.av p0.edges))])) rfl rfl (Light.quiet (opFieldAddrR rfl fieldA_26_3 rfl rfl)) ?_
        refine ASL.q (v := (.list 4 (List.map TEdge.av p0.edges))) rfl rfl (Light.quiet (opLoadR rfl aggA_24 rfl rfl)) ?_
        refine ASL.q (v := (.int .i64 (p0.edges.length : Int))) rfl rfl (Light.quiet (opLenMap (f := TEdge.av) rfl rfl rfl lenT_24 rfl)) ?_
        refine ASL.q (v := (.bool (decide (x6_l1 < ((p0.edges.length : Int)))))) rfl rfl (Light.quiet (opInt rfl rfl rfl rfl)) ?_
        refine ASL.done ?_
        refine AWP.ifP hF rfl (fun hc16 hF => ?_) (fun hc16 hF => ?_)
        · skip
          refine AWP.skip ?_
          refine QThen.nrm ?_
          refine AWP.seq ?_
          refine AWP.block ?_
          refine AWP.seqR rfl ?_
          refine ASL.q (v := (.int .i64 x1_l1)) rfl rfl (Light.quiet (opMove rfl rfl)) ?_
          refine ASL.q (v := (.rptr [(.list 4 (List.map TEdge.av p0.edges))])) rfl rfl (Light.quiet (opFieldAddrR rfl fieldA_26_3 rfl rfl)) ?_
          refine ASL.q (v := (.list 4 (List.map TEdge.av p0.edges))) rfl rfl (Light.quiet (opLoadR rfl aggA_24 rfl rfl)) ?_
          refine ASL.q (v := (.int .i64 x6_l1)) rfl rfl (Light.quiet (opMove rfl rfl)) ?_
          obtain ⟨a24, ha24, hF⟩ := bindE hF
          refine ASL.q (v := (.rptr [(.int .i64 a24.from_), (.int .i64 a24.letter), (.int .i64 a24.to_), (.bool a24.good)])) rfl rfl (Light.quiet (kIx (f := TEdge.av) ha24 rfl rfl rfl elemA_24 sizeA_68 rfl)) ?_
          refine ASL.q (v := (.rptr [(.int .i64 a24.from_), (.int .i64 a24.letter), (.int .i64 a24.to_), (.bool a24.good)])) rfl rfl (Light.quiet (opFieldAddrR rfl fieldA_68_0 rfl rfl)) ?_
          refine ASL.q (v := (.int .i64 a24.from_)) rfl rfl (Light.quiet (opLoadR rfl aggA_3 rfl rfl)) ?_
          obtain ⟨a27, ha27, hF⟩ := bindE hF
          refine ASL.q (v := (.bool a27)) rfl rfl ((qCall rfl rfl call_33 (spec_l1Has_ok ha27) rfl)) ?_
          refine ASL.done ?_
          refine AWP.ifB hF rfl (fun hc17 hF => ?_) (fun hc17 hF => ?_)
          · skip
            refine AWP.lastR rfl ?_
            refine ASL.q (v := (.int .i64 x1_l1)) rfl rfl (Light.quiet (opMove rfl rfl)) ?_
            refine ASL.q (v := (.rptr [(.list 4 (List.map TEdge.av p0.edges))])) rfl rfl (Light.quiet (opFieldAddrR rfl fieldA_26_3 rfl rfl)) ?_
            refine ASL.q (v := (.list 4 (List.map TEdge.av p0.edges))) rfl rfl (Light.quiet (opLoadR rfl aggA_24 rfl rfl)) ?_
            refine ASL.q (v := (.int .i64 x6_l1)) rfl rfl (Light.quiet (opMove rfl rfl)) ?_
            obtain ⟨a32, ha32, hF⟩ := bindE hF
            refine ASL.q (v := (.rptr [(.int .i64 a32.from_), (.int .i64 a32.letter), (.int .i64 a32.to_), (.bool a32.good)])) rfl rfl (Light.quiet (kIx (f := TEdge.av) ha32 rfl rfl rfl elemA_24 sizeA_68 rfl)) ?_
            refine ASL.q (v := (.rptr [(.int .i64 a32.to_), (.bool a32.good)])) rfl rfl (Light.quiet (opFieldAddrR rfl fieldA_68_2 rfl rfl)) ?_
            refine ASL.q (v := (.int .i64 a32.to_)) rfl rfl (Light.quiet (opLoadR rfl aggA_3 rfl rfl)) ?_
            obtain ⟨a35, ha35, hF⟩ := bindE hF
            refine ASL.q (v := (.int .i64 a35)) rfl rfl ((qCall rfl rfl call_34 (spec_l1Bit_ok ha35) rfl)) ?_
            refine ASL.q (v := (.int .i64 (bOr .i64 x1_l1 a35))) rfl rfl (Light.quiet (opInt rfl rfl rfl rfl)) ?_
            refine ASL.q (v := (.int .i64 (bOr .i64 x1_l1 a35))) rfl rfl (Light.quiet (opAssign rfl rfl)) ?_
            refine ASL.done ?_
            refine QBlock.nrm ?_
            refine QThen.nrm ?_
            refine AWP.lastR rfl ?_
            refine ASL.q (v := (.int .i64 x6_l1)) rfl rfl (Light.quiet (opMove rfl rfl)) ?_
            refine ASL.q (v := (.int .i64 (W (x6_l1 + 1)))) rfl rfl (Light.quiet (opInt rfl rfl rfl rfl)) ?_
            refine ASL.q (v := (.int .i64 (W (x6_l1 + 1)))) rfl rfl (Light.quiet (opAssign rfl rfl)) ?_
            refine ASL.done ?_
            refine QThen.nrm ?_
            exact ⟨((bOr .i64 x1_l1 a35), (W (x6_l1 + 1))), (), (someE hF).symm, ⟨rfl, rfl, rfl, rfl, trivial⟩, (hS.pick [] rfl rfl)⟩
          · skip
            refine AWP.skip ?_
            refine QBlock.nrm ?_
            refine QThen.nrm ?_
            refine AWP.lastR rfl ?_
            refine ASL.q (v := (.int .i64 x6_l1)) rfl rfl (Light.quiet (opMove rfl rfl)) ?_
            refine ASL.q (v := (.int .i64 (W (x6_l1 + 1)))) rfl rfl (Light.quiet (opInt rfl rfl rfl rfl)) ?_
            refine ASL.q (v := (.int .i64 (W (x6_l1 + 1)))) rfl rfl (Light.quiet (opAssign rfl rfl)) ?_
            refine ASL.done ?_
            refine QThen.nrm ?_
            exact ⟨(x1_l1, (W (x6_l1 + 1))), (), (someE hF).symm, ⟨rfl, rfl, rfl, rfl, trivial⟩, (hS.pick [] rfl rfl)⟩
        · skip
          refine AWP.exit ?_
          refine QThen.ext ?_
          refine QThen.ext ?_
          refine QBlock.hit ?_
          obtain rfl := (hx11 _ (someE hF).symm)
          have hF := hR14
          refine QBlock.nrm ?_
          refine QThen.nrm ?_
          exact ⟨x1_l1, ⟨rfl, rfl, rfl, trivial⟩, (hS.pick [] rfl rfl), hF⟩
    · skip
      refine AWP.exit ?_
      refine QThen.ext ?_
      refine QThen.ext ?_
      refine QBlock.hit ?_
      obtain rfl := (hx3 _ (someE hF).symm)
      have hF := hR6
      refine QThen.nrm ?_
      exact ⟨x1_l0, ⟨rfl, trivial⟩, (hS.pick [] rfl rfl), hF⟩

set_option maxRecDepth 10000 in
theorem spec_l4Keep_ok {p0 : TAuto} {p1 : Int} {r : (TAuto × (List Int))} (hF : spec_l4Keep p0 p1 = some r) : HS Tryz.prog 37 [(TAuto.av p0), (.int .i64 p1)] [] fun v L' => ∃ o0_Edges : AV, ∃ o1 : AV, v = .tup [(.agg [(.int .i64 r.1.letters), (.int .i64 r.1.states), (.int .i64 r.1.start), o0_Edges]), o1] ∧ L' = [.row 4 o0_Edges (List.map TEdge.av r.1.edges), .row 1 o1 (List.map (AV.int .i64) r.2)] := by
  intro H S hS
  refine HC.enter Tryz.func37 rfl Tryz.ntmps37 (by simp) ?_
  simp only [List.cons_append, List.nil_append] at hS
  unfold spec_l4Keep at hF
  refine AWP.seqR rfl ?_
  refine ASL.q (v := (.rptr [(.int .i64 p0.letters), (.int .i64 p0.states), (.int .i64 p0.start), (.list 4 (List.map TEdge.av p0.edges))])) rfl rfl ((qBoxI (v := (TAuto.av p0)) rfl rfl rfl rfl)) ?_
  have hS := hNil (s := 4) (f := TEdge.av) hS
  refine ASL.x rfl rfl (hNewZ hS [(.int .i64 0), (.int .i64 0), (.int .i64 0), .nil] rfl zeroA_26 ⟨.inl rfl, .inl rfl, .inl rfl, .inl rfl, trivial⟩ ?_); rintro b4 G1 hK hS
  have hS := hNil (s := 1) (f := (AV.int .i64)) hS
  refine ASL.q (v := .nil) rfl rfl (Light.quiet (opAssign rfl rfl)) ?_
  refine ASL.done ?_
  refine AWP.seqR rfl ?_
  refine ASL.x rfl rfl (hLit (f := (AV.int .i64)) (zs := []) hS rfl rfl elemA_42 sizeA_3 zeroA_3 rfl rfl rfl rfl (by simp [cells]) (nlt rfl) ?_); rintro v13 G5 hK hS
  refine ASL.q (v := v13) rfl rfl (Light.quiet (opAssign rfl rfl)) ?_
  refine ASL.done ?_
  refine AWP.seqR rfl ?_
  refine ASL.x rfl rfl (hLit (f := (AV.int .i64)) (zs := []) hS rfl rfl elemA_42 sizeA_3 zeroA_3 rfl rfl rfl rfl (by simp [cells]) (nlt rfl) ?_); rintro v14 G7 hK hS
  refine ASL.q (v := v14) rfl rfl (Light.quiet (opAssign rfl rfl)) ?_
  refine ASL.done ?_
  refine AWP.seqM (fun e H => ∃ y9 : (List Int), ∃ y12 : (List Int), ∃ w10 : AV, ∃ w13 : AV, E.Told e [(1, (.int .i64 p1)), (2, (.rptr [(.int .i64 p0.letters), (.int .i64 p0.states), (.int .i64 p0.start), (.list 4 (List.map TEdge.av p0.edges))])), (4, (.ptr b4 0)), (6, w10), (7, w13)] ∧ E.Sep H [.row 4 .nil (List.map TEdge.av ([])), .cell b4 [(.int .i64 0), (.int .i64 0), (.int .i64 0), .nil], .row 1 w10 (List.map (AV.int .i64) y9), .row 1 w13 (List.map (AV.int .i64) y12), .snap S] ∧ spec_l4Keep.k0 p0 p1 y9 y12 = some r) ?_ ?_
  · rintro e0 G70 ⟨y9, y12, w10, w13, hT, hS, hF⟩; refine AWP.only _ hT ?_; unfold spec_l4Keep.k0 at hF
    refine AWP.seqR rfl ?_
    refine ASL.q (v := (.rptr [(.int .i64 p0.letters), (.int .i64 p0.states), (.int .i64 p0.start), (.list 4 (List.map TEdge.av p0.edges))])) rfl rfl (Light.quiet (opFieldAddrR rfl fieldA_26_0 rfl rfl)) ?_
    refine ASL.q (v := (.int .i64 p0.letters)) rfl rfl (Light.quiet (opLoadR rfl aggA_3 rfl rfl)) ?_
    refine ASL.q (v := w10) rfl rfl (Light.quiet (opMove rfl rfl)) ?_
    refine ASL.q (v := (.int .i64 (y9.length : Int))) rfl rfl (Light.quiet (kLen hS (j := 2) rfl rfl rfl rfl lenT_42 rfl)) ?_
    refine ASL.q (v := (.agg [(.int .i64 p0.letters), (.int .i64 (y9.length : Int)), (.int .i64 0), .nil])) rfl rfl (Light.quiet (opBuildZ (zs := [(.int .i64 0), (.int .i64 0), (.int .i64 0), .nil]) rfl plan_26 zeroA_26 ⟨.inl rfl, .inl rfl, .inl rfl, .inl rfl, trivial⟩ rfl)) ?_
    have hS := hNil (s := 4) (f := TEdge.av) hS
    refine ASL.x rfl rfl (hNewZ hS [(.int .i64 0), (.int .i64 0), (.int .i64 0), .nil] rfl zeroA_26 ⟨.inl rfl, .inl rfl, .inl rfl, .inl rfl, trivial⟩ ?_); rintro b9 G15 hK hS
    have hS := hNil (s := 4) (f := TEdge.av) hS
    refine ASL.n rfl rfl (hPutA hS (j := 1) rfl rfl sizeA_26 rfl rfl rfl rfl (allC rfl (allC rfl (allC rfl (allC (hS.one (k := 0) rfl) rfl)))) (nlt rfl) ?_); rintro G18 hS
    refine ASL.done ?_
    refine AWP.seqM (fun e H => ∃ y20 : Int, ∃ y21 : Int, ∃ y22 : Int, ∃ y23 : (List TEdge), ∃ w24 : AV, E.Told e [(1, (.int .i64 p1)), (2, (.rptr [(.int .i64 p0.letters), (.int .i64 p0.states), (.int .i64 p0.start), (.list 4 (List.map TEdge.av p0.edges))])), (4, (.ptr b4 0)), (6, w10), (7, w13), (9, (.ptr b9 0))] ∧ E.Sep H [.row 4 .nil (List.map TEdge.av ([])), .cell b4 [(.int .i64 0), (.int .i64 0), (.int .i64 0), .nil], .row 1 w10 (List.map (AV.int .i64) y9), .row 1 w13 (List.map (AV.int .i64) y12), .row 4 w24 (List.map TEdge.av y23), .cell b9 [(.int .i64 y20), (.int .i64 y21), (.int .i64 y22), w24], .snap S] ∧ spec_l4Keep.k1 p0 p1 y12 y9 y20 y21 y22 y23 = some r) ?_ ?_
    · rintro e0 G54 ⟨y20, y21, y22, y23, w24, hT, hS, hF⟩; refine AWP.only _ hT ?_; unfold spec_l4Keep.k1 at hF
      refine AWP.seqM (fun e H => ∃ y26 : Int, ∃ y27 : Int, ∃ y28 : Int, ∃ y29 : (List TEdge), ∃ w30 : AV, E.Told e [(4, (.ptr b4 0)), (6, w10), (9, (.ptr b9 0))] ∧ E.Sep H [.row 4 .nil (List.map TEdge.av ([])), .cell b4 [(.int .i64 0), (.int .i64 0), (.int .i64 0), .nil], .row 1 w10 (List.map (AV.int .i64) y9), .row 4 w30 (List.map TEdge.av y29), .cell b9 [(.int .i64 y26), (.int .i64 y27), (.int .i64 y28), w30], .snap S] ∧ spec_l4Keep.k2 y9 y26 y27 y28 y29 = some r) ?_ ?_
      · rintro e0 G33 ⟨y26, y27, y28, y29, w30, hT, hS, hF⟩; refine AWP.only _ hT ?_; unfold spec_l4Keep.k2 at hF
        refine AWP.seqR rfl ?_
        refine ASL.q (v := (.agg [(.int .i64 y26), (.int .i64 y27), (.int .i64 y28), w30])) rfl rfl (Light.quiet (kAtA hS (j := 4) rfl rfl aggA_26 sizeA_26 rfl (nlt rfl) rfl)) ?_
        refine ASL.q (v := w10) rfl rfl (Light.quiet (opMove rfl rfl)) ?_
        refine ASL.n rfl rfl (hPutA hS (j := 1) rfl rfl sizeA_26 rfl rfl rfl rfl (allC rfl (allC rfl (allC rfl (allC (hS.one (k := 3) rfl) rfl)))) (nlt rfl) ?_); rintro G32 hS
        refine ASL.q (v := w10) rfl rfl (Light.quiet (opAssign rfl rfl)) ?_
        refine ASL.done ?_
        refine AWP.ret ?_
        obtain rfl := someE hF
        exact QRet.many (vs := [(.agg [(.int .i64 y26), (.int .i64 y27), (.int .i64 y28), w30]), w10]) ⟨resOne.at hS (k := 1) rfl rfl aggA_26 sizeA_26, rfl, trivial⟩ (by simp) ⟨_, ⟨w30, w10, rfl, rfl⟩, hS.pick [3, 2, 5] rfl rfl⟩
      · skip
        refine AWP.seqR rfl ?_
        refine ASL.q (v := (.int .i64 0)) rfl rfl (Light.quiet (opAssign rfl rfl)) ?_
        refine ASL.done ?_
        refine AWP.block ?_
        obtain ⟨o43, hL42, hR44⟩ := bindE hF
        refine AWP.loopF (ω := AV) hL42 (fun s w => [(1, (.int .i64 p1)), (2, (.rptr [(.int .i64 p0.letters), (.int .i64 p0.states), (.int .i64 p0.start), (.list 4 (List.map TEdge.av p0.edges))])), (4, (.ptr b4 0)), (6, w10), (7, w13), (9, (.ptr b9 0)), (11, (.int .i64 s.2.2.2.2))]) (fun s w => [.row 4 .nil (List.map TEdge.av ([])), .cell b4 [(.int .i64 0), (.int .i64 0), (.int .i64 0), .nil], .row 1 w10 (List.map (AV.int .i64) y9), .row 1 w13 (List.map (AV.int .i64) y12), .row 4 w (List.map TEdge.av s.2.2.2.1), .cell b9 [(.int .i64 s.1), (.int .i64 s.2.1), (.int .i64 s.2.2.1), w], .snap S]) w24 ⟨rfl, rfl, rfl, rfl, rfl, rfl, rfl, trivial⟩ (hS.pick [0, 1, 2, 3, 4, 5, 6] rfl rfl) ?_
        rintro ⟨y34, y35, y36, y37, x11_l0⟩ w38 G45 hS x40 hF hx41
        try dsimp only at hS ⊢
        have hF : spec_l4Keep.b0 p0 p1 y12 y34 y35 y36 y37 x11_l0 = some x40 := hF; unfold spec_l4Keep.b0 at hF
        refine AWP.seq ?_
        refine AWP.seqR rfl ?_
        refine ASL.q (v := (.int .i64 x11_l0)) rfl rfl (Light.quiet (opMove rfl rfl)) ?_
        refine ASL.q (v := (.rptr [(.list 4 (List.map TEdge.av p0.edges))])) rfl rfl (Light.quiet (opFieldAddrR rfl fieldA_26_3 rfl rfl)) ?_
        refine ASL.q (v := (.list 4 (List.map TEdge.av p0.edges))) rfl rfl (Light.quiet (opLoadR rfl aggA_24 rfl rfl)) ?_
        refine ASL.q (v := (.int .i64 (p0.edges.length : Int))) rfl rfl (Light.quiet (opLenMap (f := TEdge.av) rfl rfl rfl lenT_24 rfl)) ?_
        refine ASL.q (v := (.bool (decide (x11_l0 < ((p0.edges.length : Int)))))) rfl rfl (Light.quiet (opInt rfl rfl rfl rfl)) ?_
        refine ASL.done ?_
        refine AWP.ifP hF rfl (fun hc46 hF => ?_) (fun hc46 hF => ?_)
        · skip
          refine AWP.skip ?_
          refine QThen.nrm ?_
          refine AWP.seq ?_
          refine AWP.block ?_
          refine AWP.seqR rfl ?_
          refine ASL.q (v := (.rptr [(.list 4 (List.map TEdge.av p0.edges))])) rfl rfl (Light.quiet (opFieldAddrR rfl fieldA_26_3 rfl rfl)) ?_
          refine ASL.q (v := (.list 4 (List.map TEdge.av p0.edges))) rfl rfl (Light.quiet (opLoadR rfl aggA_24 rfl rfl)) ?_
          refine ASL.q (v := (.int .i64 x11_l0)) rfl rfl (Light.quiet (opMove rfl rfl)) ?_
          obtain ⟨a72, ha72, hF⟩ := bindE hF
          refine ASL.q (v := (.rptr [(.int .i64 a72.from_), (.int .i64 a72.letter), (.int .i64 a72.to_), (.bool a72.good)])) rfl rfl (Light.quiet (kIx (f := TEdge.av) ha72 rfl rfl rfl elemA_24 sizeA_68 rfl)) ?_
          refine ASL.q (v := (TEdge.av a72)) rfl rfl (Light.quiet (opLoadRA rfl aggA_68 sizeA_68 rfl (nlt rfl) rfl)) ?_
          refine ASL.x rfl rfl (hNewZ hS [(.int .i64 0), (.int .i64 0), (.int .i64 0), (.bool false)] rfl zeroA_68 ⟨.inl rfl, .inl rfl, .inl rfl, .inl rfl, trivial⟩ ?_); rintro b12 G47 hK hS
          refine ASL.n rfl rfl (hPutA hS (j := 0) rfl rfl sizeA_68 rfl rfl rfl rfl rfl (nlt rfl) ?_); rintro G49 hS
          refine ASL.done ?_
          refine AWP.seqR rfl ?_
          refine ASL.q (v := (.int .i64 p1)) rfl rfl (Light.quiet (opMove rfl rfl)) ?_
          refine ASL.q (v := (.ptr b12 0)) rfl rfl (Light.quiet (opFieldAddr rfl fieldA_68_0 rfl rfl)) ?_
          refine ASL.q (v := (.int .i64 a72.from_)) rfl rfl (Light.quiet (kAt hS (j := 0) rfl rfl aggA_3 rfl rfl)) ?_
          obtain ⟨a77, ha77, hF⟩ := bindE hF
          refine ASL.q (v := (.bool a77)) rfl rfl ((qCall rfl rfl call_33 (spec_l1Has_ok ha77) rfl)) ?_
          refine ASL.q (v := (.bool a77)) rfl rfl (Light.quiet (opMove rfl rfl)) ?_
          refine ASL.g (v := (.int .i64 p1)) (.bool a77) true rfl (wT _) rfl (fun hG => by have q0 := hG; subst q0; exact Light.quiet (opMove rfl rfl)) ?_
          refine ASL.g (v := (.ptr b12 2)) (.bool a77) true rfl (wT _) rfl (fun hG => by have q0 := hG; subst q0; exact Light.quiet (opFieldAddr rfl fieldA_68_2 rfl rfl)) ?_
          refine ASL.g (v := (.int .i64 a72.to_)) (.bool a77) true rfl (wT _) rfl (fun hG => by have q0 := hG; subst q0; exact Light.quiet (kAt hS (j := 0) rfl rfl aggA_3 rfl rfl)) ?_
          obtain ⟨a82, ha82, hF⟩ := bindE hF
          refine ASL.g (v := (.bool a82)) (.bool a77) true rfl (wT _) rfl (fun hG => by have q0 := hG; subst q0; exact (qCall rfl rfl call_33 (spec_l1Has_ok (whenE ha82)) rfl)) ?_
          refine ASL.q (v := (.bool (a77 && a82))) rfl rfl (Light.quiet (opPick (b := a77) rfl rfl (by cases a77 <;> rfl))) ?_
          refine ASL.done ?_
          refine AWP.ifB hF rfl (fun hc50 hF => ?_) (fun hc50 hF => ?_)
          · skip
            refine AWP.lastD [(0, false), (1, false), (2, false), (3, false), (4, false), (5, false), (6, false), (7, false), (8, false), (9, false), (10, false), (11, false), (12, false), (13, false), (14, false), (15, false), (16, false), (17, false), (18, true), (19, false), (20, true)] mixed (by kernel_rfl) rfl ?_
            refine ARL.q0 (v := (.ptr b9 3)) rfl rfl (Light.quiet (opFieldAddr rfl fieldA_26_3 rfl rfl)) ?_
            refine ARL.q (v := w38) rfl rfl (hS.aliveC (k := 6) rfl) (Light.quiet (kAt hS (j := 6) rfl rfl aggA_24 rfl rfl)) ?_
            refine ARL.q0 (v := w13) rfl rfl (Light.quiet (opMove rfl rfl)) ?_
            refine ARL.q0 (v := (.ptr b12 0)) rfl rfl (Light.quiet (opFieldAddr rfl fieldA_68_0 rfl rfl)) ?_
            refine ARL.q (v := (.int .i64 a72.from_)) rfl rfl (hS.aliveC (k := 0) rfl) (Light.quiet (kAt hS (j := 0) rfl rfl aggA_3 rfl rfl)) ?_
            obtain ⟨a89, ha89, hF⟩ := bindE hF
            refine ARL.q0 (v := (ptrTo w13 a72.from_.toNat 1)) rfl rfl (Light.quiet (kIxOx hS (j := 4) rfl ha89 rfl rfl rfl elemA_42 sizeA_3)) ?_
            refine ARL.q (v := (.int .i64 a89)) rfl rfl (hS.aliveR (k := 4) rfl) (Light.quiet (kLd (f := (AV.int .i64)) hS (j := 4) rfl ha89 rfl aggA_3 rfl (fun _ => rfl))) ?_
            refine ARL.q0 (v := (.ptr b12 1)) rfl rfl (Light.quiet (opFieldAddr rfl fieldA_68_1 rfl rfl)) ?_
            refine ARL.q (v := (.int .i64 a72.letter)) rfl rfl (hS.aliveC (k := 0) rfl) (Light.quiet (kAt hS (j := 0) rfl rfl aggA_3 rfl rfl)) ?_
            refine ARL.q0 (v := w13) rfl rfl (Light.quiet (opMove rfl rfl)) ?_
            refine ARL.q0 (v := (.ptr b12 2)) rfl rfl (Light.quiet (opFieldAddr rfl fieldA_68_2 rfl rfl)) ?_
            refine ARL.q (v := (.int .i64 a72.to_)) rfl rfl (hS.aliveC (k := 0) rfl) (Light.quiet (kAt hS (j := 0) rfl rfl aggA_3 rfl rfl)) ?_
            obtain ⟨a96, ha96, hF⟩ := bindE hF
            refine ARL.q0 (v := (ptrTo w13 a72.to_.toNat 1)) rfl rfl (Light.quiet (kIxOx hS (j := 4) rfl ha96 rfl rfl rfl elemA_42 sizeA_3)) ?_
            refine ARL.q (v := (.int .i64 a96)) rfl rfl (hS.aliveR (k := 4) rfl) (Light.quiet (kLd (f := (AV.int .i64)) hS (j := 4) rfl ha96 rfl aggA_3 rfl (fun _ => rfl))) ?_
            refine ARL.q0 (v := (.ptr b12 3)) rfl rfl (Light.quiet (opFieldAddr rfl fieldA_68_3 rfl rfl)) ?_
            refine ARL.q (v := (.bool a72.good)) rfl rfl (hS.aliveC (k := 0) rfl) (Light.quiet (kAt hS (j := 0) rfl rfl aggA_4 rfl rfl)) ?_
            refine ARL.q0 (v := (.agg [(.int .i64 a89), (.int .i64 a72.letter), (.int .i64 a96), (.bool a72.good)])) rfl rfl (Light.quiet (opBuildZ (zs := [(.int .i64 0), (.int .i64 0), (.int .i64 0), (.bool false)]) rfl plan_68 zeroA_68 ⟨.inl rfl, .inl rfl, .inl rfl, .inl rfl, trivial⟩ rfl)) ?_
            refine ARL.q0 (v := (.list 4 (List.map TEdge.av [(TEdge.mk a89 a72.letter a96 a72.good)]))) rfl rfl ((qLit (xs := [(.agg [(.int .i64 a89), (.int .i64 a72.letter), (.int .i64 a96), (.bool a72.good)])]) rfl elemA_24 sizeA_68 zeroA_68 rfl rfl rfl rfl (by simp [cells, TEdge.av]) (nlt rfl))) ?_
            obtain ⟨z102, hz102, hF⟩ := bindE hF
            refine ARL.y rfl rfl rfl rfl (hApp (f := TEdge.av) (ws := [(TEdge.mk a89 a72.letter a96 a72.good)]) hS (j := 5) rfl hz102 rfl elemA_24 rfl sizeA_68 bytesA_68 zeroA_68 rfl rfl rfl (fun _ => rfl) ?_); rintro v102 G51 hS
            refine ARL.q0 (v := (.ptr b9 3)) rfl rfl (Light.quiet (opFieldAddr rfl fieldA_26_3 rfl rfl)) ?_
            refine ARL.n rfl rfl rfl rfl (hPut hS (j := 6) rfl rfl sizeA_24 rfl rfl (hS.one (k := 5) rfl) (nlt rfl) ?_); rintro G53 hS
            refine ARL.done ?_
            refine QBlock.nrm ?_
            refine QThen.nrm ?_
            refine AWP.lastR rfl ?_
            refine ASL.q (v := (.int .i64 x11_l0)) rfl rfl (Light.quiet (opMove rfl rfl)) ?_
            refine ASL.q (v := (.int .i64 (W (x11_l0 + 1)))) rfl rfl (Light.quiet (opInt rfl rfl rfl rfl)) ?_
            refine ASL.q (v := (.int .i64 (W (x11_l0 + 1)))) rfl rfl (Light.quiet (opAssign rfl rfl)) ?_
            refine ASL.done ?_
            refine QThen.nrm ?_
            exact ⟨(y34, y35, y36, z102, (W (x11_l0 + 1))), v102, (someE hF).symm, ⟨rfl, rfl, rfl, rfl, rfl, rfl, rfl, trivial⟩, (hS.pick [1, 2, 3, 4, 5, 6, 7] rfl rfl)⟩
          · skip
            refine AWP.skip ?_
            refine QBlock.nrm ?_
            refine QThen.nrm ?_
            refine AWP.lastR rfl ?_
            refine ASL.q (v := (.int .i64 x11_l0)) rfl rfl (Light.quiet (opMove rfl rfl)) ?_
            refine ASL.q (v := (.int .i64 (W (x11_l0 + 1)))) rfl rfl (Light.quiet (opInt rfl rfl rfl rfl)) ?_
            refine ASL.q (v := (.int .i64 (W (x11_l0 + 1)))) rfl rfl (Light.quiet (opAssign rfl rfl)) ?_
            refine ASL.done ?_
            refine QThen.nrm ?_
            exact ⟨(y34, y35, y36, y37, (W (x11_l0 + 1))), w38, (someE hF).symm, ⟨rfl, rfl, rfl, rfl, rfl, rfl, rfl, trivial⟩, (hS.pick [1, 2, 3, 4, 5, 6, 7] rfl rfl)⟩
        · skip
          refine AWP.exit ?_
          refine QThen.ext ?_
          refine QThen.ext ?_
          refine QBlock.hit ?_
          obtain rfl := (hx41 _ (someE hF).symm)
          have hF := hR44
          refine QThen.nrm ?_
          exact ⟨y34, y35, y36, y37, w38, ⟨rfl, rfl, rfl, trivial⟩, (hS.pick [0, 1, 2, 4, 5, 6] rfl rfl), hF⟩
    · skip
      refine AWP.seqR rfl ?_
      refine ASL.q (v := (.int .i64 0)) rfl rfl (Light.quiet (opAssign rfl rfl)) ?_
      refine ASL.done ?_
      refine AWP.block ?_
      obtain ⟨o64, hL63, hR65⟩ := bindE hF
      refine AWP.loopF (ω := AV) hL63 (fun s w => [(1, (.int .i64 p1)), (2, (.rptr [(.int .i64 p0.letters), (.int .i64 p0.states), (.int .i64 p0.start), (.list 4 (List.map TEdge.av p0.edges))])), (4, (.ptr b4 0)), (6, w10), (7, w13), (9, (.ptr b9 0)), (10, (.int .i64 s.2.2.2.2))]) (fun s w => [.row 4 .nil (List.map TEdge.av ([])), .cell b4 [(.int .i64 0), (.int .i64 0), (.int .i64 0), .nil], .row 1 w10 (List.map (AV.int .i64) y9), .row 1 w13 (List.map (AV.int .i64) y12), .row 4 w (List.map TEdge.av s.2.2.2.1), .cell b9 [(.int .i64 s.1), (.int .i64 s.2.1), (.int .i64 s.2.2.1), w], .snap S]) .nil ⟨rfl, rfl, rfl, rfl, rfl, rfl, rfl, trivial⟩ (hS.pick [3, 4, 5, 6, 0, 1, 7] rfl rfl) ?_
      rintro ⟨y55, y56, y57, y58, x10_l1⟩ w59 G66 hS x61 hF hx62
      try dsimp only at hS ⊢
      have hF : spec_l4Keep.b1 p0 p1 y12 y55 y56 y57 y58 x10_l1 = some x61 := hF; unfold spec_l4Keep.b1 at hF
      refine AWP.seq ?_
      refine AWP.seqR rfl ?_
      refine ASL.q (v := (.int .i64 x10_l1)) rfl rfl (Light.quiet (opMove rfl rfl)) ?_
      refine ASL.q (v := (.rptr [(.int .i64 p0.states), (.int .i64 p0.start), (.list 4 (List.map TEdge.av p0.edges))])) rfl rfl (Light.quiet (opFieldAddrR rfl fieldA_26_1 rfl rfl)) ?_
      refine ASL.q (v := (.int .i64 p0.states)) rfl rfl (Light.quiet (opLoadR rfl aggA_3 rfl rfl)) ?_
      refine ASL.q (v := (.bool (decide (x10_l1 < p0.states)))) rfl rfl (Light.quiet (opInt rfl rfl rfl rfl)) ?_
      refine ASL.done ?_
      refine AWP.ifP hF rfl (fun hc67 hF => ?_) (fun hc67 hF => ?_)
      · skip
        refine AWP.skip ?_
        refine QThen.nrm ?_
        refine AWP.seq ?_
        refine AWP.block ?_
        refine AWP.seqR rfl ?_
        refine ASL.q (v := (.int .i64 p1)) rfl rfl (Light.quiet (opMove rfl rfl)) ?_
        refine ASL.q (v := (.int .i64 x10_l1)) rfl rfl (Light.quiet (opMove rfl rfl)) ?_
        obtain ⟨a46, ha46, hF⟩ := bindE hF
        refine ASL.q (v := (.bool a46)) rfl rfl ((qCall rfl rfl call_33 (spec_l1Has_ok ha46) rfl)) ?_
        refine ASL.q (v := (.bool a46)) rfl rfl (Light.quiet (opMove rfl rfl)) ?_
        refine ASL.g (v := (.rptr [(.int .i64 p0.start), (.list 4 (List.map TEdge.av p0.edges))])) (.bool a46) true rfl (wT _) rfl (fun hG => by have q0 := hG; subst q0; exact Light.quiet (opFieldAddrR rfl fieldA_26_2 rfl rfl)) ?_
        refine ASL.g (v := (.int .i64 p0.start)) (.bool a46) true rfl (wT _) rfl (fun hG => by have q0 := hG; subst q0; exact Light.quiet (opLoadR rfl aggA_3 rfl rfl)) ?_
        refine ASL.g (v := (.int .i64 x10_l1)) (.bool a46) true rfl (wT _) rfl (fun hG => by have q0 := hG; subst q0; exact Light.quiet (opMove rfl rfl)) ?_
        obtain ⟨a51, ha51, hF⟩ := bindE hF
        refine ASL.g (v := (.bool a51)) (.bool a46) true rfl (wT _) rfl (fun hG => by have q0 := hG; subst q0; exact (qCall rfl rfl call_33 (spec_l1Has_ok (whenE ha51)) rfl)) ?_
        refine ASL.q (v := (.bool (a46 && a51))) rfl rfl (Light.quiet (opPick (b := a46) rfl rfl (by cases a46 <;> rfl))) ?_
        refine ASL.done ?_
        refine AWP.ifB hF rfl (fun hc68 hF => ?_) (fun hc68 hF => ?_)
        · skip
          refine AWP.lastD [(0, false), (1, false), (2, false), (3, false), (4, false), (5, false), (6, false), (7, false), (8, false), (9, true)] mixed (by kernel_rfl) rfl ?_
          refine ARL.q0 (v := (.ptr b9 2)) rfl rfl (Light.quiet (opFieldAddr rfl fieldA_26_2 rfl rfl)) ?_
          refine ARL.q (v := (.int .i64 y57)) rfl rfl (hS.aliveC (k := 5) rfl) (Light.quiet (kAt hS (j := 5) rfl rfl aggA_3 rfl rfl)) ?_
          refine ARL.q0 (v := w13) rfl rfl (Light.quiet (opMove rfl rfl)) ?_
          refine ARL.q0 (v := (.int .i64 x10_l1)) rfl rfl (Light.quiet (opMove rfl rfl)) ?_
          obtain ⟨a57, ha57, hF⟩ := bindE hF
          refine ARL.q0 (v := (ptrTo w13 x10_l1.toNat 1)) rfl rfl (Light.quiet (kIxOx hS (j := 3) rfl ha57 rfl rfl rfl elemA_42 sizeA_3)) ?_
          refine ARL.q (v := (.int .i64 a57)) rfl rfl (hS.aliveR (k := 3) rfl) (Light.quiet (kLd (f := (AV.int .i64)) hS (j := 3) rfl ha57 rfl aggA_3 rfl (fun _ => rfl))) ?_
          obtain ⟨a59, ha59, hF⟩ := bindE hF
          refine ARL.q0 (v := (.int .i64 a59)) rfl rfl ((qCall rfl rfl call_34 (spec_l1Bit_ok ha59) rfl)) ?_
          refine ARL.q0 (v := (.int .i64 (bOr .i64 y57 a59))) rfl rfl (Light.quiet (opInt rfl rfl rfl rfl)) ?_
          refine ARL.q0 (v := (.ptr b9 2)) rfl rfl (Light.quiet (opFieldAddr rfl fieldA_26_2 rfl rfl)) ?_
          refine ARL.n rfl rfl rfl rfl (hPut hS (j := 5) rfl rfl sizeA_3 rfl rfl rfl (nlt rfl) ?_); rintro G69 hS
          refine ARL.done ?_
          refine QBlock.nrm ?_
          refine QThen.nrm ?_
          refine AWP.lastR rfl ?_
          refine ASL.q (v := (.int .i64 x10_l1)) rfl rfl (Light.quiet (opMove rfl rfl)) ?_
          refine ASL.q (v := (.int .i64 (W (x10_l1 + 1)))) rfl rfl (Light.quiet (opInt rfl rfl rfl rfl)) ?_
          refine ASL.q (v := (.int .i64 (W (x10_l1 + 1)))) rfl rfl (Light.quiet (opAssign rfl rfl)) ?_
          refine ASL.done ?_
          refine QThen.nrm ?_
          exact ⟨(y55, y56, (bOr .i64 y57 a59), y58, (W (x10_l1 + 1))), w59, (someE hF).symm, ⟨rfl, rfl, rfl, rfl, rfl, rfl, rfl, trivial⟩, (hS.pick [0, 1, 2, 3, 4, 5, 6] rfl rfl)⟩
        · skip
          refine AWP.skip ?_
          refine QBlock.nrm ?_
          refine QThen.nrm ?_
          refine AWP.lastR rfl ?_
          refine ASL.q (v := (.int .i64 x10_l1)) rfl rfl (Light.quiet (opMove rfl rfl)) ?_
          refine ASL.q (v := (.int .i64 (W (x10_l1 + 1)))) rfl rfl (Light.quiet (opInt rfl rfl rfl rfl)) ?_
          refine ASL.q (v := (.int .i64 (W (x10_l1 + 1)))) rfl rfl (Light.quiet (opAssign rfl rfl)) ?_
          refine ASL.done ?_
          refine QThen.nrm ?_
          exact ⟨(y55, y56, y57, y58, (W (x10_l1 + 1))), w59, (someE hF).symm, ⟨rfl, rfl, rfl, rfl, rfl, rfl, rfl, trivial⟩, (hS.pick [0, 1, 2, 3, 4, 5, 6] rfl rfl)⟩
      · skip
        refine AWP.exit ?_
        refine QThen.ext ?_
        refine QThen.ext ?_
        refine QBlock.hit ?_
        obtain rfl := (hx62 _ (someE hF).symm)
        have hF := hR65
        refine QThen.nrm ?_
        exact ⟨y55, y56, y57, y58, w59, ⟨rfl, rfl, rfl, rfl, rfl, rfl, trivial⟩, (hS.pick [0, 1, 2, 3, 4, 5, 6] rfl rfl), hF⟩
  · skip
    refine AWP.seqR rfl ?_
    refine ASL.q (v := (.int .i64 0)) rfl rfl (Light.quiet (opAssign rfl rfl)) ?_
    refine ASL.done ?_
    refine AWP.block ?_
    obtain ⟨o80, hL79, hR81⟩ := bindE hF
    refine AWP.loopF (ω := (AV × AV)) hL79 (fun s w => [(1, (.int .i64 p1)), (2, (.rptr [(.int .i64 p0.letters), (.int .i64 p0.states), (.int .i64 p0.start), (.list 4 (List.map TEdge.av p0.edges))])), (4, (.ptr b4 0)), (6, w.1), (7, w.2), (8, (.int .i64 s.2.2))]) (fun s w => [.row 4 .nil (List.map TEdge.av ([])), .cell b4 [(.int .i64 0), (.int .i64 0), (.int .i64 0), .nil], .row 1 w.1 (List.map (AV.int .i64) s.1), .row 1 w.2 (List.map (AV.int .i64) s.2.1), .snap S]) (v13, v14) ⟨rfl, rfl, rfl, rfl, rfl, rfl, trivial⟩ (hS.pick [4, 3, 1, 0, 5] rfl rfl) ?_
    rintro ⟨y71, y74, x8_l2⟩ ⟨w72, w75⟩ G82 hS x77 hF hx78
    try dsimp only at hS ⊢
    have hF : spec_l4Keep.b2 p0 p1 y71 y74 x8_l2 = some x77 := hF; unfold spec_l4Keep.b2 at hF
    refine AWP.seq ?_
    refine AWP.seqR rfl ?_
    refine ASL.q (v := (.int .i64 x8_l2)) rfl rfl (Light.quiet (opMove rfl rfl)) ?_
    refine ASL.q (v := (.rptr [(.int .i64 p0.states), (.int .i64 p0.start), (.list 4 (List.map TEdge.av p0.edges))])) rfl rfl (Light.quiet (opFieldAddrR rfl fieldA_26_1 rfl rfl)) ?_
    refine ASL.q (v := (.int .i64 p0.states)) rfl rfl (Light.quiet (opLoadR rfl aggA_3 rfl rfl)) ?_
    refine ASL.q (v := (.bool (decide (x8_l2 < p0.states)))) rfl rfl (Light.quiet (opInt rfl rfl rfl rfl)) ?_
    refine ASL.done ?_
    refine AWP.ifP hF rfl (fun hc83 hF => ?_) (fun hc83 hF => ?_)
    · skip
      refine AWP.skip ?_
      refine QThen.nrm ?_
      refine AWP.seq ?_
      refine AWP.block ?_
      refine AWP.seqR rfl ?_
      refine ASL.q (v := w75) rfl rfl (Light.quiet (opMove rfl rfl)) ?_
      refine ASL.q (v := w72) rfl rfl (Light.quiet (opMove rfl rfl)) ?_
      refine ASL.q (v := (.int .i64 (y71.length : Int))) rfl rfl (Light.quiet (kLen hS (j := 2) rfl rfl rfl rfl lenT_42 rfl)) ?_
      refine ASL.q (v := (.list 1 (List.map (AV.int .i64) [(y71.length : Int)]))) rfl rfl ((qLit (xs := [(.int .i64 (y71.length : Int))]) rfl elemA_42 sizeA_3 zeroA_3 rfl rfl rfl rfl (by simp [cells]) (nlt rfl))) ?_
      obtain ⟨z25, hz25, hF⟩ := bindE hF
      refine ASL.x rfl rfl (hApp (f := (AV.int .i64)) (ws := [(y71.length : Int)]) hS (j := 3) rfl hz25 rfl elemA_42 rfl sizeA_3 bytesA_3 zeroA_3 rfl rfl rfl (fun _ => rfl) ?_); rintro v25 G84 hS
      refine ASL.q (v := v25) rfl rfl (Light.quiet (opAssign rfl rfl)) ?_
      refine ASL.done ?_
      refine AWP.seqR rfl ?_
      refine ASL.q (v := (.int .i64 p1)) rfl rfl (Light.quiet (opMove rfl rfl)) ?_
      refine ASL.q (v := (.int .i64 x8_l2)) rfl rfl (Light.quiet (opMove rfl rfl)) ?_
      obtain ⟨a28, ha28, hF⟩ := bindE hF
      refine ASL.q (v := (.bool a28)) rfl rfl ((qCall rfl rfl call_33 (spec_l1Has_ok ha28) rfl)) ?_
      refine ASL.done ?_
      refine AWP.ifB hF rfl (fun hc86 hF => ?_) (fun hc86 hF => ?_)
      · skip
        refine AWP.lastR rfl ?_
        refine ASL.q (v := w72) rfl rfl (Light.quiet (opMove rfl rfl)) ?_
        refine ASL.q (v := (.int .i64 x8_l2)) rfl rfl (Light.quiet (opMove rfl rfl)) ?_
        refine ASL.q (v := (.list 1 (List.map (AV.int .i64) [x8_l2]))) rfl rfl ((qLit (xs := [(.int .i64 x8_l2)]) rfl elemA_42 sizeA_3 zeroA_3 rfl rfl rfl rfl (by simp [cells]) (nlt rfl))) ?_
        obtain ⟨z32, hz32, hF⟩ := bindE hF
        refine ASL.x rfl rfl (hApp (f := (AV.int .i64)) (ws := [x8_l2]) hS (j := 2) rfl hz32 rfl elemA_42 rfl sizeA_3 bytesA_3 zeroA_3 rfl rfl rfl (fun _ => rfl) ?_); rintro v32 G87 hS
        refine ASL.q (v := v32) rfl rfl (Light.quiet (opAssign rfl rfl)) ?_
        refine ASL.done ?_
        refine QBlock.nrm ?_
        refine QThen.nrm ?_
        refine AWP.lastR rfl ?_
        refine ASL.q (v := (.int .i64 x8_l2)) rfl rfl (Light.quiet (opMove rfl rfl)) ?_
        refine ASL.q (v := (.int .i64 (W (x8_l2 + 1)))) rfl rfl (Light.quiet (opInt rfl rfl rfl rfl)) ?_
        refine ASL.q (v := (.int .i64 (W (x8_l2 + 1)))) rfl rfl (Light.quiet (opAssign rfl rfl)) ?_
        refine ASL.done ?_
        refine QThen.nrm ?_
        exact ⟨(z32, z25, (W (x8_l2 + 1))), (v32, v25), (someE hF).symm, ⟨rfl, rfl, rfl, rfl, rfl, rfl, trivial⟩, (hS.pick [0, 1, 2, 3, 4] rfl rfl)⟩
      · skip
        refine AWP.skip ?_
        refine QBlock.nrm ?_
        refine QThen.nrm ?_
        refine AWP.lastR rfl ?_
        refine ASL.q (v := (.int .i64 x8_l2)) rfl rfl (Light.quiet (opMove rfl rfl)) ?_
        refine ASL.q (v := (.int .i64 (W (x8_l2 + 1)))) rfl rfl (Light.quiet (opInt rfl rfl rfl rfl)) ?_
        refine ASL.q (v := (.int .i64 (W (x8_l2 + 1)))) rfl rfl (Light.quiet (opAssign rfl rfl)) ?_
        refine ASL.done ?_
        refine QThen.nrm ?_
        exact ⟨(y71, z25, (W (x8_l2 + 1))), (w72, v25), (someE hF).symm, ⟨rfl, rfl, rfl, rfl, rfl, rfl, trivial⟩, (hS.pick [0, 1, 2, 3, 4] rfl rfl)⟩
    · skip
      refine AWP.exit ?_
      refine QThen.ext ?_
      refine QThen.ext ?_
      refine QBlock.hit ?_
      obtain rfl := (hx78 _ (someE hF).symm)
      have hF := hR81
      refine QThen.nrm ?_
      exact ⟨y71, y74, w72, w75, ⟨rfl, rfl, rfl, rfl, rfl, trivial⟩, (hS.pick [0, 1, 2, 3, 4] rfl rfl), hF⟩

set_option maxRecDepth 10000 in
theorem spec_AutoTrim_ok {p0 : TAuto} {r : (TAuto × (List Int))} (hF : spec_AutoTrim p0 = some r) : PC Tryz.prog 15 [(TAuto.av p0)] fun v => v = .tup [(TAuto.av r.1), (.list 1 (List.map (AV.int .i64) r.2))] := by
  refine PC.enter Tryz.func15 rfl Tryz.ntmps15 (by simp) ?_
  have hS := Sep.void; unfold spec_AutoTrim at hF
  refine AWP.seqR rfl ?_
  refine ASL.q (v := (.rptr [(.int .i64 p0.letters), (.int .i64 p0.states), (.int .i64 p0.start), (.list 4 (List.map TEdge.av p0.edges))])) rfl rfl ((qBoxI (v := (TAuto.av p0)) rfl rfl rfl rfl)) ?_
  refine ASL.x rfl rfl (hNewZ hS [(.int .i64 0), (.int .i64 0), (.int .i64 0), (.list 4 (List.map TEdge.av []))] rfl zeroA_26 ⟨.inl rfl, .inl rfl, .inl rfl, .inr ⟨_, rfl, rfl⟩, trivial⟩ ?_); rintro b2 G1 hK hS
  refine ASL.q (v := (.list 1 (List.map (AV.int .i64) []))) rfl rfl (Light.quiet (opNilL rfl rfl)) ?_
  refine ASL.done ?_
  refine AWP.seq ?_
  refine AWP.seqR rfl ?_
  refine ASL.q (v := (TAuto.av p0)) rfl rfl (Light.quiet (opLoadRA rfl aggA_26 sizeA_26 rfl (nlt rfl) rfl)) ?_
  obtain ⟨a7, ha7, hF⟩ := bindE hF
  refine ASL.q (v := (.bool a7)) rfl rfl ((qCall rfl rfl call_36 (spec_AutoOk_ok ha7) rfl)) ?_
  refine ASL.q (v := (.bool (!a7))) rfl rfl (Light.quiet (opNot rfl rfl)) ?_
  refine ASL.done ?_
  refine AWP.ifB hF rfl (fun hc3 hF => ?_) (fun hc3 hF => ?_)
  · skip
    refine AWP.seqR rfl ?_
    refine ASL.q (v := (.agg [(.int .i64 0), (.int .i64 0), (.int .i64 0), (.list 4 (List.map TEdge.av []))])) rfl rfl (Light.quiet (opBuildZ (zs := [(.int .i64 0), (.int .i64 0), (.int .i64 0), (.list 4 (List.map TEdge.av []))]) rfl plan_26 zeroA_26 ⟨.inl rfl, .inl rfl, .inl rfl, .inr ⟨_, rfl, rfl⟩, trivial⟩ rfl)) ?_
    refine ASL.q (v := (.list 1 (List.map (AV.int .i64) []))) rfl rfl ((qLit (xs := []) rfl elemA_42 sizeA_3 zeroA_3 rfl rfl rfl rfl (by simp [cells]) (nlt rfl))) ?_
    refine ASL.n rfl rfl (hPutA hS (j := 0) rfl rfl sizeA_26 rfl rfl rfl rfl rfl (nlt rfl) ?_); rintro G4 hS
    refine ASL.q (v := (.list 1 (List.map (AV.int .i64) []))) rfl rfl (Light.quiet (opAssign rfl rfl)) ?_
    refine ASL.done ?_
    refine AWP.ret ?_
    refine QThen.rt ?_
    obtain rfl := someE hF
    exact QRet.many (vs := [(.agg [(.int .i64 0), (.int .i64 0), (.int .i64 0), (.list 4 (List.map TEdge.av []))]), (.list 1 (List.map (AV.int .i64) []))]) ⟨resOne.at hS (k := 0) rfl rfl aggA_26 sizeA_26, rfl, trivial⟩ (by simp) rfl
  · skip
    refine AWP.skip ?_
    refine QThen.nrm ?_
    obtain ⟨a16, ha16, hF⟩ := bindE hF
    obtain ⟨a17, ha17, hF⟩ := bindE hF
    refine AWP.seqT (fun e H => ∃ b4 : Nat, ∃ w1205 : AV, ∃ w1207 : AV, E.Told e [(2, (.ptr b2 0)), (4, (.ptr b4 0)), (5, w1207)] ∧ E.Sep H [.cell b4 [(.int .i64 a17.1.letters), (.int .i64 a17.1.states), (.int .i64 a17.1.start), w1205], .row 4 w1205 (List.map TEdge.av a17.1.edges), .row 1 w1207 (List.map (AV.int .i64) a17.2), .cell b2 [(.int .i64 0), (.int .i64 0), (.int .i64 0), (.list 4 (List.map TEdge.av []))]]) (.q 0 (.q 1 (.q 2 (.q 3 (.q 4 (.fork (.h 5 (.q 6 (.q 7 (.q 8 (.h 9 (.h 10 (.q 11 .fin))))))) (.h 9 (.h 5 (.q 6 (.q 7 (.q 8 (.h 10 (.q 11 .fin))))))))))))) mixed (by kernel_rfl) ?_ ?_
    · rintro e0 G2805 ⟨b4, w1205, w1207, hT, hS⟩; refine AWP.only _ hT ?_
      refine AWP.frz (L' := [.cell b4 [(.int .i64 a17.1.letters), (.int .i64 a17.1.states), (.int .i64 a17.1.start), w1205], .row 4 w1205 (List.map TEdge.av a17.1.edges), .cell b2 [(.int .i64 0), (.int .i64 0), (.int .i64 0), (.list 4 (List.map TEdge.av []))]]) hS (k := 2) rfl [(2, (.ptr b2 0)), (4, (.ptr b4 0)), (5, (.list 1 (List.map (AV.int .i64) a17.2)))] ⟨.inl rfl, .inl rfl, .inr (.inl ⟨rfl, rfl⟩), trivial⟩ ⟨⟨_, rfl, ⟨.inl rfl, .inl rfl, .inl rfl, .inl rfl, trivial⟩⟩, rfl, ⟨_, rfl, ⟨.inl rfl, .inl rfl, .inl rfl, .inl rfl, trivial⟩⟩, trivial⟩ (fun G2806 hS => ?_)
      refine AWP.seqR rfl ?_
      refine ASL.q (v := (.agg [(.int .i64 a17.1.letters), (.int .i64 a17.1.states), (.int .i64 a17.1.start), w1205])) rfl rfl (Light.quiet (kAtA hS (j := 0) rfl rfl aggA_26 sizeA_26 rfl (nlt rfl) rfl)) ?_
      refine ASL.q (v := (.list 1 (List.map (AV.int .i64) a17.2))) rfl rfl (Light.quiet (opMove rfl rfl)) ?_
      refine ASL.n rfl rfl (hPutA hS (j := 2) rfl rfl sizeA_26 rfl rfl rfl rfl (allC rfl (allC rfl (allC rfl (allC (hS.one (k := 1) rfl) rfl)))) (nlt rfl) ?_); rintro G2807 hS
      refine ASL.q (v := (.list 1 (List.map (AV.int .i64) a17.2))) rfl rfl (Light.quiet (opAssign rfl rfl)) ?_
      refine ASL.done ?_
      refine AWP.frz (L' := [.cell b4 [(.int .i64 a17.1.letters), (.int .i64 a17.1.states), (.int .i64 a17.1.start), (.list 4 (List.map TEdge.av a17.1.edges))], .cell b2 [(.int .i64 a17.1.letters), (.int .i64 a17.1.states), (.int .i64 a17.1.start), (.list 4 (List.map TEdge.av a17.1.edges))]]) hS (k := 1) rfl [(2, (.ptr b2 0)), (3, (.list 1 (List.map (AV.int .i64) a17.2))), (4, (.ptr b4 0)), (5, (.list 1 (List.map (AV.int .i64) a17.2)))] ⟨.inl rfl, .inl rfl, .inl rfl, .inl rfl, trivial⟩ ⟨⟨_, rfl, ⟨.inl rfl, .inl rfl, .inl rfl, .inr ⟨rfl, rfl⟩, trivial⟩⟩, ⟨_, rfl, ⟨.inl rfl, .inl rfl, .inl rfl, .inr ⟨rfl, rfl⟩, trivial⟩⟩, trivial⟩ (fun G2808 hS => ?_)
      refine AWP.ret ?_
      obtain rfl := someE hF
      exact QRet.many (vs := [(TAuto.av a17.1), (.list 1 (List.map (AV.int .i64) a17.2))]) ⟨resOne.at hS (k := 1) rfl rfl aggA_26 sizeA_26, rfl, trivial⟩ (by simp) rfl
    · skip
      refine ART.q0 rfl (v := (TAuto.av p0)) rfl rfl (Light.quiet (opLoadRA rfl aggA_26 sizeA_26 rfl (nlt rfl) rfl)) ?_
      refine ART.q0 rfl (v := (TAuto.av p0)) rfl rfl (Light.quiet (opLoadRA rfl aggA_26 sizeA_26 rfl (nlt rfl) rfl)) ?_
      refine ART.q0 rfl (v := (.rptr [(.int .i64 p0.start), (.list 4 (List.map TEdge.av p0.edges))])) rfl rfl (Light.quiet (opFieldAddrR rfl fieldA_26_2 rfl rfl)) ?_
      refine ART.q0 rfl (v := (.int .i64 p0.start)) rfl rfl (Light.quiet (opLoadR rfl aggA_3 rfl rfl)) ?_
      refine ART.q0 rfl (v := (.int .i64 a16)) rfl rfl ((qCall rfl rfl call_38 (spec_l4Reach_ok ha16) rfl)) ?_
      refine ART.fork ?_ ?_
      · skip
        refine ART.x rfl rfl rfl rfl (hCallSR hS rfl rfl call_37 (spec_l4Keep_ok ha17) ⟨.same _, .same _, trivial⟩ (by rintro _ _ G ⟨w1205, w1207, rfl, rfl⟩ hG; exact ⟨(Scal.tup (ScalC.cons (Scal.agg (ScalC.cons (by constructor) (ScalC.cons (by constructor) (ScalC.cons (by constructor) (ScalC.cons (hG.scR (k := 0) rfl) ScalC.nil))))) (ScalC.cons (hG.scR (k := 1) rfl) ScalC.nil))), ⟨(Scal.row (fun _ => by simp only [TEdge.av, cells, List.mem_cons, List.not_mem_nil, or_false]; rintro c hc; rcases hc with rfl | rfl | rfl | rfl <;> constructor)), (Scal.ints _ _), trivial⟩⟩) ?_); rintro _ _ G1209 ⟨w1205, w1207, rfl, rfl⟩ hK hS; refine ⟨hK, ?_⟩
        refine ART.q0 rfl (v := (.tup [(.agg [(.int .i64 a17.1.letters), (.int .i64 a17.1.states), (.int .i64 a17.1.start), w1205]), w1207])) rfl rfl (Light.quiet (opMove rfl rfl)) ?_
        refine ART.q0 rfl (v := (.agg [(.int .i64 a17.1.letters), (.int .i64 a17.1.states), (.int .i64 a17.1.start), w1205])) rfl rfl (Light.quiet (opExtract rfl rfl rfl)) ?_
        refine ART.q0 rfl (v := w1207) rfl rfl (Light.quiet (opExtract rfl rfl rfl)) ?_
        refine ART.x rfl rfl rfl rfl (hNewZ hS [(.int .i64 0), (.int .i64 0), (.int .i64 0), (.list 4 (List.map TEdge.av []))] rfl zeroA_26 ⟨.inl rfl, .inl rfl, .inl rfl, .inr ⟨_, rfl, rfl⟩, trivial⟩ ?_); rintro b4 G2005 hK hS; refine ⟨hK, ?_⟩
        refine ART.n rfl rfl rfl rfl rfl (hPutA hS (j := 0) rfl rfl sizeA_26 rfl rfl rfl rfl (allC rfl (allC rfl (allC rfl (allC (hS.one (k := 1) rfl) rfl)))) (nlt rfl) ?_); rintro G2205 hS
        refine ART.q0 rfl (v := w1207) rfl rfl (Light.quiet (opAssign rfl rfl)) ?_
        refine ART.done ?_
        exact ⟨b4, w1205, w1207, ⟨rfl, rfl, rfl, trivial⟩, hS.pick [0, 1, 2, 3] rfl rfl⟩
      · skip
        refine ART.x rfl rfl rfl rfl (hNewZ hS [(.int .i64 0), (.int .i64 0), (.int .i64 0), (.list 4 (List.map TEdge.av []))] rfl zeroA_26 ⟨.inl rfl, .inl rfl, .inl rfl, .inr ⟨_, rfl, rfl⟩, trivial⟩ ?_); rintro b4 G2005 hK hS; refine ⟨hK, ?_⟩
        refine ART.x rfl rfl rfl rfl (hCallSR hS rfl rfl call_37 (spec_l4Keep_ok ha17) ⟨.same _, .same _, trivial⟩ (by rintro _ _ G ⟨w1205, w1207, rfl, rfl⟩ hG; exact ⟨(Scal.tup (ScalC.cons (Scal.agg (ScalC.cons (by constructor) (ScalC.cons (by constructor) (ScalC.cons (by constructor) (ScalC.cons (hG.scR (k := 0) rfl) ScalC.nil))))) (ScalC.cons (hG.scR (k := 1) rfl) ScalC.nil))), ⟨(Scal.row (fun _ => by simp only [TEdge.av, cells, List.mem_cons, List.not_mem_nil, or_false]; rintro c hc; rcases hc with rfl | rfl | rfl | rfl <;> constructor)), (Scal.ints _ _), trivial⟩⟩) ?_); rintro _ _ G1209 ⟨w1205, w1207, rfl, rfl⟩ hK hS; refine ⟨hK, ?_⟩
        refine ART.q0 rfl (v := (.tup [(.agg [(.int .i64 a17.1.letters), (.int .i64 a17.1.states), (.int .i64 a17.1.start), w1205]), w1207])) rfl rfl (Light.quiet (opMove rfl rfl)) ?_
        refine ART.q0 rfl (v := (.agg [(.int .i64 a17.1.letters), (.int .i64 a17.1.states), (.int .i64 a17.1.start), w1205])) rfl rfl (Light.quiet (opExtract rfl rfl rfl)) ?_
        refine ART.q0 rfl (v := w1207) rfl rfl (Light.quiet (opExtract rfl rfl rfl)) ?_
        refine ART.n rfl rfl rfl rfl rfl (hPutA hS (j := 2) rfl rfl sizeA_26 rfl rfl rfl rfl (allC rfl (allC rfl (allC rfl (allC (hS.one (k := 0) rfl) rfl)))) (nlt rfl) ?_); rintro G2205 hS
        refine ART.q0 rfl (v := w1207) rfl rfl (Light.quiet (opAssign rfl rfl)) ?_
        refine ART.done ?_
        exact ⟨b4, w1205, w1207, ⟨rfl, rfl, rfl, trivial⟩, hS.pick [2, 0, 1, 3] rfl rfl⟩

set_option maxRecDepth 10000 in
theorem spec_LtlAuto_ok {p0 : (List TNode)} {p1 : Int} {r : (TAuto × Bool)} (hF : spec_LtlAuto p0 p1 = some r) : PC Tryz.prog 5 [(.list 3 (List.map TNode.av p0)), (.int .i64 p1)] fun v => v = .tup [(TAuto.av r.1), (.bool r.2)] := by
  refine PC.enter Tryz.func5 rfl Tryz.ntmps5 (by simp) ?_
  have hS := Sep.void; unfold spec_LtlAuto at hF
  refine AWP.seqR rfl ?_
  refine ASL.x rfl rfl (hNewZ hS [(.int .i64 0), (.int .i64 0), (.int .i64 0), (.list 4 (List.map TEdge.av []))] rfl zeroA_26 ⟨.inl rfl, .inl rfl, .inl rfl, .inr ⟨_, rfl, rfl⟩, trivial⟩ ?_); rintro b4 G1 hK hS
  refine ASL.q (v := (.bool false)) rfl rfl (Light.quiet (opAssign rfl rfl)) ?_
  refine ASL.done ?_
  refine AWP.seqR rfl ?_
  refine ASL.q (v := (.list 3 (List.map TNode.av p0))) rfl rfl (Light.quiet (opMove rfl rfl)) ?_
  refine ASL.q (v := (.int .i64 p1)) rfl rfl (Light.quiet (opMove rfl rfl)) ?_
  obtain ⟨a15, ha15, hF⟩ := bindE hF
  refine ASL.q (v := (.tup [(TGen.av a15.1), (.bool a15.2)])) rfl rfl ((qCall rfl rfl call_13 (spec_LtlGen_ok ha15) rfl)) ?_
  refine ASL.q (v := (.tup [(TGen.av a15.1), (.bool a15.2)])) rfl rfl (Light.quiet (opMove rfl rfl)) ?_
  refine ASL.q (v := (TGen.av a15.1)) rfl rfl (Light.quiet (opExtract rfl rfl rfl)) ?_
  refine ASL.q (v := (.bool a15.2)) rfl rfl (Light.quiet (opExtract rfl rfl rfl)) ?_
  refine ASL.x rfl rfl (hNewZ hS [(.int .i64 0), (.int .i64 0), (.int .i64 0), (.int .i64 0), (.list 4 (List.map TGEdge.av []))] rfl zeroA_38 ⟨.inl rfl, .inl rfl, .inl rfl, .inl rfl, .inr ⟨_, rfl, rfl⟩, trivial⟩ ?_); rintro b6 G3 hK hS
  refine ASL.n rfl rfl (hPutA hS (j := 0) rfl rfl sizeA_38 rfl rfl rfl rfl rfl (nlt rfl) ?_); rintro G5 hS
  refine ASL.q (v := (.bool a15.2)) rfl rfl (Light.quiet (opAssign rfl rfl)) ?_
  refine ASL.done ?_
  refine AWP.seq ?_
  refine AWP.seqR rfl ?_
  refine ASL.q (v := (.bool a15.2)) rfl rfl (Light.quiet (opMove rfl rfl)) ?_
  refine ASL.q (v := (.bool (!a15.2))) rfl rfl (Light.quiet (opNot rfl rfl)) ?_
  refine ASL.done ?_
  refine AWP.ifB hF rfl (fun hc6 hF => ?_) (fun hc6 hF => ?_)
  · skip
    refine AWP.seqR rfl ?_
    refine ASL.q (v := (.agg [(.int .i64 0), (.int .i64 0), (.int .i64 0), (.list 4 (List.map TEdge.av []))])) rfl rfl (Light.quiet (opBuildZ (zs := [(.int .i64 0), (.int .i64 0), (.int .i64 0), (.list 4 (List.map TEdge.av []))]) rfl plan_26 zeroA_26 ⟨.inl rfl, .inl rfl, .inl rfl, .inr ⟨_, rfl, rfl⟩, trivial⟩ rfl)) ?_
    refine ASL.n rfl rfl (hPutA hS (j := 1) rfl rfl sizeA_26 rfl rfl rfl rfl rfl (nlt rfl) ?_); rintro G7 hS
    refine ASL.q (v := (.bool false)) rfl rfl (Light.quiet (opAssign rfl rfl)) ?_
    refine ASL.done ?_
    refine AWP.ret ?_
    refine QThen.rt ?_
    obtain rfl := someE hF
    exact QRet.many (vs := [(.agg [(.int .i64 0), (.int .i64 0), (.int .i64 0), (.list 4 (List.map TEdge.av []))]), (.bool false)]) ⟨resOne.at hS (k := 1) rfl rfl aggA_26 sizeA_26, rfl, trivial⟩ (by simp) rfl
  · skip
    refine AWP.skip ?_
    refine QThen.nrm ?_
    refine AWP.seqR rfl ?_
    refine ASL.q (v := (TGen.av a15.1)) rfl rfl (Light.quiet (kAtA hS (j := 0) rfl rfl aggA_38 sizeA_38 rfl (nlt rfl) rfl)) ?_
    obtain ⟨a23, ha23, hF⟩ := bindE hF
    refine ASL.q (v := (.tup [(TAuto.av a23.1), (.bool a23.2)])) rfl rfl ((qCall rfl rfl call_14 (spec_GenDegen_ok ha23) rfl)) ?_
    refine ASL.q (v := (.tup [(TAuto.av a23.1), (.bool a23.2)])) rfl rfl (Light.quiet (opMove rfl rfl)) ?_
    refine ASL.q (v := (TAuto.av a23.1)) rfl rfl (Light.quiet (opExtract rfl rfl rfl)) ?_
    refine ASL.q (v := (.bool a23.2)) rfl rfl (Light.quiet (opExtract rfl rfl rfl)) ?_
    refine ASL.x rfl rfl (hNewZ hS [(.int .i64 0), (.int .i64 0), (.int .i64 0), (.list 4 (List.map TEdge.av []))] rfl zeroA_26 ⟨.inl rfl, .inl rfl, .inl rfl, .inr ⟨_, rfl, rfl⟩, trivial⟩ ?_); rintro b8 G8 hK hS
    refine ASL.n rfl rfl (hPutA hS (j := 0) rfl rfl sizeA_26 rfl rfl rfl rfl rfl (nlt rfl) ?_); rintro G10 hS
    refine ASL.q (v := (.bool a23.2)) rfl rfl (Light.quiet (opAssign rfl rfl)) ?_
    refine ASL.done ?_
    refine AWP.seq ?_
    refine AWP.seqR rfl ?_
    refine ASL.q (v := (.bool a23.2)) rfl rfl (Light.quiet (opMove rfl rfl)) ?_
    refine ASL.q (v := (.bool (!a23.2))) rfl rfl (Light.quiet (opNot rfl rfl)) ?_
    refine ASL.done ?_
    refine AWP.ifB hF rfl (fun hc11 hF => ?_) (fun hc11 hF => ?_)
    · skip
      refine AWP.seqR rfl ?_
      refine ASL.q (v := (.agg [(.int .i64 0), (.int .i64 0), (.int .i64 0), (.list 4 (List.map TEdge.av []))])) rfl rfl (Light.quiet (opBuildZ (zs := [(.int .i64 0), (.int .i64 0), (.int .i64 0), (.list 4 (List.map TEdge.av []))]) rfl plan_26 zeroA_26 ⟨.inl rfl, .inl rfl, .inl rfl, .inr ⟨_, rfl, rfl⟩, trivial⟩ rfl)) ?_
      refine ASL.n rfl rfl (hPutA hS (j := 2) rfl rfl sizeA_26 rfl rfl rfl rfl rfl (nlt rfl) ?_); rintro G12 hS
      refine ASL.q (v := (.bool false)) rfl rfl (Light.quiet (opAssign rfl rfl)) ?_
      refine ASL.done ?_
      refine AWP.ret ?_
      refine QThen.rt ?_
      obtain rfl := someE hF
      exact QRet.many (vs := [(.agg [(.int .i64 0), (.int .i64 0), (.int .i64 0), (.list 4 (List.map TEdge.av []))]), (.bool false)]) ⟨resOne.at hS (k := 2) rfl rfl aggA_26 sizeA_26, rfl, trivial⟩ (by simp) rfl
    · skip
      refine AWP.skip ?_
      refine QThen.nrm ?_
      refine AWP.seqR rfl ?_
      refine ASL.q (v := (TAuto.av a23.1)) rfl rfl (Light.quiet (kAtA hS (j := 0) rfl rfl aggA_26 sizeA_26 rfl (nlt rfl) rfl)) ?_
      obtain ⟨a31, ha31, hF⟩ := bindE hF
      refine ASL.q (v := (.tup [(TAuto.av a31.1), (.list 1 (List.map (AV.int .i64) a31.2))])) rfl rfl ((qCall rfl rfl call_15 (spec_AutoTrim_ok ha31) rfl)) ?_
      refine ASL.q (v := (.tup [(TAuto.av a31.1), (.list 1 (List.map (AV.int .i64) a31.2))])) rfl rfl (Light.quiet (opMove rfl rfl)) ?_
      refine ASL.q (v := (TAuto.av a31.1)) rfl rfl (Light.quiet (opExtract rfl rfl rfl)) ?_
      refine ASL.q (v := (.list 1 (List.map (AV.int .i64) a31.2))) rfl rfl (Light.quiet (opExtract rfl rfl rfl)) ?_
      refine ASL.x rfl rfl (hNewZ hS [(.int .i64 0), (.int .i64 0), (.int .i64 0), (.list 4 (List.map TEdge.av []))] rfl zeroA_26 ⟨.inl rfl, .inl rfl, .inl rfl, .inr ⟨_, rfl, rfl⟩, trivial⟩ ?_); rintro b10 G13 hK hS
      refine ASL.n rfl rfl (hPutA hS (j := 0) rfl rfl sizeA_26 rfl rfl rfl rfl rfl (nlt rfl) ?_); rintro G15 hS
      refine ASL.q (v := (.list 1 (List.map (AV.int .i64) a31.2))) rfl rfl (Light.quiet (opAssign rfl rfl)) ?_
      refine ASL.done ?_
      refine AWP.seqR rfl ?_
      refine ASL.q (v := (TAuto.av a31.1)) rfl rfl (Light.quiet (kAtA hS (j := 0) rfl rfl aggA_26 sizeA_26 rfl (nlt rfl) rfl)) ?_
      refine ASL.n rfl rfl (hPutA hS (j := 3) rfl rfl sizeA_26 rfl rfl rfl rfl rfl (nlt rfl) ?_); rintro G16 hS
      refine ASL.q (v := (.bool true)) rfl rfl (Light.quiet (opAssign rfl rfl)) ?_
      refine ASL.done ?_
      refine AWP.ret ?_
      obtain rfl := someE hF
      exact QRet.many (vs := [(TAuto.av a31.1), (.bool true)]) ⟨resOne.at hS (k := 3) rfl rfl aggA_26 sizeA_26, rfl, trivial⟩ (by simp) rfl

set_option maxRecDepth 10000 in
theorem impl_inRange_ok (p0 : Int) (p1 : Int) (p2 : Int) : PC Tryz.prog 68 [(.int .i64 p0), (.int .i64 p1), (.int .i64 p2)] fun v => v = (.bool (impl_inRange p0 p1 p2)) := by
  generalize hF : impl_inRange p0 p1 p2 = r
  refine PC.enter Tryz.func68 rfl Tryz.ntmps68 (by simp) ?_
  have hS := Sep.void; unfold impl_inRange at hF
  refine AWP.seqR rfl ?_
  refine ASL.q (v := (.bool false)) rfl rfl (Light.quiet (opAssign rfl rfl)) ?_
  refine ASL.done ?_
  refine AWP.seqR rfl ?_
  refine ASL.q (v := (.int .i64 p0)) rfl rfl (Light.quiet (opMove rfl rfl)) ?_
  refine ASL.q (v := (.int .i64 p1)) rfl rfl (Light.quiet (opMove rfl rfl)) ?_
  refine ASL.q (v := (.bool (decide (p0 ≥ p1)))) rfl rfl (Light.quiet (opInt rfl rfl rfl rfl)) ?_
  obtain ⟨c10, hc10, hF⟩ := bndE hF
  refine ASL.q (v := (.bool c10)) rfl rfl ((Quiet.cast (Light.quiet (opMove rfl rfl)) (congrArg AV.bool hc10.symm))) ?_
  refine ASL.g (v := (.int .i64 p0)) (.bool c10) true rfl (wT _) rfl (fun hG => by have q0 := hG; subst q0; exact Light.quiet (opMove rfl rfl)) ?_
  refine ASL.g (v := (.int .i64 p2)) (.bool c10) true rfl (wT _) rfl (fun hG => by have q0 := hG; subst q0; exact Light.quiet (opMove rfl rfl)) ?_
  refine ASL.g (v := (.bool (decide (p0 ≤ p2)))) (.bool c10) true rfl (wT _) rfl (fun hG => by have q0 := hG; subst q0; exact Light.quiet (opInt rfl rfl rfl rfl)) ?_
  refine ASL.q (v := (.bool (c10 && (decide (p0 ≤ p2))))) rfl rfl (Light.quiet (opPick (b := c10) rfl rfl (by cases c10 <;> rfl))) ?_
  refine ASL.q (v := (.bool (c10 && (decide (p0 ≤ p2))))) rfl rfl (Light.quiet (opAssign rfl rfl)) ?_
  refine ASL.done ?_
  refine AWP.ret ?_
  obtain rfl := hF
  exact QRet.sole (v := (.bool (c10 && (decide (p0 ≤ p2))))) ⟨rfl, trivial⟩ rfl

set_option maxRecDepth 10000 in
theorem impl_begins_ok {p0 : (List TNode)} {g1 : (TNode → Option Int)} {r : ((List Int) × Bool)} {k1 : Nat} (hcal1 : callable Tryz.prog k1 = true) (hg1 : ∀ q0 y, g1 q0 = some y → PC Tryz.prog k1 [(TNode.av q0)] fun v => v = (.int .i64 y)) (hF : impl_begins p0 g1 = some r) : PC Tryz.prog 82 [(.list 3 (List.map TNode.av p0)), (.fn (.func k1) [] [])] fun v => v = .tup [(.list 1 (List.map (AV.int .i64) r.1)), (.bool r.2)] := by
  refine PC.enter Tryz.func82 rfl Tryz.ntmps82 (by simp) ?_
  have hS := Sep.void; unfold impl_begins at hF
  refine AWP.seqR rfl ?_
  refine ASL.q (v := (.list 1 (List.map (AV.int .i64) []))) rfl rfl (Light.quiet (opNilL rfl rfl)) ?_
  refine ASL.q (v := (.bool false)) rfl rfl (Light.quiet (opAssign rfl rfl)) ?_
  refine ASL.done ?_
  refine AWP.seq ?_
  refine AWP.seqR rfl ?_
  refine ASL.q (v := (.list 3 (List.map TNode.av p0))) rfl rfl (Light.quiet (opMove rfl rfl)) ?_
  refine ASL.q (v := (.int .i64 (p0.length : Int))) rfl rfl (Light.quiet (opLenMap (f := TNode.av) rfl rfl rfl lenT_29 rfl)) ?_
  refine ASL.q (v := (.bool (impl_inRange ((p0.length : Int)) 1 31))) rfl rfl ((qCall rfl rfl call_68 (impl_inRange_ok ((p0.length : Int)) 1 31) rfl)) ?_
  refine ASL.q (v := (.bool (!(impl_inRange ((p0.length : Int)) 1 31)))) rfl rfl (Light.quiet (opNot rfl rfl)) ?_
  refine ASL.done ?_
  refine AWP.ifB hF rfl (fun hc1 hF => ?_) (fun hc1 hF => ?_)
  · skip
    refine AWP.seqR rfl ?_
    refine ASL.q (v := (.list 1 (List.map (AV.int .i64) []))) rfl rfl (Light.quiet (opNilL rfl rfl)) ?_
    refine ASL.q (v := (.bool false)) rfl rfl (Light.quiet (opAssign rfl rfl)) ?_
    refine ASL.done ?_
    refine AWP.ret ?_
    refine QThen.rt ?_
    obtain rfl := someE hF
    exact QRet.many (vs := [(.list 1 (List.map (AV.int .i64) [])), (.bool false)]) ⟨rfl, rfl, trivial⟩ (by simp) rfl
  · skip
    refine AWP.skip ?_
    refine QThen.nrm ?_
    refine AWP.seqR rfl ?_
    refine ASL.q (v := (.list 3 (List.map TNode.av p0))) rfl rfl (Light.quiet (opMove rfl rfl)) ?_
    refine ASL.q (v := (.int .i64 (p0.length : Int))) rfl rfl (Light.quiet (opLenMap (f := TNode.av) rfl rfl rfl lenT_29 rfl)) ?_
    obtain ⟨z15, hz15, hF⟩ := bindE hF
    refine ASL.x rfl rfl (hMk (f := (AV.int .i64)) hS hz15 (by decide) rfl elemA_42 sizeA_3 bytesA_3 zeroA_3 rfl rfl (by decide) rfl rfl ?_); rintro v15 G2 hK hS
    refine ASL.q (v := v15) rfl rfl (Light.quiet (opAssign rfl rfl)) ?_
    refine ASL.done ?_
    refine AWP.seqM (fun e H => ∃ y4 : (List Int), E.Told e [(0, (.list 3 (List.map TNode.av p0))), (6, v15)] ∧ E.Sep H [.row 1 v15 (List.map (AV.int .i64) y4)] ∧ impl_begins.k0 p0 y4 = some r) ?_ ?_
    · rintro e0 G6 ⟨y4, hT, hS, hF⟩; refine AWP.only _ hT ?_; unfold impl_begins.k0 at hF
      refine AWP.frz (L' := []) hS (k := 0) rfl [(0, (.list 3 (List.map TNode.av p0))), (6, (.list 1 (List.map (AV.int .i64) y4)))] ⟨.inl rfl, .inr (.inl ⟨rfl, rfl⟩), trivial⟩ trivial (fun G5 hS => ?_)
      refine AWP.seqD [(0, false), (1, false), (2, false), (3, false), (4, false), (5, false), (6, false), (7, false), (8, false), (9, false)] mixed (by kernel_rfl) rfl ?_
      refine ARL.q0 (v := (.list 1 (List.map (AV.int .i64) y4))) rfl rfl (Light.quiet (opMove rfl rfl)) ?_
      refine ARL.q0 (v := (.list 1 (List.map (AV.int .i64) y4))) rfl rfl (Light.quiet (opMove rfl rfl)) ?_
      refine ARL.q0 (v := (.list 3 (List.map TNode.av p0))) rfl rfl (Light.quiet (opMove rfl rfl)) ?_
      refine ARL.q0 (v := (.int .i64 (p0.length : Int))) rfl rfl (Light.quiet (opLenMap (f := TNode.av) rfl rfl rfl lenT_29 rfl)) ?_
      refine ARL.q0 (v := (.int .i64 (W (((p0.length : Int)) - 1)))) rfl rfl (Light.quiet (opInt rfl rfl rfl rfl)) ?_
      obtain ⟨a97, ha97, hF⟩ := bindE hF
      refine ARL.q0 (v := (.rptr [(.int .i64 a97)])) rfl rfl (Light.quiet (kIx (f := (AV.int .i64)) ha97 rfl rfl rfl elemA_42 sizeA_3 rfl)) ?_
      refine ARL.q0 (v := (.int .i64 a97)) rfl rfl (Light.quiet (opLoadR rfl aggA_3 rfl rfl)) ?_
      refine ARL.q0 (v := (.bool (decide (a97 = 0)))) rfl rfl (Light.quiet (opInt rfl rfl rfl rfl)) ?_
      refine ARL.q0 (v := (.list 1 (List.map (AV.int .i64) y4))) rfl rfl (Light.quiet (opAssign rfl rfl)) ?_
      refine ARL.q0 (v := (.bool (decide (a97 = 0)))) rfl rfl (Light.quiet (opAssign rfl rfl)) ?_
      refine ARL.done ?_
      refine AWP.ret ?_
      obtain rfl := someE hF
      exact QRet.many (vs := [(.list 1 (List.map (AV.int .i64) y4)), (.bool (decide (a97 = 0)))]) ⟨rfl, rfl, trivial⟩ (by simp) rfl
    · skip
      refine AWP.seqR rfl ?_
      refine ASL.q (v := (.list 3 (List.map TNode.av p0))) rfl rfl (Light.quiet (opMove rfl rfl)) ?_
      refine ASL.q (v := (.int .i64 (p0.length : Int))) rfl rfl (Light.quiet (opLenMap (f := TNode.av) rfl rfl rfl lenT_29 rfl)) ?_
      refine ASL.q (v := (.int .i64 0)) rfl rfl (Light.quiet (opMove rfl rfl)) ?_
      refine ASL.done ?_
      refine AWP.block ?_
      obtain ⟨o11, hL10, hR12⟩ := bindE hF
      refine AWP.loopF (ω := Unit) hL10 (fun s w => [(0, (.list 3 (List.map TNode.av p0))), (1, (.fn (.func k1) [] [])), (6, v15), (16, (.list 3 (List.map TNode.av p0))), (17, (.int .i64 (p0.length : Int))), (18, (.int .i64 s.2))]) (fun s w => [.row 1 v15 (List.map (AV.int .i64) s.1)]) () ⟨rfl, rfl, rfl, rfl, rfl, rfl, trivial⟩ (hS.pick [0] rfl rfl) ?_
      rintro ⟨y7, x18_l0⟩ _ G13 hS x8 hF hx9
      try dsimp only at hS ⊢
      have hF : impl_begins.b0 p0 g1 y7 x18_l0 = some x8 := hF; unfold impl_begins.b0 at hF
      refine AWP.seqR rfl ?_
      refine ASL.q (v := (.bool (decide (x18_l0 < ((p0.length : Int)))))) rfl rfl (Light.quiet (opInt rfl rfl rfl rfl)) ?_
      refine ASL.done ?_
      refine AWP.seq ?_
      refine AWP.ifP hF rfl (fun hc14 hF => ?_) (fun hc14 hF => ?_)
      · skip
        refine AWP.skip ?_
        refine QThen.nrm ?_
        refine AWP.seq ?_
        refine AWP.block ?_
        refine AWP.seqR rfl ?_
        refine ASL.q (v := (.int .i64 x18_l0)) rfl rfl (Light.quiet (opMove rfl rfl)) ?_
        obtain ⟨a21, ha21, hF⟩ := bindE hF
        refine ASL.q (v := (.rptr [(.int .i64 a21.kind), (.int .i64 a21.a), (.int .i64 a21.b)])) rfl rfl (Light.quiet (kIx (f := TNode.av) ha21 rfl rfl rfl elemA_29 sizeA_46 rfl)) ?_
        refine ASL.q (v := (TNode.av a21)) rfl rfl (Light.quiet (opLoadRA rfl aggA_46 sizeA_46 rfl (nlt rfl) rfl)) ?_
        refine ASL.x rfl rfl (hNewZ hS [(.int .i64 0), (.int .i64 0), (.int .i64 0)] rfl zeroA_46 ⟨.inl rfl, .inl rfl, .inl rfl, trivial⟩ ?_); rintro b8 G15 hK hS
        refine ASL.q (v := (.int .i64 x18_l0)) rfl rfl (Light.quiet (opAssign rfl rfl)) ?_
        refine ASL.n rfl rfl (hPutA hS (j := 0) rfl rfl sizeA_46 rfl rfl rfl rfl rfl (nlt rfl) ?_); rintro G17 hS
        refine ASL.done ?_
        refine AWP.seqR rfl ?_
        refine ASL.q (v := v15) rfl rfl (Light.quiet (opMove rfl rfl)) ?_
        refine ASL.q (v := (.int .i64 x18_l0)) rfl rfl (Light.quiet (opMove rfl rfl)) ?_
        refine ASL.q (v := (.int .i64 x18_l0)) rfl rfl (Light.quiet (opMove rfl rfl)) ?_
        obtain ⟨m26, hm26, hF⟩ := bindE hF
        refine ASL.q (v := (ptrTo v15 m26 1)) rfl rfl (Light.quiet (kIxO hS (j := 1) rfl hm26 rfl rfl rfl elemA_42 sizeA_3)) ?_
        refine ASL.n rfl rfl (hSt (f := (AV.int .i64)) (a := x18_l0) hS (j := 1) rfl hm26 rfl sizeA_3 rfl rfl ⟨rfl, rfl, rfl⟩ ?_); rintro G18 hS
        refine ASL.done ?_
        refine AWP.seqR rfl ?_
        refine ASL.q (v := (.fn (.func k1) [] [])) rfl rfl (Light.quiet (opMove rfl rfl)) ?_
        refine ASL.q (v := (TNode.av a21)) rfl rfl (Light.quiet (kAtA hS (j := 0) rfl rfl aggA_46 sizeA_46 rfl (nlt rfl) rfl)) ?_
        obtain ⟨a29, ha29, hF⟩ := bindE hF
        refine ASL.q (v := (.int .i64 a29)) rfl rfl ((qCall rfl rfl hcal1 ((hg1 _ _) ha29) rfl)) ?_
        refine ASL.done ?_
        refine AWP.block ?_
        refine AWP.seqR rfl ?_
        refine ASL.q (v := (.bool (decide (a29 = 0)))) rfl rfl (Light.quiet (opInt rfl rfl rfl rfl)) ?_
        refine ASL.q (v := (.bool (decide (a29 = 0)))) rfl rfl (Light.quiet (opAssign rfl rfl)) ?_
        refine ASL.done ?_
        refine AWP.ifP hF rfl (fun hc19 hF => ?_) (fun hc19 hF => ?_)
        · skip
          refine AWP.exit ?_
          refine QBlock.miss rfl ?_
          refine QBlock.hit ?_
          refine QThen.nrm ?_
          refine AWP.lastR rfl ?_
          refine ASL.q (v := (.int .i64 (W (x18_l0 + 1)))) rfl rfl (Light.quiet (opInt rfl rfl rfl rfl)) ?_
          refine ASL.q (v := (.int .i64 (W (x18_l0 + 1)))) rfl rfl (Light.quiet (opMove rfl rfl)) ?_
          refine ASL.done ?_
          refine QThen.nrm ?_
          exact ⟨((y7.set m26 x18_l0), (W (x18_l0 + 1))), (), (someE hF).symm, ⟨rfl, rfl, rfl, rfl, rfl, rfl, trivial⟩, (hS.pick [1] rfl rfl)⟩
        · skip
          refine AWP.seqR rfl ?_
          refine ASL.q (v := (.bool (decide (a29 = 1)))) rfl rfl (Light.quiet (opInt rfl rfl rfl rfl)) ?_
          refine ASL.q (v := (.bool (decide (a29 = 1)))) rfl rfl (Light.quiet (opAssign rfl rfl)) ?_
          refine ASL.done ?_
          refine AWP.ifP hF rfl (fun hc20 hF => ?_) (fun hc20 hF => ?_)
          · skip
            refine AWP.seq ?_
            refine AWP.seqR rfl ?_
            refine ASL.q (v := (.int .i64 x18_l0)) rfl rfl (Light.quiet (opMove rfl rfl)) ?_
            refine ASL.q (v := (.bool (decide (x18_l0 = 0)))) rfl rfl (Light.quiet (opInt rfl rfl rfl rfl)) ?_
            obtain ⟨c36, hc36, hF⟩ := bndE hF
            refine ASL.q (v := (.bool c36)) rfl rfl ((Quiet.cast (Light.quiet (opMove rfl rfl)) (congrArg AV.bool hc36.symm))) ?_
            refine ASL.g (v := (.ptr b8 1)) (.bool c36) false rfl (wF _) rfl (fun hG => by have q0 := gN hG; subst q0; exact Light.quiet (opFieldAddr rfl fieldA_46_1 rfl rfl)) ?_
            refine ASL.g (v := (.int .i64 a21.a)) (.bool c36) false rfl (wF _) rfl (fun hG => by have q0 := gN hG; subst q0; exact Light.quiet (kAt hS (j := 0) rfl rfl aggA_3 rfl rfl)) ?_
            refine ASL.g (v := (.int .i64 x18_l0)) (.bool c36) false rfl (wF _) rfl (fun hG => by have q0 := gN hG; subst q0; exact Light.quiet (opMove rfl rfl)) ?_
            refine ASL.g (v := (.int .i64 (W (x18_l0 - 1)))) (.bool c36) false rfl (wF _) rfl (fun hG => by have q0 := gN hG; subst q0; exact Light.quiet (opInt rfl rfl rfl rfl)) ?_
            refine ASL.g (v := (.bool (decide (a21.a ≠ ((W (x18_l0 - 1))))))) (.bool c36) false rfl (wF _) rfl (fun hG => by have q0 := gN hG; subst q0; exact Light.quiet (opInt rfl rfl rfl rfl)) ?_
            refine ASL.q (v := (.bool (c36 || (decide (a21.a ≠ ((W (x18_l0 - 1)))))))) rfl rfl (Light.quiet (opPick (b := c36) rfl rfl (by cases c36 <;> rfl))) ?_
            obtain ⟨c43, hc43, hF⟩ := bndE hF
            refine ASL.q (v := (.bool c43)) rfl rfl ((Quiet.cast (Light.quiet (opMove rfl rfl)) (congrArg AV.bool hc43.symm))) ?_
            refine ASL.g (v := (.ptr b8 2)) (.bool c43) false rfl (wF _) rfl (fun hG => by have q0 := gN hG; subst q0; exact Light.quiet (opFieldAddr rfl fieldA_46_2 rfl rfl)) ?_
            refine ASL.g (v := (.int .i64 a21.b)) (.bool c43) false rfl (wF _) rfl (fun hG => by have q0 := gN hG; subst q0; exact Light.quiet (kAt hS (j := 0) rfl rfl aggA_3 rfl rfl)) ?_
            refine ASL.g (v := (.bool (decide (a21.b ≠ 0)))) (.bool c43) false rfl (wF _) rfl (fun hG => by have q0 := gN hG; subst q0; exact Light.quiet (opInt rfl rfl rfl rfl)) ?_
            refine ASL.q (v := (.bool (c43 || (decide (a21.b ≠ 0))))) rfl rfl (Light.quiet (opPick (b := c43) rfl rfl (by cases c43 <;> rfl))) ?_
            refine ASL.done ?_
            refine AWP.ifB hF rfl (fun hc21 hF => ?_) (fun hc21 hF => ?_)
            · skip
              refine AWP.seqR rfl ?_
              refine ASL.q (v := (.list 1 (List.map (AV.int .i64) []))) rfl rfl (Light.quiet (opNilL rfl rfl)) ?_
              refine ASL.q (v := (.bool false)) rfl rfl (Light.quiet (opAssign rfl rfl)) ?_
              refine ASL.done ?_
              refine AWP.ret ?_
              refine QThen.rt ?_
              refine QBlock.ret ?_
              refine QBlock.ret ?_
              refine QThen.rt ?_
              refine QThen.rt ?_
              refine QBlock.ret ?_
              refine QThen.rt ?_
              obtain rfl := (hx9 _ (someE hF).symm)
              have hF := hR12
              have hF := sumR hF
              obtain rfl := someE hF
              exact QRet.many (vs := [(.list 1 (List.map (AV.int .i64) [])), (.bool false)]) ⟨rfl, rfl, trivial⟩ (by simp) rfl
            · skip
              refine AWP.skip ?_
              refine QThen.nrm ?_
              refine AWP.lastR rfl ?_
              refine ASL.q (v := v15) rfl rfl (Light.quiet (opMove rfl rfl)) ?_
              refine ASL.q (v := (.int .i64 x18_l0)) rfl rfl (Light.quiet (opMove rfl rfl)) ?_
              refine ASL.q (v := v15) rfl rfl (Light.quiet (opMove rfl rfl)) ?_
              refine ASL.q (v := (.ptr b8 1)) rfl rfl (Light.quiet (opFieldAddr rfl fieldA_46_1 rfl rfl)) ?_
              refine ASL.q (v := (.int .i64 a21.a)) rfl rfl (Light.quiet (kAt hS (j := 0) rfl rfl aggA_3 rfl rfl)) ?_
              obtain ⟨a53, ha53, hF⟩ := bindE hF
              refine ASL.q (v := (ptrTo v15 a21.a.toNat 1)) rfl rfl (Light.quiet (kIxOx hS (j := 1) rfl ha53 rfl rfl rfl elemA_42 sizeA_3)) ?_
              refine ASL.q (v := (.int .i64 a53)) rfl rfl (Light.quiet (kLd (f := (AV.int .i64)) hS (j := 1) rfl ha53 rfl aggA_3 rfl (fun _ => rfl))) ?_
              obtain ⟨m55, hm55, hF⟩ := bindE hF
              refine ASL.q (v := (ptrTo v15 m55 1)) rfl rfl (Light.quiet (kIxO hS (j := 1) rfl hm55 rfl rfl rfl elemA_42 sizeA_3)) ?_
              refine ASL.n rfl rfl (hSt (f := (AV.int .i64)) (a := a53) hS (j := 1) rfl hm55 rfl sizeA_3 rfl rfl ⟨rfl, rfl, rfl⟩ ?_); rintro G22 hS
              refine ASL.done ?_
              refine QBlock.nrm ?_
              refine QBlock.nrm ?_
              refine QThen.nrm ?_
              refine AWP.lastR rfl ?_
              refine ASL.q (v := (.int .i64 (W (x18_l0 + 1)))) rfl rfl (Light.quiet (opInt rfl rfl rfl rfl)) ?_
              refine ASL.q (v := (.int .i64 (W (x18_l0 + 1)))) rfl rfl (Light.quiet (opMove rfl rfl)) ?_
              refine ASL.done ?_
              refine QThen.nrm ?_
              exact ⟨((((y7.set m26 x18_l0)).set m55 a53), (W (x18_l0 + 1))), (), (someE hF).symm, ⟨rfl, rfl, rfl, rfl, rfl, rfl, trivial⟩, (hS.pick [1] rfl rfl)⟩
          · skip
            refine AWP.seqR rfl ?_
            refine ASL.q (v := (.bool (decide (a29 = 2)))) rfl rfl (Light.quiet (opInt rfl rfl rfl rfl)) ?_
            refine ASL.q (v := (.bool (decide (a29 = 2)))) rfl rfl (Light.quiet (opAssign rfl rfl)) ?_
            refine ASL.done ?_
            refine AWP.ifP hF rfl (fun hc23 hF => ?_) (fun hc23 hF => ?_)
            · skip
              refine AWP.seq ?_
              refine AWP.seqD [(0, false), (1, false), (2, false), (3, false), (4, false), (5, false), (6, false), (7, false), (8, false), (9, false), (10, false), (11, false), (12, false), (13, false), (14, false), (15, false), (16, false), (17, false), (18, false), (19, false), (20, false), (21, false), (22, false), (23, false), (24, false)] mixed (by kernel_rfl) rfl ?_
              refine ARL.q0 (v := (.int .i64 x18_l0)) rfl rfl (Light.quiet (opMove rfl rfl)) ?_
              refine ARL.q0 (v := (.bool (decide (x18_l0 = 0)))) rfl rfl (Light.quiet (opInt rfl rfl rfl rfl)) ?_
              obtain ⟨c60, hc60, hF⟩ := bndE hF
              refine ARL.q0 (v := (.bool c60)) rfl rfl ((Quiet.cast (Light.quiet (opMove rfl rfl)) (congrArg AV.bool hc60.symm))) ?_
              refine ARL.g (v := (.ptr b8 2)) (.bool c60) false rfl (wF _) rfl noneAlive (fun hG => by have q0 := gN hG; subst q0; exact Light.quiet (opFieldAddr rfl fieldA_46_2 rfl rfl)) ?_
              refine ARL.g (v := (.int .i64 a21.b)) (.bool c60) false rfl (wF _) rfl (hS.aliveC (k := 0) rfl) (fun hG => by have q0 := gN hG; subst q0; exact Light.quiet (kAt hS (j := 0) rfl rfl aggA_3 rfl rfl)) ?_
              refine ARL.g (v := (.int .i64 x18_l0)) (.bool c60) false rfl (wF _) rfl noneAlive (fun hG => by have q0 := gN hG; subst q0; exact Light.quiet (opMove rfl rfl)) ?_
              refine ARL.g (v := (.int .i64 (W (x18_l0 - 1)))) (.bool c60) false rfl (wF _) rfl noneAlive (fun hG => by have q0 := gN hG; subst q0; exact Light.quiet (opInt rfl rfl rfl rfl)) ?_
              refine ARL.g (v := (.bool (decide (a21.b ≠ ((W (x18_l0 - 1))))))) (.bool c60) false rfl (wF _) rfl noneAlive (fun hG => by have q0 := gN hG; subst q0; exact Light.quiet (opInt rfl rfl rfl rfl)) ?_
              refine ARL.q0 (v := (.bool (c60 || (decide (a21.b ≠ ((W (x18_l0 - 1)))))))) rfl rfl (Light.quiet (opPick (b := c60) rfl rfl (by cases c60 <;> rfl))) ?_
              obtain ⟨c67, hc67, hF⟩ := bndE hF
              refine ARL.q0 (v := (.bool c67)) rfl rfl ((Quiet.cast (Light.quiet (opMove rfl rfl)) (congrArg AV.bool hc67.symm))) ?_
              refine ARL.g (v := (.ptr b8 1)) (.bool c67) false rfl (wF _) rfl noneAlive (fun hG => by have q0 := gN hG; subst q0; exact Light.quiet (opFieldAddr rfl fieldA_46_1 rfl rfl)) ?_
              refine ARL.g (v := (.int .i64 a21.a)) (.bool c67) false rfl (wF _) rfl (hS.aliveC (k := 0) rfl) (fun hG => by have q0 := gN hG; subst q0; exact Light.quiet (kAt hS (j := 0) rfl rfl aggA_3 rfl rfl)) ?_
              refine ARL.g (v := v15) (.bool c67) false rfl (wF _) rfl noneAlive (fun hG => by have q0 := gN hG; subst q0; exact Light.quiet (opMove rfl rfl)) ?_
              refine ARL.g (v := (.int .i64 x18_l0)) (.bool c67) false rfl (wF _) rfl noneAlive (fun hG => by have q0 := gN hG; subst q0; exact Light.quiet (opMove rfl rfl)) ?_
              refine ARL.g (v := (.int .i64 (W (x18_l0 - 1)))) (.bool c67) false rfl (wF _) rfl noneAlive (fun hG => by have q0 := gN hG; subst q0; exact Light.quiet (opInt rfl rfl rfl rfl)) ?_
              obtain ⟨a73, ha73, hF⟩ := bindE hF
              refine ARL.g (v := (ptrTo v15 ((W (x18_l0 - 1))).toNat 1)) (.bool c67) false rfl (wF _) rfl noneAlive (fun hG => by have q0 := gN hG; subst q0; exact Light.quiet (kIxOx hS (j := 1) rfl (whenE ha73) rfl rfl rfl elemA_42 sizeA_3)) ?_
              refine ARL.g (v := (.int .i64 a73)) (.bool c67) false rfl (wF _) rfl (hS.aliveR (k := 1) rfl) (fun hG => by have q0 := gN hG; subst q0; exact Light.quiet (kLd (f := (AV.int .i64)) hS (j := 1) rfl (whenE ha73) rfl aggA_3 rfl (fun _ => rfl))) ?_
              refine ARL.g (v := (.int .i64 (W (a73 - 1)))) (.bool c67) false rfl (wF _) rfl noneAlive (fun hG => by have q0 := gN hG; subst q0; exact Light.quiet (opInt rfl rfl rfl rfl)) ?_
              refine ARL.g (v := (.bool (decide (a21.a ≠ ((W (a73 - 1))))))) (.bool c67) false rfl (wF _) rfl noneAlive (fun hG => by have q0 := gN hG; subst q0; exact Light.quiet (opInt rfl rfl rfl rfl)) ?_
              refine ARL.q0 (v := (.bool (c67 || (decide (a21.a ≠ ((W (a73 - 1)))))))) rfl rfl (Light.quiet (opPick (b := c67) rfl rfl (by cases c67 <;> rfl))) ?_
              obtain ⟨c78, hc78, hF⟩ := bndE hF
              refine ARL.q0 (v := (.bool c78)) rfl rfl ((Quiet.cast (Light.quiet (opMove rfl rfl)) (congrArg AV.bool hc78.symm))) ?_
              refine ARL.g (v := (.ptr b8 1)) (.bool c78) false rfl (wF _) rfl noneAlive (fun hG => by have q0 := gN hG; subst q0; exact Light.quiet (opFieldAddr rfl fieldA_46_1 rfl rfl)) ?_
              refine ARL.g (v := (.int .i64 a21.a)) (.bool c78) false rfl (wF _) rfl (hS.aliveC (k := 0) rfl) (fun hG => by have q0 := gN hG; subst q0; exact Light.quiet (kAt hS (j := 0) rfl rfl aggA_3 rfl rfl)) ?_
              refine ARL.g (v := (.bool (decide (a21.a < 0)))) (.bool c78) false rfl (wF _) rfl noneAlive (fun hG => by have q0 := gN hG; subst q0; exact Light.quiet (opInt rfl rfl rfl rfl)) ?_
              refine ARL.q0 (v := (.bool (c78 || (decide (a21.a < 0))))) rfl rfl (Light.quiet (opPick (b := c78) rfl rfl (by cases c78 <;> rfl))) ?_
              refine ARL.done ?_
              refine AWP.ifB hF rfl (fun hc24 hF => ?_) (fun hc24 hF => ?_)
              · skip
                refine AWP.seqR rfl ?_
                refine ASL.q (v := (.list 1 (List.map (AV.int .i64) []))) rfl rfl (Light.quiet (opNilL rfl rfl)) ?_
                refine ASL.q (v := (.bool false)) rfl rfl (Light.quiet (opAssign rfl rfl)) ?_
                refine ASL.done ?_
                refine AWP.ret ?_
                refine QThen.rt ?_
                refine QBlock.ret ?_
                refine QBlock.ret ?_
                refine QThen.rt ?_
                refine QThen.rt ?_
                refine QBlock.ret ?_
                refine QThen.rt ?_
                obtain rfl := (hx9 _ (someE hF).symm)
                have hF := hR12
                have hF := sumR hF
                obtain rfl := someE hF
                exact QRet.many (vs := [(.list 1 (List.map (AV.int .i64) [])), (.bool false)]) ⟨rfl, rfl, trivial⟩ (by simp) rfl
              · skip
                refine AWP.skip ?_
                refine QThen.nrm ?_
                refine AWP.lastR rfl ?_
                refine ASL.q (v := v15) rfl rfl (Light.quiet (opMove rfl rfl)) ?_
                refine ASL.q (v := (.int .i64 x18_l0)) rfl rfl (Light.quiet (opMove rfl rfl)) ?_
                refine ASL.q (v := v15) rfl rfl (Light.quiet (opMove rfl rfl)) ?_
                refine ASL.q (v := (.ptr b8 1)) rfl rfl (Light.quiet (opFieldAddr rfl fieldA_46_1 rfl rfl)) ?_
                refine ASL.q (v := (.int .i64 a21.a)) rfl rfl (Light.quiet (kAt hS (j := 0) rfl rfl aggA_3 rfl rfl)) ?_
                obtain ⟨a88, ha88, hF⟩ := bindE hF
                refine ASL.q (v := (ptrTo v15 a21.a.toNat 1)) rfl rfl (Light.quiet (kIxOx hS (j := 1) rfl ha88 rfl rfl rfl elemA_42 sizeA_3)) ?_
                refine ASL.q (v := (.int .i64 a88)) rfl rfl (Light.quiet (kLd (f := (AV.int .i64)) hS (j := 1) rfl ha88 rfl aggA_3 rfl (fun _ => rfl))) ?_
                obtain ⟨m90, hm90, hF⟩ := bindE hF
                refine ASL.q (v := (ptrTo v15 m90 1)) rfl rfl (Light.quiet (kIxO hS (j := 1) rfl hm90 rfl rfl rfl elemA_42 sizeA_3)) ?_
                refine ASL.n rfl rfl (hSt (f := (AV.int .i64)) (a := a88) hS (j := 1) rfl hm90 rfl sizeA_3 rfl rfl ⟨rfl, rfl, rfl⟩ ?_); rintro G25 hS
                refine ASL.done ?_
                refine QBlock.nrm ?_
                refine QBlock.nrm ?_
                refine QThen.nrm ?_
                refine AWP.lastR rfl ?_
                refine ASL.q (v := (.int .i64 (W (x18_l0 + 1)))) rfl rfl (Light.quiet (opInt rfl rfl rfl rfl)) ?_
                refine ASL.q (v := (.int .i64 (W (x18_l0 + 1)))) rfl rfl (Light.quiet (opMove rfl rfl)) ?_
                refine ASL.done ?_
                refine QThen.nrm ?_
                exact ⟨((((y7.set m26 x18_l0)).set m90 a88), (W (x18_l0 + 1))), (), (someE hF).symm, ⟨rfl, rfl, rfl, rfl, rfl, rfl, trivial⟩, (hS.pick [1] rfl rfl)⟩
            · skip
              refine AWP.seqR rfl ?_
              refine ASL.q (v := (.list 1 (List.map (AV.int .i64) []))) rfl rfl (Light.quiet (opNilL rfl rfl)) ?_
              refine ASL.q (v := (.bool false)) rfl rfl (Light.quiet (opAssign rfl rfl)) ?_
              refine ASL.done ?_
              refine AWP.ret ?_
              refine QBlock.ret ?_
              refine QBlock.ret ?_
              refine QThen.rt ?_
              refine QThen.rt ?_
              refine QBlock.ret ?_
              refine QThen.rt ?_
              obtain rfl := (hx9 _ (someE hF).symm)
              have hF := hR12
              have hF := sumR hF
              obtain rfl := someE hF
              exact QRet.many (vs := [(.list 1 (List.map (AV.int .i64) [])), (.bool false)]) ⟨rfl, rfl, trivial⟩ (by simp) rfl
      · skip
        refine AWP.exit ?_
        refine QThen.ext ?_
        refine QThen.ext ?_
        refine QBlock.hit ?_
        obtain rfl := (hx9 _ (someE hF).symm)
        have hF := hR12
        have hF := sumL hF
        refine QThen.nrm ?_
        exact ⟨y7, ⟨rfl, rfl, trivial⟩, (hS.pick [0] rfl rfl), hF⟩

set_option maxRecDepth 10000 in
theorem impl_isTree_ok {p0 : (List TNode)} {g1 : (TNode → Option Int)} {r : Bool} {k1 : Nat} (hcal1 : callable Tryz.prog k1 = true) (hg1 : ∀ q0 y, g1 q0 = some y → PC Tryz.prog k1 [(TNode.av q0)] fun v => v = (.int .i64 y)) (hF : impl_isTree p0 g1 = some r) : PC Tryz.prog 66 [(.list 3 (List.map TNode.av p0)), (.fn (.func k1) [] [])] fun v => v = (.bool r) := by
  refine PC.enter Tryz.func66 rfl Tryz.ntmps66 (by simp) ?_
  have hS := Sep.void; unfold impl_isTree at hF
  refine AWP.seqR rfl ?_
  refine ASL.q (v := (.bool false)) rfl rfl (Light.quiet (opAssign rfl rfl)) ?_
  refine ASL.done ?_
  refine AWP.seqR rfl ?_
  refine ASL.q (v := (.list 3 (List.map TNode.av p0))) rfl rfl (Light.quiet (opMove rfl rfl)) ?_
  refine ASL.q (v := (.fn (.func k1) [] [])) rfl rfl (Light.quiet (opMove rfl rfl)) ?_
  obtain ⟨a10, ha10, hF⟩ := bindE hF
  refine ASL.q (v := (.tup [(.list 1 (List.map (AV.int .i64) a10.1)), (.bool a10.2)])) rfl rfl ((qCall rfl rfl call_82 (impl_begins_ok hcal1 hg1 ha10) rfl)) ?_
  refine ASL.q (v := (.tup [(.list 1 (List.map (AV.int .i64) a10.1)), (.bool a10.2)])) rfl rfl (Light.quiet (opMove rfl rfl)) ?_
  refine ASL.q (v := (.list 1 (List.map (AV.int .i64) a10.1))) rfl rfl (Light.quiet (opExtract rfl rfl rfl)) ?_
  refine ASL.q (v := (.bool a10.2)) rfl rfl (Light.quiet (opExtract rfl rfl rfl)) ?_
  refine ASL.q (v := (.list 1 (List.map (AV.int .i64) a10.1))) rfl rfl (Light.quiet (opAssign rfl rfl)) ?_
  refine ASL.q (v := (.bool a10.2)) rfl rfl (Light.quiet (opAssign rfl rfl)) ?_
  refine ASL.done ?_
  refine AWP.seqR rfl ?_
  refine ASL.q (v := (.bool a10.2)) rfl rfl (Light.quiet (opMove rfl rfl)) ?_
  refine ASL.q (v := (.bool a10.2)) rfl rfl (Light.quiet (opAssign rfl rfl)) ?_
  refine ASL.done ?_
  refine AWP.ret ?_
  obtain rfl := someE hF
  exact QRet.sole (v := (.bool a10.2)) ⟨rfl, trivial⟩ rfl

set_option maxRecDepth 10000 in
theorem impl_leaf_ok (p0 : TNode) (p1 : Int) : PC Tryz.prog 98 [(TNode.av p0), (.int .i64 p1)] fun v => v = (.int .i64 (impl_leaf p0 p1)) := by
  generalize hF : impl_leaf p0 p1 = r
  refine PC.enter Tryz.func98 rfl Tryz.ntmps98 (by simp) ?_
  have hS := Sep.void; unfold impl_leaf at hF
  refine AWP.seqR rfl ?_
  refine ASL.q (v := (.rptr [(.int .i64 p0.kind), (.int .i64 p0.a), (.int .i64 p0.b)])) rfl rfl ((qBoxI (v := (TNode.av p0)) rfl rfl rfl rfl)) ?_
  refine ASL.q (v := (.int .i64 0)) rfl rfl (Light.quiet (opAssign rfl rfl)) ?_
  refine ASL.done ?_
  refine AWP.seq ?_
  refine AWP.seqR rfl ?_
  refine ASL.q (v := (.rptr [(.int .i64 p0.b)])) rfl rfl (Light.quiet (opFieldAddrR rfl fieldA_46_2 rfl rfl)) ?_
  refine ASL.q (v := (.int .i64 p0.b)) rfl rfl (Light.quiet (opLoadR rfl aggA_3 rfl rfl)) ?_
  refine ASL.q (v := (.bool (decide (p0.b = 0)))) rfl rfl (Light.quiet (opInt rfl rfl rfl rfl)) ?_
  obtain ⟨c8, hc8, hF⟩ := bndE hF
  refine ASL.q (v := (.bool c8)) rfl rfl ((Quiet.cast (Light.quiet (opMove rfl rfl)) (congrArg AV.bool hc8.symm))) ?_
  refine ASL.g (v := (.rptr [(.int .i64 p0.a), (.int .i64 p0.b)])) (.bool c8) true rfl (wT _) rfl (fun hG => by have q0 := hG; subst q0; exact Light.quiet (opFieldAddrR rfl fieldA_46_1 rfl rfl)) ?_
  refine ASL.g (v := (.int .i64 p0.a)) (.bool c8) true rfl (wT _) rfl (fun hG => by have q0 := hG; subst q0; exact Light.quiet (opLoadR rfl aggA_3 rfl rfl)) ?_
  refine ASL.g (v := (.int .i64 p1)) (.bool c8) true rfl (wT _) rfl (fun hG => by have q0 := hG; subst q0; exact Light.quiet (opMove rfl rfl)) ?_
  refine ASL.g (v := (.bool (impl_inRange p0.a 0 p1))) (.bool c8) true rfl (wT _) rfl (fun hG => by have q0 := hG; subst q0; exact (qCall rfl rfl call_68 (impl_inRange_ok p0.a 0 p1) rfl)) ?_
  refine ASL.q (v := (.bool (c8 && (impl_inRange p0.a 0 p1)))) rfl rfl (Light.quiet (opPick (b := c8) rfl rfl (by cases c8 <;> rfl))) ?_
  refine ASL.done ?_
  refine AWP.ifB hF rfl (fun hc1 hF => ?_) (fun hc1 hF => ?_)
  · skip
    refine AWP.seqR rfl ?_
    refine ASL.q (v := (.int .i64 0)) rfl rfl (Light.quiet (opAssign rfl rfl)) ?_
    refine ASL.done ?_
    refine AWP.ret ?_
    refine QThen.rt ?_
    obtain rfl := hF
    exact QRet.sole (v := (.int .i64 0)) ⟨rfl, trivial⟩ rfl
  · skip
    refine AWP.skip ?_
    refine QThen.nrm ?_
    refine AWP.seqR rfl ?_
    refine ASL.q (v := (.int .i64 (-1))) rfl rfl (Light.quiet (opAssign rfl rfl)) ?_
    refine ASL.done ?_
    refine AWP.ret ?_
    obtain rfl := hF
    exact QRet.sole (v := (.int .i64 (-1))) ⟨rfl, trivial⟩ rfl

set_option maxRecDepth 10000 in
theorem impl_exprParts_ok (p0 : TNode) : PC Tryz.prog 83 [(TNode.av p0)] fun v => v = (.int .i64 (impl_exprParts p0)) := by
  generalize hF : impl_exprParts p0 = r
  refine PC.enter Tryz.func83 rfl Tryz.ntmps83 (by simp) ?_
  have hS := Sep.void; unfold impl_exprParts at hF
  refine AWP.seqR rfl ?_
  refine ASL.q (v := (.rptr [(.int .i64 p0.kind), (.int .i64 p0.a), (.int .i64 p0.b)])) rfl rfl ((qBoxI (v := (TNode.av p0)) rfl rfl rfl rfl)) ?_
  refine ASL.q (v := (.int .i64 0)) rfl rfl (Light.quiet (opAssign rfl rfl)) ?_
  refine ASL.done ?_
  refine AWP.seq ?_
  refine AWP.seqR rfl ?_
  refine ASL.q (v := (.rptr [(.int .i64 p0.kind), (.int .i64 p0.a), (.int .i64 p0.b)])) rfl rfl (Light.quiet (opFieldAddrR rfl fieldA_46_0 rfl rfl)) ?_
  refine ASL.q (v := (.int .i64 p0.kind)) rfl rfl (Light.quiet (opLoadR rfl aggA_3 rfl rfl)) ?_
  refine ASL.done ?_
  refine AWP.block ?_
  refine AWP.seqM (fun e H => ∃ x5_1 : Bool, E.Told e [(1, (.rptr [(.int .i64 p0.kind), (.int .i64 p0.a), (.int .i64 p0.b)])), (4, (.int .i64 p0.kind)), (5, (.bool x5_1))] ∧ E.Sep H [] ∧ impl_exprParts.k0 p0 x5_1 = r) ?_ ?_
  · rintro e0 G7 ⟨x5_1, hT, hS, hF⟩; refine AWP.only _ hT ?_; unfold impl_exprParts.k0 at hF
    refine AWP.ifB hF rfl (fun hc1 hF => ?_) (fun hc1 hF => ?_)
    · skip
      refine AWP.seqR rfl ?_
      refine ASL.q (v := (TNode.av p0)) rfl rfl (Light.quiet (opLoadRA rfl aggA_46 sizeA_46 rfl (nlt rfl) rfl)) ?_
      refine ASL.q (v := (.int .i64 (impl_leaf p0 0))) rfl rfl ((qCall rfl rfl call_98 (impl_leaf_ok p0 0) rfl)) ?_
      refine ASL.q (v := (.int .i64 (impl_leaf p0 0))) rfl rfl (Light.quiet (opAssign rfl rfl)) ?_
      refine ASL.done ?_
      refine AWP.ret ?_
      refine QBlock.ret ?_
      refine QThen.rt ?_
      obtain rfl := hF
      exact QRet.sole (v := (.int .i64 (impl_leaf p0 0))) ⟨rfl, trivial⟩ rfl
    · skip
      refine AWP.seqR rfl ?_
      refine ASL.q (v := (.bool (decide (p0.kind = 3)))) rfl rfl (Light.quiet (opInt rfl rfl rfl rfl)) ?_
      refine ASL.q (v := (.bool (decide (p0.kind = 3)))) rfl rfl (Light.quiet (opAssign rfl rfl)) ?_
      refine ASL.done ?_
      refine AWP.ifP hF rfl (fun hc2 hF => ?_) (fun hc2 hF => ?_)
      · skip
        refine AWP.seqR rfl ?_
        refine ASL.q (v := (TNode.av p0)) rfl rfl (Light.quiet (opLoadRA rfl aggA_46 sizeA_46 rfl (nlt rfl) rfl)) ?_
        refine ASL.q (v := (.int .i64 (impl_leaf p0 2))) rfl rfl ((qCall rfl rfl call_98 (impl_leaf_ok p0 2) rfl)) ?_
        refine ASL.q (v := (.int .i64 (impl_leaf p0 2))) rfl rfl (Light.quiet (opAssign rfl rfl)) ?_
        refine ASL.done ?_
        refine AWP.ret ?_
        refine QBlock.ret ?_
        refine QThen.rt ?_
        obtain rfl := hF
        exact QRet.sole (v := (.int .i64 (impl_leaf p0 2))) ⟨rfl, trivial⟩ rfl
      · skip
        refine AWP.seqR rfl ?_
        refine ASL.q (v := (.bool (decide (p0.kind = 4)))) rfl rfl (Light.quiet (opInt rfl rfl rfl rfl)) ?_
        refine ASL.q (v := (.bool (decide (p0.kind = 4)))) rfl rfl (Light.quiet (opAssign rfl rfl)) ?_
        refine ASL.done ?_
        refine AWP.ifP hF rfl (fun hc3 hF => ?_) (fun hc3 hF => ?_)
        · skip
          refine AWP.seqR rfl ?_
          refine ASL.q (v := (.int .i64 1)) rfl rfl (Light.quiet (opAssign rfl rfl)) ?_
          refine ASL.done ?_
          refine AWP.ret ?_
          refine QBlock.ret ?_
          refine QThen.rt ?_
          obtain rfl := hF
          exact QRet.sole (v := (.int .i64 1)) ⟨rfl, trivial⟩ rfl
        · skip
          refine AWP.seq ?_
          refine AWP.seqR rfl ?_
          refine ASL.q (v := (.bool (decide (p0.kind = 5)))) rfl rfl (Light.quiet (opInt rfl rfl rfl rfl)) ?_
          refine ASL.q (v := (.bool (decide (p0.kind = 5)))) rfl rfl (Light.quiet (opAssign rfl rfl)) ?_
          refine ASL.done ?_
          refine AWP.ifP hF rfl (fun hc4 hF => ?_) (fun hc4 hF => ?_)
          · skip
            refine AWP.skip ?_
            refine QThen.nrm ?_
            refine AWP.ifP hF rfl (fun hc5 hF => ?_) (fun hc5 hF => ?_)
            · skip
              refine AWP.seqR rfl ?_
              refine ASL.q (v := (.int .i64 2)) rfl rfl (Light.quiet (opAssign rfl rfl)) ?_
              refine ASL.done ?_
              refine AWP.ret ?_
              refine QBlock.ret ?_
              refine QThen.rt ?_
              obtain rfl := hF
              exact QRet.sole (v := (.int .i64 2)) ⟨rfl, trivial⟩ rfl
            · skip
              refine AWP.skip ?_
              refine QBlock.nrm ?_
              refine QThen.nrm ?_
              refine AWP.seqR rfl ?_
              refine ASL.q (v := (.int .i64 (-1))) rfl rfl (Light.quiet (opAssign rfl rfl)) ?_
              refine ASL.done ?_
              refine AWP.ret ?_
              obtain rfl := hF
              exact QRet.sole (v := (.int .i64 (-1))) ⟨rfl, trivial⟩ rfl
          · skip
            refine AWP.lastR rfl ?_
            refine ASL.q (v := (.bool (decide (p0.kind = 6)))) rfl rfl (Light.quiet (opInt rfl rfl rfl rfl)) ?_
            refine ASL.q (v := (.bool (decide (p0.kind = 6)))) rfl rfl (Light.quiet (opAssign rfl rfl)) ?_
            refine ASL.done ?_
            refine QThen.nrm ?_
            refine AWP.ifP hF rfl (fun hc6 hF => ?_) (fun hc6 hF => ?_)
            · skip
              refine AWP.seqR rfl ?_
              refine ASL.q (v := (.int .i64 2)) rfl rfl (Light.quiet (opAssign rfl rfl)) ?_
              refine ASL.done ?_
              refine AWP.ret ?_
              refine QBlock.ret ?_
              refine QThen.rt ?_
              obtain rfl := hF
              exact QRet.sole (v := (.int .i64 2)) ⟨rfl, trivial⟩ rfl
            · skip
              refine AWP.skip ?_
              refine QBlock.nrm ?_
              refine QThen.nrm ?_
              refine AWP.seqR rfl ?_
              refine ASL.q (v := (.int .i64 (-1))) rfl rfl (Light.quiet (opAssign rfl rfl)) ?_
              refine ASL.done ?_
              refine AWP.ret ?_
              obtain rfl := hF
              exact QRet.sole (v := (.int .i64 (-1))) ⟨rfl, trivial⟩ rfl
  · skip
    refine AWP.seqR rfl ?_
    refine ASL.q (v := (.bool (decide (p0.kind = 1)))) rfl rfl (Light.quiet (opInt rfl rfl rfl rfl)) ?_
    refine ASL.q (v := (.bool (decide (p0.kind = 1)))) rfl rfl (Light.quiet (opAssign rfl rfl)) ?_
    refine ASL.done ?_
    refine AWP.ifP hF rfl (fun hc8 hF => ?_) (fun hc8 hF => ?_)
    · skip
      refine AWP.skip ?_
      refine QThen.nrm ?_
      exact ⟨(decide (p0.kind = 1)), ⟨rfl, rfl, rfl, trivial⟩, (hS.pick [] rfl rfl), hF⟩
    · skip
      refine AWP.lastR rfl ?_
      refine ASL.q (v := (.bool (decide (p0.kind = 2)))) rfl rfl (Light.quiet (opInt rfl rfl rfl rfl)) ?_
      refine ASL.q (v := (.bool (decide (p0.kind = 2)))) rfl rfl (Light.quiet (opAssign rfl rfl)) ?_
      refine ASL.done ?_
      refine QThen.nrm ?_
      exact ⟨(decide (p0.kind = 2)), ⟨rfl, rfl, rfl, trivial⟩, (hS.pick [] rfl rfl), hF⟩

set_option maxRecDepth 10000 in
theorem impl_ltlParts_ok (p0 : TNode) : PC Tryz.prog 67 [(TNode.av p0)] fun v => v = (.int .i64 (impl_ltlParts p0)) := by
  generalize hF : impl_ltlParts p0 = r
  refine PC.enter Tryz.func67 rfl Tryz.ntmps67 (by simp) ?_
  have hS := Sep.void; unfold impl_ltlParts at hF
  refine AWP.seqR rfl ?_
  refine ASL.q (v := (.rptr [(.int .i64 p0.kind), (.int .i64 p0.a), (.int .i64 p0.b)])) rfl rfl ((qBoxI (v := (TNode.av p0)) rfl rfl rfl rfl)) ?_
  refine ASL.q (v := (.int .i64 0)) rfl rfl (Light.quiet (opAssign rfl rfl)) ?_
  refine ASL.done ?_
  refine AWP.seq ?_
  refine AWP.seqR rfl ?_
  refine ASL.q (v := (.rptr [(.int .i64 p0.kind), (.int .i64 p0.a), (.int .i64 p0.b)])) rfl rfl (Light.quiet (opFieldAddrR rfl fieldA_46_0 rfl rfl)) ?_
  refine ASL.q (v := (.int .i64 p0.kind)) rfl rfl (Light.quiet (opLoadR rfl aggA_3 rfl rfl)) ?_
  refine ASL.done ?_
  refine AWP.block ?_
  refine AWP.seq ?_
  refine AWP.seqR rfl ?_
  refine ASL.q (v := (.bool (decide (p0.kind = 7)))) rfl rfl (Light.quiet (opInt rfl rfl rfl rfl)) ?_
  refine ASL.q (v := (.bool (decide (p0.kind = 7)))) rfl rfl (Light.quiet (opAssign rfl rfl)) ?_
  refine ASL.done ?_
  refine AWP.ifP hF rfl (fun hc1 hF => ?_) (fun hc1 hF => ?_)
  · skip
    refine AWP.skip ?_
    refine QThen.nrm ?_
    refine AWP.ifP hF rfl (fun hc2 hF => ?_) (fun hc2 hF => ?_)
    · skip
      refine AWP.seqR rfl ?_
      refine ASL.q (v := (.int .i64 1)) rfl rfl (Light.quiet (opAssign rfl rfl)) ?_
      refine ASL.done ?_
      refine AWP.ret ?_
      refine QBlock.ret ?_
      refine QThen.rt ?_
      obtain rfl := hF
      exact QRet.sole (v := (.int .i64 1)) ⟨rfl, trivial⟩ rfl
    · skip
      refine AWP.seq ?_
      refine AWP.seqR rfl ?_
      refine ASL.q (v := (.bool (decide (p0.kind = 8)))) rfl rfl (Light.quiet (opInt rfl rfl rfl rfl)) ?_
      refine ASL.q (v := (.bool (decide (p0.kind = 8)))) rfl rfl (Light.quiet (opAssign rfl rfl)) ?_
      refine ASL.done ?_
      refine AWP.ifP hF rfl (fun hc3 hF => ?_) (fun hc3 hF => ?_)
      · skip
        refine AWP.skip ?_
        refine QThen.nrm ?_
        refine AWP.ifP hF rfl (fun hc4 hF => ?_) (fun hc4 hF => ?_)
        · skip
          refine AWP.seqR rfl ?_
          refine ASL.q (v := (.int .i64 2)) rfl rfl (Light.quiet (opAssign rfl rfl)) ?_
          refine ASL.done ?_
          refine AWP.ret ?_
          refine QBlock.ret ?_
          refine QThen.rt ?_
          obtain rfl := hF
          exact QRet.sole (v := (.int .i64 2)) ⟨rfl, trivial⟩ rfl
        · skip
          refine AWP.skip ?_
          refine QBlock.nrm ?_
          refine QThen.nrm ?_
          refine AWP.seqR rfl ?_
          refine ASL.q (v := (TNode.av p0)) rfl rfl (Light.quiet (opLoadRA rfl aggA_46 sizeA_46 rfl (nlt rfl) rfl)) ?_
          refine ASL.q (v := (.int .i64 (impl_exprParts p0))) rfl rfl ((qCall rfl rfl call_83 (impl_exprParts_ok p0) rfl)) ?_
          refine ASL.q (v := (.int .i64 (impl_exprParts p0))) rfl rfl (Light.quiet (opAssign rfl rfl)) ?_
          refine ASL.done ?_
          refine AWP.ret ?_
          obtain rfl := hF
          exact QRet.sole (v := (.int .i64 (impl_exprParts p0))) ⟨rfl, trivial⟩ rfl
      · skip
        refine AWP.lastR rfl ?_
        refine ASL.q (v := (.bool (decide (p0.kind = 9)))) rfl rfl (Light.quiet (opInt rfl rfl rfl rfl)) ?_
        refine ASL.q (v := (.bool (decide (p0.kind = 9)))) rfl rfl (Light.quiet (opAssign rfl rfl)) ?_
        refine ASL.done ?_
        refine QThen.nrm ?_
        refine AWP.ifP hF rfl (fun hc5 hF => ?_) (fun hc5 hF => ?_)
        · skip
          refine AWP.seqR rfl ?_
          refine ASL.q (v := (.int .i64 2)) rfl rfl (Light.quiet (opAssign rfl rfl)) ?_
          refine ASL.done ?_
          refine AWP.ret ?_
          refine QBlock.ret ?_
          refine QThen.rt ?_
          obtain rfl := hF
          exact QRet.sole (v := (.int .i64 2)) ⟨rfl, trivial⟩ rfl
        · skip
          refine AWP.skip ?_
          refine QBlock.nrm ?_
          refine QThen.nrm ?_
          refine AWP.seqR rfl ?_
          refine ASL.q (v := (TNode.av p0)) rfl rfl (Light.quiet (opLoadRA rfl aggA_46 sizeA_46 rfl (nlt rfl) rfl)) ?_
          refine ASL.q (v := (.int .i64 (impl_exprParts p0))) rfl rfl ((qCall rfl rfl call_83 (impl_exprParts_ok p0) rfl)) ?_
          refine ASL.q (v := (.int .i64 (impl_exprParts p0))) rfl rfl (Light.quiet (opAssign rfl rfl)) ?_
          refine ASL.done ?_
          refine AWP.ret ?_
          obtain rfl := hF
          exact QRet.sole (v := (.int .i64 (impl_exprParts p0))) ⟨rfl, trivial⟩ rfl
  · skip
    refine AWP.seqR rfl ?_
    refine ASL.q (v := (.bool (decide (p0.kind = 10)))) rfl rfl (Light.quiet (opInt rfl rfl rfl rfl)) ?_
    refine ASL.q (v := (.bool (decide (p0.kind = 10)))) rfl rfl (Light.quiet (opAssign rfl rfl)) ?_
    refine ASL.done ?_
    refine AWP.ifP hF rfl (fun hc6 hF => ?_) (fun hc6 hF => ?_)
    · skip
      refine AWP.skip ?_
      refine QThen.nrm ?_
      refine AWP.ifP hF rfl (fun hc7 hF => ?_) (fun hc7 hF => ?_)
      · skip
        refine AWP.seqR rfl ?_
        refine ASL.q (v := (.int .i64 1)) rfl rfl (Light.quiet (opAssign rfl rfl)) ?_
        refine ASL.done ?_
        refine AWP.ret ?_
        refine QBlock.ret ?_
        refine QThen.rt ?_
        obtain rfl := hF
        exact QRet.sole (v := (.int .i64 1)) ⟨rfl, trivial⟩ rfl
      · skip
        refine AWP.seq ?_
        refine AWP.seqR rfl ?_
        refine ASL.q (v := (.bool (decide (p0.kind = 8)))) rfl rfl (Light.quiet (opInt rfl rfl rfl rfl)) ?_
        refine ASL.q (v := (.bool (decide (p0.kind = 8)))) rfl rfl (Light.quiet (opAssign rfl rfl)) ?_
        refine ASL.done ?_
        refine AWP.ifP hF rfl (fun hc8 hF => ?_) (fun hc8 hF => ?_)
        · skip
          refine AWP.skip ?_
          refine QThen.nrm ?_
          refine AWP.ifP hF rfl (fun hc9 hF => ?_) (fun hc9 hF => ?_)
          · skip
            refine AWP.seqR rfl ?_
            refine ASL.q (v := (.int .i64 2)) rfl rfl (Light.quiet (opAssign rfl rfl)) ?_
            refine ASL.done ?_
            refine AWP.ret ?_
            refine QBlock.ret ?_
            refine QThen.rt ?_
            obtain rfl := hF
            exact QRet.sole (v := (.int .i64 2)) ⟨rfl, trivial⟩ rfl
          · skip
            refine AWP.skip ?_
            refine QBlock.nrm ?_
            refine QThen.nrm ?_
            refine AWP.seqR rfl ?_
            refine ASL.q (v := (TNode.av p0)) rfl rfl (Light.quiet (opLoadRA rfl aggA_46 sizeA_46 rfl (nlt rfl) rfl)) ?_
            refine ASL.q (v := (.int .i64 (impl_exprParts p0))) rfl rfl ((qCall rfl rfl call_83 (impl_exprParts_ok p0) rfl)) ?_
            refine ASL.q (v := (.int .i64 (impl_exprParts p0))) rfl rfl (Light.quiet (opAssign rfl rfl)) ?_
            refine ASL.done ?_
            refine AWP.ret ?_
            obtain rfl := hF
            exact QRet.sole (v := (.int .i64 (impl_exprParts p0))) ⟨rfl, trivial⟩ rfl
        · skip
          refine AWP.lastR rfl ?_
          refine ASL.q (v := (.bool (decide (p0.kind = 9)))) rfl rfl (Light.quiet (opInt rfl rfl rfl rfl)) ?_
          refine ASL.q (v := (.bool (decide (p0.kind = 9)))) rfl rfl (Light.quiet (opAssign rfl rfl)) ?_
          refine ASL.done ?_
          refine QThen.nrm ?_
          refine AWP.ifP hF rfl (fun hc10 hF => ?_) (fun hc10 hF => ?_)
          · skip
            refine AWP.seqR rfl ?_
            refine ASL.q (v := (.int .i64 2)) rfl rfl (Light.quiet (opAssign rfl rfl)) ?_
            refine ASL.done ?_
            refine AWP.ret ?_
            refine QBlock.ret ?_
            refine QThen.rt ?_
            obtain rfl := hF
            exact QRet.sole (v := (.int .i64 2)) ⟨rfl, trivial⟩ rfl
          · skip
            refine AWP.skip ?_
            refine QBlock.nrm ?_
            refine QThen.nrm ?_
            refine AWP.seqR rfl ?_
            refine ASL.q (v := (TNode.av p0)) rfl rfl (Light.quiet (opLoadRA rfl aggA_46 sizeA_46 rfl (nlt rfl) rfl)) ?_
            refine ASL.q (v := (.int .i64 (impl_exprParts p0))) rfl rfl ((qCall rfl rfl call_83 (impl_exprParts_ok p0) rfl)) ?_
            refine ASL.q (v := (.int .i64 (impl_exprParts p0))) rfl rfl (Light.quiet (opAssign rfl rfl)) ?_
            refine ASL.done ?_
            refine AWP.ret ?_
            obtain rfl := hF
            exact QRet.sole (v := (.int .i64 (impl_exprParts p0))) ⟨rfl, trivial⟩ rfl
    · skip
      refine AWP.lastR rfl ?_
      refine ASL.q (v := (.bool (decide (p0.kind = 11)))) rfl rfl (Light.quiet (opInt rfl rfl rfl rfl)) ?_
      refine ASL.q (v := (.bool (decide (p0.kind = 11)))) rfl rfl (Light.quiet (opAssign rfl rfl)) ?_
      refine ASL.done ?_
      refine QThen.nrm ?_
      refine AWP.ifP hF rfl (fun hc11 hF => ?_) (fun hc11 hF => ?_)
      · skip
        refine AWP.seqR rfl ?_
        refine ASL.q (v := (.int .i64 1)) rfl rfl (Light.quiet (opAssign rfl rfl)) ?_
        refine ASL.done ?_
        refine AWP.ret ?_
        refine QBlock.ret ?_
        refine QThen.rt ?_
        obtain rfl := hF
        exact QRet.sole (v := (.int .i64 1)) ⟨rfl, trivial⟩ rfl
      · skip
        refine AWP.seq ?_
        refine AWP.seqR rfl ?_
        refine ASL.q (v := (.bool (decide (p0.kind = 8)))) rfl rfl (Light.quiet (opInt rfl rfl rfl rfl)) ?_
        refine ASL.q (v := (.bool (decide (p0.kind = 8)))) rfl rfl (Light.quiet (opAssign rfl rfl)) ?_
        refine ASL.done ?_
        refine AWP.ifP hF rfl (fun hc12 hF => ?_) (fun hc12 hF => ?_)
        · skip
          refine AWP.skip ?_
          refine QThen.nrm ?_
          refine AWP.ifP hF rfl (fun hc13 hF => ?_) (fun hc13 hF => ?_)
          · skip
            refine AWP.seqR rfl ?_
            refine ASL.q (v := (.int .i64 2)) rfl rfl (Light.quiet (opAssign rfl rfl)) ?_
            refine ASL.done ?_
            refine AWP.ret ?_
            refine QBlock.ret ?_
            refine QThen.rt ?_
            obtain rfl := hF
            exact QRet.sole (v := (.int .i64 2)) ⟨rfl, trivial⟩ rfl
          · skip
            refine AWP.skip ?_
            refine QBlock.nrm ?_
            refine QThen.nrm ?_
            refine AWP.seqR rfl ?_
            refine ASL.q (v := (TNode.av p0)) rfl rfl (Light.quiet (opLoadRA rfl aggA_46 sizeA_46 rfl (nlt rfl) rfl)) ?_
            refine ASL.q (v := (.int .i64 (impl_exprParts p0))) rfl rfl ((qCall rfl rfl call_83 (impl_exprParts_ok p0) rfl)) ?_
            refine ASL.q (v := (.int .i64 (impl_exprParts p0))) rfl rfl (Light.quiet (opAssign rfl rfl)) ?_
            refine ASL.done ?_
            refine AWP.ret ?_
            obtain rfl := hF
            exact QRet.sole (v := (.int .i64 (impl_exprParts p0))) ⟨rfl, trivial⟩ rfl
        · skip
          refine AWP.lastR rfl ?_
          refine ASL.q (v := (.bool (decide (p0.kind = 9)))) rfl rfl (Light.quiet (opInt rfl rfl rfl rfl)) ?_
          refine ASL.q (v := (.bool (decide (p0.kind = 9)))) rfl rfl (Light.quiet (opAssign rfl rfl)) ?_
          refine ASL.done ?_
          refine QThen.nrm ?_
          refine AWP.ifP hF rfl (fun hc14 hF => ?_) (fun hc14 hF => ?_)
          · skip
            refine AWP.seqR rfl ?_
            refine ASL.q (v := (.int .i64 2)) rfl rfl (Light.quiet (opAssign rfl rfl)) ?_
            refine ASL.done ?_
            refine AWP.ret ?_
            refine QBlock.ret ?_
            refine QThen.rt ?_
            obtain rfl := hF
            exact QRet.sole (v := (.int .i64 2)) ⟨rfl, trivial⟩ rfl
          · skip
            refine AWP.skip ?_
            refine QBlock.nrm ?_
            refine QThen.nrm ?_
            refine AWP.seqR rfl ?_
            refine ASL.q (v := (TNode.av p0)) rfl rfl (Light.quiet (opLoadRA rfl aggA_46 sizeA_46 rfl (nlt rfl) rfl)) ?_
            refine ASL.q (v := (.int .i64 (impl_exprParts p0))) rfl rfl ((qCall rfl rfl call_83 (impl_exprParts_ok p0) rfl)) ?_
            refine ASL.q (v := (.int .i64 (impl_exprParts p0))) rfl rfl (Light.quiet (opAssign rfl rfl)) ?_
            refine ASL.done ?_
            refine AWP.ret ?_
            obtain rfl := hF
            exact QRet.sole (v := (.int .i64 (impl_exprParts p0))) ⟨rfl, trivial⟩ rfl

set_option maxRecDepth 10000 in
theorem impl_LtlOk_ok {p0 : (List TNode)} {r : Bool} (hF : impl_LtlOk p0 = some r) : PC Tryz.prog 39 [(.list 3 (List.map TNode.av p0))] fun v => v = (.bool r) := by
  refine PC.enter Tryz.func39 rfl Tryz.ntmps39 (by simp) ?_
  have hS := Sep.void; unfold impl_LtlOk at hF
  refine AWP.seqR rfl ?_
  refine ASL.q (v := (.bool false)) rfl rfl (Light.quiet (opAssign rfl rfl)) ?_
  refine ASL.done ?_
  refine AWP.seqR rfl ?_
  refine ASL.q (v := (.list 3 (List.map TNode.av p0))) rfl rfl (Light.quiet (opMove rfl rfl)) ?_
  obtain ⟨a4, ha4, hF⟩ := bindE hF
  refine ASL.q (v := (.bool a4)) rfl rfl ((qCall rfl rfl call_66 (impl_isTree_ok call_67 (fun q0 y h => by obtain rfl := someE h; exact impl_ltlParts_ok q0) ha4) rfl)) ?_
  refine ASL.q (v := (.bool a4)) rfl rfl (Light.quiet (opAssign rfl rfl)) ?_
  refine ASL.done ?_
  refine AWP.ret ?_
  obtain rfl := someE hF
  exact QRet.sole (v := (.bool a4)) ⟨rfl, trivial⟩ rfl

set_option maxRecDepth 10000 in
theorem impl_isProps_ok (p0 : Int) : PC Tryz.prog 40 [(.int .i64 p0)] fun v => v = (.bool (impl_isProps p0)) := by
  generalize hF : impl_isProps p0 = r
  refine PC.enter Tryz.func40 rfl Tryz.ntmps40 (by simp) ?_
  have hS := Sep.void; unfold impl_isProps at hF
  refine AWP.seqR rfl ?_
  refine ASL.q (v := (.bool false)) rfl rfl (Light.quiet (opAssign rfl rfl)) ?_
  refine ASL.done ?_
  refine AWP.seqR rfl ?_
  refine ASL.q (v := (.int .i64 p0)) rfl rfl (Light.quiet (opMove rfl rfl)) ?_
  refine ASL.q (v := (.bool (impl_inRange p0 0 3))) rfl rfl ((qCall rfl rfl call_68 (impl_inRange_ok p0 0 3) rfl)) ?_
  refine ASL.q (v := (.bool (impl_inRange p0 0 3))) rfl rfl (Light.quiet (opAssign rfl rfl)) ?_
  refine ASL.done ?_
  refine AWP.ret ?_
  obtain rfl := hF
  exact QRet.sole (v := (.bool (impl_inRange p0 0 3))) ⟨rfl, trivial⟩ rfl

set_option maxRecDepth 10000 in
theorem impl_isBelow_ok {p0 : (List TNode)} {p1 : Int} {r : Bool} (hF : impl_isBelow p0 p1 = some r) : PC Tryz.prog 41 [(.list 3 (List.map TNode.av p0)), (.int .i64 p1)] fun v => v = (.bool r) := by
  refine PC.enter Tryz.func41 rfl Tryz.ntmps41 (by simp) ?_
  have hS := Sep.void; unfold impl_isBelow at hF
  refine AWP.seqR rfl ?_
  refine ASL.q (v := (.bool false)) rfl rfl (Light.quiet (opAssign rfl rfl)) ?_
  refine ASL.done ?_
  refine AWP.seqM (fun e H => E.Told e [] ∧ E.Sep H [] ∧ impl_isBelow.k0 = some r) ?_ ?_
  · rintro e0 G1 ⟨hT, hS, hF⟩; refine AWP.only _ hT ?_; unfold impl_isBelow.k0 at hF
    refine AWP.seqR rfl ?_
    refine ASL.q (v := (.bool true)) rfl rfl (Light.quiet (opAssign rfl rfl)) ?_
    refine ASL.done ?_
    refine AWP.ret ?_
    obtain rfl := someE hF
    exact QRet.sole (v := (.bool true)) ⟨rfl, trivial⟩ rfl
  · skip
    refine AWP.seqR rfl ?_
    refine ASL.q (v := (.list 3 (List.map TNode.av p0))) rfl rfl (Light.quiet (opMove rfl rfl)) ?_
    refine ASL.q (v := (.int .i64 (p0.length : Int))) rfl rfl (Light.quiet (opLenMap (f := TNode.av) rfl rfl rfl lenT_29 rfl)) ?_
    refine ASL.q (v := (.int .i64 0)) rfl rfl (Light.quiet (opMove rfl rfl)) ?_
    refine ASL.done ?_
    refine AWP.block ?_
    obtain ⟨o5, hL4, hR6⟩ := bindE hF
    refine AWP.loopF (ω := Unit) hL4 (fun s w => [(1, (.int .i64 p1)), (7, (.list 3 (List.map TNode.av p0))), (8, (.int .i64 (p0.length : Int))), (9, (.int .i64 s))]) (fun s w => []) () ⟨rfl, rfl, rfl, rfl, trivial⟩ (hS.pick [] rfl rfl) ?_
    rintro x9_l0 _ G7 hS x2 hF hx3
    try dsimp only at hS ⊢
    have hF : impl_isBelow.b0 p0 p1 x9_l0 = some x2 := hF; unfold impl_isBelow.b0 at hF
    refine AWP.seqR rfl ?_
    refine ASL.q (v := (.bool (decide (x9_l0 < ((p0.length : Int)))))) rfl rfl (Light.quiet (opInt rfl rfl rfl rfl)) ?_
    refine ASL.done ?_
    refine AWP.seq ?_
    refine AWP.ifP hF rfl (fun hc8 hF => ?_) (fun hc8 hF => ?_)
    · skip
      refine AWP.skip ?_
      refine QThen.nrm ?_
      refine AWP.seq ?_
      refine AWP.block ?_
      refine AWP.seqR rfl ?_
      obtain ⟨a11, ha11, hF⟩ := bindE hF
      refine ASL.q (v := (.rptr [(.int .i64 a11.kind), (.int .i64 a11.a), (.int .i64 a11.b)])) rfl rfl (Light.quiet (kIx (f := TNode.av) ha11 rfl rfl rfl elemA_29 sizeA_46 rfl)) ?_
      refine ASL.q (v := (TNode.av a11)) rfl rfl (Light.quiet (opLoadRA rfl aggA_46 sizeA_46 rfl (nlt rfl) rfl)) ?_
      refine ASL.x rfl rfl (hNewZ hS [(.int .i64 0), (.int .i64 0), (.int .i64 0)] rfl zeroA_46 ⟨.inl rfl, .inl rfl, .inl rfl, trivial⟩ ?_); rintro b6 G9 hK hS
      refine ASL.n rfl rfl (hPutA hS (j := 0) rfl rfl sizeA_46 rfl rfl rfl rfl rfl (nlt rfl) ?_); rintro G11 hS
      refine ASL.done ?_
      refine AWP.seqR rfl ?_
      refine ASL.q (v := (.ptr b6 0)) rfl rfl (Light.quiet (opFieldAddr rfl fieldA_46_0 rfl rfl)) ?_
      refine ASL.q (v := (.int .i64 a11.kind)) rfl rfl (Light.quiet (kAt hS (j := 0) rfl rfl aggA_3 rfl rfl)) ?_
      refine ASL.q (v := (.bool (decide (a11.kind = 3)))) rfl rfl (Light.quiet (opInt rfl rfl rfl rfl)) ?_
      obtain ⟨c16, hc16, hF⟩ := bndE hF
      refine ASL.q (v := (.bool c16)) rfl rfl ((Quiet.cast (Light.quiet (opMove rfl rfl)) (congrArg AV.bool hc16.symm))) ?_
      refine ASL.g (v := (.ptr b6 1)) (.bool c16) true rfl (wT _) rfl (fun hG => by have q0 := hG; subst q0; exact Light.quiet (opFieldAddr rfl fieldA_46_1 rfl rfl)) ?_
      refine ASL.g (v := (.int .i64 a11.a)) (.bool c16) true rfl (wT _) rfl (fun hG => by have q0 := hG; subst q0; exact Light.quiet (kAt hS (j := 0) rfl rfl aggA_3 rfl rfl)) ?_
      refine ASL.g (v := (.int .i64 p1)) (.bool c16) true rfl (wT _) rfl (fun hG => by have q0 := hG; subst q0; exact Light.quiet (opMove rfl rfl)) ?_
      refine ASL.g (v := (.bool (decide (a11.a ≥ p1)))) (.bool c16) true rfl (wT _) rfl (fun hG => by have q0 := hG; subst q0; exact Light.quiet (opInt rfl rfl rfl rfl)) ?_
      refine ASL.q (v := (.bool (c16 && (decide (a11.a ≥ p1))))) rfl rfl (Light.quiet (opPick (b := c16) rfl rfl (by cases c16 <;> rfl))) ?_
      refine ASL.done ?_
      refine AWP.ifB hF rfl (fun hc12 hF => ?_) (fun hc12 hF => ?_)
      · skip
        refine AWP.seqR rfl ?_
        refine ASL.q (v := (.bool false)) rfl rfl (Light.quiet (opAssign rfl rfl)) ?_
        refine ASL.done ?_
        refine AWP.ret ?_
        refine QBlock.ret ?_
        refine QThen.rt ?_
        refine QThen.rt ?_
        refine QBlock.ret ?_
        refine QThen.rt ?_
        obtain rfl := (hx3 _ (someE hF).symm)
        have hF := hR6
        have hF := sumR hF
        obtain rfl := someE hF
        exact QRet.sole (v := (.bool false)) ⟨rfl, trivial⟩ rfl
      · skip
        refine AWP.skip ?_
        refine QBlock.nrm ?_
        refine QThen.nrm ?_
        refine AWP.lastR rfl ?_
        refine ASL.q (v := (.int .i64 (W (x9_l0 + 1)))) rfl rfl (Light.quiet (opInt rfl rfl rfl rfl)) ?_
        refine ASL.q (v := (.int .i64 (W (x9_l0 + 1)))) rfl rfl (Light.quiet (opMove rfl rfl)) ?_
        refine ASL.done ?_
        refine QThen.nrm ?_
        exact ⟨(W (x9_l0 + 1)), (), (someE hF).symm, ⟨rfl, rfl, rfl, rfl, trivial⟩, (hS.pick [] rfl rfl)⟩
    · skip
      refine AWP.exit ?_
      refine QThen.ext ?_
      refine QThen.ext ?_
      refine QBlock.hit ?_
      obtain rfl := (hx3 _ (someE hF).symm)
      have hF := hR6
      have hF := sumL hF
      refine QThen.nrm ?_
      exact ⟨trivial, (hS.pick [] rfl rfl), hF⟩

set_option maxRecDepth 10000 in
theorem impl_temporal_ok {p0 : (List TNode)} {r : (List Int)} (hF : impl_temporal p0 = some r) : PO Tryz.prog 42 [(.list 3 (List.map TNode.av p0))] 1 (List.map (AV.int .i64) r) := by
  refine HC.enter Tryz.func42 rfl Tryz.ntmps42 (by simp) ?_
  have hS := Sep.void; unfold impl_temporal at hF
  refine AWP.seqR rfl ?_
  have hS := hNil (s := 1) (f := (AV.int .i64)) hS
  refine ASL.q (v := .nil) rfl rfl (Light.quiet (opAssign rfl rfl)) ?_
  refine ASL.done ?_
  refine AWP.seqR rfl ?_
  have hS := hNil (s := 1) (f := (AV.int .i64)) hS
  refine ASL.q (v := .nil) rfl rfl (Light.quiet (opAssign rfl rfl)) ?_
  refine ASL.done ?_
  refine AWP.seqM (fun e H => ∃ y3 : (List Int), ∃ w4 : AV, E.Told e [(3, w4)] ∧ E.Sep H [.row 1 w4 (List.map (AV.int .i64) y3)] ∧ impl_temporal.k0 y3 = some r) ?_ ?_
  · rintro e0 G6 ⟨y3, w4, hT, hS, hF⟩; refine AWP.only _ hT ?_; unfold impl_temporal.k0 at hF
    refine AWP.seqR rfl ?_
    refine ASL.q (v := w4) rfl rfl (Light.quiet (opMove rfl rfl)) ?_
    refine ASL.q (v := w4) rfl rfl (Light.quiet (opAssign rfl rfl)) ?_
    refine ASL.done ?_
    refine AWP.ret ?_
    obtain rfl := someE hF
    exact QRet.sole (v := w4) ⟨rfl, trivial⟩ (hS.get (k := 0) rfl)
  · skip
    refine AWP.seqR rfl ?_
    refine ASL.q (v := (.list 3 (List.map TNode.av p0))) rfl rfl (Light.quiet (opMove rfl rfl)) ?_
    refine ASL.q (v := (.int .i64 (p0.length : Int))) rfl rfl (Light.quiet (opLenMap (f := TNode.av) rfl rfl rfl lenT_29 rfl)) ?_
    refine ASL.q (v := (.int .i64 0)) rfl rfl (Light.quiet (opMove rfl rfl)) ?_
    refine ASL.done ?_
    refine AWP.block ?_
    obtain ⟨o13, hL12, hR14⟩ := bindE hF
    refine AWP.loopF (ω := AV) hL12 (fun s w => [(3, w), (6, (.list 3 (List.map TNode.av p0))), (7, (.int .i64 (p0.length : Int))), (8, (.int .i64 s.2))]) (fun s w => [.row 1 w (List.map (AV.int .i64) s.1)]) .nil ⟨rfl, rfl, rfl, rfl, trivial⟩ (hS.pick [0] rfl rfl) ?_
    rintro ⟨y7, x8_l0⟩ w8 G15 hS x10 hF hx11
    try dsimp only at hS ⊢
    have hF : impl_temporal.b0 p0 y7 x8_l0 = some x10 := hF; unfold impl_temporal.b0 at hF
    refine AWP.seqR rfl ?_
    refine ASL.q (v := (.bool (decide (x8_l0 < ((p0.length : Int)))))) rfl rfl (Light.quiet (opInt rfl rfl rfl rfl)) ?_
    refine ASL.done ?_
    refine AWP.seq ?_
    refine AWP.ifP hF rfl (fun hc16 hF => ?_) (fun hc16 hF => ?_)
    · skip
      refine AWP.skip ?_
      refine QThen.nrm ?_
      refine AWP.seq ?_
      refine AWP.block ?_
      refine AWP.seqR rfl ?_
      refine ASL.q (v := (.int .i64 x8_l0)) rfl rfl (Light.quiet (opMove rfl rfl)) ?_
      obtain ⟨a11, ha11, hF⟩ := bindE hF
      refine ASL.q (v := (.rptr [(.int .i64 a11.kind), (.int .i64 a11.a), (.int .i64 a11.b)])) rfl rfl (Light.quiet (kIx (f := TNode.av) ha11 rfl rfl rfl elemA_29 sizeA_46 rfl)) ?_
      refine ASL.q (v := (TNode.av a11)) rfl rfl (Light.quiet (opLoadRA rfl aggA_46 sizeA_46 rfl (nlt rfl) rfl)) ?_
      refine ASL.x rfl rfl (hNewZ hS [(.int .i64 0), (.int .i64 0), (.int .i64 0)] rfl zeroA_46 ⟨.inl rfl, .inl rfl, .inl rfl, trivial⟩ ?_); rintro b5 G17 hK hS
      refine ASL.q (v := (.int .i64 x8_l0)) rfl rfl (Light.quiet (opAssign rfl rfl)) ?_
      refine ASL.n rfl rfl (hPutA hS (j := 0) rfl rfl sizeA_46 rfl rfl rfl rfl rfl (nlt rfl) ?_); rintro G19 hS
      refine ASL.done ?_
      refine AWP.seqR rfl ?_
      refine ASL.q (v := (.ptr b5 0)) rfl rfl (Light.quiet (opFieldAddr rfl fieldA_46_0 rfl rfl)) ?_
      refine ASL.q (v := (.int .i64 a11.kind)) rfl rfl (Light.quiet (kAt hS (j := 0) rfl rfl aggA_3 rfl rfl)) ?_
      refine ASL.q (v := (.bool (decide (a11.kind ≥ 7)))) rfl rfl (Light.quiet (opInt rfl rfl rfl rfl)) ?_
      refine ASL.done ?_
      refine AWP.ifP hF rfl (fun hc20 hF => ?_) (fun hc20 hF => ?_)
      · skip
        refine AWP.lastR rfl ?_
        refine ASL.q (v := w8) rfl rfl (Light.quiet (opMove rfl rfl)) ?_
        refine ASL.q (v := (.int .i64 x8_l0)) rfl rfl (Light.quiet (opMove rfl rfl)) ?_
        refine ASL.q (v := (.list 1 (List.map (AV.int .i64) [x8_l0]))) rfl rfl ((qLit (xs := [(.int .i64 x8_l0)]) rfl elemA_42 sizeA_3 zeroA_3 rfl rfl rfl rfl (by simp [cells]) (nlt rfl))) ?_
        obtain ⟨z19, hz19, hF⟩ := bindE hF
        refine ASL.x rfl rfl (hApp (f := (AV.int .i64)) (ws := [x8_l0]) hS (j := 1) rfl hz19 rfl elemA_42 rfl sizeA_3 bytesA_3 zeroA_3 rfl rfl rfl (fun _ => rfl) ?_); rintro v19 G21 hS
        refine ASL.q (v := v19) rfl rfl (Light.quiet (opAssign rfl rfl)) ?_
        refine ASL.done ?_
        refine QBlock.nrm ?_
        refine QThen.nrm ?_
        refine AWP.lastR rfl ?_
        refine ASL.q (v := (.int .i64 (W (x8_l0 + 1)))) rfl rfl (Light.quiet (opInt rfl rfl rfl rfl)) ?_
        refine ASL.q (v := (.int .i64 (W (x8_l0 + 1)))) rfl rfl (Light.quiet (opMove rfl rfl)) ?_
        refine ASL.done ?_
        refine QThen.nrm ?_
        exact ⟨(z19, (W (x8_l0 + 1))), v19, (someE hF).symm, ⟨rfl, rfl, rfl, rfl, trivial⟩, (hS.pick [1] rfl rfl)⟩
      · skip
        refine AWP.skip ?_
        refine QBlock.nrm ?_
        refine QThen.nrm ?_
        refine AWP.lastR rfl ?_
        refine ASL.q (v := (.int .i64 (W (x8_l0 + 1)))) rfl rfl (Light.quiet (opInt rfl rfl rfl rfl)) ?_
        refine ASL.q (v := (.int .i64 (W (x8_l0 + 1)))) rfl rfl (Light.quiet (opMove rfl rfl)) ?_
        refine ASL.done ?_
        refine QThen.nrm ?_
        exact ⟨(y7, (W (x8_l0 + 1))), w8, (someE hF).symm, ⟨rfl, rfl, rfl, rfl, trivial⟩, (hS.pick [1] rfl rfl)⟩
    · skip
      refine AWP.exit ?_
      refine QThen.ext ?_
      refine QThen.ext ?_
      refine QBlock.hit ?_
      obtain rfl := (hx11 _ (someE hF).symm)
      have hF := hR14
      refine QThen.nrm ?_
      exact ⟨y7, w8, ⟨rfl, trivial⟩, (hS.pick [0] rfl rfl), hF⟩

set_option maxRecDepth 10000 in
theorem impl_only_ok (p0 : Int) : PC Tryz.prog 43 [(.int .i64 p0)] fun v => v = (.int .i64 (impl_only p0)) := by
  generalize hF : impl_only p0 = r
  refine PC.enter Tryz.func43 rfl Tryz.ntmps43 (by simp) ?_
  have hS := Sep.void; unfold impl_only at hF
  refine AWP.seqR rfl ?_
  refine ASL.q (v := (.int .i64 0)) rfl rfl (Light.quiet (opAssign rfl rfl)) ?_
  refine ASL.done ?_
  refine AWP.seqR rfl ?_
  refine ASL.q (v := (.int .i64 p0)) rfl rfl (Light.quiet (opMove rfl rfl)) ?_
  refine ASL.q (v := (.int .u64 (IntKind.u64.wrap p0))) rfl rfl (Light.quiet (opConv rfl rfl und_3 und_88 rfl)) ?_
  refine ASL.q (v := (.int .i64 (shl .i64 1 ((IntKind.u64.wrap p0))))) rfl rfl (Light.quiet (opShl rfl rfl rfl (wrapU_nn rfl _) rfl)) ?_
  refine ASL.q (v := (.int .i64 (shl .i64 1 ((IntKind.u64.wrap p0))))) rfl rfl (Light.quiet (opAssign rfl rfl)) ?_
  refine ASL.done ?_
  refine AWP.ret ?_
  obtain rfl := hF
  exact QRet.sole (v := (.int .i64 (shl .i64 1 ((IntKind.u64.wrap p0))))) ⟨rfl, trivial⟩ rfl

set_option maxRecDepth 10000 in
theorem slices_Index_int_int_ok {p0 : (List Int)} {p1 : Int} {r : Int} (hF : slices_Index_int_int p0 p1 = some r) : PC Tryz.prog 69 [(.list 1 (List.map (AV.int .i64) p0)), (.int .i64 p1)] fun v => v = (.int .i64 r) := by
  refine PC.enter Tryz.func69 rfl Tryz.ntmps69 (by simp) ?_
  have hS := Sep.void; unfold slices_Index_int_int at hF
  refine AWP.seqR rfl ?_
  refine ASL.q (v := (.int .i64 0)) rfl rfl (Light.quiet (opAssign rfl rfl)) ?_
  refine ASL.done ?_
  refine AWP.seqM (fun e H => E.Told e [] ∧ E.Sep H [] ∧ slices_Index_int_int.k0 = some r) ?_ ?_
  · rintro e0 G1 ⟨hT, hS, hF⟩; refine AWP.only _ hT ?_; unfold slices_Index_int_int.k0 at hF
    refine AWP.seqR rfl ?_
    refine ASL.q (v := (.int .i64 (-1))) rfl rfl (Light.quiet (opAssign rfl rfl)) ?_
    refine ASL.done ?_
    refine AWP.ret ?_
    obtain rfl := someE hF
    exact QRet.sole (v := (.int .i64 (-1))) ⟨rfl, trivial⟩ rfl
  · skip
    refine AWP.seqR rfl ?_
    refine ASL.q (v := (.list 1 (List.map (AV.int .i64) p0))) rfl rfl (Light.quiet (opMove rfl rfl)) ?_
    refine ASL.q (v := (.int .i64 (p0.length : Int))) rfl rfl (Light.quiet (opLenMap (f := (AV.int .i64)) rfl rfl rfl lenT_42 rfl)) ?_
    refine ASL.q (v := (.int .i64 0)) rfl rfl (Light.quiet (opMove rfl rfl)) ?_
    refine ASL.done ?_
    refine AWP.block ?_
    obtain ⟨o5, hL4, hR6⟩ := bindE hF
    refine AWP.loopF (ω := Unit) hL4 (fun s w => [(0, (.list 1 (List.map (AV.int .i64) p0))), (1, (.int .i64 p1)), (7, (.int .i64 (p0.length : Int))), (8, (.int .i64 s))]) (fun s w => []) () ⟨rfl, rfl, rfl, rfl, trivial⟩ (hS.pick [] rfl rfl) ?_
    rintro x8_l0 _ G7 hS x2 hF hx3
    try dsimp only at hS ⊢
    have hF : slices_Index_int_int.b0 p0 p1 x8_l0 = some x2 := hF; unfold slices_Index_int_int.b0 at hF
    refine AWP.seqR rfl ?_
    refine ASL.q (v := (.bool (decide (x8_l0 < ((p0.length : Int)))))) rfl rfl (Light.quiet (opInt rfl rfl rfl rfl)) ?_
    refine ASL.done ?_
    refine AWP.seq ?_
    refine AWP.ifP hF rfl (fun hc8 hF => ?_) (fun hc8 hF => ?_)
    · skip
      refine AWP.skip ?_
      refine QThen.nrm ?_
      refine AWP.seq ?_
      refine AWP.block ?_
      refine AWP.seqR rfl ?_
      refine ASL.q (v := (.int .i64 x8_l0)) rfl rfl (Light.quiet (opMove rfl rfl)) ?_
      refine ASL.q (v := (.int .i64 x8_l0)) rfl rfl (Light.quiet (opAssign rfl rfl)) ?_
      refine ASL.done ?_
      refine AWP.seqR rfl ?_
      refine ASL.q (v := (.int .i64 p1)) rfl rfl (Light.quiet (opMove rfl rfl)) ?_
      refine ASL.q (v := (.list 1 (List.map (AV.int .i64) p0))) rfl rfl (Light.quiet (opMove rfl rfl)) ?_
      refine ASL.q (v := (.int .i64 x8_l0)) rfl rfl (Light.quiet (opMove rfl rfl)) ?_
      obtain ⟨a14, ha14, hF⟩ := bindE hF
      refine ASL.q (v := (.rptr [(.int .i64 a14)])) rfl rfl (Light.quiet (kIx (f := (AV.int .i64)) ha14 rfl rfl rfl elemA_42 sizeA_3 rfl)) ?_
      refine ASL.q (v := (.int .i64 a14)) rfl rfl (Light.quiet (opLoadR rfl aggA_3 rfl rfl)) ?_
      refine ASL.q (v := (.bool (decide (p1 = a14)))) rfl rfl (Light.quiet (opInt rfl rfl rfl rfl)) ?_
      refine ASL.done ?_
      refine AWP.ifP hF rfl (fun hc9 hF => ?_) (fun hc9 hF => ?_)
      · skip
        refine AWP.seqR rfl ?_
        refine ASL.q (v := (.int .i64 x8_l0)) rfl rfl (Light.quiet (opMove rfl rfl)) ?_
        refine ASL.q (v := (.int .i64 x8_l0)) rfl rfl (Light.quiet (opAssign rfl rfl)) ?_
        refine ASL.done ?_
        refine AWP.ret ?_
        refine QBlock.ret ?_
        refine QThen.rt ?_
        refine QThen.rt ?_
        refine QBlock.ret ?_
        refine QThen.rt ?_
        obtain rfl := (hx3 _ (someE hF).symm)
        have hF := hR6
        have hF := sumR hF
        obtain rfl := someE hF
        exact QRet.sole (v := (.int .i64 x8_l0)) ⟨rfl, trivial⟩ rfl
      · skip
        refine AWP.skip ?_
        refine QBlock.nrm ?_
        refine QThen.nrm ?_
        refine AWP.lastR rfl ?_
        refine ASL.q (v := (.int .i64 (W (x8_l0 + 1)))) rfl rfl (Light.quiet (opInt rfl rfl rfl rfl)) ?_
        refine ASL.q (v := (.int .i64 (W (x8_l0 + 1)))) rfl rfl (Light.quiet (opMove rfl rfl)) ?_
        refine ASL.done ?_
        refine QThen.nrm ?_
        exact ⟨(W (x8_l0 + 1)), (), (someE hF).symm, ⟨rfl, rfl, rfl, rfl, trivial⟩, (hS.pick [] rfl rfl)⟩
    · skip
      refine AWP.exit ?_
      refine QThen.ext ?_
      refine QThen.ext ?_
      refine QBlock.hit ?_
      obtain rfl := (hx3 _ (someE hF).symm)
      have hF := hR6
      have hF := sumL hF
      refine QThen.nrm ?_
      exact ⟨trivial, (hS.pick [] rfl rfl), hF⟩

set_option maxRecDepth 10000 in
theorem impl_has_ok (p0 : Int) (p1 : Int) : PC Tryz.prog 71 [(.int .i64 p0), (.int .i64 p1)] fun v => v = (.bool (impl_has p0 p1)) := by
  generalize hF : impl_has p0 p1 = r
  refine PC.enter Tryz.func71 rfl Tryz.ntmps71 (by simp) ?_
  have hS := Sep.void; unfold impl_has at hF
  refine AWP.seqR rfl ?_
  refine ASL.q (v := (.bool false)) rfl rfl (Light.quiet (opAssign rfl rfl)) ?_
  refine ASL.done ?_
  refine AWP.seqR rfl ?_
  refine ASL.q (v := (.int .i64 p0)) rfl rfl (Light.quiet (opMove rfl rfl)) ?_
  refine ASL.q (v := (.int .i64 p1)) rfl rfl (Light.quiet (opMove rfl rfl)) ?_
  refine ASL.q (v := (.int .u64 (IntKind.u64.wrap p1))) rfl rfl (Light.quiet (opConv rfl rfl und_3 und_88 rfl)) ?_
  refine ASL.q (v := (.int .i64 (shr .i64 p0 ((IntKind.u64.wrap p1))))) rfl rfl (Light.quiet (opShr rfl rfl rfl (wrapU_nn rfl _) rfl)) ?_
  refine ASL.q (v := (.int .i64 (bAnd .i64 ((shr .i64 p0 ((IntKind.u64.wrap p1)))) 1))) rfl rfl (Light.quiet (opInt rfl rfl rfl rfl)) ?_
  refine ASL.q (v := (.bool (decide (((bAnd .i64 ((shr .i64 p0 ((IntKind.u64.wrap p1)))) 1)) = 1)))) rfl rfl (Light.quiet (opInt rfl rfl rfl rfl)) ?_
  refine ASL.q (v := (.bool (decide (((bAnd .i64 ((shr .i64 p0 ((IntKind.u64.wrap p1)))) 1)) = 1)))) rfl rfl (Light.quiet (opAssign rfl rfl)) ?_
  refine ASL.done ?_
  refine AWP.ret ?_
  obtain rfl := hF
  exact QRet.sole (v := (.bool (decide (((bAnd .i64 ((shr .i64 p0 ((IntKind.u64.wrap p1)))) 1)) = 1)))) ⟨rfl, trivial⟩ rfl

set_option maxRecDepth 10000 in
theorem impl_plain_ok {p0 : TNode} {p1 : (List Bool)} {p2 : Int} {r : Bool} (hF : impl_plain p0 p1 p2 = some r) : PC Tryz.prog 84 [(TNode.av p0), (.list 1 (List.map AV.bool p1)), (.int .i64 p2)] fun v => v = (.bool r) := by
  refine PC.enter Tryz.func84 rfl Tryz.ntmps84 (by simp) ?_
  have hS := Sep.void; unfold impl_plain at hF
  refine AWP.seqR rfl ?_
  refine ASL.q (v := (.rptr [(.int .i64 p0.kind), (.int .i64 p0.a), (.int .i64 p0.b)])) rfl rfl ((qBoxI (v := (TNode.av p0)) rfl rfl rfl rfl)) ?_
  refine ASL.q (v := (.bool false)) rfl rfl (Light.quiet (opAssign rfl rfl)) ?_
  refine ASL.done ?_
  refine AWP.seq ?_
  refine AWP.seqR rfl ?_
  refine ASL.q (v := (.rptr [(.int .i64 p0.kind), (.int .i64 p0.a), (.int .i64 p0.b)])) rfl rfl (Light.quiet (opFieldAddrR rfl fieldA_46_0 rfl rfl)) ?_
  refine ASL.q (v := (.int .i64 p0.kind)) rfl rfl (Light.quiet (opLoadR rfl aggA_3 rfl rfl)) ?_
  refine ASL.done ?_
  refine AWP.block ?_
  refine AWP.seqR rfl ?_
  refine ASL.q (v := (.bool (decide (p0.kind = 1)))) rfl rfl (Light.quiet (opInt rfl rfl rfl rfl)) ?_
  refine ASL.q (v := (.bool (decide (p0.kind = 1)))) rfl rfl (Light.quiet (opAssign rfl rfl)) ?_
  refine ASL.done ?_
  refine AWP.ifP hF rfl (fun hc1 hF => ?_) (fun hc1 hF => ?_)
  · skip
    refine AWP.seqR rfl ?_
    refine ASL.q (v := (.bool true)) rfl rfl (Light.quiet (opAssign rfl rfl)) ?_
    refine ASL.done ?_
    refine AWP.ret ?_
    refine QBlock.ret ?_
    refine QThen.rt ?_
    obtain rfl := someE hF
    exact QRet.sole (v := (.bool true)) ⟨rfl, trivial⟩ rfl
  · skip
    refine AWP.seqR rfl ?_
    refine ASL.q (v := (.bool (decide (p0.kind = 3)))) rfl rfl (Light.quiet (opInt rfl rfl rfl rfl)) ?_
    refine ASL.q (v := (.bool (decide (p0.kind = 3)))) rfl rfl (Light.quiet (opAssign rfl rfl)) ?_
    refine ASL.done ?_
    refine AWP.ifP hF rfl (fun hc2 hF => ?_) (fun hc2 hF => ?_)
    · skip
      refine AWP.seqR rfl ?_
      refine ASL.q (v := (.int .i64 p2)) rfl rfl (Light.quiet (opMove rfl rfl)) ?_
      refine ASL.q (v := (.rptr [(.int .i64 p0.a), (.int .i64 p0.b)])) rfl rfl (Light.quiet (opFieldAddrR rfl fieldA_46_1 rfl rfl)) ?_
      refine ASL.q (v := (.int .i64 p0.a)) rfl rfl (Light.quiet (opLoadR rfl aggA_3 rfl rfl)) ?_
      refine ASL.q (v := (.bool (impl_has p2 p0.a))) rfl rfl ((qCall rfl rfl call_71 (impl_has_ok p2 p0.a) rfl)) ?_
      refine ASL.q (v := (.bool (impl_has p2 p0.a))) rfl rfl (Light.quiet (opAssign rfl rfl)) ?_
      refine ASL.done ?_
      refine AWP.ret ?_
      refine QBlock.ret ?_
      refine QThen.rt ?_
      obtain rfl := someE hF
      exact QRet.sole (v := (.bool (impl_has p2 p0.a))) ⟨rfl, trivial⟩ rfl
    · skip
      refine AWP.seqR rfl ?_
      refine ASL.q (v := (.bool (decide (p0.kind = 4)))) rfl rfl (Light.quiet (opInt rfl rfl rfl rfl)) ?_
      refine ASL.q (v := (.bool (decide (p0.kind = 4)))) rfl rfl (Light.quiet (opAssign rfl rfl)) ?_
      refine ASL.done ?_
      refine AWP.ifP hF rfl (fun hc3 hF => ?_) (fun hc3 hF => ?_)
      · skip
        refine AWP.seqR rfl ?_
        refine ASL.q (v := (.list 1 (List.map AV.bool p1))) rfl rfl (Light.quiet (opMove rfl rfl)) ?_
        refine ASL.q (v := (.rptr [(.int .i64 p0.a), (.int .i64 p0.b)])) rfl rfl (Light.quiet (opFieldAddrR rfl fieldA_46_1 rfl rfl)) ?_
        refine ASL.q (v := (.int .i64 p0.a)) rfl rfl (Light.quiet (opLoadR rfl aggA_3 rfl rfl)) ?_
        obtain ⟨a22, ha22, hF⟩ := bindE hF
        refine ASL.q (v := (.rptr [(.bool a22)])) rfl rfl (Light.quiet (kIx (f := AV.bool) ha22 rfl rfl rfl elemA_56 sizeA_4 rfl)) ?_
        refine ASL.q (v := (.bool a22)) rfl rfl (Light.quiet (opLoadR rfl aggA_4 rfl rfl)) ?_
        refine ASL.q (v := (.bool (!a22))) rfl rfl (Light.quiet (opNot rfl rfl)) ?_
        refine ASL.q (v := (.bool (!a22))) rfl rfl (Light.quiet (opAssign rfl rfl)) ?_
        refine ASL.done ?_
        refine AWP.ret ?_
        refine QBlock.ret ?_
        refine QThen.rt ?_
        obtain rfl := someE hF
        exact QRet.sole (v := (.bool (!a22))) ⟨rfl, trivial⟩ rfl
      · skip
        refine AWP.seqR rfl ?_
        refine ASL.q (v := (.bool (decide (p0.kind = 5)))) rfl rfl (Light.quiet (opInt rfl rfl rfl rfl)) ?_
        refine ASL.q (v := (.bool (decide (p0.kind = 5)))) rfl rfl (Light.quiet (opAssign rfl rfl)) ?_
        refine ASL.done ?_
        refine AWP.ifP hF rfl (fun hc4 hF => ?_) (fun hc4 hF => ?_)
        · skip
          refine AWP.seqR rfl ?_
          refine ASL.q (v := (.list 1 (List.map AV.bool p1))) rfl rfl (Light.quiet (opMove rfl rfl)) ?_
          refine ASL.q (v := (.rptr [(.int .i64 p0.a), (.int .i64 p0.b)])) rfl rfl (Light.quiet (opFieldAddrR rfl fieldA_46_1 rfl rfl)) ?_
          refine ASL.q (v := (.int .i64 p0.a)) rfl rfl (Light.quiet (opLoadR rfl aggA_3 rfl rfl)) ?_
          obtain ⟨a30, ha30, hF⟩ := bindE hF
          refine ASL.q (v := (.rptr [(.bool a30)])) rfl rfl (Light.quiet (kIx (f := AV.bool) ha30 rfl rfl rfl elemA_56 sizeA_4 rfl)) ?_
          refine ASL.q (v := (.bool a30)) rfl rfl (Light.quiet (opLoadR rfl aggA_4 rfl rfl)) ?_
          refine ASL.q (v := (.bool a30)) rfl rfl (Light.quiet (opMove rfl rfl)) ?_
          refine ASL.g (v := (.list 1 (List.map AV.bool p1))) (.bool a30) true rfl (wT _) rfl (fun hG => by have q0 := hG; subst q0; exact Light.quiet (opMove rfl rfl)) ?_
          refine ASL.g (v := (.rptr [(.int .i64 p0.b)])) (.bool a30) true rfl (wT _) rfl (fun hG => by have q0 := hG; subst q0; exact Light.quiet (opFieldAddrR rfl fieldA_46_2 rfl rfl)) ?_
          refine ASL.g (v := (.int .i64 p0.b)) (.bool a30) true rfl (wT _) rfl (fun hG => by have q0 := hG; subst q0; exact Light.quiet (opLoadR rfl aggA_3 rfl rfl)) ?_
          obtain ⟨a36, ha36, hF⟩ := bindE hF
          refine ASL.g (v := (.rptr [(.bool a36)])) (.bool a30) true rfl (wT _) rfl (fun hG => by have q0 := hG; subst q0; exact Light.quiet (kIx (f := AV.bool) (whenE ha36) rfl rfl rfl elemA_56 sizeA_4 rfl)) ?_
          refine ASL.g (v := (.bool a36)) (.bool a30) true rfl (wT _) rfl (fun hG => by have q0 := hG; subst q0; exact Light.quiet (opLoadR rfl aggA_4 rfl rfl)) ?_
          refine ASL.q (v := (.bool (a30 && a36))) rfl rfl (Light.quiet (opPick (b := a30) rfl rfl (by cases a30 <;> rfl))) ?_
          refine ASL.q (v := (.bool (a30 && a36))) rfl rfl (Light.quiet (opAssign rfl rfl)) ?_
          refine ASL.done ?_
          refine AWP.ret ?_
          refine QBlock.ret ?_
          refine QThen.rt ?_
          obtain rfl := someE hF
          exact QRet.sole (v := (.bool (a30 && a36))) ⟨rfl, trivial⟩ rfl
        · skip
          refine AWP.seqR rfl ?_
          refine ASL.q (v := (.bool (decide (p0.kind = 6)))) rfl rfl (Light.quiet (opInt rfl rfl rfl rfl)) ?_
          refine ASL.q (v := (.bool (decide (p0.kind = 6)))) rfl rfl (Light.quiet (opAssign rfl rfl)) ?_
          refine ASL.done ?_
          refine AWP.ifP hF rfl (fun hc5 hF => ?_) (fun hc5 hF => ?_)
          · skip
            refine AWP.seqR rfl ?_
            refine ASL.q (v := (.list 1 (List.map AV.bool p1))) rfl rfl (Light.quiet (opMove rfl rfl)) ?_
            refine ASL.q (v := (.rptr [(.int .i64 p0.a), (.int .i64 p0.b)])) rfl rfl (Light.quiet (opFieldAddrR rfl fieldA_46_1 rfl rfl)) ?_
            refine ASL.q (v := (.int .i64 p0.a)) rfl rfl (Light.quiet (opLoadR rfl aggA_3 rfl rfl)) ?_
            obtain ⟨a44, ha44, hF⟩ := bindE hF
            refine ASL.q (v := (.rptr [(.bool a44)])) rfl rfl (Light.quiet (kIx (f := AV.bool) ha44 rfl rfl rfl elemA_56 sizeA_4 rfl)) ?_
            refine ASL.q (v := (.bool a44)) rfl rfl (Light.quiet (opLoadR rfl aggA_4 rfl rfl)) ?_
            refine ASL.q (v := (.bool a44)) rfl rfl (Light.quiet (opMove rfl rfl)) ?_
            refine ASL.g (v := (.list 1 (List.map AV.bool p1))) (.bool a44) false rfl (wF _) rfl (fun hG => by have q0 := gN hG; subst q0; exact Light.quiet (opMove rfl rfl)) ?_
            refine ASL.g (v := (.rptr [(.int .i64 p0.b)])) (.bool a44) false rfl (wF _) rfl (fun hG => by have q0 := gN hG; subst q0; exact Light.quiet (opFieldAddrR rfl fieldA_46_2 rfl rfl)) ?_
            refine ASL.g (v := (.int .i64 p0.b)) (.bool a44) false rfl (wF _) rfl (fun hG => by have q0 := gN hG; subst q0; exact Light.quiet (opLoadR rfl aggA_3 rfl rfl)) ?_
            obtain ⟨a50, ha50, hF⟩ := bindE hF
            refine ASL.g (v := (.rptr [(.bool a50)])) (.bool a44) false rfl (wF _) rfl (fun hG => by have q0 := gN hG; subst q0; exact Light.quiet (kIx (f := AV.bool) (whenE ha50) rfl rfl rfl elemA_56 sizeA_4 rfl)) ?_
            refine ASL.g (v := (.bool a50)) (.bool a44) false rfl (wF _) rfl (fun hG => by have q0 := gN hG; subst q0; exact Light.quiet (opLoadR rfl aggA_4 rfl rfl)) ?_
            refine ASL.q (v := (.bool (a44 || a50))) rfl rfl (Light.quiet (opPick (b := a44) rfl rfl (by cases a44 <;> rfl))) ?_
            refine ASL.q (v := (.bool (a44 || a50))) rfl rfl (Light.quiet (opAssign rfl rfl)) ?_
            refine ASL.done ?_
            refine AWP.ret ?_
            refine QBlock.ret ?_
            refine QThen.rt ?_
            obtain rfl := someE hF
            exact QRet.sole (v := (.bool (a44 || a50))) ⟨rfl, trivial⟩ rfl
          · skip
            refine AWP.skip ?_
            refine QBlock.nrm ?_
            refine QThen.nrm ?_
            refine AWP.seqR rfl ?_
            refine ASL.q (v := (.bool false)) rfl rfl (Light.quiet (opAssign rfl rfl)) ?_
            refine ASL.done ?_
            refine AWP.ret ?_
            obtain rfl := someE hF
            exact QRet.sole (v := (.bool false)) ⟨rfl, trivial⟩ rfl

end Go.Proofs.YthdoebgikbfndaaGreat
