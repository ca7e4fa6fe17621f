/- Each of these functions of the program comes to just what its plain function says: FnExactBoxIn. -/
import Derived.Test.YtcmbbpdepobnlaaKBoxInp1
namespace Go.Proofs.Ytcmbbpdepobnlaa
open Go Go.RowKit E
set_option linter.unusedVariables false
set_option maxRecDepth 10000 in
theorem laws_FnExactBoxIn_ok {p0 : TAuto} {p1 : TAuto} {r : Bool} (hF : laws_FnExactBoxIn p0 p1 = some r) : PC Try.prog 7 [(TAuto.av p0), (TAuto.av p1)] fun v => v = (.bool r) := by
  refine PC.enter Try.func7 rfl Try.ntmps7 (by simp) ?_
  have hS := Sep.void; unfold laws_FnExactBoxIn at hF
  refine AWP.seqR rfl ?_
  refine ASL.q (v := (.rptr [(.int .i64 p0.letters), (.int .i64 p0.states), (.int .i64 p0.start), (.list 4 (List.map TEdge.av p0.edges))])) rfl rfl ((qBoxI (v := (TAuto.av p0)) rfl rfl rfl rfl)) ?_
  refine ASL.q (v := (.rptr [(.int .i64 p1.letters), (.int .i64 p1.states), (.int .i64 p1.start), (.list 4 (List.map TEdge.av p1.edges))])) rfl rfl ((qBoxI (v := (TAuto.av p1)) rfl rfl rfl rfl)) ?_
  refine ASL.q (v := (.bool false)) rfl rfl (Light.quiet (opAssign rfl rfl)) ?_
  refine ASL.done ?_
  refine AWP.seqR rfl ?_
  refine ASL.q (v := (.int .i64 1048576)) rfl rfl (Light.quiet (opAssign rfl rfl)) ?_
  refine ASL.done ?_
  refine AWP.seqR rfl ?_
  refine ASL.q (v := (TAuto.av p0)) rfl rfl (Light.quiet (opLoadRA rfl aggA_54 sizeA_54 rfl (nlt rfl) rfl)) ?_
  refine ASL.q (v := (.int .i64 1048576)) rfl rfl (Light.quiet (opMove rfl rfl)) ?_
  refine ASL.q (v := (.int .i64 (laws_szAuto p0 1048576))) rfl rfl ((qCall rfl rfl call_27 (laws_szAuto_ok p0 1048576) rfl)) ?_
  refine ASL.q (v := (.int .i64 (laws_szAuto p0 1048576))) rfl rfl (Light.quiet (opAssign rfl rfl)) ?_
  refine ASL.done ?_
  refine AWP.seq ?_
  refine AWP.seqR rfl ?_
  refine ASL.q (v := (.int .i64 (laws_szAuto p0 1048576))) rfl rfl (Light.quiet (opMove rfl rfl)) ?_
  refine ASL.q (v := (.bool (decide (((laws_szAuto p0 1048576)) < 0)))) rfl rfl (Light.quiet (opInt rfl rfl rfl rfl)) ?_
  refine ASL.done ?_
  refine AWP.ifP hF rfl (fun hc1 hF => ?_) (fun hc1 hF => ?_)
  · skip
    refine AWP.seqR rfl ?_
    refine ASL.q (v := (.bool true)) rfl rfl (Light.quiet (opAssign rfl rfl)) ?_
    refine ASL.done ?_
    refine AWP.ret ?_
    refine QThen.rt ?_
    obtain rfl := someE hF
    exact QRet.sole (v := (.bool true)) ⟨rfl, trivial⟩ rfl
  · skip
    refine AWP.skip ?_
    refine QThen.nrm ?_
    refine AWP.seqR rfl ?_
    refine ASL.q (v := (TAuto.av p1)) rfl rfl (Light.quiet (opLoadRA rfl aggA_54 sizeA_54 rfl (nlt rfl) rfl)) ?_
    refine ASL.q (v := (.int .i64 (laws_szAuto p0 1048576))) rfl rfl (Light.quiet (opMove rfl rfl)) ?_
    refine ASL.q (v := (.int .i64 (laws_szAuto p1 ((laws_szAuto p0 1048576))))) rfl rfl ((qCall rfl rfl call_27 (laws_szAuto_ok p1 ((laws_szAuto p0 1048576))) rfl)) ?_
    refine ASL.q (v := (.int .i64 (laws_szAuto p1 ((laws_szAuto p0 1048576))))) rfl rfl (Light.quiet (opAssign rfl rfl)) ?_
    refine ASL.done ?_
    refine AWP.seq ?_
    refine AWP.seqR rfl ?_
    refine ASL.q (v := (.int .i64 (laws_szAuto p1 ((laws_szAuto p0 1048576))))) rfl rfl (Light.quiet (opMove rfl rfl)) ?_
    refine ASL.q (v := (.bool (decide (((laws_szAuto p1 ((laws_szAuto p0 1048576)))) < 0)))) rfl rfl (Light.quiet (opInt rfl rfl rfl rfl)) ?_
    refine ASL.done ?_
    refine AWP.ifP hF rfl (fun hc2 hF => ?_) (fun hc2 hF => ?_)
    · skip
      refine AWP.seqR rfl ?_
      refine ASL.q (v := (.bool true)) rfl rfl (Light.quiet (opAssign rfl rfl)) ?_
      refine ASL.done ?_
      refine AWP.ret ?_
      refine QThen.rt ?_
      obtain rfl := someE hF
      exact QRet.sole (v := (.bool true)) ⟨rfl, trivial⟩ rfl
    · skip
      refine AWP.skip ?_
      refine QThen.nrm ?_
      obtain ⟨a29, ha29, hF⟩ := bindE hF
      obtain ⟨a31, ha31, hF⟩ := bindE hF
      obtain ⟨a32, ha32, hF⟩ := bindE hF
      refine AWP.seqT (fun e H => ∃ b7 : Nat, ∃ w1003 : AV, ∃ w1005 : AV, ∃ w803 : AV, ∃ w403 : AV, E.Told e [(2, (.rptr [(.int .i64 p0.letters), (.int .i64 p0.states), (.int .i64 p0.start), (.list 4 (List.map TEdge.av p0.edges))])), (3, (.rptr [(.int .i64 p1.letters), (.int .i64 p1.states), (.int .i64 p1.start), (.list 4 (List.map TEdge.av p1.edges))])), (6, (.int .i64 a32.1)), (7, (.ptr b7 0))] ∧ E.Sep H [.cell b7 [w1003, w1005], .row 1 w1003 (List.map (AV.int .i64) a32.2.stem), .row 1 w1005 (List.map (AV.int .i64) a32.2.loop), .row 4 w803 (List.map TEdge.av a31.edges), .row 4 w403 (List.map TEdge.av a29.edges)]) (.q 0 (.q 2 (.fork (.h 1 (.fork (.h 3 (.fork (.h 4 (.q 5 (.q 6 (.q 7 (.h 8 (.q 9 (.h 10 .fin))))))) (.h 8 (.h 4 (.q 5 (.q 6 (.q 7 (.q 9 (.h 10 .fin))))))))) (.h 8 (.h 3 (.h 4 (.q 5 (.q 6 (.q 7 (.q 9 (.h 10 .fin)))))))))) (.h 8 (.h 1 (.h 3 (.h 4 (.q 5 (.q 6 (.q 7 (.q 9 (.h 10 .fin)))))))))))) mixed (by kernel_rfl) ?_ ?_
      · rintro e0 G2603 ⟨b7, w1003, w1005, w803, w403, hT, hS⟩; refine AWP.only _ hT ?_
        refine AWP.seqR rfl ?_
        refine ASL.q (v := (TAuto.av p0)) rfl rfl (Light.quiet (opLoadRA rfl aggA_54 sizeA_54 rfl (nlt rfl) rfl)) ?_
        obtain ⟨a36, ha36, hF⟩ := bindE hF
        refine ASL.x rfl rfl (hCallSR hS rfl rfl call_28 (laws_toAuto_ok ha36) ⟨.same _, trivial⟩ (by rintro _ _ G ⟨w2604, rfl, rfl⟩ hG; exact ⟨(Scal.agg (ScalC.cons (by constructor) (ScalC.cons (by constructor) (ScalC.cons (by constructor) (ScalC.cons (hG.scR (k := 0) rfl) ScalC.nil))))), ⟨(Scal.row (fun _ => by simp only [TEdge.av, cells, List.mem_cons, List.not_mem_nil, or_false]; rintro c hc; rcases hc with rfl | rfl | rfl | rfl <;> constructor)), trivial⟩⟩) ?_); rintro _ _ G2606 ⟨w2604, rfl, rfl⟩ hK hS
        have hS := hNil (s := 4) (f := TEdge.av) hS
        refine ASL.x rfl rfl (hNewZ hS [(.int .i64 0), (.int .i64 0), (.int .i64 0), .nil] rfl zeroA_26 ⟨.inl rfl, .inl rfl, .inl rfl, .inl rfl, trivial⟩ ?_); rintro b8 G2607 hK hS
        refine ASL.n rfl rfl (hPutA hS (j := 0) rfl rfl sizeA_26 rfl rfl rfl rfl (allC rfl (allC rfl (allC rfl (allC (hS.one (k := 2) rfl) rfl)))) (nlt rfl) ?_); rintro G2610 hS
        refine ASL.done ?_
        refine AWP.seqR rfl ?_
        refine ASL.q (v := (TAuto.av p1)) rfl rfl (Light.quiet (opLoadRA rfl aggA_54 sizeA_54 rfl (nlt rfl) rfl)) ?_
        obtain ⟨a38, ha38, hF⟩ := bindE hF
        refine ASL.x rfl rfl (hCallSR hS rfl rfl call_28 (laws_toAuto_ok ha38) ⟨.same _, trivial⟩ (by rintro _ _ G ⟨w2611, rfl, rfl⟩ hG; exact ⟨(Scal.agg (ScalC.cons (by constructor) (ScalC.cons (by constructor) (ScalC.cons (by constructor) (ScalC.cons (hG.scR (k := 0) rfl) ScalC.nil))))), ⟨(Scal.row (fun _ => by simp only [TEdge.av, cells, List.mem_cons, List.not_mem_nil, or_false]; rintro c hc; rcases hc with rfl | rfl | rfl | rfl <;> constructor)), trivial⟩⟩) ?_); rintro _ _ G2613 ⟨w2611, rfl, rfl⟩ hK hS
        have hS := hNil (s := 4) (f := TEdge.av) hS
        refine ASL.x rfl rfl (hNewZ hS [(.int .i64 0), (.int .i64 0), (.int .i64 0), .nil] rfl zeroA_26 ⟨.inl rfl, .inl rfl, .inl rfl, .inl rfl, trivial⟩ ?_); rintro b9 G2614 hK hS
        refine ASL.n rfl rfl (hPutA hS (j := 0) rfl rfl sizeA_26 rfl rfl rfl rfl (allC rfl (allC rfl (allC rfl (allC (hS.one (k := 2) rfl) rfl)))) (nlt rfl) ?_); rintro G2617 hS
        refine ASL.done ?_
        refine AWP.seqR rfl ?_
        refine ASL.q (v := (.agg [(.int .i64 a36.letters), (.int .i64 a36.states), (.int .i64 a36.start), w2604])) rfl rfl (Light.quiet (kAtA hS (j := 3) rfl rfl aggA_26 sizeA_26 rfl (nlt rfl) rfl)) ?_
        refine ASL.q (v := (.agg [(.int .i64 a38.letters), (.int .i64 a38.states), (.int .i64 a38.start), w2611])) rfl rfl (Light.quiet (kAtA hS (j := 0) rfl rfl aggA_26 sizeA_26 rfl (nlt rfl) rfl)) ?_
        obtain ⟨a42, ha42, hF⟩ := bindE hF
        refine ASL.x rfl rfl (hCallSR hS rfl rfl call_35 (impl_BoxIn_ok ha42) ⟨.aggL ⟨.same _, .same _, .same _, .row (k := 5) rfl, trivial⟩, .aggL ⟨.same _, .same _, .same _, .row (k := 2) rfl, trivial⟩, trivial⟩ (by rintro _ _ G ⟨w2618, w2620, rfl, rfl⟩ hG; exact ⟨(Scal.tup (ScalC.cons (by constructor) (ScalC.cons (Scal.agg (ScalC.cons (hG.scR (k := 0) rfl) (ScalC.cons (hG.scR (k := 1) rfl) ScalC.nil))) ScalC.nil))), ⟨(Scal.ints _ _), (Scal.ints _ _), trivial⟩⟩) ?_); rintro _ _ G2622 ⟨w2618, w2620, rfl, rfl⟩ hK hS
        refine ASL.q (v := (.tup [(.int .i64 a42.1), (.agg [w2618, w2620])])) rfl rfl (Light.quiet (opMove rfl rfl)) ?_
        refine ASL.q (v := (.int .i64 a42.1)) rfl rfl (Light.quiet (opExtract rfl rfl rfl)) ?_
        refine ASL.q (v := (.agg [w2618, w2620])) rfl rfl (Light.quiet (opExtract rfl rfl rfl)) ?_
        have hS := hNil (s := 1) (f := (AV.int .i64)) hS
        have hS := hNil (s := 1) (f := (AV.int .i64)) hS
        refine ASL.x rfl rfl (hNewZ hS [.nil, .nil] rfl zeroA_29 ⟨.inl rfl, .inl rfl, trivial⟩ ?_); rintro b11 G2623 hK hS
        refine ASL.q (v := (.int .i64 a42.1)) rfl rfl (Light.quiet (opAssign rfl rfl)) ?_
        refine ASL.n rfl rfl (hPutA hS (j := 0) rfl rfl sizeA_29 rfl rfl rfl rfl (allC (hS.one (k := 3) rfl) (allC (hS.one (k := 4) rfl) rfl)) (nlt rfl) ?_); rintro G2627 hS
        refine ASL.done ?_
        refine AWP.seq ?_
        refine AWP.seqR rfl ?_
        refine ASL.q (v := (.int .i64 a42.1)) rfl rfl (Light.quiet (opMove rfl rfl)) ?_
        refine ASL.q (v := (.int .i64 a32.1)) rfl rfl (Light.quiet (opMove rfl rfl)) ?_
        refine ASL.q (v := (.bool (decide (a42.1 ≠ a32.1)))) rfl rfl (Light.quiet (opInt rfl rfl rfl rfl)) ?_
        obtain ⟨c48, hc48, hF⟩ := bndE hF
        refine ASL.q (v := (.bool c48)) rfl rfl ((Quiet.cast (Light.quiet (opMove rfl rfl)) (congrArg AV.bool hc48.symm))) ?_
        refine ASL.g (v := (.agg [w2618, w2620])) (.bool c48) false rfl (wF _) rfl (fun hG => by have q0 := gN hG; subst q0; exact Light.quiet (kAtA hS (j := 0) rfl rfl aggA_29 sizeA_29 rfl (nlt rfl) rfl)) ?_
        refine ASL.g (v := (.agg [w1003, w1005])) (.bool c48) false rfl (wF _) rfl (fun hG => by have q0 := gN hG; subst q0; exact Light.quiet (kAtA hS (j := 11) rfl rfl aggA_29 sizeA_29 rfl (nlt rfl) rfl)) ?_
        obtain ⟨a51, ha51, hF⟩ := bindE hF
        refine ASL.g (v := (.bool a51)) (.bool c48) false rfl (wF _) rfl (fun hG => by have q0 := gN hG; subst q0; exact (qCallR hS rfl rfl call_36 (laws_eqWord_ok (whenE ha51)) ⟨.aggL ⟨.row (k := 3) rfl, .row (k := 4) rfl, trivial⟩, .aggL ⟨.row (k := 12) rfl, .row (k := 13) rfl, trivial⟩, trivial⟩ (by constructor))) ?_
        refine ASL.g (v := (.bool (!a51))) (.bool c48) false rfl (wF _) rfl (fun hG => by have q0 := gN hG; subst q0; exact Light.quiet (opNot rfl rfl)) ?_
        refine ASL.q (v := (.bool (c48 || (!a51)))) rfl rfl (Light.quiet (opPick (b := c48) rfl rfl (by cases c48 <;> rfl))) ?_
        refine ASL.done ?_
        refine AWP.ifB hF rfl (fun hc2628 hF => ?_) (fun hc2628 hF => ?_)
        · skip
          refine AWP.seqR rfl ?_
          refine ASL.q (v := (.bool false)) rfl rfl (Light.quiet (opAssign rfl rfl)) ?_
          refine ASL.done ?_
          refine AWP.ret ?_
          refine QThen.rt ?_
          obtain rfl := someE hF
          exact QRet.sole (v := (.bool false)) ⟨rfl, trivial⟩ rfl
        · skip
          refine AWP.skip ?_
          refine QThen.nrm ?_
          refine AWP.seq ?_
          refine AWP.seqD [(0, false), (1, false), (2, true), (3, false), (4, false)] mixed (by kernel_rfl) rfl ?_
          refine ARL.q (v := (.agg [(.int .i64 a36.letters), (.int .i64 a36.states), (.int .i64 a36.start), w2604])) rfl rfl (hS.aliveC (k := 8) rfl) (Light.quiet (kAtA hS (j := 8) rfl rfl aggA_26 sizeA_26 rfl (nlt rfl) rfl)) ?_
          refine ARL.q0 (v := (TAuto.av p0)) rfl rfl (Light.quiet (opLoadRA rfl aggA_54 sizeA_54 rfl (nlt rfl) rfl)) ?_
          obtain ⟨a56, ha56, hF⟩ := bindE hF
          refine ARL.x rfl rfl rfl (hCallSR hS rfl rfl call_28 (laws_toAuto_ok ha56) ⟨.same _, trivial⟩ (by rintro _ _ G ⟨w2629, rfl, rfl⟩ hG; exact ⟨(Scal.agg (ScalC.cons (by constructor) (ScalC.cons (by constructor) (ScalC.cons (by constructor) (ScalC.cons (hG.scR (k := 0) rfl) ScalC.nil))))), ⟨(Scal.row (fun _ => by simp only [TEdge.av, cells, List.mem_cons, List.not_mem_nil, or_false]; rintro c hc; rcases hc with rfl | rfl | rfl | rfl <;> constructor)), trivial⟩⟩) ?_); rintro _ _ G2631 ⟨w2629, rfl, rfl⟩ hK hS; refine ⟨hK, ?_⟩
          obtain ⟨a57, ha57, hF⟩ := bindE hF
          refine ARL.q (v := (.bool a57)) rfl rfl (hS.aliveAll) ((qCallR hS rfl rfl call_30 (laws_eqAuto_ok ha57) ⟨.aggL ⟨.same _, .same _, .same _, .row (k := 11) rfl, trivial⟩, .aggL ⟨.same _, .same _, .same _, .row (k := 0) rfl, trivial⟩, trivial⟩ (by constructor))) ?_
          refine ARL.q0 (v := (.bool (!a57))) rfl rfl (Light.quiet (opNot rfl rfl)) ?_
          refine ARL.done ?_
          refine AWP.ifB hF rfl (fun hc2632 hF => ?_) (fun hc2632 hF => ?_)
          · skip
            refine AWP.seqR rfl ?_
            refine ASL.q (v := (.bool false)) rfl rfl (Light.quiet (opAssign rfl rfl)) ?_
            refine ASL.done ?_
            refine AWP.ret ?_
            refine QThen.rt ?_
            obtain rfl := someE hF
            exact QRet.sole (v := (.bool false)) ⟨rfl, trivial⟩ rfl
          · skip
            refine AWP.skip ?_
            refine QThen.nrm ?_
            refine AWP.seq ?_
            refine AWP.seqD [(0, false), (1, false), (2, true), (3, false), (4, false)] mixed (by kernel_rfl) rfl ?_
            refine ARL.q (v := (.agg [(.int .i64 a38.letters), (.int .i64 a38.states), (.int .i64 a38.start), w2611])) rfl rfl (hS.aliveC (k := 6) rfl) (Light.quiet (kAtA hS (j := 6) rfl rfl aggA_26 sizeA_26 rfl (nlt rfl) rfl)) ?_
            refine ARL.q0 (v := (TAuto.av p1)) rfl rfl (Light.quiet (opLoadRA rfl aggA_54 sizeA_54 rfl (nlt rfl) rfl)) ?_
            obtain ⟨a61, ha61, hF⟩ := bindE hF
            refine ARL.x rfl rfl rfl (hCallSR hS rfl rfl call_28 (laws_toAuto_ok ha61) ⟨.same _, trivial⟩ (by rintro _ _ G ⟨w2633, rfl, rfl⟩ hG; exact ⟨(Scal.agg (ScalC.cons (by constructor) (ScalC.cons (by constructor) (ScalC.cons (by constructor) (ScalC.cons (hG.scR (k := 0) rfl) ScalC.nil))))), ⟨(Scal.row (fun _ => by simp only [TEdge.av, cells, List.mem_cons, List.not_mem_nil, or_false]; rintro c hc; rcases hc with rfl | rfl | rfl | rfl <;> constructor)), trivial⟩⟩) ?_); rintro _ _ G2635 ⟨w2633, rfl, rfl⟩ hK hS; refine ⟨hK, ?_⟩
            obtain ⟨a62, ha62, hF⟩ := bindE hF
            refine ARL.q (v := (.bool a62)) rfl rfl (hS.aliveAll) ((qCallR hS rfl rfl call_30 (laws_eqAuto_ok ha62) ⟨.aggL ⟨.same _, .same _, .same _, .row (k := 9) rfl, trivial⟩, .aggL ⟨.same _, .same _, .same _, .row (k := 0) rfl, trivial⟩, trivial⟩ (by constructor))) ?_
            refine ARL.q0 (v := (.bool (!a62))) rfl rfl (Light.quiet (opNot rfl rfl)) ?_
            refine ARL.done ?_
            refine AWP.ifB hF rfl (fun hc2636 hF => ?_) (fun hc2636 hF => ?_)
            · skip
              refine AWP.seqR rfl ?_
              refine ASL.q (v := (.bool false)) rfl rfl (Light.quiet (opAssign rfl rfl)) ?_
              refine ASL.done ?_
              refine AWP.ret ?_
              refine QThen.rt ?_
              obtain rfl := someE hF
              exact QRet.sole (v := (.bool false)) ⟨rfl, trivial⟩ rfl
            · skip
              refine AWP.skip ?_
              refine QThen.nrm ?_
              refine AWP.seqR rfl ?_
              refine ASL.q (v := (.int .i64 1)) rfl rfl (Light.quiet (opAssign rfl rfl)) ?_
              refine ASL.done ?_
              refine AWP.seqR rfl ?_
              refine ASL.q (v := (.agg [(.int .i64 a36.letters), (.int .i64 a36.states), (.int .i64 a36.start), w2604])) rfl rfl (Light.quiet (kAtA hS (j := 10) rfl rfl aggA_26 sizeA_26 rfl (nlt rfl) rfl)) ?_
              refine ASL.q (v := (.int .i64 1)) rfl rfl (Light.quiet (opMove rfl rfl)) ?_
              obtain ⟨a66, ha66, hF⟩ := bindE hF
              refine ASL.x rfl rfl (hCallS hS [12, 0, 1, 2, 3, 4, 5, 6, 7, 8, 9, 10, 11, 13, 14, 15, 16, 17] (F := [.row 4 w2633 (List.map TEdge.av a61.edges), .row 4 w2629 (List.map TEdge.av a56.edges), .cell b11 [w2618, w2620], .row 1 .nil (List.map (AV.int .i64) ([])), .row 1 .nil (List.map (AV.int .i64) ([])), .row 1 w2618 (List.map (AV.int .i64) a42.2.stem), .row 1 w2620 (List.map (AV.int .i64) a42.2.loop), .cell b9 [(.int .i64 a38.letters), (.int .i64 a38.states), (.int .i64 a38.start), w2611], .row 4 .nil (List.map TEdge.av ([])), .row 4 w2611 (List.map TEdge.av a38.edges), .cell b8 [(.int .i64 a36.letters), (.int .i64 a36.states), (.int .i64 a36.start), w2604], .row 4 .nil (List.map TEdge.av ([])), .cell b7 [w1003, w1005], .row 1 w1003 (List.map (AV.int .i64) a32.2.stem), .row 1 w1005 (List.map (AV.int .i64) a32.2.loop), .row 4 w803 (List.map TEdge.av a31.edges), .row 4 w403 (List.map TEdge.av a29.edges)]) rfl rfl rfl call_31 (laws_markAuto_ok ha66) rfl rfl ?_); rintro _ _ G2637 ⟨rfl, rfl⟩ hS
              refine ASL.q (v := (.int .i64 a66.1)) rfl rfl (Light.quiet (opAssign rfl rfl)) ?_
              refine ASL.done ?_
              refine AWP.seqR rfl ?_
              refine ASL.q (v := (.agg [(.int .i64 a38.letters), (.int .i64 a38.states), (.int .i64 a38.start), w2611])) rfl rfl (Light.quiet (kAtA hS (j := 8) rfl rfl aggA_26 sizeA_26 rfl (nlt rfl) rfl)) ?_
              refine ASL.q (v := (.int .i64 a66.1)) rfl rfl (Light.quiet (opMove rfl rfl)) ?_
              obtain ⟨a69, ha69, hF⟩ := bindE hF
              refine ASL.x rfl rfl (hCallS hS [10, 0, 1, 2, 3, 4, 5, 6, 7, 8, 9, 11, 12, 13, 14, 15, 16, 17] (F := [.row 4 w2604 (List.map TEdge.av a66.2.edges), .row 4 w2633 (List.map TEdge.av a61.edges), .row 4 w2629 (List.map TEdge.av a56.edges), .cell b11 [w2618, w2620], .row 1 .nil (List.map (AV.int .i64) ([])), .row 1 .nil (List.map (AV.int .i64) ([])), .row 1 w2618 (List.map (AV.int .i64) a42.2.stem), .row 1 w2620 (List.map (AV.int .i64) a42.2.loop), .cell b9 [(.int .i64 a38.letters), (.int .i64 a38.states), (.int .i64 a38.start), w2611], .row 4 .nil (List.map TEdge.av ([])), .cell b8 [(.int .i64 a36.letters), (.int .i64 a36.states), (.int .i64 a36.start), w2604], .row 4 .nil (List.map TEdge.av ([])), .cell b7 [w1003, w1005], .row 1 w1003 (List.map (AV.int .i64) a32.2.stem), .row 1 w1005 (List.map (AV.int .i64) a32.2.loop), .row 4 w803 (List.map TEdge.av a31.edges), .row 4 w403 (List.map TEdge.av a29.edges)]) rfl rfl rfl call_31 (laws_markAuto_ok ha69) rfl rfl ?_); rintro _ _ G2638 ⟨rfl, rfl⟩ hS
              refine ASL.q (v := (.int .i64 a69.1)) rfl rfl (Light.quiet (opAssign rfl rfl)) ?_
              refine ASL.done ?_
              refine AWP.seq ?_
              refine AWP.seqR rfl ?_
              refine ASL.q (v := (.int .i64 a69.1)) rfl rfl (Light.quiet (opMove rfl rfl)) ?_
              refine ASL.q (v := (.bool (decide (a69.1 < 0)))) rfl rfl (Light.quiet (opInt rfl rfl rfl rfl)) ?_
              obtain ⟨c72, hc72, hF⟩ := bndE hF
              refine ASL.q (v := (.bool c72)) rfl rfl ((Quiet.cast (Light.quiet (opMove rfl rfl)) (congrArg AV.bool hc72.symm))) ?_
              refine ASL.g (v := (.int .i64 a42.1)) (.bool c72) false rfl (wF _) rfl (fun hG => by have q0 := gN hG; subst q0; exact Light.quiet (opMove rfl rfl)) ?_
              refine ASL.g (v := (.int .i64 a32.1)) (.bool c72) false rfl (wF _) rfl (fun hG => by have q0 := gN hG; subst q0; exact Light.quiet (opMove rfl rfl)) ?_
              refine ASL.g (v := (.bool (decide (a42.1 ≠ a32.1)))) (.bool c72) false rfl (wF _) rfl (fun hG => by have q0 := gN hG; subst q0; exact Light.quiet (opInt rfl rfl rfl rfl)) ?_
              refine ASL.q (v := (.bool (c72 || (decide (a42.1 ≠ a32.1))))) rfl rfl (Light.quiet (opPick (b := c72) rfl rfl (by cases c72 <;> rfl))) ?_
              obtain ⟨c77, hc77, hF⟩ := bndE hF
              refine ASL.q (v := (.bool c77)) rfl rfl ((Quiet.cast (Light.quiet (opMove rfl rfl)) (congrArg AV.bool hc77.symm))) ?_
              refine ASL.g (v := (.agg [w2618, w2620])) (.bool c77) false rfl (wF _) rfl (fun hG => by have q0 := gN hG; subst q0; exact Light.quiet (kAtA hS (j := 4) rfl rfl aggA_29 sizeA_29 rfl (nlt rfl) rfl)) ?_
              refine ASL.g (v := (.agg [w1003, w1005])) (.bool c77) false rfl (wF _) rfl (fun hG => by have q0 := gN hG; subst q0; exact Light.quiet (kAtA hS (j := 13) rfl rfl aggA_29 sizeA_29 rfl (nlt rfl) rfl)) ?_
              obtain ⟨a80, ha80, hF⟩ := bindE hF
              refine ASL.g (v := (.bool a80)) (.bool c77) false rfl (wF _) rfl (fun hG => by have q0 := gN hG; subst q0; exact (qCallR hS rfl rfl call_36 (laws_eqWord_ok (whenE ha80)) ⟨.aggL ⟨.row (k := 7) rfl, .row (k := 8) rfl, trivial⟩, .aggL ⟨.row (k := 14) rfl, .row (k := 15) rfl, trivial⟩, trivial⟩ (by constructor))) ?_
              refine ASL.g (v := (.bool (!a80))) (.bool c77) false rfl (wF _) rfl (fun hG => by have q0 := gN hG; subst q0; exact Light.quiet (opNot rfl rfl)) ?_
              refine ASL.q (v := (.bool (c77 || (!a80)))) rfl rfl (Light.quiet (opPick (b := c77) rfl rfl (by cases c77 <;> rfl))) ?_
              refine ASL.done ?_
              refine AWP.ifB hF rfl (fun hc2639 hF => ?_) (fun hc2639 hF => ?_)
              · skip
                refine AWP.seqR rfl ?_
                refine ASL.q (v := (.bool false)) rfl rfl (Light.quiet (opAssign rfl rfl)) ?_
                refine ASL.done ?_
                refine AWP.ret ?_
                refine QThen.rt ?_
                obtain rfl := someE hF
                exact QRet.sole (v := (.bool false)) ⟨rfl, trivial⟩ rfl
              · skip
                refine AWP.skip ?_
                refine QThen.nrm ?_
                refine AWP.seqR rfl ?_
                refine ASL.q (v := (.int .i64 1)) rfl rfl (Light.quiet (opAssign rfl rfl)) ?_
                refine ASL.done ?_
                refine AWP.seqR rfl ?_
                refine ASL.q (v := (.agg [w2618, w2620])) rfl rfl (Light.quiet (kAtA hS (j := 4) rfl rfl aggA_29 sizeA_29 rfl (nlt rfl) rfl)) ?_
                refine ASL.q (v := (.int .i64 1)) rfl rfl (Light.quiet (opMove rfl rfl)) ?_
                obtain ⟨a85, ha85, hF⟩ := bindE hF
                refine ASL.x rfl rfl (hCallS hS [7, 8, 0, 1, 2, 3, 4, 5, 6, 9, 10, 11, 12, 13, 14, 15, 16, 17] (F := [.row 4 w2611 (List.map TEdge.av a69.2.edges), .row 4 w2604 (List.map TEdge.av a66.2.edges), .row 4 w2633 (List.map TEdge.av a61.edges), .row 4 w2629 (List.map TEdge.av a56.edges), .cell b11 [w2618, w2620], .row 1 .nil (List.map (AV.int .i64) ([])), .row 1 .nil (List.map (AV.int .i64) ([])), .cell b9 [(.int .i64 a38.letters), (.int .i64 a38.states), (.int .i64 a38.start), w2611], .row 4 .nil (List.map TEdge.av ([])), .cell b8 [(.int .i64 a36.letters), (.int .i64 a36.states), (.int .i64 a36.start), w2604], .row 4 .nil (List.map TEdge.av ([])), .cell b7 [w1003, w1005], .row 1 w1003 (List.map (AV.int .i64) a32.2.stem), .row 1 w1005 (List.map (AV.int .i64) a32.2.loop), .row 4 w803 (List.map TEdge.av a31.edges), .row 4 w403 (List.map TEdge.av a29.edges)]) rfl rfl rfl call_37 (laws_markWord_ok ha85) rfl rfl ?_); rintro _ _ G2640 ⟨rfl, rfl⟩ hS
                refine ASL.q (v := (.int .i64 a85.1)) rfl rfl (Light.quiet (opAssign rfl rfl)) ?_
                refine ASL.done ?_
                refine AWP.seqR rfl ?_
                refine ASL.q (v := (.int .i64 1)) rfl rfl (Light.quiet (opAssign rfl rfl)) ?_
                refine ASL.done ?_
                refine AWP.seqR rfl ?_
                refine ASL.q (v := (.agg [w2618, w2620])) rfl rfl (Light.quiet (kAtA hS (j := 6) rfl rfl aggA_29 sizeA_29 rfl (nlt rfl) rfl)) ?_
                refine ASL.q (v := (.int .i64 1)) rfl rfl (Light.quiet (opMove rfl rfl)) ?_
                obtain ⟨a88, ha88, hF⟩ := bindE hF
                refine ASL.q (v := (.int .i64 a88)) rfl rfl ((qCallR hS rfl rfl call_38 (laws_heldWord_ok ha88) ⟨.aggL ⟨.row (k := 0) rfl, .row (k := 1) rfl, trivial⟩, .same _, trivial⟩ (by constructor))) ?_
                refine ASL.q (v := (.int .i64 a88)) rfl rfl (Light.quiet (opAssign rfl rfl)) ?_
                refine ASL.done ?_
                refine AWP.seq ?_
                refine AWP.seqR rfl ?_
                refine ASL.q (v := (.int .i64 a88)) rfl rfl (Light.quiet (opMove rfl rfl)) ?_
                refine ASL.q (v := (.bool (decide (a88 < 0)))) rfl rfl (Light.quiet (opInt rfl rfl rfl rfl)) ?_
                refine ASL.done ?_
                refine AWP.ifP hF rfl (fun hc2641 hF => ?_) (fun hc2641 hF => ?_)
                · skip
                  refine AWP.seqR rfl ?_
                  refine ASL.q (v := (.bool false)) rfl rfl (Light.quiet (opAssign rfl rfl)) ?_
                  refine ASL.done ?_
                  refine AWP.ret ?_
                  refine QThen.rt ?_
                  obtain rfl := someE hF
                  exact QRet.sole (v := (.bool false)) ⟨rfl, trivial⟩ rfl
                · skip
                  refine AWP.skip ?_
                  refine QThen.nrm ?_
                  refine AWP.seq ?_
                  refine AWP.seqR rfl ?_
                  refine ASL.q (v := (.int .i64 a88)) rfl rfl (Light.quiet (opMove rfl rfl)) ?_
                  refine ASL.q (v := (.int .i64 a85.1)) rfl rfl (Light.quiet (opMove rfl rfl)) ?_
                  refine ASL.q (v := (.bool (decide (a88 ≠ a85.1)))) rfl rfl (Light.quiet (opInt rfl rfl rfl rfl)) ?_
                  refine ASL.done ?_
                  refine AWP.ifP hF rfl (fun hc2642 hF => ?_) (fun hc2642 hF => ?_)
                  · skip
                    refine AWP.seqR rfl ?_
                    refine ASL.q (v := (.bool false)) rfl rfl (Light.quiet (opAssign rfl rfl)) ?_
                    refine ASL.done ?_
                    refine AWP.ret ?_
                    refine QThen.rt ?_
                    obtain rfl := someE hF
                    exact QRet.sole (v := (.bool false)) ⟨rfl, trivial⟩ rfl
                  · skip
                    refine AWP.skip ?_
                    refine QThen.nrm ?_
                    obtain ⟨a96, ha96, hF⟩ := bindE hF
                    obtain ⟨a98, ha98, hF⟩ := bindE hF
                    obtain ⟨a99, ha99, hF⟩ := bindE hF
                    refine AWP.seqT (fun e H => ∃ b16 : Nat, ∃ w3643 : AV, ∃ w3645 : AV, ∃ w3443 : AV, ∃ w3043 : AV, E.Told e [(6, (.int .i64 a32.1)), (7, (.ptr b7 0)), (11, (.ptr b11 0)), (13, (.int .i64 a85.1)), (15, (.int .i64 a99.1)), (16, (.ptr b16 0))] ∧ E.Sep H [.cell b16 [w3643, w3645], .row 1 w3643 (List.map (AV.int .i64) a99.2.stem), .row 1 w3645 (List.map (AV.int .i64) a99.2.loop), .row 4 w3443 (List.map TEdge.av a98.edges), .row 4 w3043 (List.map TEdge.av a96.edges), .row 1 w2618 (List.map (AV.int .i64) a85.2.stem), .row 1 w2620 (List.map (AV.int .i64) a85.2.loop), .row 4 w2611 (List.map TEdge.av a69.2.edges), .row 4 w2604 (List.map TEdge.av a66.2.edges), .row 4 w2633 (List.map TEdge.av a61.edges), .row 4 w2629 (List.map TEdge.av a56.edges), .cell b11 [w2618, w2620], .row 1 .nil (List.map (AV.int .i64) ([])), .row 1 .nil (List.map (AV.int .i64) ([])), .cell b9 [(.int .i64 a38.letters), (.int .i64 a38.states), (.int .i64 a38.start), w2611], .row 4 .nil (List.map TEdge.av ([])), .cell b8 [(.int .i64 a36.letters), (.int .i64 a36.states), (.int .i64 a36.start), w2604], .row 4 .nil (List.map TEdge.av ([])), .cell b7 [w1003, w1005], .row 1 w1003 (List.map (AV.int .i64) a32.2.stem), .row 1 w1005 (List.map (AV.int .i64) a32.2.loop), .row 4 w803 (List.map TEdge.av a31.edges), .row 4 w403 (List.map TEdge.av a29.edges)]) (.q 0 (.q 2 (.fork (.h 1 (.fork (.h 3 (.fork (.h 4 (.q 5 (.q 6 (.q 7 (.h 8 (.q 9 (.h 10 .fin))))))) (.h 8 (.h 4 (.q 5 (.q 6 (.q 7 (.q 9 (.h 10 .fin))))))))) (.h 8 (.h 3 (.h 4 (.q 5 (.q 6 (.q 7 (.q 9 (.h 10 .fin)))))))))) (.h 8 (.h 1 (.h 3 (.h 4 (.q 5 (.q 6 (.q 7 (.q 9 (.h 10 .fin)))))))))))) mixed (by kernel_rfl) ?_ ?_
                    · rintro e0 G5243 ⟨b16, w3643, w3645, w3443, w3043, hT, hS⟩; refine AWP.only _ hT ?_
                      refine AWP.seq ?_
                      refine AWP.seqR rfl ?_
                      refine ASL.q (v := (.int .i64 a99.1)) rfl rfl (Light.quiet (opMove rfl rfl)) ?_
                      refine ASL.q (v := (.int .i64 a32.1)) rfl rfl (Light.quiet (opMove rfl rfl)) ?_
                      refine ASL.q (v := (.bool (decide (a99.1 ≠ a32.1)))) rfl rfl (Light.quiet (opInt rfl rfl rfl rfl)) ?_
                      obtain ⟨c105, hc105, hF⟩ := bndE hF
                      refine ASL.q (v := (.bool c105)) rfl rfl ((Quiet.cast (Light.quiet (opMove rfl rfl)) (congrArg AV.bool hc105.symm))) ?_
                      refine ASL.g (v := (.agg [w3643, w3645])) (.bool c105) false rfl (wF _) rfl (fun hG => by have q0 := gN hG; subst q0; exact Light.quiet (kAtA hS (j := 0) rfl rfl aggA_29 sizeA_29 rfl (nlt rfl) rfl)) ?_
                      refine ASL.g (v := (.agg [w1003, w1005])) (.bool c105) false rfl (wF _) rfl (fun hG => by have q0 := gN hG; subst q0; exact Light.quiet (kAtA hS (j := 18) rfl rfl aggA_29 sizeA_29 rfl (nlt rfl) rfl)) ?_
                      obtain ⟨a108, ha108, hF⟩ := bindE hF
                      refine ASL.g (v := (.bool a108)) (.bool c105) false rfl (wF _) rfl (fun hG => by have q0 := gN hG; subst q0; exact (qCallR hS rfl rfl call_36 (laws_eqWord_ok (whenE ha108)) ⟨.aggL ⟨.row (k := 1) rfl, .row (k := 2) rfl, trivial⟩, .aggL ⟨.row (k := 19) rfl, .row (k := 20) rfl, trivial⟩, trivial⟩ (by constructor))) ?_
                      refine ASL.g (v := (.bool (!a108))) (.bool c105) false rfl (wF _) rfl (fun hG => by have q0 := gN hG; subst q0; exact Light.quiet (opNot rfl rfl)) ?_
                      refine ASL.q (v := (.bool (c105 || (!a108)))) rfl rfl (Light.quiet (opPick (b := c105) rfl rfl (by cases c105 <;> rfl))) ?_
                      refine ASL.done ?_
                      refine AWP.ifB hF rfl (fun hc5244 hF => ?_) (fun hc5244 hF => ?_)
                      · skip
                        refine AWP.seqR rfl ?_
                        refine ASL.q (v := (.bool false)) rfl rfl (Light.quiet (opAssign rfl rfl)) ?_
                        refine ASL.done ?_
                        refine AWP.ret ?_
                        refine QThen.rt ?_
                        obtain rfl := someE hF
                        exact QRet.sole (v := (.bool false)) ⟨rfl, trivial⟩ rfl
                      · skip
                        refine AWP.skip ?_
                        refine QThen.nrm ?_
                        refine AWP.seqR rfl ?_
                        refine ASL.q (v := (.int .i64 1)) rfl rfl (Light.quiet (opAssign rfl rfl)) ?_
                        refine ASL.done ?_
                        refine AWP.seqR rfl ?_
                        refine ASL.q (v := (.agg [w2618, w2620])) rfl rfl (Light.quiet (kAtA hS (j := 11) rfl rfl aggA_29 sizeA_29 rfl (nlt rfl) rfl)) ?_
                        refine ASL.q (v := (.int .i64 1)) rfl rfl (Light.quiet (opMove rfl rfl)) ?_
                        obtain ⟨a113, ha113, hF⟩ := bindE hF
                        refine ASL.q (v := (.int .i64 a113)) rfl rfl ((qCallR hS rfl rfl call_38 (laws_heldWord_ok ha113) ⟨.aggL ⟨.row (k := 5) rfl, .row (k := 6) rfl, trivial⟩, .same _, trivial⟩ (by constructor))) ?_
                        refine ASL.q (v := (.int .i64 a113)) rfl rfl (Light.quiet (opAssign rfl rfl)) ?_
                        refine ASL.done ?_
                        refine AWP.seq ?_
                        refine AWP.seqR rfl ?_
                        refine ASL.q (v := (.int .i64 a113)) rfl rfl (Light.quiet (opMove rfl rfl)) ?_
                        refine ASL.q (v := (.bool (decide (a113 < 0)))) rfl rfl (Light.quiet (opInt rfl rfl rfl rfl)) ?_
                        refine ASL.done ?_
                        refine AWP.ifP hF rfl (fun hc5245 hF => ?_) (fun hc5245 hF => ?_)
                        · skip
                          refine AWP.seqR rfl ?_
                          refine ASL.q (v := (.bool false)) rfl rfl (Light.quiet (opAssign rfl rfl)) ?_
                          refine ASL.done ?_
                          refine AWP.ret ?_
                          refine QThen.rt ?_
                          obtain rfl := someE hF
                          exact QRet.sole (v := (.bool false)) ⟨rfl, trivial⟩ rfl
                        · skip
                          refine AWP.skip ?_
                          refine QThen.nrm ?_
                          refine AWP.seq ?_
                          refine AWP.seqR rfl ?_
                          refine ASL.q (v := (.int .i64 a113)) rfl rfl (Light.quiet (opMove rfl rfl)) ?_
                          refine ASL.q (v := (.int .i64 a85.1)) rfl rfl (Light.quiet (opMove rfl rfl)) ?_
                          refine ASL.q (v := (.bool (decide (a113 ≠ a85.1)))) rfl rfl (Light.quiet (opInt rfl rfl rfl rfl)) ?_
                          refine ASL.done ?_
                          refine AWP.ifP hF rfl (fun hc5246 hF => ?_) (fun hc5246 hF => ?_)
                          · skip
                            refine AWP.seqR rfl ?_
                            refine ASL.q (v := (.bool false)) rfl rfl (Light.quiet (opAssign rfl rfl)) ?_
                            refine ASL.done ?_
                            refine AWP.ret ?_
                            refine QThen.rt ?_
                            obtain rfl := someE hF
                            exact QRet.sole (v := (.bool false)) ⟨rfl, trivial⟩ rfl
                          · skip
                            refine AWP.skip ?_
                            refine QThen.nrm ?_
                            refine AWP.seqR rfl ?_
                            refine ASL.q (v := (.bool true)) rfl rfl (Light.quiet (opAssign rfl rfl)) ?_
                            refine ASL.done ?_
                            refine AWP.ret ?_
                            obtain rfl := someE hF
                            exact QRet.sole (v := (.bool true)) ⟨rfl, trivial⟩ rfl
                    · skip
                      refine ART.q0 rfl (v := (TAuto.av p0)) rfl rfl (Light.quiet (opLoadRA rfl aggA_54 sizeA_54 rfl (nlt rfl) rfl)) ?_
                      refine ART.q0 rfl (v := (TAuto.av p1)) rfl rfl (Light.quiet (opLoadRA rfl aggA_54 sizeA_54 rfl (nlt rfl) rfl)) ?_
                      refine ART.fork ?_ ?_
                      · skip
                        refine ART.x rfl rfl rfl rfl (hCallSR hS rfl rfl call_28 (laws_toAuto_ok ha96) ⟨.same _, trivial⟩ (by rintro _ _ G ⟨w3043, rfl, rfl⟩ hG; exact ⟨(Scal.agg (ScalC.cons (by constructor) (ScalC.cons (by constructor) (ScalC.cons (by constructor) (ScalC.cons (hG.scR (k := 0) rfl) ScalC.nil))))), ⟨(Scal.row (fun _ => by simp only [TEdge.av, cells, List.mem_cons, List.not_mem_nil, or_false]; rintro c hc; rcases hc with rfl | rfl | rfl | rfl <;> constructor)), trivial⟩⟩) ?_); rintro _ _ G3045 ⟨w3043, rfl, rfl⟩ hK hS; refine ⟨hK, ?_⟩
                        refine ART.fork ?_ ?_
                        · skip
                          refine ART.x rfl rfl rfl rfl (hCallSR hS rfl rfl call_28 (laws_toAuto_ok ha98) ⟨.same _, trivial⟩ (by rintro _ _ G ⟨w3443, rfl, rfl⟩ hG; exact ⟨(Scal.agg (ScalC.cons (by constructor) (ScalC.cons (by constructor) (ScalC.cons (by constructor) (ScalC.cons (hG.scR (k := 0) rfl) ScalC.nil))))), ⟨(Scal.row (fun _ => by simp only [TEdge.av, cells, List.mem_cons, List.not_mem_nil, or_false]; rintro c hc; rcases hc with rfl | rfl | rfl | rfl <;> constructor)), trivial⟩⟩) ?_); rintro _ _ G3445 ⟨w3443, rfl, rfl⟩ hK hS; refine ⟨hK, ?_⟩
                          refine ART.fork ?_ ?_
                          · skip
                            refine ART.x rfl rfl rfl rfl (hCallSR hS rfl rfl call_35 (impl_BoxIn_ok ha99) ⟨.aggL ⟨.same _, .same _, .same _, .row (k := 1) rfl, trivial⟩, .aggL ⟨.same _, .same _, .same _, .row (k := 0) rfl, trivial⟩, trivial⟩ (by rintro _ _ G ⟨w3643, w3645, rfl, rfl⟩ hG; exact ⟨(Scal.tup (ScalC.cons (by constructor) (ScalC.cons (Scal.agg (ScalC.cons (hG.scR (k := 0) rfl) (ScalC.cons (hG.scR (k := 1) rfl) ScalC.nil))) ScalC.nil))), ⟨(Scal.ints _ _), (Scal.ints _ _), trivial⟩⟩) ?_); rintro _ _ G3647 ⟨w3643, w3645, rfl, rfl⟩ hK hS; refine ⟨hK, ?_⟩
                            refine ART.q0 rfl (v := (.tup [(.int .i64 a99.1), (.agg [w3643, w3645])])) rfl rfl (Light.quiet (opMove rfl rfl)) ?_
                            refine ART.q0 rfl (v := (.int .i64 a99.1)) rfl rfl (Light.quiet (opExtract rfl rfl rfl)) ?_
                            refine ART.q0 rfl (v := (.agg [w3643, w3645])) rfl rfl (Light.quiet (opExtract rfl rfl rfl)) ?_
                            refine ART.x rfl rfl rfl rfl (hNewZ hS [(.list 1 (List.map (AV.int .i64) [])), (.list 1 (List.map (AV.int .i64) []))] rfl zeroA_29 ⟨.inr ⟨_, rfl, rfl⟩, .inr ⟨_, rfl, rfl⟩, trivial⟩ ?_); rintro b16 G4443 hK hS; refine ⟨hK, ?_⟩
                            refine ART.q0 rfl (v := (.int .i64 a99.1)) rfl rfl (Light.quiet (opAssign rfl rfl)) ?_
                            refine ART.n rfl rfl rfl rfl rfl (hPutA hS (j := 0) rfl rfl sizeA_29 rfl rfl rfl rfl (allC (hS.one (k := 1) rfl) (allC (hS.one (k := 2) rfl) rfl)) (nlt rfl) ?_); rintro G4843 hS
                            refine ART.done ?_
                            exact ⟨b16, w3643, w3645, w3443, w3043, ⟨rfl, rfl, rfl, rfl, rfl, rfl, trivial⟩, hS.pick [0, 1, 2, 3, 4, 5, 6, 7, 8, 9, 10, 11, 12, 13, 14, 15, 16, 17, 18, 19, 20, 21, 22] rfl rfl⟩
                          · skip
                            refine ART.x rfl rfl rfl rfl (hNewZ hS [(.list 1 (List.map (AV.int .i64) [])), (.list 1 (List.map (AV.int .i64) []))] rfl zeroA_29 ⟨.inr ⟨_, rfl, rfl⟩, .inr ⟨_, rfl, rfl⟩, trivial⟩ ?_); rintro b16 G4443 hK hS; refine ⟨hK, ?_⟩
                            refine ART.x rfl rfl rfl rfl (hCallSR hS rfl rfl call_35 (impl_BoxIn_ok ha99) ⟨.aggL ⟨.same _, .same _, .same _, .row (k := 2) rfl, trivial⟩, .aggL ⟨.same _, .same _, .same _, .row (k := 1) rfl, trivial⟩, trivial⟩ (by rintro _ _ G ⟨w3643, w3645, rfl, rfl⟩ hG; exact ⟨(Scal.tup (ScalC.cons (by constructor) (ScalC.cons (Scal.agg (ScalC.cons (hG.scR (k := 0) rfl) (ScalC.cons (hG.scR (k := 1) rfl) ScalC.nil))) ScalC.nil))), ⟨(Scal.ints _ _), (Scal.ints _ _), trivial⟩⟩) ?_); rintro _ _ G3647 ⟨w3643, w3645, rfl, rfl⟩ hK hS; refine ⟨hK, ?_⟩
                            refine ART.q0 rfl (v := (.tup [(.int .i64 a99.1), (.agg [w3643, w3645])])) rfl rfl (Light.quiet (opMove rfl rfl)) ?_
                            refine ART.q0 rfl (v := (.int .i64 a99.1)) rfl rfl (Light.quiet (opExtract rfl rfl rfl)) ?_
                            refine ART.q0 rfl (v := (.agg [w3643, w3645])) rfl rfl (Light.quiet (opExtract rfl rfl rfl)) ?_
                            refine ART.q0 rfl (v := (.int .i64 a99.1)) rfl rfl (Light.quiet (opAssign rfl rfl)) ?_
                            refine ART.n rfl rfl rfl rfl rfl (hPutA hS (j := 2) rfl rfl sizeA_29 rfl rfl rfl rfl (allC (hS.one (k := 0) rfl) (allC (hS.one (k := 1) rfl) rfl)) (nlt rfl) ?_); rintro G4843 hS
                            refine ART.done ?_
                            exact ⟨b16, w3643, w3645, w3443, w3043, ⟨rfl, rfl, rfl, rfl, rfl, rfl, trivial⟩, hS.pick [2, 0, 1, 3, 4, 5, 6, 7, 8, 9, 10, 11, 12, 13, 14, 15, 16, 17, 18, 19, 20, 21, 22] rfl rfl⟩
                        · skip
                          refine ART.x rfl rfl rfl rfl (hNewZ hS [(.list 1 (List.map (AV.int .i64) [])), (.list 1 (List.map (AV.int .i64) []))] rfl zeroA_29 ⟨.inr ⟨_, rfl, rfl⟩, .inr ⟨_, rfl, rfl⟩, trivial⟩ ?_); rintro b16 G4443 hK hS; refine ⟨hK, ?_⟩
                          refine ART.x rfl rfl rfl rfl (hCallSR hS rfl rfl call_28 (laws_toAuto_ok ha98) ⟨.same _, trivial⟩ (by rintro _ _ G ⟨w3443, rfl, rfl⟩ hG; exact ⟨(Scal.agg (ScalC.cons (by constructor) (ScalC.cons (by constructor) (ScalC.cons (by constructor) (ScalC.cons (hG.scR (k := 0) rfl) ScalC.nil))))), ⟨(Scal.row (fun _ => by simp only [TEdge.av, cells, List.mem_cons, List.not_mem_nil, or_false]; rintro c hc; rcases hc with rfl | rfl | rfl | rfl <;> constructor)), trivial⟩⟩) ?_); rintro _ _ G3445 ⟨w3443, rfl, rfl⟩ hK hS; refine ⟨hK, ?_⟩
                          refine ART.x rfl rfl rfl rfl (hCallSR hS rfl rfl call_35 (impl_BoxIn_ok ha99) ⟨.aggL ⟨.same _, .same _, .same _, .row (k := 2) rfl, trivial⟩, .aggL ⟨.same _, .same _, .same _, .row (k := 0) rfl, trivial⟩, trivial⟩ (by rintro _ _ G ⟨w3643, w3645, rfl, rfl⟩ hG; exact ⟨(Scal.tup (ScalC.cons (by constructor) (ScalC.cons (Scal.agg (ScalC.cons (hG.scR (k := 0) rfl) (ScalC.cons (hG.scR (k := 1) rfl) ScalC.nil))) ScalC.nil))), ⟨(Scal.ints _ _), (Scal.ints _ _), trivial⟩⟩) ?_); rintro _ _ G3647 ⟨w3643, w3645, rfl, rfl⟩ hK hS; refine ⟨hK, ?_⟩
                          refine ART.q0 rfl (v := (.tup [(.int .i64 a99.1), (.agg [w3643, w3645])])) rfl rfl (Light.quiet (opMove rfl rfl)) ?_
                          refine ART.q0 rfl (v := (.int .i64 a99.1)) rfl rfl (Light.quiet (opExtract rfl rfl rfl)) ?_
                          refine ART.q0 rfl (v := (.agg [w3643, w3645])) rfl rfl (Light.quiet (opExtract rfl rfl rfl)) ?_
                          refine ART.q0 rfl (v := (.int .i64 a99.1)) rfl rfl (Light.quiet (opAssign rfl rfl)) ?_
                          refine ART.n rfl rfl rfl rfl rfl (hPutA hS (j := 3) rfl rfl sizeA_29 rfl rfl rfl rfl (allC (hS.one (k := 0) rfl) (allC (hS.one (k := 1) rfl) rfl)) (nlt rfl) ?_); rintro G4843 hS
                          refine ART.done ?_
                          exact ⟨b16, w3643, w3645, w3443, w3043, ⟨rfl, rfl, rfl, rfl, rfl, rfl, trivial⟩, hS.pick [3, 0, 1, 2, 4, 5, 6, 7, 8, 9, 10, 11, 12, 13, 14, 15, 16, 17, 18, 19, 20, 21, 22] rfl rfl⟩
                      · skip
                        refine ART.x rfl rfl rfl rfl (hNewZ hS [(.list 1 (List.map (AV.int .i64) [])), (.list 1 (List.map (AV.int .i64) []))] rfl zeroA_29 ⟨.inr ⟨_, rfl, rfl⟩, .inr ⟨_, rfl, rfl⟩, trivial⟩ ?_); rintro b16 G4443 hK hS; refine ⟨hK, ?_⟩
                        refine ART.x rfl rfl rfl rfl (hCallSR hS rfl rfl call_28 (laws_toAuto_ok ha96) ⟨.same _, trivial⟩ (by rintro _ _ G ⟨w3043, rfl, rfl⟩ hG; exact ⟨(Scal.agg (ScalC.cons (by constructor) (ScalC.cons (by constructor) (ScalC.cons (by constructor) (ScalC.cons (hG.scR (k := 0) rfl) ScalC.nil))))), ⟨(Scal.row (fun _ => by simp only [TEdge.av, cells, List.mem_cons, List.not_mem_nil, or_false]; rintro c hc; rcases hc with rfl | rfl | rfl | rfl <;> constructor)), trivial⟩⟩) ?_); rintro _ _ G3045 ⟨w3043, rfl, rfl⟩ hK hS; refine ⟨hK, ?_⟩
                        refine ART.x rfl rfl rfl rfl (hCallSR hS rfl rfl call_28 (laws_toAuto_ok ha98) ⟨.same _, trivial⟩ (by rintro _ _ G ⟨w3443, rfl, rfl⟩ hG; exact ⟨(Scal.agg (ScalC.cons (by constructor) (ScalC.cons (by constructor) (ScalC.cons (by constructor) (ScalC.cons (hG.scR (k := 0) rfl) ScalC.nil))))), ⟨(Scal.row (fun _ => by simp only [TEdge.av, cells, List.mem_cons, List.not_mem_nil, or_false]; rintro c hc; rcases hc with rfl | rfl | rfl | rfl <;> constructor)), trivial⟩⟩) ?_); rintro _ _ G3445 ⟨w3443, rfl, rfl⟩ hK hS; refine ⟨hK, ?_⟩
                        refine ART.x rfl rfl rfl rfl (hCallSR hS rfl rfl call_35 (impl_BoxIn_ok ha99) ⟨.aggL ⟨.same _, .same _, .same _, .row (k := 1) rfl, trivial⟩, .aggL ⟨.same _, .same _, .same _, .row (k := 0) rfl, trivial⟩, trivial⟩ (by rintro _ _ G ⟨w3643, w3645, rfl, rfl⟩ hG; exact ⟨(Scal.tup (ScalC.cons (by constructor) (ScalC.cons (Scal.agg (ScalC.cons (hG.scR (k := 0) rfl) (ScalC.cons (hG.scR (k := 1) rfl) ScalC.nil))) ScalC.nil))), ⟨(Scal.ints _ _), (Scal.ints _ _), trivial⟩⟩) ?_); rintro _ _ G3647 ⟨w3643, w3645, rfl, rfl⟩ hK hS; refine ⟨hK, ?_⟩
                        refine ART.q0 rfl (v := (.tup [(.int .i64 a99.1), (.agg [w3643, w3645])])) rfl rfl (Light.quiet (opMove rfl rfl)) ?_
                        refine ART.q0 rfl (v := (.int .i64 a99.1)) rfl rfl (Light.quiet (opExtract rfl rfl rfl)) ?_
                        refine ART.q0 rfl (v := (.agg [w3643, w3645])) rfl rfl (Light.quiet (opExtract rfl rfl rfl)) ?_
                        refine ART.q0 rfl (v := (.int .i64 a99.1)) rfl rfl (Light.quiet (opAssign rfl rfl)) ?_
                        refine ART.n rfl rfl rfl rfl rfl (hPutA hS (j := 4) rfl rfl sizeA_29 rfl rfl rfl rfl (allC (hS.one (k := 0) rfl) (allC (hS.one (k := 1) rfl) rfl)) (nlt rfl) ?_); rintro G4843 hS
                        refine ART.done ?_
                        exact ⟨b16, w3643, w3645, w3443, w3043, ⟨rfl, rfl, rfl, rfl, rfl, rfl, trivial⟩, hS.pick [4, 0, 1, 2, 3, 5, 6, 7, 8, 9, 10, 11, 12, 13, 14, 15, 16, 17, 18, 19, 20, 21, 22] rfl rfl⟩
      · skip
        refine ART.q0 rfl (v := (TAuto.av p0)) rfl rfl (Light.quiet (opLoadRA rfl aggA_54 sizeA_54 rfl (nlt rfl) rfl)) ?_
        refine ART.q0 rfl (v := (TAuto.av p1)) rfl rfl (Light.quiet (opLoadRA rfl aggA_54 sizeA_54 rfl (nlt rfl) rfl)) ?_
        refine ART.fork ?_ ?_
        · skip
          refine ART.x rfl rfl rfl rfl (hCallSR hS rfl rfl call_28 (laws_toAuto_ok ha29) ⟨.same _, trivial⟩ (by rintro _ _ G ⟨w403, rfl, rfl⟩ hG; exact ⟨(Scal.agg (ScalC.cons (by constructor) (ScalC.cons (by constructor) (ScalC.cons (by constructor) (ScalC.cons (hG.scR (k := 0) rfl) ScalC.nil))))), ⟨(Scal.row (fun _ => by simp only [TEdge.av, cells, List.mem_cons, List.not_mem_nil, or_false]; rintro c hc; rcases hc with rfl | rfl | rfl | rfl <;> constructor)), trivial⟩⟩) ?_); rintro _ _ G405 ⟨w403, rfl, rfl⟩ hK hS; refine ⟨hK, ?_⟩
          refine ART.fork ?_ ?_
          · skip
            refine ART.x rfl rfl rfl rfl (hCallSR hS rfl rfl call_28 (laws_toAuto_ok ha31) ⟨.same _, trivial⟩ (by rintro _ _ G ⟨w803, rfl, rfl⟩ hG; exact ⟨(Scal.agg (ScalC.cons (by constructor) (ScalC.cons (by constructor) (ScalC.cons (by constructor) (ScalC.cons (hG.scR (k := 0) rfl) ScalC.nil))))), ⟨(Scal.row (fun _ => by simp only [TEdge.av, cells, List.mem_cons, List.not_mem_nil, or_false]; rintro c hc; rcases hc with rfl | rfl | rfl | rfl <;> constructor)), trivial⟩⟩) ?_); rintro _ _ G805 ⟨w803, rfl, rfl⟩ hK hS; refine ⟨hK, ?_⟩
            refine ART.fork ?_ ?_
            · skip
              refine ART.x rfl rfl rfl rfl (hCallSR hS rfl rfl call_34 (spec_BoxIn_ok ha32) ⟨.aggL ⟨.same _, .same _, .same _, .row (k := 1) rfl, trivial⟩, .aggL ⟨.same _, .same _, .same _, .row (k := 0) rfl, trivial⟩, trivial⟩ (by rintro _ _ G ⟨w1003, w1005, rfl, rfl⟩ hG; exact ⟨(Scal.tup (ScalC.cons (by constructor) (ScalC.cons (Scal.agg (ScalC.cons (hG.scR (k := 0) rfl) (ScalC.cons (hG.scR (k := 1) rfl) ScalC.nil))) ScalC.nil))), ⟨(Scal.ints _ _), (Scal.ints _ _), trivial⟩⟩) ?_); rintro _ _ G1007 ⟨w1003, w1005, rfl, rfl⟩ hK hS; refine ⟨hK, ?_⟩
              refine ART.q0 rfl (v := (.tup [(.int .i64 a32.1), (.agg [w1003, w1005])])) rfl rfl (Light.quiet (opMove rfl rfl)) ?_
              refine ART.q0 rfl (v := (.int .i64 a32.1)) rfl rfl (Light.quiet (opExtract rfl rfl rfl)) ?_
              refine ART.q0 rfl (v := (.agg [w1003, w1005])) rfl rfl (Light.quiet (opExtract rfl rfl rfl)) ?_
              refine ART.x rfl rfl rfl rfl (hNewZ hS [(.list 1 (List.map (AV.int .i64) [])), (.list 1 (List.map (AV.int .i64) []))] rfl zeroA_29 ⟨.inr ⟨_, rfl, rfl⟩, .inr ⟨_, rfl, rfl⟩, trivial⟩ ?_); rintro b7 G1803 hK hS; refine ⟨hK, ?_⟩
              refine ART.q0 rfl (v := (.int .i64 a32.1)) rfl rfl (Light.quiet (opAssign rfl rfl)) ?_
              refine ART.n rfl rfl rfl rfl rfl (hPutA hS (j := 0) rfl rfl sizeA_29 rfl rfl rfl rfl (allC (hS.one (k := 1) rfl) (allC (hS.one (k := 2) rfl) rfl)) (nlt rfl) ?_); rintro G2203 hS
              refine ART.done ?_
              exact ⟨b7, w1003, w1005, w803, w403, ⟨rfl, rfl, rfl, rfl, trivial⟩, hS.pick [0, 1, 2, 3, 4] rfl rfl⟩
            · skip
              refine ART.x rfl rfl rfl rfl (hNewZ hS [(.list 1 (List.map (AV.int .i64) [])), (.list 1 (List.map (AV.int .i64) []))] rfl zeroA_29 ⟨.inr ⟨_, rfl, rfl⟩, .inr ⟨_, rfl, rfl⟩, trivial⟩ ?_); rintro b7 G1803 hK hS; refine ⟨hK, ?_⟩
              refine ART.x rfl rfl rfl rfl (hCallSR hS rfl rfl call_34 (spec_BoxIn_ok ha32) ⟨.aggL ⟨.same _, .same _, .same _, .row (k := 2) rfl, trivial⟩, .aggL ⟨.same _, .same _, .same _, .row (k := 1) rfl, trivial⟩, trivial⟩ (by rintro _ _ G ⟨w1003, w1005, rfl, rfl⟩ hG; exact ⟨(Scal.tup (ScalC.cons (by constructor) (ScalC.cons (Scal.agg (ScalC.cons (hG.scR (k := 0) rfl) (ScalC.cons (hG.scR (k := 1) rfl) ScalC.nil))) ScalC.nil))), ⟨(Scal.ints _ _), (Scal.ints _ _), trivial⟩⟩) ?_); rintro _ _ G1007 ⟨w1003, w1005, rfl, rfl⟩ hK hS; refine ⟨hK, ?_⟩
              refine ART.q0 rfl (v := (.tup [(.int .i64 a32.1), (.agg [w1003, w1005])])) rfl rfl (Light.quiet (opMove rfl rfl)) ?_
              refine ART.q0 rfl (v := (.int .i64 a32.1)) rfl rfl (Light.quiet (opExtract rfl rfl rfl)) ?_
              refine ART.q0 rfl (v := (.agg [w1003, w1005])) rfl rfl (Light.quiet (opExtract rfl rfl rfl)) ?_
              refine ART.q0 rfl (v := (.int .i64 a32.1)) rfl rfl (Light.quiet (opAssign rfl rfl)) ?_
              refine ART.n rfl rfl rfl rfl rfl (hPutA hS (j := 2) rfl rfl sizeA_29 rfl rfl rfl rfl (allC (hS.one (k := 0) rfl) (allC (hS.one (k := 1) rfl) rfl)) (nlt rfl) ?_); rintro G2203 hS
              refine ART.done ?_
              exact ⟨b7, w1003, w1005, w803, w403, ⟨rfl, rfl, rfl, rfl, trivial⟩, hS.pick [2, 0, 1, 3, 4] rfl rfl⟩
          · skip
            refine ART.x rfl rfl rfl rfl (hNewZ hS [(.list 1 (List.map (AV.int .i64) [])), (.list 1 (List.map (AV.int .i64) []))] rfl zeroA_29 ⟨.inr ⟨_, rfl, rfl⟩, .inr ⟨_, rfl, rfl⟩, trivial⟩ ?_); rintro b7 G1803 hK hS; refine ⟨hK, ?_⟩
            refine ART.x rfl rfl rfl rfl (hCallSR hS rfl rfl call_28 (laws_toAuto_ok ha31) ⟨.same _, trivial⟩ (by rintro _ _ G ⟨w803, rfl, rfl⟩ hG; exact ⟨(Scal.agg (ScalC.cons (by constructor) (ScalC.cons (by constructor) (ScalC.cons (by constructor) (ScalC.cons (hG.scR (k := 0) rfl) ScalC.nil))))), ⟨(Scal.row (fun _ => by simp only [TEdge.av, cells, List.mem_cons, List.not_mem_nil, or_false]; rintro c hc; rcases hc with rfl | rfl | rfl | rfl <;> constructor)), trivial⟩⟩) ?_); rintro _ _ G805 ⟨w803, rfl, rfl⟩ hK hS; refine ⟨hK, ?_⟩
            refine ART.x rfl rfl rfl rfl (hCallSR hS rfl rfl call_34 (spec_BoxIn_ok ha32) ⟨.aggL ⟨.same _, .same _, .same _, .row (k := 2) rfl, trivial⟩, .aggL ⟨.same _, .same _, .same _, .row (k := 0) rfl, trivial⟩, trivial⟩ (by rintro _ _ G ⟨w1003, w1005, rfl, rfl⟩ hG; exact ⟨(Scal.tup (ScalC.cons (by constructor) (ScalC.cons (Scal.agg (ScalC.cons (hG.scR (k := 0) rfl) (ScalC.cons (hG.scR (k := 1) rfl) ScalC.nil))) ScalC.nil))), ⟨(Scal.ints _ _), (Scal.ints _ _), trivial⟩⟩) ?_); rintro _ _ G1007 ⟨w1003, w1005, rfl, rfl⟩ hK hS; refine ⟨hK, ?_⟩
            refine ART.q0 rfl (v := (.tup [(.int .i64 a32.1), (.agg [w1003, w1005])])) rfl rfl (Light.quiet (opMove rfl rfl)) ?_
            refine ART.q0 rfl (v := (.int .i64 a32.1)) rfl rfl (Light.quiet (opExtract rfl rfl rfl)) ?_
            refine ART.q0 rfl (v := (.agg [w1003, w1005])) rfl rfl (Light.quiet (opExtract rfl rfl rfl)) ?_
            refine ART.q0 rfl (v := (.int .i64 a32.1)) rfl rfl (Light.quiet (opAssign rfl rfl)) ?_
            refine ART.n rfl rfl rfl rfl rfl (hPutA hS (j := 3) rfl rfl sizeA_29 rfl rfl rfl rfl (allC (hS.one (k := 0) rfl) (allC (hS.one (k := 1) rfl) rfl)) (nlt rfl) ?_); rintro G2203 hS
            refine ART.done ?_
            exact ⟨b7, w1003, w1005, w803, w403, ⟨rfl, rfl, rfl, rfl, trivial⟩, hS.pick [3, 0, 1, 2, 4] rfl rfl⟩
        · skip
          refine ART.x rfl rfl rfl rfl (hNewZ hS [(.list 1 (List.map (AV.int .i64) [])), (.list 1 (List.map (AV.int .i64) []))] rfl zeroA_29 ⟨.inr ⟨_, rfl, rfl⟩, .inr ⟨_, rfl, rfl⟩, trivial⟩ ?_); rintro b7 G1803 hK hS; refine ⟨hK, ?_⟩
          refine ART.x rfl rfl rfl rfl (hCallSR hS rfl rfl call_28 (laws_toAuto_ok ha29) ⟨.same _, trivial⟩ (by rintro _ _ G ⟨w403, rfl, rfl⟩ hG; exact ⟨(Scal.agg (ScalC.cons (by constructor) (ScalC.cons (by constructor) (ScalC.cons (by constructor) (ScalC.cons (hG.scR (k := 0) rfl) ScalC.nil))))), ⟨(Scal.row (fun _ => by simp only [TEdge.av, cells, List.mem_cons, List.not_mem_nil, or_false]; rintro c hc; rcases hc with rfl | rfl | rfl | rfl <;> constructor)), trivial⟩⟩) ?_); rintro _ _ G405 ⟨w403, rfl, rfl⟩ hK hS; refine ⟨hK, ?_⟩
          refine ART.x rfl rfl rfl rfl (hCallSR hS rfl rfl call_28 (laws_toAuto_ok ha31) ⟨.same _, trivial⟩ (by rintro _ _ G ⟨w803, rfl, rfl⟩ hG; exact ⟨(Scal.agg (ScalC.cons (by constructor) (ScalC.cons (by constructor) (ScalC.cons (by constructor) (ScalC.cons (hG.scR (k := 0) rfl) ScalC.nil))))), ⟨(Scal.row (fun _ => by simp only [TEdge.av, cells, List.mem_cons, List.not_mem_nil, or_false]; rintro c hc; rcases hc with rfl | rfl | rfl | rfl <;> constructor)), trivial⟩⟩) ?_); rintro _ _ G805 ⟨w803, rfl, rfl⟩ hK hS; refine ⟨hK, ?_⟩
          refine ART.x rfl rfl rfl rfl (hCallSR hS rfl rfl call_34 (spec_BoxIn_ok ha32) ⟨.aggL ⟨.same _, .same _, .same _, .row (k := 1) rfl, trivial⟩, .aggL ⟨.same _, .same _, .same _, .row (k := 0) rfl, trivial⟩, trivial⟩ (by rintro _ _ G ⟨w1003, w1005, rfl, rfl⟩ hG; exact ⟨(Scal.tup (ScalC.cons (by constructor) (ScalC.cons (Scal.agg (ScalC.cons (hG.scR (k := 0) rfl) (ScalC.cons (hG.scR (k := 1) rfl) ScalC.nil))) ScalC.nil))), ⟨(Scal.ints _ _), (Scal.ints _ _), trivial⟩⟩) ?_); rintro _ _ G1007 ⟨w1003, w1005, rfl, rfl⟩ hK hS; refine ⟨hK, ?_⟩
          refine ART.q0 rfl (v := (.tup [(.int .i64 a32.1), (.agg [w1003, w1005])])) rfl rfl (Light.quiet (opMove rfl rfl)) ?_
          refine ART.q0 rfl (v := (.int .i64 a32.1)) rfl rfl (Light.quiet (opExtract rfl rfl rfl)) ?_
          refine ART.q0 rfl (v := (.agg [w1003, w1005])) rfl rfl (Light.quiet (opExtract rfl rfl rfl)) ?_
          refine ART.q0 rfl (v := (.int .i64 a32.1)) rfl rfl (Light.quiet (opAssign rfl rfl)) ?_
          refine ART.n rfl rfl rfl rfl rfl (hPutA hS (j := 4) rfl rfl sizeA_29 rfl rfl rfl rfl (allC (hS.one (k := 0) rfl) (allC (hS.one (k := 1) rfl) rfl)) (nlt rfl) ?_); rintro G2203 hS
          refine ART.done ?_
          exact ⟨b7, w1003, w1005, w803, w403, ⟨rfl, rfl, rfl, rfl, trivial⟩, hS.pick [4, 0, 1, 2, 3] rfl rfl⟩

end Go.Proofs.Ytcmbbpdepobnlaa
