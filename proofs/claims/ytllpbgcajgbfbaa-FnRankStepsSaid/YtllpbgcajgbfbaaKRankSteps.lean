/- Each of these functions of the program comes to just what its plain function says: FnRankSteps. -/
import Derived.Test.YtllpbgcajgbfbaaKRankStepsp1
namespace Go.Proofs.Ytllpbgcajgbfbaa
open Go Go.RowKit E
set_option linter.unusedVariables false
set_option maxRecDepth 10000 in
theorem laws_FnRankSteps_ok {p0 : (List Int)} {r : Bool} (hF : laws_FnRankSteps p0 = some r) : PC Try.prog 4 [(.list 1 (List.map (AV.int .u8) p0))] fun v => v = (.bool r) := by
  refine PC.enter Try.func4 rfl Try.ntmps4 (by simp) ?_
  have hS := Sep.void; unfold laws_FnRankSteps at hF
  refine AWP.seqR rfl ?_
  refine ASL.q (v := (.bool false)) rfl rfl (Light.quiet (opAssign rfl rfl)) ?_
  refine ASL.done ?_
  refine AWP.seq ?_
  refine AWP.seqR rfl ?_
  refine ASL.q (v := (.list 1 (List.map (AV.int .u8) p0))) rfl rfl (Light.quiet (opMove rfl rfl)) ?_
  refine ASL.q (v := (.bool (laws_big p0))) rfl rfl ((qCall rfl rfl call_15 (laws_big_ok p0) rfl)) ?_
  refine ASL.done ?_
  refine AWP.ifB hF rfl (fun hc1 hF => ?_) (fun hc1 hF => ?_)
  · skip
    refine AWP.seqR rfl ?_
    refine ASL.q (v := (.bool true)) rfl rfl (Light.quiet (opAssign rfl rfl)) ?_
    refine ASL.done ?_
    refine AWP.ret ?_
    refine QThen.rt ?_
    obtain rfl := someE hF
    exact QRet.sole (v := (.bool true)) ⟨rfl, trivial⟩ rfl
  · skip
    refine AWP.skip ?_
    refine QThen.nrm ?_
    refine AWP.seqR rfl ?_
    refine ASL.q (v := (.list 1 (List.map (AV.int .u8) p0))) rfl rfl (Light.quiet (opMove rfl rfl)) ?_
    obtain ⟨a15, ha15, hF⟩ := bindE hF
    refine ASL.q (v := (.tup [(TAuto.av a15.1), (TRankState.av a15.2.1), (.int .i64 a15.2.2)])) rfl rfl ((qCall rfl rfl call_16 (spec_DrawRankNext_ok ha15) rfl)) ?_
    refine ASL.q (v := (.tup [(TAuto.av a15.1), (TRankState.av a15.2.1), (.int .i64 a15.2.2)])) rfl rfl (Light.quiet (opMove rfl rfl)) ?_
    refine ASL.q (v := (TAuto.av a15.1)) rfl rfl (Light.quiet (opExtract rfl rfl rfl)) ?_
    refine ASL.q (v := (TRankState.av a15.2.1)) rfl rfl (Light.quiet (opExtract rfl rfl rfl)) ?_
    refine ASL.q (v := (.int .i64 a15.2.2)) rfl rfl (Light.quiet (opExtract rfl rfl rfl)) ?_
    refine ASL.x rfl rfl (hNewZ hS [(.int .i64 0), (.int .i64 0), (.int .i64 0), (.list 4 (List.map TEdge.av []))] rfl zeroA_33 ⟨.inl rfl, .inl rfl, .inl rfl, .inr ⟨_, rfl, rfl⟩, trivial⟩ ?_); rintro b3 G2 hK hS
    refine ASL.x rfl rfl (hNewZ hS [(.list 1 (List.map (AV.int .i64) [])), (.int .i64 0)] rfl zeroA_28 ⟨.inr ⟨_, rfl, rfl⟩, .inl rfl, trivial⟩ ?_); rintro b4 G4 hK hS
    refine ASL.n rfl rfl (hPutA hS (j := 1) rfl rfl sizeA_33 rfl rfl rfl rfl rfl (nlt rfl) ?_); rintro G6 hS
    refine ASL.n rfl rfl (hPutA hS (j := 0) rfl rfl sizeA_28 rfl rfl rfl rfl rfl (nlt rfl) ?_); rintro G7 hS
    refine ASL.q (v := (.int .i64 a15.2.2)) rfl rfl (Light.quiet (opAssign rfl rfl)) ?_
    refine ASL.done ?_
    refine AWP.seqR rfl ?_
    refine ASL.q (v := (TAuto.av a15.1)) rfl rfl (Light.quiet (kAtA hS (j := 1) rfl rfl aggA_33 sizeA_33 rfl (nlt rfl) rfl)) ?_
    refine ASL.q (v := (TRankState.av a15.2.1)) rfl rfl (Light.quiet (kAtA hS (j := 0) rfl rfl aggA_28 sizeA_28 rfl (nlt rfl) rfl)) ?_
    refine ASL.q (v := (.int .i64 a15.2.2)) rfl rfl (Light.quiet (opMove rfl rfl)) ?_
    obtain ⟨a22, ha22, hF⟩ := bindE hF
    refine ASL.q (v := (.list 2 (List.map TRankState.av a22))) rfl rfl ((qCall rfl rfl call_17 (PO.list (impl_RankNext_ok ha22)) rfl)) ?_
    refine ASL.q (v := (.list 2 (List.map TRankState.av a22))) rfl rfl (Light.quiet (opAssign rfl rfl)) ?_
    refine ASL.done ?_
    refine AWP.seq ?_
    refine AWP.seqR rfl ?_
    refine ASL.q (v := (.list 2 (List.map TRankState.av a22))) rfl rfl (Light.quiet (opMove rfl rfl)) ?_
    refine ASL.q (v := (.int .i64 (a22.length : Int))) rfl rfl (Light.quiet (opLenMap (f := TRankState.av) rfl rfl rfl lenT_44 rfl)) ?_
    refine ASL.q (v := (TAuto.av a15.1)) rfl rfl (Light.quiet (kAtA hS (j := 1) rfl rfl aggA_33 sizeA_33 rfl (nlt rfl) rfl)) ?_
    refine ASL.q (v := (TRankState.av a15.2.1)) rfl rfl (Light.quiet (kAtA hS (j := 0) rfl rfl aggA_28 sizeA_28 rfl (nlt rfl) rfl)) ?_
    refine ASL.q (v := (.int .i64 a15.2.2)) rfl rfl (Light.quiet (opMove rfl rfl)) ?_
    obtain ⟨a28, ha28, hF⟩ := bindE hF
    refine ASL.q (v := (.list 2 (List.map TRankState.av a28))) rfl rfl ((qCall rfl rfl call_18 (PO.list (spec_RankNext_ok ha28)) rfl)) ?_
    refine ASL.q (v := (.int .i64 (a28.length : Int))) rfl rfl (Light.quiet (opLenMap (f := TRankState.av) rfl rfl rfl lenT_44 rfl)) ?_
    refine ASL.q (v := (.bool (decide (((a22.length : Int)) ≠ ((a28.length : Int)))))) rfl rfl (Light.quiet (opInt rfl rfl rfl rfl)) ?_
    refine ASL.done ?_
    refine AWP.ifP hF rfl (fun hc8 hF => ?_) (fun hc8 hF => ?_)
    · skip
      refine AWP.seqR rfl ?_
      refine ASL.q (v := (.bool false)) rfl rfl (Light.quiet (opAssign rfl rfl)) ?_
      refine ASL.done ?_
      refine AWP.ret ?_
      refine QThen.rt ?_
      obtain rfl := someE hF
      exact QRet.sole (v := (.bool false)) ⟨rfl, trivial⟩ rfl
    · skip
      refine AWP.skip ?_
      refine QThen.nrm ?_
      refine AWP.seq ?_
      refine AWP.seqR rfl ?_
      refine ASL.q (v := (TAuto.av a15.1)) rfl rfl (Light.quiet (kAtA hS (j := 1) rfl rfl aggA_33 sizeA_33 rfl (nlt rfl) rfl)) ?_
      refine ASL.q (v := (TRankState.av a15.2.1)) rfl rfl (Light.quiet (kAtA hS (j := 0) rfl rfl aggA_28 sizeA_28 rfl (nlt rfl) rfl)) ?_
      obtain ⟨a33, ha33, hF⟩ := bindE hF
      refine ASL.q (v := (.bool a33)) rfl rfl ((qCall rfl rfl call_19 (spec_RankOk_ok ha33) rfl)) ?_
      refine ASL.q (v := (.bool (!a33))) rfl rfl (Light.quiet (opNot rfl rfl)) ?_
      obtain ⟨c35, hc35, hF⟩ := bndE hF
      refine ASL.q (v := (.bool c35)) rfl rfl ((Quiet.cast (Light.quiet (opMove rfl rfl)) (congrArg AV.bool hc35.symm))) ?_
      refine ASL.g (v := (.int .i64 a15.2.2)) (.bool c35) false rfl (wF _) rfl (fun hG => by have q0 := gN hG; subst q0; exact Light.quiet (opMove rfl rfl)) ?_
      refine ASL.g (v := (.bool (decide (a15.2.2 < 0)))) (.bool c35) false rfl (wF _) rfl (fun hG => by have q0 := gN hG; subst q0; exact Light.quiet (opInt rfl rfl rfl rfl)) ?_
      refine ASL.q (v := (.bool (c35 || (decide (a15.2.2 < 0))))) rfl rfl (Light.quiet (opPick (b := c35) rfl rfl (by cases c35 <;> rfl))) ?_
      obtain ⟨c39, hc39, hF⟩ := bndE hF
      refine ASL.q (v := (.bool c39)) rfl rfl ((Quiet.cast (Light.quiet (opMove rfl rfl)) (congrArg AV.bool hc39.symm))) ?_
      refine ASL.g (v := (.int .i64 a15.2.2)) (.bool c39) false rfl (wF _) rfl (fun hG => by have q0 := gN hG; subst q0; exact Light.quiet (opMove rfl rfl)) ?_
      refine ASL.g (v := (.ptr b3 0)) (.bool c39) false rfl (wF _) rfl (fun hG => by have q0 := gN hG; subst q0; exact Light.quiet (opFieldAddr rfl fieldA_33_0 rfl rfl)) ?_
      refine ASL.g (v := (.int .i64 a15.1.letters)) (.bool c39) false rfl (wF _) rfl (fun hG => by have q0 := gN hG; subst q0; exact Light.quiet (kAt hS (j := 1) rfl rfl aggA_3 rfl rfl)) ?_
      refine ASL.g (v := (.bool (decide (a15.2.2 ≥ a15.1.letters)))) (.bool c39) false rfl (wF _) rfl (fun hG => by have q0 := gN hG; subst q0; exact Light.quiet (opInt rfl rfl rfl rfl)) ?_
      refine ASL.q (v := (.bool (c39 || (decide (a15.2.2 ≥ a15.1.letters))))) rfl rfl (Light.quiet (opPick (b := c39) rfl rfl (by cases c39 <;> rfl))) ?_
      refine ASL.done ?_
      refine AWP.ifB hF rfl (fun hc9 hF => ?_) (fun hc9 hF => ?_)
      · skip
        refine AWP.seqR rfl ?_
        refine ASL.q (v := (.list 2 (List.map TRankState.av a22))) rfl rfl (Light.quiet (opMove rfl rfl)) ?_
        refine ASL.q (v := (.int .i64 (a22.length : Int))) rfl rfl (Light.quiet (opLenMap (f := TRankState.av) rfl rfl rfl lenT_44 rfl)) ?_
        refine ASL.q (v := (.bool (decide (((a22.length : Int)) = 0)))) rfl rfl (Light.quiet (opInt rfl rfl rfl rfl)) ?_
        refine ASL.q (v := (.bool (decide (((a22.length : Int)) = 0)))) rfl rfl (Light.quiet (opAssign rfl rfl)) ?_
        refine ASL.done ?_
        refine AWP.ret ?_
        refine QThen.rt ?_
        obtain rfl := someE hF
        exact QRet.sole (v := (.bool (decide (((a22.length : Int)) = 0)))) ⟨rfl, trivial⟩ rfl
      · skip
        refine AWP.skip ?_
        refine QThen.nrm ?_
        refine AWP.seqM (fun e H => E.Told e [(6, (.list 2 (List.map TRankState.av a22)))] ∧ E.Sep H [] ∧ laws_FnRankSteps.k0 a22 = some r) ?_ ?_
        · rintro e0 G10 ⟨hT, hS, hF⟩; refine AWP.only _ hT ?_; unfold laws_FnRankSteps.k0 at hF
          refine AWP.seqR rfl ?_
          refine ASL.q (v := (.list 2 (List.map TRankState.av a22))) rfl rfl (Light.quiet (opMove rfl rfl)) ?_
          refine ASL.q (v := (.int .i64 (a22.length : Int))) rfl rfl (Light.quiet (opLenMap (f := TRankState.av) rfl rfl rfl lenT_44 rfl)) ?_
          refine ASL.q (v := (.bool (decide (((a22.length : Int)) > 0)))) rfl rfl (Light.quiet (opInt rfl rfl rfl rfl)) ?_
          refine ASL.q (v := (.bool (decide (((a22.length : Int)) > 0)))) rfl rfl (Light.quiet (opAssign rfl rfl)) ?_
          refine ASL.done ?_
          refine AWP.ret ?_
          obtain rfl := someE hF
          exact QRet.sole (v := (.bool (decide (((a22.length : Int)) > 0)))) ⟨rfl, trivial⟩ rfl
        · skip
          refine AWP.seqR rfl ?_
          refine ASL.q (v := (.int .i64 0)) rfl rfl (Light.quiet (opAssign rfl rfl)) ?_
          refine ASL.done ?_
          refine AWP.block ?_
          obtain ⟨o14, hL13, hR15⟩ := bindE hF
          refine AWP.loopF (ω := Unit) hL13 (fun s w => [(3, (.ptr b3 0)), (4, (.ptr b4 0)), (5, (.int .i64 a15.2.2)), (6, (.list 2 (List.map TRankState.av a22))), (7, (.int .i64 s))]) (fun s w => [.cell b3 [(.int .i64 a15.1.letters), (.int .i64 a15.1.states), (.int .i64 a15.1.start), (.list 4 (List.map TEdge.av a15.1.edges))], .cell b4 [(.list 1 (List.map (AV.int .i64) a15.2.1.ranks)), (.int .i64 a15.2.1.owing)]]) () ⟨rfl, rfl, rfl, rfl, rfl, trivial⟩ (hS.pick [1, 0] rfl rfl) ?_
          rintro x7_l0 _ G16 hS x11 hF hx12
          try dsimp only at hS ⊢
          have hF : laws_FnRankSteps.b0 a22 a15 x7_l0 = some x11 := hF; unfold laws_FnRankSteps.b0 at hF
          refine AWP.seq ?_
          refine AWP.seqR rfl ?_
          refine ASL.q (v := (.int .i64 x7_l0)) rfl rfl (Light.quiet (opMove rfl rfl)) ?_
          refine ASL.q (v := (.list 2 (List.map TRankState.av a22))) rfl rfl (Light.quiet (opMove rfl rfl)) ?_
          refine ASL.q (v := (.int .i64 (a22.length : Int))) rfl rfl (Light.quiet (opLenMap (f := TRankState.av) rfl rfl rfl lenT_44 rfl)) ?_
          refine ASL.q (v := (.bool (decide (x7_l0 < ((a22.length : Int)))))) rfl rfl (Light.quiet (opInt rfl rfl rfl rfl)) ?_
          refine ASL.done ?_
          refine AWP.ifP hF rfl (fun hc17 hF => ?_) (fun hc17 hF => ?_)
          · skip
            refine AWP.skip ?_
            refine QThen.nrm ?_
            refine AWP.seqM (fun e H => E.Told e [(3, (.ptr b3 0)), (4, (.ptr b4 0)), (5, (.int .i64 a15.2.2)), (6, (.list 2 (List.map TRankState.av a22))), (7, (.int .i64 x7_l0))] ∧ E.Sep H [.cell b3 [(.int .i64 a15.1.letters), (.int .i64 a15.1.states), (.int .i64 a15.1.start), (.list 4 (List.map TEdge.av a15.1.edges))], .cell b4 [(.list 1 (List.map (AV.int .i64) a15.2.1.ranks)), (.int .i64 a15.2.1.owing)]] ∧ laws_FnRankSteps.k1 x7_l0 = some x11) ?_ ?_
            · rintro e0 G18 ⟨hT, hS, hF⟩; refine AWP.only _ hT ?_; unfold laws_FnRankSteps.k1 at hF
              refine AWP.lastR rfl ?_
              refine ASL.q (v := (.int .i64 x7_l0)) rfl rfl (Light.quiet (opMove rfl rfl)) ?_
              refine ASL.q (v := (.int .i64 (W (x7_l0 + 1)))) rfl rfl (Light.quiet (opInt rfl rfl rfl rfl)) ?_
              refine ASL.q (v := (.int .i64 (W (x7_l0 + 1)))) rfl rfl (Light.quiet (opAssign rfl rfl)) ?_
              refine ASL.done ?_
              refine QThen.nrm ?_
              exact ⟨(W (x7_l0 + 1)), (), (someE hF).symm, ⟨rfl, rfl, rfl, rfl, rfl, trivial⟩, (hS.pick [0, 1] rfl rfl)⟩
            · skip
              refine AWP.block ?_
              refine AWP.seq ?_
              refine AWP.seqD [(0, false), (1, false), (2, false), (3, false), (4, false), (5, false), (6, false), (7, false), (8, false), (9, false), (10, false), (11, false), (12, false), (13, false), (14, false), (15, false), (16, false), (17, false), (18, false), (19, false), (20, false), (21, false), (22, false), (23, false), (24, false)] mixed (by kernel_rfl) rfl ?_
              refine ARL.q (v := (TAuto.av a15.1)) rfl rfl (hS.aliveC (k := 0) rfl) (Light.quiet (kAtA hS (j := 0) rfl rfl aggA_33 sizeA_33 rfl (nlt rfl) rfl)) ?_
              refine ARL.q0 (v := (.list 2 (List.map TRankState.av a22))) rfl rfl (Light.quiet (opMove rfl rfl)) ?_
              refine ARL.q0 (v := (.int .i64 x7_l0)) rfl rfl (Light.quiet (opMove rfl rfl)) ?_
              obtain ⟨a57, ha57, hF⟩ := bindE hF
              refine ARL.q0 (v := (.rptr [(.list 1 (List.map (AV.int .i64) a57.ranks)), (.int .i64 a57.owing)])) rfl rfl (Light.quiet (kIx (f := TRankState.av) ha57 rfl rfl rfl elemA_44 sizeA_28 rfl)) ?_
              refine ARL.q0 (v := (TRankState.av a57)) rfl rfl (Light.quiet (opLoadRA rfl aggA_28 sizeA_28 rfl (nlt rfl) rfl)) ?_
              obtain ⟨a59, ha59, hF⟩ := bindE hF
              refine ARL.q0 (v := (.bool a59)) rfl rfl ((qCall rfl rfl call_20 (impl_RankOk_ok ha59) rfl)) ?_
              refine ARL.q0 (v := (.bool (!a59))) rfl rfl (Light.quiet (opNot rfl rfl)) ?_
              obtain ⟨c61, hc61, hF⟩ := bndE hF
              refine ARL.q0 (v := (.bool c61)) rfl rfl ((Quiet.cast (Light.quiet (opMove rfl rfl)) (congrArg AV.bool hc61.symm))) ?_
              refine ARL.g (v := (.int .i64 x7_l0)) (.bool c61) false rfl (wF _) rfl noneAlive (fun hG => by have q0 := gN hG; subst q0; exact Light.quiet (opMove rfl rfl)) ?_
              refine ARL.g (v := (.bool (decide (x7_l0 > 0)))) (.bool c61) false rfl (wF _) rfl noneAlive (fun hG => by have q0 := gN hG; subst q0; exact Light.quiet (opInt rfl rfl rfl rfl)) ?_
              obtain ⟨c64, hc64, hF⟩ := bndE hF
              refine ARL.g (v := (.bool c64)) (.bool c61) false rfl (wF _) rfl noneAlive (fun hG => by have q0 := gN hG; subst q0; exact (Quiet.cast (Light.quiet (opMove rfl rfl)) (congrArg AV.bool hc64.symm))) ?_
              refine ARL.g (v := (.list 2 (List.map TRankState.av a22))) (bif (!c61) then (.bool c64) else .tup []) true rfl (wGT _ _) rfl noneAlive (fun hG => by have q0 := gN (gA1 hG); have q1 := gA2 hG; subst q0; subst q1; exact Light.quiet (opMove rfl rfl)) ?_
              refine ARL.g (v := (.int .i64 x7_l0)) (bif (!c61) then (.bool c64) else .tup []) true rfl (wGT _ _) rfl noneAlive (fun hG => by have q0 := gN (gA1 hG); have q1 := gA2 hG; subst q0; subst q1; exact Light.quiet (opMove rfl rfl)) ?_
              obtain ⟨a67, ha67, hF⟩ := bindE hF
              refine ARL.g (v := (.rptr [(.list 1 (List.map (AV.int .i64) a67.ranks)), (.int .i64 a67.owing)])) (bif (!c61) then (.bool c64) else .tup []) true rfl (wGT _ _) rfl noneAlive (fun hG => by have q0 := gN (gA1 hG); have q1 := gA2 hG; subst q0; subst q1; exact Light.quiet (kIx (f := TRankState.av) (whenE ha67) rfl rfl rfl elemA_44 sizeA_28 rfl)) ?_
              refine ARL.g (v := (.rptr [(.list 1 (List.map (AV.int .i64) a67.ranks)), (.int .i64 a67.owing)])) (bif (!c61) then (.bool c64) else .tup []) true rfl (wGT _ _) rfl noneAlive (fun hG => by have q0 := gN (gA1 hG); have q1 := gA2 hG; subst q0; subst q1; exact Light.quiet (opFieldAddrR rfl fieldA_28_0 rfl rfl)) ?_
              refine ARL.g (v := (.list 1 (List.map (AV.int .i64) a67.ranks))) (bif (!c61) then (.bool c64) else .tup []) true rfl (wGT _ _) rfl noneAlive (fun hG => by have q0 := gN (gA1 hG); have q1 := gA2 hG; subst q0; subst q1; exact Light.quiet (opLoadR rfl aggA_26 rfl rfl)) ?_
              refine ARL.g (v := (.list 2 (List.map TRankState.av a22))) (bif (!c61) then (.bool c64) else .tup []) true rfl (wGT _ _) rfl noneAlive (fun hG => by have q0 := gN (gA1 hG); have q1 := gA2 hG; subst q0; subst q1; exact Light.quiet (opMove rfl rfl)) ?_
              refine ARL.g (v := (.int .i64 x7_l0)) (bif (!c61) then (.bool c64) else .tup []) true rfl (wGT _ _) rfl noneAlive (fun hG => by have q0 := gN (gA1 hG); have q1 := gA2 hG; subst q0; subst q1; exact Light.quiet (opMove rfl rfl)) ?_
              refine ARL.g (v := (.int .i64 (W (x7_l0 - 1)))) (bif (!c61) then (.bool c64) else .tup []) true rfl (wGT _ _) rfl noneAlive (fun hG => by have q0 := gN (gA1 hG); have q1 := gA2 hG; subst q0; subst q1; exact Light.quiet (opInt rfl rfl rfl rfl)) ?_
              obtain ⟨a73, ha73, hF⟩ := bindE hF
              refine ARL.g (v := (.rptr [(.list 1 (List.map (AV.int .i64) a73.ranks)), (.int .i64 a73.owing)])) (bif (!c61) then (.bool c64) else .tup []) true rfl (wGT _ _) rfl noneAlive (fun hG => by have q0 := gN (gA1 hG); have q1 := gA2 hG; subst q0; subst q1; exact Light.quiet (kIx (f := TRankState.av) (whenE ha73) rfl rfl rfl elemA_44 sizeA_28 rfl)) ?_
              refine ARL.g (v := (.rptr [(.list 1 (List.map (AV.int .i64) a73.ranks)), (.int .i64 a73.owing)])) (bif (!c61) then (.bool c64) else .tup []) true rfl (wGT _ _) rfl noneAlive (fun hG => by have q0 := gN (gA1 hG); have q1 := gA2 hG; subst q0; subst q1; exact Light.quiet (opFieldAddrR rfl fieldA_28_0 rfl rfl)) ?_
              refine ARL.g (v := (.list 1 (List.map (AV.int .i64) a73.ranks))) (bif (!c61) then (.bool c64) else .tup []) true rfl (wGT _ _) rfl noneAlive (fun hG => by have q0 := gN (gA1 hG); have q1 := gA2 hG; subst q0; subst q1; exact Light.quiet (opLoadR rfl aggA_26 rfl rfl)) ?_
              obtain ⟨a76, ha76, hF⟩ := bindE hF
              refine ARL.g (v := (.bool a76)) (bif (!c61) then (.bool c64) else .tup []) true rfl (wGT _ _) rfl noneAlive (fun hG => by have q0 := gN (gA1 hG); have q1 := gA2 hG; subst q0; subst q1; exact (qCall rfl rfl call_21 (laws_sameInts_ok (whenE ha76)) rfl)) ?_
              refine ARL.g (v := (.bool (c64 && a76))) (.bool c61) false rfl (wF _) rfl noneAlive (fun hG => by have q0 := gN hG; subst q0; exact Light.quiet (opPick (b := c64) rfl rfl (by cases c64 <;> rfl))) ?_
              refine ARL.q0 (v := (.bool (c61 || (c64 && a76)))) rfl rfl (Light.quiet (opPick (b := c61) rfl rfl (by cases c61 <;> rfl))) ?_
              refine ARL.done ?_
              refine AWP.ifB hF rfl (fun hc19 hF => ?_) (fun hc19 hF => ?_)
              · skip
                refine AWP.seqR rfl ?_
                refine ASL.q (v := (.bool false)) rfl rfl (Light.quiet (opAssign rfl rfl)) ?_
                refine ASL.done ?_
                refine AWP.ret ?_
                refine QThen.rt ?_
                refine QBlock.ret ?_
                refine QThen.rt ?_
                refine QThen.rt ?_
                refine QBlock.ret ?_
                refine QThen.rt ?_
                obtain rfl := (hx12 _ (someE hF).symm)
                have hF := hR15
                have hF := sumR hF
                obtain rfl := someE hF
                exact QRet.sole (v := (.bool false)) ⟨rfl, trivial⟩ rfl
              · skip
                refine AWP.skip ?_
                refine QThen.nrm ?_
                refine AWP.seqR rfl ?_
                refine ASL.q (v := (.int .i64 0)) rfl rfl (Light.quiet (opAssign rfl rfl)) ?_
                refine ASL.done ?_
                refine AWP.block ?_
                obtain ⟨o23, hL22, hR24⟩ := bindE hF
                refine AWP.loopF (ω := Unit) hL22 (fun s w => [(3, (.ptr b3 0)), (4, (.ptr b4 0)), (5, (.int .i64 a15.2.2)), (6, (.list 2 (List.map TRankState.av a22))), (7, (.int .i64 x7_l0)), (8, (.int .i64 s))]) (fun s w => [.cell b3 [(.int .i64 a15.1.letters), (.int .i64 a15.1.states), (.int .i64 a15.1.start), (.list 4 (List.map TEdge.av a15.1.edges))], .cell b4 [(.list 1 (List.map (AV.int .i64) a15.2.1.ranks)), (.int .i64 a15.2.1.owing)]]) () ⟨rfl, rfl, rfl, rfl, rfl, rfl, trivial⟩ (hS.pick [0, 1] rfl rfl) ?_
                rintro x8_l1 _ G25 hS x20 hF hx21
                try dsimp only at hS ⊢
                have hF : laws_FnRankSteps.b1 a15 a22 x7_l0 x8_l1 = some x20 := hF; unfold laws_FnRankSteps.b1 at hF
                refine AWP.seq ?_
                refine AWP.seqR rfl ?_
                refine ASL.q (v := (.int .i64 x8_l1)) rfl rfl (Light.quiet (opMove rfl rfl)) ?_
                refine ASL.q (v := (.ptr b3 1)) rfl rfl (Light.quiet (opFieldAddr rfl fieldA_33_1 rfl rfl)) ?_
                refine ASL.q (v := (.int .i64 a15.1.states)) rfl rfl (Light.quiet (kAt hS (j := 0) rfl rfl aggA_3 rfl rfl)) ?_
                refine ASL.q (v := (.bool (decide (x8_l1 < a15.1.states)))) rfl rfl (Light.quiet (opInt rfl rfl rfl rfl)) ?_
                refine ASL.done ?_
                refine AWP.ifP hF rfl (fun hc26 hF => ?_) (fun hc26 hF => ?_)
                · skip
                  refine AWP.skip ?_
                  refine QThen.nrm ?_
                  refine AWP.seq ?_
                  refine AWP.block ?_
                  refine AWP.seqR rfl ?_
                  refine ASL.q (v := (TAuto.av a15.1)) rfl rfl (Light.quiet (kAtA hS (j := 0) rfl rfl aggA_33 sizeA_33 rfl (nlt rfl) rfl)) ?_
                  refine ASL.q (v := (.int .i64 a15.2.2)) rfl rfl (Light.quiet (opMove rfl rfl)) ?_
                  refine ASL.q (v := (.int .i64 x8_l1)) rfl rfl (Light.quiet (opMove rfl rfl)) ?_
                  obtain ⟨a89, ha89, hF⟩ := bindE hF
                  refine ASL.q (v := (.tup [(.bool a89.1), (.bool a89.2)])) rfl rfl ((qCall rfl rfl call_22 (spec_AutoEdge_ok ha89) rfl)) ?_
                  refine ASL.q (v := (.tup [(.bool a89.1), (.bool a89.2)])) rfl rfl (Light.quiet (opMove rfl rfl)) ?_
                  refine ASL.q (v := (.bool a89.1)) rfl rfl (Light.quiet (opExtract rfl rfl rfl)) ?_
                  refine ASL.q (v := (.bool a89.2)) rfl rfl (Light.quiet (opExtract rfl rfl rfl)) ?_
                  refine ASL.q (v := (.bool a89.1)) rfl rfl (Light.quiet (opAssign rfl rfl)) ?_
                  refine ASL.q (v := (.bool a89.2)) rfl rfl (Light.quiet (opAssign rfl rfl)) ?_
                  refine ASL.done ?_
                  refine AWP.seqD [(0, false), (1, false), (2, false), (3, false), (4, false), (5, false), (6, false), (7, false), (8, false), (9, false), (10, false), (11, false), (12, false), (13, false), (14, false), (15, false), (16, false), (17, false), (18, false), (19, false), (20, false), (21, false), (22, false), (23, false), (24, false), (25, false), (26, false), (27, false), (28, false), (29, false), (30, false), (31, false), (32, false), (33, false), (34, false), (35, false), (36, false), (37, false), (38, false), (39, false), (40, false), (41, false), (42, false), (43, false), (44, false), (45, false), (46, false), (47, false), (48, false), (49, false), (50, false), (51, false), (52, false), (53, false), (54, false), (55, false), (56, false), (57, false), (58, false), (59, false)] mixed (by kernel_rfl) rfl ?_
                  refine ARL.q0 (v := (.bool a89.2)) rfl rfl (Light.quiet (opMove rfl rfl)) ?_
                  obtain ⟨c93, hc93, hF⟩ := bndE hF
                  refine ARL.q0 (v := (.bool c93)) rfl rfl ((Quiet.cast (Light.quiet (opMove rfl rfl)) (congrArg AV.bool hc93.symm))) ?_
                  refine ARL.g (v := (.ptr b4 0)) (.bool c93) true rfl (wT _) rfl noneAlive (fun hG => by have q0 := hG; subst q0; exact Light.quiet (opFieldAddr rfl fieldA_28_0 rfl rfl)) ?_
                  refine ARL.g (v := (.list 1 (List.map (AV.int .i64) a15.2.1.ranks))) (.bool c93) true rfl (wT _) rfl (hS.aliveC (k := 1) rfl) (fun hG => by have q0 := hG; subst q0; exact Light.quiet (kAt hS (j := 1) rfl rfl aggA_26 rfl rfl)) ?_
                  obtain ⟨a96, ha96, hF⟩ := bindE hF
                  refine ARL.g (v := (.rptr [(.int .i64 a96)])) (.bool c93) true rfl (wT _) rfl noneAlive (fun hG => by have q0 := hG; subst q0; exact Light.quiet (kIx (f := (AV.int .i64)) (whenE ha96) rfl rfl rfl elemA_26 sizeA_3 rfl)) ?_
                  refine ARL.g (v := (.int .i64 a96)) (.bool c93) true rfl (wT _) rfl noneAlive (fun hG => by have q0 := hG; subst q0; exact Light.quiet (opLoadR rfl aggA_3 rfl rfl)) ?_
                  refine ARL.g (v := (.bool (decide (a96 ≥ 0)))) (.bool c93) true rfl (wT _) rfl noneAlive (fun hG => by have q0 := hG; subst q0; exact Light.quiet (opInt rfl rfl rfl rfl)) ?_
                  refine ARL.q0 (v := (.bool (c93 && (decide (a96 ≥ 0))))) rfl rfl (Light.quiet (opPick (b := c93) rfl rfl (by cases c93 <;> rfl))) ?_
                  obtain ⟨c100, hc100, hF⟩ := bndE hF
                  refine ARL.q0 (v := (.bool c100)) rfl rfl ((Quiet.cast (Light.quiet (opMove rfl rfl)) (congrArg AV.bool hc100.symm))) ?_
                  refine ARL.g (v := (.list 2 (List.map TRankState.av a22))) (.bool c100) true rfl (wT _) rfl noneAlive (fun hG => by have q0 := hG; subst q0; exact Light.quiet (opMove rfl rfl)) ?_
                  refine ARL.g (v := (.int .i64 x7_l0)) (.bool c100) true rfl (wT _) rfl noneAlive (fun hG => by have q0 := hG; subst q0; exact Light.quiet (opMove rfl rfl)) ?_
                  obtain ⟨a103, ha103, hF⟩ := bindE hF
                  refine ARL.g (v := (.rptr [(.list 1 (List.map (AV.int .i64) a103.ranks)), (.int .i64 a103.owing)])) (.bool c100) true rfl (wT _) rfl noneAlive (fun hG => by have q0 := hG; subst q0; exact Light.quiet (kIx (f := TRankState.av) (whenE ha103) rfl rfl rfl elemA_44 sizeA_28 rfl)) ?_
                  refine ARL.g (v := (.rptr [(.list 1 (List.map (AV.int .i64) a103.ranks)), (.int .i64 a103.owing)])) (.bool c100) true rfl (wT _) rfl noneAlive (fun hG => by have q0 := hG; subst q0; exact Light.quiet (opFieldAddrR rfl fieldA_28_0 rfl rfl)) ?_
                  refine ARL.g (v := (.list 1 (List.map (AV.int .i64) a103.ranks))) (.bool c100) true rfl (wT _) rfl noneAlive (fun hG => by have q0 := hG; subst q0; exact Light.quiet (opLoadR rfl aggA_26 rfl rfl)) ?_
                  refine ARL.g (v := (.int .i64 x8_l1)) (.bool c100) true rfl (wT _) rfl noneAlive (fun hG => by have q0 := hG; subst q0; exact Light.quiet (opMove rfl rfl)) ?_
                  obtain ⟨a107, ha107, hF⟩ := bindE hF
                  refine ARL.g (v := (.rptr [(.int .i64 a107)])) (.bool c100) true rfl (wT _) rfl noneAlive (fun hG => by have q0 := hG; subst q0; exact Light.quiet (kIx (f := (AV.int .i64)) (whenE ha107) rfl rfl rfl elemA_26 sizeA_3 rfl)) ?_
                  refine ARL.g (v := (.int .i64 a107)) (.bool c100) true rfl (wT _) rfl noneAlive (fun hG => by have q0 := hG; subst q0; exact Light.quiet (opLoadR rfl aggA_3 rfl rfl)) ?_
                  refine ARL.g (v := (.bool (decide (a107 < 0)))) (.bool c100) true rfl (wT _) rfl noneAlive (fun hG => by have q0 := hG; subst q0; exact Light.quiet (opInt rfl rfl rfl rfl)) ?_
                  obtain ⟨c110, hc110, hF⟩ := bndE hF
                  refine ARL.g (v := (.bool c110)) (.bool c100) true rfl (wT _) rfl noneAlive (fun hG => by have q0 := hG; subst q0; exact (Quiet.cast (Light.quiet (opMove rfl rfl)) (congrArg AV.bool hc110.symm))) ?_
                  refine ARL.g (v := (.list 2 (List.map TRankState.av a22))) (bif c100 then (.bool c110) else .tup []) false rfl (wGF _ _) rfl noneAlive (fun hG => by have q0 := gA1 hG; have q1 := gN (gA2 hG); subst q0; subst q1; exact Light.quiet (opMove rfl rfl)) ?_
                  refine ARL.g (v := (.int .i64 x7_l0)) (bif c100 then (.bool c110) else .tup []) false rfl (wGF _ _) rfl noneAlive (fun hG => by have q0 := gA1 hG; have q1 := gN (gA2 hG); subst q0; subst q1; exact Light.quiet (opMove rfl rfl)) ?_
                  obtain ⟨a113, ha113, hF⟩ := bindE hF
                  refine ARL.g (v := (.rptr [(.list 1 (List.map (AV.int .i64) a113.ranks)), (.int .i64 a113.owing)])) (bif c100 then (.bool c110) else .tup []) false rfl (wGF _ _) rfl noneAlive (fun hG => by have q0 := gA1 hG; have q1 := gN (gA2 hG); subst q0; subst q1; exact Light.quiet (kIx (f := TRankState.av) (whenE ha113) rfl rfl rfl elemA_44 sizeA_28 rfl)) ?_
                  refine ARL.g (v := (.rptr [(.list 1 (List.map (AV.int .i64) a113.ranks)), (.int .i64 a113.owing)])) (bif c100 then (.bool c110) else .tup []) false rfl (wGF _ _) rfl noneAlive (fun hG => by have q0 := gA1 hG; have q1 := gN (gA2 hG); subst q0; subst q1; exact Light.quiet (opFieldAddrR rfl fieldA_28_0 rfl rfl)) ?_
                  refine ARL.g (v := (.list 1 (List.map (AV.int .i64) a113.ranks))) (bif c100 then (.bool c110) else .tup []) false rfl (wGF _ _) rfl noneAlive (fun hG => by have q0 := gA1 hG; have q1 := gN (gA2 hG); subst q0; subst q1; exact Light.quiet (opLoadR rfl aggA_26 rfl rfl)) ?_
                  refine ARL.g (v := (.int .i64 x8_l1)) (bif c100 then (.bool c110) else .tup []) false rfl (wGF _ _) rfl noneAlive (fun hG => by have q0 := gA1 hG; have q1 := gN (gA2 hG); subst q0; subst q1; exact Light.quiet (opMove rfl rfl)) ?_
                  obtain ⟨a117, ha117, hF⟩ := bindE hF
                  refine ARL.g (v := (.rptr [(.int .i64 a117)])) (bif c100 then (.bool c110) else .tup []) false rfl (wGF _ _) rfl noneAlive (fun hG => by have q0 := gA1 hG; have q1 := gN (gA2 hG); subst q0; subst q1; exact Light.quiet (kIx (f := (AV.int .i64)) (whenE ha117) rfl rfl rfl elemA_26 sizeA_3 rfl)) ?_
                  refine ARL.g (v := (.int .i64 a117)) (bif c100 then (.bool c110) else .tup []) false rfl (wGF _ _) rfl noneAlive (fun hG => by have q0 := gA1 hG; have q1 := gN (gA2 hG); subst q0; subst q1; exact Light.quiet (opLoadR rfl aggA_3 rfl rfl)) ?_
                  refine ARL.g (v := (.ptr b4 0)) (bif c100 then (.bool c110) else .tup []) false rfl (wGF _ _) rfl noneAlive (fun hG => by have q0 := gA1 hG; have q1 := gN (gA2 hG); subst q0; subst q1; exact Light.quiet (opFieldAddr rfl fieldA_28_0 rfl rfl)) ?_
                  refine ARL.g (v := (.list 1 (List.map (AV.int .i64) a15.2.1.ranks))) (bif c100 then (.bool c110) else .tup []) false rfl (wGF _ _) rfl (hS.aliveC (k := 1) rfl) (fun hG => by have q0 := gA1 hG; have q1 := gN (gA2 hG); subst q0; subst q1; exact Light.quiet (kAt hS (j := 1) rfl rfl aggA_26 rfl rfl)) ?_
                  obtain ⟨a121, ha121, hF⟩ := bindE hF
                  refine ARL.g (v := (.rptr [(.int .i64 a121)])) (bif c100 then (.bool c110) else .tup []) false rfl (wGF _ _) rfl noneAlive (fun hG => by have q0 := gA1 hG; have q1 := gN (gA2 hG); subst q0; subst q1; exact Light.quiet (kIx (f := (AV.int .i64)) (whenE ha121) rfl rfl rfl elemA_26 sizeA_3 rfl)) ?_
                  refine ARL.g (v := (.int .i64 a121)) (bif c100 then (.bool c110) else .tup []) false rfl (wGF _ _) rfl noneAlive (fun hG => by have q0 := gA1 hG; have q1 := gN (gA2 hG); subst q0; subst q1; exact Light.quiet (opLoadR rfl aggA_3 rfl rfl)) ?_
                  refine ARL.g (v := (.bool (decide (a117 > a121)))) (bif c100 then (.bool c110) else .tup []) false rfl (wGF _ _) rfl noneAlive (fun hG => by have q0 := gA1 hG; have q1 := gN (gA2 hG); subst q0; subst q1; exact Light.quiet (opInt rfl rfl rfl rfl)) ?_
                  refine ARL.g (v := (.bool (c110 || (decide (a117 > a121))))) (.bool c100) true rfl (wT _) rfl noneAlive (fun hG => by have q0 := hG; subst q0; exact Light.quiet (opPick (b := c110) rfl rfl (by cases c110 <;> rfl))) ?_
                  obtain ⟨c125, hc125, hF⟩ := bndE hF
                  refine ARL.g (v := (.bool c125)) (.bool c100) true rfl (wT _) rfl noneAlive (fun hG => by have q0 := hG; subst q0; exact (Quiet.cast (Light.quiet (opMove rfl rfl)) (congrArg AV.bool hc125.symm))) ?_
                  refine ARL.g (v := (.bool a89.1)) (bif c100 then (.bool c125) else .tup []) false rfl (wGF _ _) rfl noneAlive (fun hG => by have q0 := gA1 hG; have q1 := gN (gA2 hG); subst q0; subst q1; exact Light.quiet (opMove rfl rfl)) ?_
                  obtain ⟨c127, hc127, hF⟩ := bndE hF
                  refine ARL.g (v := (.bool c127)) (bif c100 then (.bool c125) else .tup []) false rfl (wGF _ _) rfl noneAlive (fun hG => by have q0 := gA1 hG; have q1 := gN (gA2 hG); subst q0; subst q1; exact (Quiet.cast (Light.quiet (opMove rfl rfl)) (congrArg AV.bool hc127.symm))) ?_
                  refine ARL.g (v := (.ptr b4 0)) (bif (c100 && (!c125)) then (.bool c127) else .tup []) true rfl (wGT _ _) rfl noneAlive (fun hG => by have q0 := gA1 (gA1 hG); have q1 := gN (gA2 (gA1 hG)); have q2 := gA2 hG; subst q0; subst q1; subst q2; exact Light.quiet (opFieldAddr rfl fieldA_28_0 rfl rfl)) ?_
                  refine ARL.g (v := (.list 1 (List.map (AV.int .i64) a15.2.1.ranks))) (bif (c100 && (!c125)) then (.bool c127) else .tup []) true rfl (wGT _ _) rfl (hS.aliveC (k := 1) rfl) (fun hG => by have q0 := gA1 (gA1 hG); have q1 := gN (gA2 (gA1 hG)); have q2 := gA2 hG; subst q0; subst q1; subst q2; exact Light.quiet (kAt hS (j := 1) rfl rfl aggA_26 rfl rfl)) ?_
                  obtain ⟨a130, ha130, hF⟩ := bindE hF
                  refine ARL.g (v := (.rptr [(.int .i64 a130)])) (bif (c100 && (!c125)) then (.bool c127) else .tup []) true rfl (wGT _ _) rfl noneAlive (fun hG => by have q0 := gA1 (gA1 hG); have q1 := gN (gA2 (gA1 hG)); have q2 := gA2 hG; subst q0; subst q1; subst q2; exact Light.quiet (kIx (f := (AV.int .i64)) (whenE ha130) rfl rfl rfl elemA_26 sizeA_3 rfl)) ?_
                  refine ARL.g (v := (.int .i64 a130)) (bif (c100 && (!c125)) then (.bool c127) else .tup []) true rfl (wGT _ _) rfl noneAlive (fun hG => by have q0 := gA1 (gA1 hG); have q1 := gN (gA2 (gA1 hG)); have q2 := gA2 hG; subst q0; subst q1; subst q2; exact Light.quiet (opLoadR rfl aggA_3 rfl rfl)) ?_
                  refine ARL.g (v := (.int .i64 (Int.tmod a130 2))) (bif (c100 && (!c125)) then (.bool c127) else .tup []) true rfl (wGT _ _) rfl noneAlive (fun hG => by have q0 := gA1 (gA1 hG); have q1 := gN (gA2 (gA1 hG)); have q2 := gA2 hG; subst q0; subst q1; subst q2; exact Light.quiet (opRem rfl rfl rfl (by decide) rfl)) ?_
                  refine ARL.g (v := (.bool (decide (((Int.tmod a130 2)) = 1)))) (bif (c100 && (!c125)) then (.bool c127) else .tup []) true rfl (wGT _ _) rfl noneAlive (fun hG => by have q0 := gA1 (gA1 hG); have q1 := gN (gA2 (gA1 hG)); have q2 := gA2 hG; subst q0; subst q1; subst q2; exact Light.quiet (opInt rfl rfl rfl rfl)) ?_
                  refine ARL.g (v := (.bool (c127 && (decide (((Int.tmod a130 2)) = 1))))) (bif c100 then (.bool c125) else .tup []) false rfl (wGF _ _) rfl noneAlive (fun hG => by have q0 := gA1 hG; have q1 := gN (gA2 hG); subst q0; subst q1; exact Light.quiet (opPick (b := c127) rfl rfl (by cases c127 <;> rfl))) ?_
                  obtain ⟨c135, hc135, hF⟩ := bndE hF
                  refine ARL.g (v := (.bool c135)) (bif c100 then (.bool c125) else .tup []) false rfl (wGF _ _) rfl noneAlive (fun hG => by have q0 := gA1 hG; have q1 := gN (gA2 hG); subst q0; subst q1; exact (Quiet.cast (Light.quiet (opMove rfl rfl)) (congrArg AV.bool hc135.symm))) ?_
                  refine ARL.g (v := (.list 2 (List.map TRankState.av a22))) (bif (c100 && (!c125)) then (.bool c135) else .tup []) true rfl (wGT _ _) rfl noneAlive (fun hG => by have q0 := gA1 (gA1 hG); have q1 := gN (gA2 (gA1 hG)); have q2 := gA2 hG; subst q0; subst q1; subst q2; exact Light.quiet (opMove rfl rfl)) ?_
                  refine ARL.g (v := (.int .i64 x7_l0)) (bif (c100 && (!c125)) then (.bool c135) else .tup []) true rfl (wGT _ _) rfl noneAlive (fun hG => by have q0 := gA1 (gA1 hG); have q1 := gN (gA2 (gA1 hG)); have q2 := gA2 hG; subst q0; subst q1; subst q2; exact Light.quiet (opMove rfl rfl)) ?_
                  obtain ⟨a138, ha138, hF⟩ := bindE hF
                  refine ARL.g (v := (.rptr [(.list 1 (List.map (AV.int .i64) a138.ranks)), (.int .i64 a138.owing)])) (bif (c100 && (!c125)) then (.bool c135) else .tup []) true rfl (wGT _ _) rfl noneAlive (fun hG => by have q0 := gA1 (gA1 hG); have q1 := gN (gA2 (gA1 hG)); have q2 := gA2 hG; subst q0; subst q1; subst q2; exact Light.quiet (kIx (f := TRankState.av) (whenE ha138) rfl rfl rfl elemA_44 sizeA_28 rfl)) ?_
                  refine ARL.g (v := (.rptr [(.list 1 (List.map (AV.int .i64) a138.ranks)), (.int .i64 a138.owing)])) (bif (c100 && (!c125)) then (.bool c135) else .tup []) true rfl (wGT _ _) rfl noneAlive (fun hG => by have q0 := gA1 (gA1 hG); have q1 := gN (gA2 (gA1 hG)); have q2 := gA2 hG; subst q0; subst q1; subst q2; exact Light.quiet (opFieldAddrR rfl fieldA_28_0 rfl rfl)) ?_
                  refine ARL.g (v := (.list 1 (List.map (AV.int .i64) a138.ranks))) (bif (c100 && (!c125)) then (.bool c135) else .tup []) true rfl (wGT _ _) rfl noneAlive (fun hG => by have q0 := gA1 (gA1 hG); have q1 := gN (gA2 (gA1 hG)); have q2 := gA2 hG; subst q0; subst q1; subst q2; exact Light.quiet (opLoadR rfl aggA_26 rfl rfl)) ?_
                  refine ARL.g (v := (.int .i64 x8_l1)) (bif (c100 && (!c125)) then (.bool c135) else .tup []) true rfl (wGT _ _) rfl noneAlive (fun hG => by have q0 := gA1 (gA1 hG); have q1 := gN (gA2 (gA1 hG)); have q2 := gA2 hG; subst q0; subst q1; subst q2; exact Light.quiet (opMove rfl rfl)) ?_
                  obtain ⟨a142, ha142, hF⟩ := bindE hF
                  refine ARL.g (v := (.rptr [(.int .i64 a142)])) (bif (c100 && (!c125)) then (.bool c135) else .tup []) true rfl (wGT _ _) rfl noneAlive (fun hG => by have q0 := gA1 (gA1 hG); have q1 := gN (gA2 (gA1 hG)); have q2 := gA2 hG; subst q0; subst q1; subst q2; exact Light.quiet (kIx (f := (AV.int .i64)) (whenE ha142) rfl rfl rfl elemA_26 sizeA_3 rfl)) ?_
                  refine ARL.g (v := (.int .i64 a142)) (bif (c100 && (!c125)) then (.bool c135) else .tup []) true rfl (wGT _ _) rfl noneAlive (fun hG => by have q0 := gA1 (gA1 hG); have q1 := gN (gA2 (gA1 hG)); have q2 := gA2 hG; subst q0; subst q1; subst q2; exact Light.quiet (opLoadR rfl aggA_3 rfl rfl)) ?_
                  refine ARL.g (v := (.ptr b4 0)) (bif (c100 && (!c125)) then (.bool c135) else .tup []) true rfl (wGT _ _) rfl noneAlive (fun hG => by have q0 := gA1 (gA1 hG); have q1 := gN (gA2 (gA1 hG)); have q2 := gA2 hG; subst q0; subst q1; subst q2; exact Light.quiet (opFieldAddr rfl fieldA_28_0 rfl rfl)) ?_
                  refine ARL.g (v := (.list 1 (List.map (AV.int .i64) a15.2.1.ranks))) (bif (c100 && (!c125)) then (.bool c135) else .tup []) true rfl (wGT _ _) rfl (hS.aliveC (k := 1) rfl) (fun hG => by have q0 := gA1 (gA1 hG); have q1 := gN (gA2 (gA1 hG)); have q2 := gA2 hG; subst q0; subst q1; subst q2; exact Light.quiet (kAt hS (j := 1) rfl rfl aggA_26 rfl rfl)) ?_
                  obtain ⟨a146, ha146, hF⟩ := bindE hF
                  refine ARL.g (v := (.rptr [(.int .i64 a146)])) (bif (c100 && (!c125)) then (.bool c135) else .tup []) true rfl (wGT _ _) rfl noneAlive (fun hG => by have q0 := gA1 (gA1 hG); have q1 := gN (gA2 (gA1 hG)); have q2 := gA2 hG; subst q0; subst q1; subst q2; exact Light.quiet (kIx (f := (AV.int .i64)) (whenE ha146) rfl rfl rfl elemA_26 sizeA_3 rfl)) ?_
                  refine ARL.g (v := (.int .i64 a146)) (bif (c100 && (!c125)) then (.bool c135) else .tup []) true rfl (wGT _ _) rfl noneAlive (fun hG => by have q0 := gA1 (gA1 hG); have q1 := gN (gA2 (gA1 hG)); have q2 := gA2 hG; subst q0; subst q1; subst q2; exact Light.quiet (opLoadR rfl aggA_3 rfl rfl)) ?_
                  refine ARL.g (v := (.bool (decide (a142 = a146)))) (bif (c100 && (!c125)) then (.bool c135) else .tup []) true rfl (wGT _ _) rfl noneAlive (fun hG => by have q0 := gA1 (gA1 hG); have q1 := gN (gA2 (gA1 hG)); have q2 := gA2 hG; subst q0; subst q1; subst q2; exact Light.quiet (opInt rfl rfl rfl rfl)) ?_
                  refine ARL.g (v := (.bool (c135 && (decide (a142 = a146))))) (bif c100 then (.bool c125) else .tup []) false rfl (wGF _ _) rfl noneAlive (fun hG => by have q0 := gA1 hG; have q1 := gN (gA2 hG); subst q0; subst q1; exact Light.quiet (opPick (b := c135) rfl rfl (by cases c135 <;> rfl))) ?_
                  refine ARL.g (v := (.bool (c125 || (c135 && (decide (a142 = a146)))))) (.bool c100) true rfl (wT _) rfl noneAlive (fun hG => by have q0 := hG; subst q0; exact Light.quiet (opPick (b := c125) rfl rfl (by cases c125 <;> rfl))) ?_
                  refine ARL.q0 (v := (.bool (c100 && (c125 || (c135 && (decide (a142 = a146))))))) rfl rfl (Light.quiet (opPick (b := c100) rfl rfl (by cases c100 <;> rfl))) ?_
                  refine ARL.done ?_
                  refine AWP.ifB hF rfl (fun hc27 hF => ?_) (fun hc27 hF => ?_)
                  · skip
                    refine AWP.seqR rfl ?_
                    refine ASL.q (v := (.bool false)) rfl rfl (Light.quiet (opAssign rfl rfl)) ?_
                    refine ASL.done ?_
                    refine AWP.ret ?_
                    refine QBlock.ret ?_
                    refine QThen.rt ?_
                    refine QThen.rt ?_
                    refine QBlock.ret ?_
                    refine QBlock.ret ?_
                    refine QThen.rt ?_
                    refine QThen.rt ?_
                    refine QBlock.ret ?_
                    refine QThen.rt ?_
                    obtain rfl := (hx21 _ (someE hF).symm)
                    have hF := hR24
                    have hF := sumR hF
                    obtain rfl := (hx12 _ (someE hF).symm)
                    have hF := hR15
                    have hF := sumR hF
                    obtain rfl := someE hF
                    exact QRet.sole (v := (.bool false)) ⟨rfl, trivial⟩ rfl
                  · skip
                    refine AWP.skip ?_
                    refine QBlock.nrm ?_
                    refine QThen.nrm ?_
                    refine AWP.lastR rfl ?_
                    refine ASL.q (v := (.int .i64 x8_l1)) rfl rfl (Light.quiet (opMove rfl rfl)) ?_
                    refine ASL.q (v := (.int .i64 (W (x8_l1 + 1)))) rfl rfl (Light.quiet (opInt rfl rfl rfl rfl)) ?_
                    refine ASL.q (v := (.int .i64 (W (x8_l1 + 1)))) rfl rfl (Light.quiet (opAssign rfl rfl)) ?_
                    refine ASL.done ?_
                    refine QThen.nrm ?_
                    exact ⟨(W (x8_l1 + 1)), (), (someE hF).symm, ⟨rfl, rfl, rfl, rfl, rfl, rfl, trivial⟩, (hS.pick [0, 1] rfl rfl)⟩
                · skip
                  refine AWP.exit ?_
                  refine QThen.ext ?_
                  refine QThen.ext ?_
                  refine QBlock.hit ?_
                  obtain rfl := (hx21 _ (someE hF).symm)
                  have hF := hR24
                  have hF := sumL hF
                  refine QBlock.nrm ?_
                  refine QThen.nrm ?_
                  exact ⟨⟨rfl, rfl, rfl, rfl, rfl, trivial⟩, (hS.pick [0, 1] rfl rfl), hF⟩
          · skip
            refine AWP.exit ?_
            refine QThen.ext ?_
            refine QThen.ext ?_
            refine QBlock.hit ?_
            obtain rfl := (hx12 _ (someE hF).symm)
            have hF := hR15
            have hF := sumL hF
            refine QThen.nrm ?_
            exact ⟨⟨rfl, trivial⟩, (hS.pick [] rfl rfl), hF⟩

end Go.Proofs.Ytllpbgcajgbfbaa
