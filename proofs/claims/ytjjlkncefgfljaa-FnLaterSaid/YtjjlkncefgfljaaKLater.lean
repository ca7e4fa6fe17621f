/- Each of these functions of the program comes to just what its plain function says: FnLater. -/
import Derived.Test.YtjjlkncefgfljaaKLaterp1
namespace Go.Proofs.Ytjjlkncefgfljaa
open Go Go.RowKit E
set_option linter.unusedVariables false
set_option maxRecDepth 10000 in
theorem slices_Equal_int_int_ok {p0 : (List Int)} {p1 : (List Int)} {r : Bool} (hF : slices_Equal_int_int p0 p1 = some r) : PC Try.prog 113 [(.list 1 (List.map (AV.int .i64) p0)), (.list 1 (List.map (AV.int .i64) p1))] fun v => v = (.bool r) := by
  refine PC.enter Try.func113 rfl Try.ntmps113 (by simp) ?_
  have hS := Sep.void; unfold slices_Equal_int_int at hF
  refine AWP.seqR rfl ?_
  refine ASL.q (v := (.bool false)) rfl rfl (Light.quiet (opAssign rfl rfl)) ?_
  refine ASL.done ?_
  refine AWP.seq ?_
  refine AWP.seqR rfl ?_
  refine ASL.q (v := (.list 1 (List.map (AV.int .i64) p0))) rfl rfl (Light.quiet (opMove rfl rfl)) ?_
  refine ASL.q (v := (.int .i64 (p0.length : Int))) rfl rfl (Light.quiet (opLenMap (f := (AV.int .i64)) rfl rfl rfl lenT_32 rfl)) ?_
  refine ASL.q (v := (.list 1 (List.map (AV.int .i64) p1))) rfl rfl (Light.quiet (opMove rfl rfl)) ?_
  refine ASL.q (v := (.int .i64 (p1.length : Int))) rfl rfl (Light.quiet (opLenMap (f := (AV.int .i64)) rfl rfl rfl lenT_32 rfl)) ?_
  refine ASL.q (v := (.bool (decide (((p0.length : Int)) ≠ ((p1.length : Int)))))) rfl rfl (Light.quiet (opInt rfl rfl rfl rfl)) ?_
  refine ASL.done ?_
  refine AWP.ifP hF rfl (fun hc1 hF => ?_) (fun hc1 hF => ?_)
  · skip
    refine AWP.seqR rfl ?_
    refine ASL.q (v := (.bool false)) rfl rfl (Light.quiet (opAssign rfl rfl)) ?_
    refine ASL.done ?_
    refine AWP.ret ?_
    refine QThen.rt ?_
    obtain rfl := someE hF
    exact QRet.sole (v := (.bool false)) ⟨rfl, trivial⟩ rfl
  · skip
    refine AWP.skip ?_
    refine QThen.nrm ?_
    refine AWP.seqM (fun e H => E.Told e [] ∧ E.Sep H [] ∧ slices_Equal_int_int.k0 = some r) ?_ ?_
    · rintro e0 G2 ⟨hT, hS, hF⟩; refine AWP.only _ hT ?_; unfold slices_Equal_int_int.k0 at hF
      refine AWP.seqR rfl ?_
      refine ASL.q (v := (.bool true)) rfl rfl (Light.quiet (opAssign rfl rfl)) ?_
      refine ASL.done ?_
      refine AWP.ret ?_
      obtain rfl := someE hF
      exact QRet.sole (v := (.bool true)) ⟨rfl, trivial⟩ rfl
    · skip
      refine AWP.seqR rfl ?_
      refine ASL.q (v := (.list 1 (List.map (AV.int .i64) p0))) rfl rfl (Light.quiet (opMove rfl rfl)) ?_
      refine ASL.q (v := (.int .i64 (p0.length : Int))) rfl rfl (Light.quiet (opLenMap (f := (AV.int .i64)) rfl rfl rfl lenT_32 rfl)) ?_
      refine ASL.q (v := (.int .i64 0)) rfl rfl (Light.quiet (opMove rfl rfl)) ?_
      refine ASL.done ?_
      refine AWP.block ?_
      obtain ⟨o6, hL5, hR7⟩ := bindE hF
      refine AWP.loopF (ω := Unit) hL5 (fun s w => [(0, (.list 1 (List.map (AV.int .i64) p0))), (1, (.list 1 (List.map (AV.int .i64) p1))), (12, (.int .i64 (p0.length : Int))), (13, (.int .i64 s))]) (fun s w => []) () ⟨rfl, rfl, rfl, rfl, trivial⟩ (hS.pick [] rfl rfl) ?_
      rintro x13_l0 _ G8 hS x3 hF hx4
      try dsimp only at hS ⊢
      have hF : slices_Equal_int_int.b0 p0 p1 x13_l0 = some x3 := hF; unfold slices_Equal_int_int.b0 at hF
      refine AWP.seqR rfl ?_
      refine ASL.q (v := (.bool (decide (x13_l0 < ((p0.length : Int)))))) rfl rfl (Light.quiet (opInt rfl rfl rfl rfl)) ?_
      refine ASL.done ?_
      refine AWP.seq ?_
      refine AWP.ifP hF rfl (fun hc9 hF => ?_) (fun hc9 hF => ?_)
      · skip
        refine AWP.skip ?_
        refine QThen.nrm ?_
        refine AWP.seq ?_
        refine AWP.block ?_
        refine AWP.seqR rfl ?_
        refine ASL.q (v := (.int .i64 x13_l0)) rfl rfl (Light.quiet (opMove rfl rfl)) ?_
        refine ASL.q (v := (.int .i64 x13_l0)) rfl rfl (Light.quiet (opAssign rfl rfl)) ?_
        refine ASL.done ?_
        refine AWP.seqD [(0, false), (1, false), (2, false), (3, false), (4, false), (5, false), (6, false), (7, false), (8, false)] mixed (by kernel_rfl) rfl ?_
        refine ARL.q0 (v := (.list 1 (List.map (AV.int .i64) p0))) rfl rfl (Light.quiet (opMove rfl rfl)) ?_
        refine ARL.q0 (v := (.int .i64 x13_l0)) rfl rfl (Light.quiet (opMove rfl rfl)) ?_
        obtain ⟨a18, ha18, hF⟩ := bindE hF
        refine ARL.q0 (v := (.rptr [(.int .i64 a18)])) rfl rfl (Light.quiet (kIx (f := (AV.int .i64)) ha18 rfl rfl rfl elemA_32 sizeA_3 rfl)) ?_
        refine ARL.q0 (v := (.int .i64 a18)) rfl rfl (Light.quiet (opLoadR rfl aggA_3 rfl rfl)) ?_
        refine ARL.q0 (v := (.list 1 (List.map (AV.int .i64) p1))) rfl rfl (Light.quiet (opMove rfl rfl)) ?_
        refine ARL.q0 (v := (.int .i64 x13_l0)) rfl rfl (Light.quiet (opMove rfl rfl)) ?_
        obtain ⟨a22, ha22, hF⟩ := bindE hF
        refine ARL.q0 (v := (.rptr [(.int .i64 a22)])) rfl rfl (Light.quiet (kIx (f := (AV.int .i64)) ha22 rfl rfl rfl elemA_32 sizeA_3 rfl)) ?_
        refine ARL.q0 (v := (.int .i64 a22)) rfl rfl (Light.quiet (opLoadR rfl aggA_3 rfl rfl)) ?_
        refine ARL.q0 (v := (.bool (decide (a18 ≠ a22)))) rfl rfl (Light.quiet (opInt rfl rfl rfl rfl)) ?_
        refine ARL.done ?_
        refine AWP.ifP hF rfl (fun hc10 hF => ?_) (fun hc10 hF => ?_)
        · skip
          refine AWP.seqR rfl ?_
          refine ASL.q (v := (.bool false)) rfl rfl (Light.quiet (opAssign rfl rfl)) ?_
          refine ASL.done ?_
          refine AWP.ret ?_
          refine QBlock.ret ?_
          refine QThen.rt ?_
          refine QThen.rt ?_
          refine QBlock.ret ?_
          refine QThen.rt ?_
          obtain rfl := (hx4 _ (someE hF).symm)
          have hF := hR7
          have hF := sumR hF
          obtain rfl := someE hF
          exact QRet.sole (v := (.bool false)) ⟨rfl, trivial⟩ rfl
        · skip
          refine AWP.skip ?_
          refine QBlock.nrm ?_
          refine QThen.nrm ?_
          refine AWP.lastR rfl ?_
          refine ASL.q (v := (.int .i64 (W (x13_l0 + 1)))) rfl rfl (Light.quiet (opInt rfl rfl rfl rfl)) ?_
          refine ASL.q (v := (.int .i64 (W (x13_l0 + 1)))) rfl rfl (Light.quiet (opMove rfl rfl)) ?_
          refine ASL.done ?_
          refine QThen.nrm ?_
          exact ⟨(W (x13_l0 + 1)), (), (someE hF).symm, ⟨rfl, rfl, rfl, rfl, trivial⟩, (hS.pick [] rfl rfl)⟩
      · skip
        refine AWP.exit ?_
        refine QThen.ext ?_
        refine QThen.ext ?_
        refine QBlock.hit ?_
        obtain rfl := (hx4 _ (someE hF).symm)
        have hF := hR7
        have hF := sumL hF
        refine QThen.nrm ?_
        exact ⟨trivial, (hS.pick [] rfl rfl), hF⟩

set_option maxRecDepth 10000 in
theorem impl_period_ok {p0 : (List Int)} {r : Int} (hF : impl_period p0 = some r) : PC Try.prog 94 [(.list 1 (List.map (AV.int .i64) p0))] fun v => v = (.int .i64 r) := by
  refine PC.enter Try.func94 rfl Try.ntmps94 (by simp) ?_
  have hS := Sep.void; unfold impl_period at hF
  refine AWP.seqR rfl ?_
  refine ASL.q (v := (.int .i64 0)) rfl rfl (Light.quiet (opAssign rfl rfl)) ?_
  refine ASL.done ?_
  refine AWP.seqM (fun e H => E.Told e [(0, (.list 1 (List.map (AV.int .i64) p0)))] ∧ E.Sep H [] ∧ impl_period.k0 p0 = some r) ?_ ?_
  · rintro e0 G1 ⟨hT, hS, hF⟩; refine AWP.only _ hT ?_; unfold impl_period.k0 at hF
    refine AWP.seqR rfl ?_
    refine ASL.q (v := (.list 1 (List.map (AV.int .i64) p0))) rfl rfl (Light.quiet (opMove rfl rfl)) ?_
    refine ASL.q (v := (.int .i64 (p0.length : Int))) rfl rfl (Light.quiet (opLenMap (f := (AV.int .i64)) rfl rfl rfl lenT_32 rfl)) ?_
    refine ASL.q (v := (.int .i64 (p0.length : Int))) rfl rfl (Light.quiet (opAssign rfl rfl)) ?_
    refine ASL.done ?_
    refine AWP.ret ?_
    obtain rfl := someE hF
    exact QRet.sole (v := (.int .i64 (p0.length : Int))) ⟨rfl, trivial⟩ rfl
  · skip
    refine AWP.seqR rfl ?_
    refine ASL.q (v := (.int .i64 1)) rfl rfl (Light.quiet (opAssign rfl rfl)) ?_
    refine ASL.done ?_
    refine AWP.block ?_
    obtain ⟨o5, hL4, hR6⟩ := bindE hF
    refine AWP.loopF (ω := Unit) hL4 (fun s w => [(0, (.list 1 (List.map (AV.int .i64) p0))), (3, (.int .i64 s))]) (fun s w => []) () ⟨rfl, rfl, trivial⟩ (hS.pick [] rfl rfl) ?_
    rintro x3_l0 _ G7 hS x2 hF hx3
    try dsimp only at hS ⊢
    have hF : impl_period.b0 p0 x3_l0 = some x2 := hF; unfold impl_period.b0 at hF
    refine AWP.seq ?_
    refine AWP.seqR rfl ?_
    refine ASL.q (v := (.int .i64 x3_l0)) rfl rfl (Light.quiet (opMove rfl rfl)) ?_
    refine ASL.q (v := (.list 1 (List.map (AV.int .i64) p0))) rfl rfl (Light.quiet (opMove rfl rfl)) ?_
    refine ASL.q (v := (.int .i64 (p0.length : Int))) rfl rfl (Light.quiet (opLenMap (f := (AV.int .i64)) rfl rfl rfl lenT_32 rfl)) ?_
    refine ASL.q (v := (.bool (decide (x3_l0 < ((p0.length : Int)))))) rfl rfl (Light.quiet (opInt rfl rfl rfl rfl)) ?_
    refine ASL.done ?_
    refine AWP.ifP hF rfl (fun hc8 hF => ?_) (fun hc8 hF => ?_)
    · skip
      refine AWP.skip ?_
      refine QThen.nrm ?_
      refine AWP.seq ?_
      refine AWP.block ?_
      refine AWP.seqD [(0, false), (1, false), (2, false), (3, false), (4, false), (5, false), (6, false), (7, false), (8, false), (9, false), (10, false), (11, false), (12, false), (13, false), (14, false), (15, false), (16, false)] mixed (by kernel_rfl) rfl ?_
      refine ARL.q0 (v := (.list 1 (List.map (AV.int .i64) p0))) rfl rfl (Light.quiet (opMove rfl rfl)) ?_
      refine ARL.q0 (v := (.int .i64 (p0.length : Int))) rfl rfl (Light.quiet (opLenMap (f := (AV.int .i64)) rfl rfl rfl lenT_32 rfl)) ?_
      refine ARL.q0 (v := (.int .i64 x3_l0)) rfl rfl (Light.quiet (opMove rfl rfl)) ?_
      obtain ⟨u9, hu9, hF⟩ := bindE hF
      refine ARL.q0 (v := (.int .i64 (Int.tmod ((p0.length : Int)) x3_l0))) rfl rfl (Light.quiet (opRem rfl rfl rfl (of_decide_eq_true (chkE hu9)) rfl)) ?_
      refine ARL.q0 (v := (.bool (decide (((Int.tmod ((p0.length : Int)) x3_l0)) = 0)))) rfl rfl (Light.quiet (opInt rfl rfl rfl rfl)) ?_
      obtain ⟨c15, hc15, hF⟩ := bndE hF
      refine ARL.q0 (v := (.bool c15)) rfl rfl ((Quiet.cast (Light.quiet (opMove rfl rfl)) (congrArg AV.bool hc15.symm))) ?_
      refine ARL.g (v := (.list 1 (List.map (AV.int .i64) p0))) (.bool c15) true rfl (wT _) rfl noneAlive (fun hG => by have q0 := hG; subst q0; exact Light.quiet (opMove rfl rfl)) ?_
      refine ARL.g (v := (.int .i64 x3_l0)) (.bool c15) true rfl (wT _) rfl noneAlive (fun hG => by have q0 := hG; subst q0; exact Light.quiet (opMove rfl rfl)) ?_
      obtain ⟨a18, ha18, hF⟩ := bindE hF
      refine ARL.g (v := (.list 1 (List.map (AV.int .i64) a18))) (.bool c15) true rfl (wT _) rfl noneAlive (fun hG => by have q0 := hG; subst q0; exact Light.quiet (opCutL (f := (AV.int .i64)) (whenE ha18) rfl elemA_32 sizeA_3 rfl (.inr ⟨_, _, rfl, rfl⟩) (.inl ⟨rfl, rfl, rfl⟩))) ?_
      refine ARL.g (v := (.list 1 (List.map (AV.int .i64) p0))) (.bool c15) true rfl (wT _) rfl noneAlive (fun hG => by have q0 := hG; subst q0; exact Light.quiet (opMove rfl rfl)) ?_
      refine ARL.g (v := (.list 1 (List.map (AV.int .i64) p0))) (.bool c15) true rfl (wT _) rfl noneAlive (fun hG => by have q0 := hG; subst q0; exact Light.quiet (opMove rfl rfl)) ?_
      refine ARL.g (v := (.int .i64 (p0.length : Int))) (.bool c15) true rfl (wT _) rfl noneAlive (fun hG => by have q0 := hG; subst q0; exact Light.quiet (opLenMap (f := (AV.int .i64)) rfl rfl rfl lenT_32 rfl)) ?_
      refine ARL.g (v := (.int .i64 x3_l0)) (.bool c15) true rfl (wT _) rfl noneAlive (fun hG => by have q0 := hG; subst q0; exact Light.quiet (opMove rfl rfl)) ?_
      refine ARL.g (v := (.int .i64 (W (((p0.length : Int)) - x3_l0)))) (.bool c15) true rfl (wT _) rfl noneAlive (fun hG => by have q0 := hG; subst q0; exact Light.quiet (opInt rfl rfl rfl rfl)) ?_
      obtain ⟨a24, ha24, hF⟩ := bindE hF
      refine ARL.g (v := (.list 1 (List.map (AV.int .i64) a24))) (.bool c15) true rfl (wT _) rfl noneAlive (fun hG => by have q0 := hG; subst q0; exact Light.quiet (opCutL (f := (AV.int .i64)) (whenE ha24) rfl elemA_32 sizeA_3 rfl (.inl ⟨rfl, rfl⟩) (.inr ⟨_, _, rfl, rfl, .inl rfl⟩))) ?_
      obtain ⟨a25, ha25, hF⟩ := bindE hF
      refine ARL.g (v := (.bool a25)) (.bool c15) true rfl (wT _) rfl noneAlive (fun hG => by have q0 := hG; subst q0; exact (qCall rfl rfl call_113 (slices_Equal_int_int_ok (whenE ha25)) rfl)) ?_
      refine ARL.q0 (v := (.bool (c15 && a25))) rfl rfl (Light.quiet (opPick (b := c15) rfl rfl (by cases c15 <;> rfl))) ?_
      refine ARL.done ?_
      refine AWP.ifB hF rfl (fun hc10 hF => ?_) (fun hc10 hF => ?_)
      · skip
        refine AWP.seqR rfl ?_
        refine ASL.q (v := (.int .i64 x3_l0)) rfl rfl (Light.quiet (opMove rfl rfl)) ?_
        refine ASL.q (v := (.int .i64 x3_l0)) rfl rfl (Light.quiet (opAssign rfl rfl)) ?_
        refine ASL.done ?_
        refine AWP.ret ?_
        refine QBlock.ret ?_
        refine QThen.rt ?_
        refine QThen.rt ?_
        refine QBlock.ret ?_
        refine QThen.rt ?_
        obtain rfl := (hx3 _ (someE hF).symm)
        have hF := hR6
        have hF := sumR hF
        obtain rfl := someE hF
        exact QRet.sole (v := (.int .i64 x3_l0)) ⟨rfl, trivial⟩ rfl
      · skip
        refine AWP.skip ?_
        refine QBlock.nrm ?_
        refine QThen.nrm ?_
        refine AWP.lastR rfl ?_
        refine ASL.q (v := (.int .i64 x3_l0)) rfl rfl (Light.quiet (opMove rfl rfl)) ?_
        refine ASL.q (v := (.int .i64 (W (x3_l0 + 1)))) rfl rfl (Light.quiet (opInt rfl rfl rfl rfl)) ?_
        refine ASL.q (v := (.int .i64 (W (x3_l0 + 1)))) rfl rfl (Light.quiet (opAssign rfl rfl)) ?_
        refine ASL.done ?_
        refine QThen.nrm ?_
        exact ⟨(W (x3_l0 + 1)), (), (someE hF).symm, ⟨rfl, rfl, trivial⟩, (hS.pick [] rfl rfl)⟩
    · skip
      refine AWP.exit ?_
      refine QThen.ext ?_
      refine QThen.ext ?_
      refine QBlock.hit ?_
      obtain rfl := (hx3 _ (someE hF).symm)
      have hF := hR6
      have hF := sumL hF
      refine QThen.nrm ?_
      exact ⟨⟨rfl, trivial⟩, (hS.pick [] rfl rfl), hF⟩

set_option maxRecDepth 10000 in
theorem impl_WordCanon_ok {p0 : TWord} {r : TWord} (hF : impl_WordCanon p0 = some r) : PC Try.prog 46 [(TWord.av p0)] fun v => v = (TWord.av r) := by
  refine PC.enter Try.func46 rfl Try.ntmps46 (by simp) ?_
  have hS := Sep.void; unfold impl_WordCanon at hF
  refine AWP.seqR rfl ?_
  refine ASL.q (v := (.rptr [(.list 1 (List.map (AV.int .i64) p0.stem)), (.list 1 (List.map (AV.int .i64) p0.loop))])) rfl rfl ((qBoxI (v := (TWord.av p0)) rfl rfl rfl rfl)) ?_
  refine ASL.x rfl rfl (hNewZ hS [(.list 1 (List.map (AV.int .i64) [])), (.list 1 (List.map (AV.int .i64) []))] rfl zeroA_41 ⟨.inr ⟨_, rfl, rfl⟩, .inr ⟨_, rfl, rfl⟩, trivial⟩ ?_); rintro b2 G1 hK hS
  refine ASL.done ?_
  refine AWP.seq ?_
  refine AWP.seqR rfl ?_
  refine ASL.q (v := (TWord.av p0)) rfl rfl (Light.quiet (opLoadRA rfl aggA_41 sizeA_41 rfl (nlt rfl) rfl)) ?_
  obtain ⟨a7, ha7, hF⟩ := bindE hF
  refine ASL.q (v := (.bool a7)) rfl rfl ((qCall rfl rfl call_67 (impl_isRight_ok ha7) rfl)) ?_
  refine ASL.q (v := (.bool (!a7))) rfl rfl (Light.quiet (opNot rfl rfl)) ?_
  refine ASL.done ?_
  refine AWP.ifB hF rfl (fun hc3 hF => ?_) (fun hc3 hF => ?_)
  · skip
    refine AWP.seqR rfl ?_
    refine ASL.q (v := (.agg [(.list 1 (List.map (AV.int .i64) [])), (.list 1 (List.map (AV.int .i64) []))])) rfl rfl (Light.quiet (opBuildZ (zs := [(.list 1 (List.map (AV.int .i64) [])), (.list 1 (List.map (AV.int .i64) []))]) rfl plan_41 zeroA_41 ⟨.inr ⟨_, rfl, rfl⟩, .inr ⟨_, rfl, rfl⟩, trivial⟩ rfl)) ?_
    refine ASL.n rfl rfl (hPutA hS (j := 0) rfl rfl sizeA_41 rfl rfl rfl rfl rfl (nlt rfl) ?_); rintro G4 hS
    refine ASL.done ?_
    refine AWP.ret ?_
    refine QThen.rt ?_
    obtain rfl := someE hF
    exact QRet.sole (v := (.agg [(.list 1 (List.map (AV.int .i64) [])), (.list 1 (List.map (AV.int .i64) []))])) ⟨resOne.at hS (k := 0) rfl rfl aggA_41 sizeA_41, trivial⟩ rfl
  · skip
    refine AWP.skip ?_
    refine QThen.nrm ?_
    refine AWP.seqR rfl ?_
    refine ASL.q (v := (.rptr [(.list 1 (List.map (AV.int .i64) p0.stem)), (.list 1 (List.map (AV.int .i64) p0.loop))])) rfl rfl (Light.quiet (opFieldAddrR rfl fieldA_41_0 rfl rfl)) ?_
    refine ASL.q (v := (.list 1 (List.map (AV.int .i64) p0.stem))) rfl rfl (Light.quiet (opLoadR rfl aggA_32 rfl rfl)) ?_
    obtain ⟨a12, ha12, hF⟩ := bindE hF
    refine ASL.q (v := (.list 1 (List.map (AV.int .i64) a12))) rfl rfl ((qCall rfl rfl call_93 (PO.list (slices_Clone_int_int_ok ha12)) rfl)) ?_
    refine ASL.q (v := (.list 1 (List.map (AV.int .i64) a12))) rfl rfl (Light.quiet (opAssign rfl rfl)) ?_
    refine ASL.done ?_
    refine AWP.seqD [(0, false), (1, false), (2, false), (3, false), (4, false), (5, false), (6, false), (7, false)] mixed (by kernel_rfl) rfl ?_
    refine ARL.q0 (v := (.rptr [(.list 1 (List.map (AV.int .i64) p0.loop))])) rfl rfl (Light.quiet (opFieldAddrR rfl fieldA_41_1 rfl rfl)) ?_
    refine ARL.q0 (v := (.list 1 (List.map (AV.int .i64) p0.loop))) rfl rfl (Light.quiet (opLoadR rfl aggA_32 rfl rfl)) ?_
    refine ARL.q0 (v := (.rptr [(.list 1 (List.map (AV.int .i64) p0.loop))])) rfl rfl (Light.quiet (opFieldAddrR rfl fieldA_41_1 rfl rfl)) ?_
    refine ARL.q0 (v := (.list 1 (List.map (AV.int .i64) p0.loop))) rfl rfl (Light.quiet (opLoadR rfl aggA_32 rfl rfl)) ?_
    obtain ⟨a17, ha17, hF⟩ := bindE hF
    refine ARL.q0 (v := (.int .i64 a17)) rfl rfl ((qCall rfl rfl call_94 (impl_period_ok ha17) rfl)) ?_
    obtain ⟨a18, ha18, hF⟩ := bindE hF
    refine ARL.q0 (v := (.list 1 (List.map (AV.int .i64) a18))) rfl rfl (Light.quiet (opCutL (f := (AV.int .i64)) ha18 rfl elemA_32 sizeA_3 rfl (.inl ⟨rfl, rfl⟩) (.inr ⟨_, _, rfl, rfl, .inl rfl⟩))) ?_
    obtain ⟨a19, ha19, hF⟩ := bindE hF
    refine ARL.q0 (v := (.list 1 (List.map (AV.int .i64) a19))) rfl rfl ((qCall rfl rfl call_93 (PO.list (slices_Clone_int_int_ok ha19)) rfl)) ?_
    refine ARL.q0 (v := (.list 1 (List.map (AV.int .i64) a19))) rfl rfl (Light.quiet (opAssign rfl rfl)) ?_
    refine ARL.done ?_
    refine AWP.seqR rfl ?_
    refine ASL.q (v := (.list 1 (List.map (AV.int .i64) a19))) rfl rfl (Light.quiet (opMove rfl rfl)) ?_
    refine ASL.q (v := (.int .i64 (a19.length : Int))) rfl rfl (Light.quiet (opLenMap (f := (AV.int .i64)) rfl rfl rfl lenT_32 rfl)) ?_
    refine ASL.q (v := (.int .i64 (W (((a19.length : Int)) - 1)))) rfl rfl (Light.quiet (opInt rfl rfl rfl rfl)) ?_
    refine ASL.q (v := (.int .i64 (W (((a19.length : Int)) - 1)))) rfl rfl (Light.quiet (opAssign rfl rfl)) ?_
    refine ASL.done ?_
    refine AWP.seqM (fun e H => ∃ x3_1 : (List Int), ∃ x4_1 : (List Int), E.Told e [(2, (.ptr b2 0)), (3, (.list 1 (List.map (AV.int .i64) x3_1))), (4, (.list 1 (List.map (AV.int .i64) x4_1)))] ∧ E.Sep H [.cell b2 [(.list 1 (List.map (AV.int .i64) [])), (.list 1 (List.map (AV.int .i64) []))]] ∧ impl_WordCanon.k0 x3_1 x4_1 = some r) ?_ ?_
    · rintro e0 G6 ⟨x3_1, x4_1, hT, hS, hF⟩; refine AWP.only _ hT ?_; unfold impl_WordCanon.k0 at hF
      refine AWP.seqR rfl ?_
      refine ASL.q (v := (.list 1 (List.map (AV.int .i64) x3_1))) rfl rfl (Light.quiet (opMove rfl rfl)) ?_
      refine ASL.q (v := (.list 1 (List.map (AV.int .i64) x4_1))) rfl rfl (Light.quiet (opMove rfl rfl)) ?_
      refine ASL.q (v := (.agg [(.list 1 (List.map (AV.int .i64) x3_1)), (.list 1 (List.map (AV.int .i64) x4_1))])) rfl rfl (Light.quiet (opBuildZ (zs := [(.list 1 (List.map (AV.int .i64) [])), (.list 1 (List.map (AV.int .i64) []))]) rfl plan_41 zeroA_41 ⟨.inr ⟨_, rfl, rfl⟩, .inr ⟨_, rfl, rfl⟩, trivial⟩ rfl)) ?_
      refine ASL.n rfl rfl (hPutA hS (j := 0) rfl rfl sizeA_41 rfl rfl rfl rfl rfl (nlt rfl) ?_); rintro G5 hS
      refine ASL.done ?_
      refine AWP.ret ?_
      obtain rfl := someE hF
      exact QRet.sole (v := (.agg [(.list 1 (List.map (AV.int .i64) x3_1)), (.list 1 (List.map (AV.int .i64) x4_1))])) ⟨resOne.at hS (k := 0) rfl rfl aggA_41 sizeA_41, trivial⟩ rfl
    · skip
      refine AWP.block ?_
      obtain ⟨o10, hL9, hR11⟩ := bindE hF
      refine AWP.loopF (ω := Unit) hL9 (fun s w => [(2, (.ptr b2 0)), (3, (.list 1 (List.map (AV.int .i64) s.1))), (4, (.list 1 (List.map (AV.int .i64) s.2))), (5, (.int .i64 (W (((a19.length : Int)) - 1))))]) (fun s w => [.cell b2 [(.list 1 (List.map (AV.int .i64) [])), (.list 1 (List.map (AV.int .i64) []))]]) () ⟨rfl, rfl, rfl, rfl, trivial⟩ (hS.pick [0] rfl rfl) ?_
      rintro ⟨x3_l0, x4_l0⟩ _ G12 hS x7 hF hx8
      try dsimp only at hS ⊢
      have hF : impl_WordCanon.b0 a19 x3_l0 x4_l0 = some x7 := hF; unfold impl_WordCanon.b0 at hF
      refine AWP.seq ?_
      refine AWP.seqD [(0, false), (1, false), (2, false), (3, false), (4, false), (5, false), (6, false), (7, false), (8, false), (9, false), (10, false), (11, false), (12, false), (13, false), (14, false), (15, false)] mixed (by kernel_rfl) rfl ?_
      refine ARL.q0 (v := (.list 1 (List.map (AV.int .i64) x3_l0))) rfl rfl (Light.quiet (opMove rfl rfl)) ?_
      refine ARL.q0 (v := (.int .i64 (x3_l0.length : Int))) rfl rfl (Light.quiet (opLenMap (f := (AV.int .i64)) rfl rfl rfl lenT_32 rfl)) ?_
      refine ARL.q0 (v := (.bool (decide (((x3_l0.length : Int)) > 0)))) rfl rfl (Light.quiet (opInt rfl rfl rfl rfl)) ?_
      obtain ⟨c26, hc26, hF⟩ := bndE hF
      refine ARL.q0 (v := (.bool c26)) rfl rfl ((Quiet.cast (Light.quiet (opMove rfl rfl)) (congrArg AV.bool hc26.symm))) ?_
      refine ARL.g (v := (.list 1 (List.map (AV.int .i64) x3_l0))) (.bool c26) true rfl (wT _) rfl noneAlive (fun hG => by have q0 := hG; subst q0; exact Light.quiet (opMove rfl rfl)) ?_
      refine ARL.g (v := (.list 1 (List.map (AV.int .i64) x3_l0))) (.bool c26) true rfl (wT _) rfl noneAlive (fun hG => by have q0 := hG; subst q0; exact Light.quiet (opMove rfl rfl)) ?_
      refine ARL.g (v := (.int .i64 (x3_l0.length : Int))) (.bool c26) true rfl (wT _) rfl noneAlive (fun hG => by have q0 := hG; subst q0; exact Light.quiet (opLenMap (f := (AV.int .i64)) rfl rfl rfl lenT_32 rfl)) ?_
      refine ARL.g (v := (.int .i64 (W (((x3_l0.length : Int)) - 1)))) (.bool c26) true rfl (wT _) rfl noneAlive (fun hG => by have q0 := hG; subst q0; exact Light.quiet (opInt rfl rfl rfl rfl)) ?_
      obtain ⟨a31, ha31, hF⟩ := bindE hF
      refine ARL.g (v := (.rptr [(.int .i64 a31)])) (.bool c26) true rfl (wT _) rfl noneAlive (fun hG => by have q0 := hG; subst q0; exact Light.quiet (kIx (f := (AV.int .i64)) (whenE ha31) rfl rfl rfl elemA_32 sizeA_3 rfl)) ?_
      refine ARL.g (v := (.int .i64 a31)) (.bool c26) true rfl (wT _) rfl noneAlive (fun hG => by have q0 := hG; subst q0; exact Light.quiet (opLoadR rfl aggA_3 rfl rfl)) ?_
      refine ARL.g (v := (.list 1 (List.map (AV.int .i64) x4_l0))) (.bool c26) true rfl (wT _) rfl noneAlive (fun hG => by have q0 := hG; subst q0; exact Light.quiet (opMove rfl rfl)) ?_
      refine ARL.g (v := (.int .i64 (W (((a19.length : Int)) - 1)))) (.bool c26) true rfl (wT _) rfl noneAlive (fun hG => by have q0 := hG; subst q0; exact Light.quiet (opMove rfl rfl)) ?_
      obtain ⟨a35, ha35, hF⟩ := bindE hF
      refine ARL.g (v := (.rptr [(.int .i64 a35)])) (.bool c26) true rfl (wT _) rfl noneAlive (fun hG => by have q0 := hG; subst q0; exact Light.quiet (kIx (f := (AV.int .i64)) (whenE ha35) rfl rfl rfl elemA_32 sizeA_3 rfl)) ?_
      refine ARL.g (v := (.int .i64 a35)) (.bool c26) true rfl (wT _) rfl noneAlive (fun hG => by have q0 := hG; subst q0; exact Light.quiet (opLoadR rfl aggA_3 rfl rfl)) ?_
      refine ARL.g (v := (.bool (decide (a31 = a35)))) (.bool c26) true rfl (wT _) rfl noneAlive (fun hG => by have q0 := hG; subst q0; exact Light.quiet (opInt rfl rfl rfl rfl)) ?_
      refine ARL.q0 (v := (.bool (c26 && (decide (a31 = a35))))) rfl rfl (Light.quiet (opPick (b := c26) rfl rfl (by cases c26 <;> rfl))) ?_
      refine ARL.done ?_
      refine AWP.ifB hF rfl (fun hc13 hF => ?_) (fun hc13 hF => ?_)
      · skip
        refine AWP.skip ?_
        refine QThen.nrm ?_
        refine AWP.block ?_
        refine AWP.seqR rfl ?_
        refine ASL.q (v := (.list 1 (List.map (AV.int .i64) x3_l0))) rfl rfl (Light.quiet (opMove rfl rfl)) ?_
        refine ASL.q (v := (.list 1 (List.map (AV.int .i64) x3_l0))) rfl rfl (Light.quiet (opMove rfl rfl)) ?_
        refine ASL.q (v := (.int .i64 (x3_l0.length : Int))) rfl rfl (Light.quiet (opLenMap (f := (AV.int .i64)) rfl rfl rfl lenT_32 rfl)) ?_
        refine ASL.q (v := (.int .i64 (W (((x3_l0.length : Int)) - 1)))) rfl rfl (Light.quiet (opInt rfl rfl rfl rfl)) ?_
        obtain ⟨a43, ha43, hF⟩ := bindE hF
        refine ASL.q (v := (.list 1 (List.map (AV.int .i64) a43))) rfl rfl (Light.quiet (opCutL (f := (AV.int .i64)) ha43 rfl elemA_32 sizeA_3 rfl (.inl ⟨rfl, rfl⟩) (.inr ⟨_, _, rfl, rfl, .inl rfl⟩))) ?_
        refine ASL.q (v := (.list 1 (List.map (AV.int .i64) a43))) rfl rfl (Light.quiet (opAssign rfl rfl)) ?_
        refine ASL.done ?_
        refine AWP.lastD [(0, false), (1, false), (2, false), (3, false), (4, false), (5, false), (6, false), (7, false), (8, false)] mixed (by kernel_rfl) rfl ?_
        refine ARL.q0 (v := (.list 1 (List.map (AV.int .i64) x4_l0))) rfl rfl (Light.quiet (opMove rfl rfl)) ?_
        refine ARL.q0 (v := (.int .i64 (W (((a19.length : Int)) - 1)))) rfl rfl (Light.quiet (opMove rfl rfl)) ?_
        obtain ⟨a46, ha46, hF⟩ := bindE hF
        refine ARL.q0 (v := (.list 1 (List.map (AV.int .i64) a46))) rfl rfl (Light.quiet (opCutL (f := (AV.int .i64)) ha46 rfl elemA_32 sizeA_3 rfl (.inr ⟨_, _, rfl, rfl⟩) (.inl ⟨rfl, rfl, rfl⟩))) ?_
        refine ARL.q0 (v := (.list 1 (List.map (AV.int .i64) x4_l0))) rfl rfl (Light.quiet (opMove rfl rfl)) ?_
        refine ARL.q0 (v := (.int .i64 (W (((a19.length : Int)) - 1)))) rfl rfl (Light.quiet (opMove rfl rfl)) ?_
        obtain ⟨a49, ha49, hF⟩ := bindE hF
        refine ARL.q0 (v := (.list 1 (List.map (AV.int .i64) a49))) rfl rfl (Light.quiet (opCutL (f := (AV.int .i64)) ha49 rfl elemA_32 sizeA_3 rfl (.inl ⟨rfl, rfl⟩) (.inr ⟨_, _, rfl, rfl, .inl rfl⟩))) ?_
        refine ARL.q0 (v := (.list 1 (List.map (fun xs : (List Int) => AV.list 1 (List.map (AV.int .i64) xs)) [a46, a49]))) rfl rfl ((qLit (xs := [(.list 1 (List.map (AV.int .i64) a46)), (.list 1 (List.map (AV.int .i64) a49))]) rfl elemA_120 sizeA_32 zeroA_32 rfl rfl rfl rfl (by simp [cells]) (nlt rfl))) ?_
        obtain ⟨a51, ha51, hF⟩ := bindE hF
        refine ARL.q0 (v := (.list 1 (List.map (AV.int .i64) a51))) rfl rfl ((qCall rfl rfl call_92 (PO.list (slices_Concat_int_int_ok ha51)) rfl)) ?_
        refine ARL.q0 (v := (.list 1 (List.map (AV.int .i64) a51))) rfl rfl (Light.quiet (opAssign rfl rfl)) ?_
        refine ARL.done ?_
        refine QBlock.nrm ?_
        refine QThen.nrm ?_
        exact ⟨(a43, a51), (), (someE hF).symm, ⟨rfl, rfl, rfl, rfl, trivial⟩, (hS.pick [0] rfl rfl)⟩
      · skip
        refine AWP.exit ?_
        refine QThen.ext ?_
        refine QThen.ext ?_
        refine QBlock.hit ?_
        obtain rfl := (hx8 _ (someE hF).symm)
        have hF := hR11
        refine QThen.nrm ?_
        exact ⟨x3_l0, x4_l0, ⟨rfl, rfl, rfl, trivial⟩, (hS.pick [0] rfl rfl), hF⟩

set_option maxRecDepth 10000 in
theorem laws_FnLater_ok {K : Nat} {p0 : (List Int)} {r : Bool} (hF : laws_FnLater K p0 = some r) : PC Try.prog 8 [(.list 1 (List.map (AV.int .u8) p0))] fun v => v = (.bool r) := by
  refine PC.enter Try.func8 rfl Try.ntmps8 (by simp) ?_
  have hS := Sep.void; unfold laws_FnLater at hF
  refine AWP.seqR rfl ?_
  refine ASL.q (v := (.bool false)) rfl rfl (Light.quiet (opAssign rfl rfl)) ?_
  refine ASL.done ?_
  refine AWP.seq ?_
  refine AWP.seqR rfl ?_
  refine ASL.q (v := (.list 1 (List.map (AV.int .u8) p0))) rfl rfl (Light.quiet (opMove rfl rfl)) ?_
  refine ASL.q (v := (.bool (laws_big p0))) rfl rfl ((qCall rfl rfl call_10 (laws_big_ok p0) rfl)) ?_
  refine ASL.done ?_
  refine AWP.ifB hF rfl (fun hc1 hF => ?_) (fun hc1 hF => ?_)
  · skip
    refine AWP.seqR rfl ?_
    refine ASL.q (v := (.bool true)) rfl rfl (Light.quiet (opAssign rfl rfl)) ?_
    refine ASL.done ?_
    refine AWP.ret ?_
    refine QThen.rt ?_
    obtain rfl := someE hF
    exact QRet.sole (v := (.bool true)) ⟨rfl, trivial⟩ rfl
  · skip
    refine AWP.skip ?_
    refine QThen.nrm ?_
    refine AWP.seqR rfl ?_
    refine ASL.q (v := (.list 1 (List.map (AV.int .u8) p0))) rfl rfl (Light.quiet (opMove rfl rfl)) ?_
    obtain ⟨a16, ha16, hF⟩ := bindE hF
    refine ASL.q (v := (.tup [(.list 3 (List.map TNode.av a16.1)), (TWord.av a16.2.1), (.int .i64 a16.2.2)])) rfl rfl ((qCall rfl rfl call_41 (spec_DrawLtlAt_ok ha16) rfl)) ?_
    refine ASL.q (v := (.tup [(.list 3 (List.map TNode.av a16.1)), (TWord.av a16.2.1), (.int .i64 a16.2.2)])) rfl rfl (Light.quiet (opMove rfl rfl)) ?_
    refine ASL.q (v := (.list 3 (List.map TNode.av a16.1))) rfl rfl (Light.quiet (opExtract rfl rfl rfl)) ?_
    refine ASL.q (v := (TWord.av a16.2.1)) rfl rfl (Light.quiet (opExtract rfl rfl rfl)) ?_
    refine ASL.q (v := (.int .i64 a16.2.2)) rfl rfl (Light.quiet (opExtract rfl rfl rfl)) ?_
    refine ASL.x rfl rfl (hNewZ hS [(.list 1 (List.map (AV.int .i64) [])), (.list 1 (List.map (AV.int .i64) []))] rfl zeroA_41 ⟨.inr ⟨_, rfl, rfl⟩, .inr ⟨_, rfl, rfl⟩, trivial⟩ ?_); rintro b4 G2 hK hS
    refine ASL.q (v := (.list 3 (List.map TNode.av a16.1))) rfl rfl (Light.quiet (opAssign rfl rfl)) ?_
    refine ASL.n rfl rfl (hPutA hS (j := 0) rfl rfl sizeA_41 rfl rfl rfl rfl rfl (nlt rfl) ?_); rintro G4 hS
    refine ASL.q (v := (.int .i64 a16.2.2)) rfl rfl (Light.quiet (opAssign rfl rfl)) ?_
    refine ASL.done ?_
    refine AWP.seqR rfl ?_
    refine ASL.q (v := (.list 1 (List.map (AV.int .u8) p0))) rfl rfl (Light.quiet (opMove rfl rfl)) ?_
    obtain ⟨a21, ha21, hF⟩ := bindE hF
    refine ASL.q (v := (.int .i64 a21)) rfl rfl ((qCall rfl rfl call_42 (laws_at_ok ha21) rfl)) ?_
    refine ASL.q (v := (.int .i64 (Int.tmod a21 60))) rfl rfl (Light.quiet (opRem rfl rfl rfl (by decide) rfl)) ?_
    refine ASL.q (v := (.int .i64 (Int.tmod a21 60))) rfl rfl (Light.quiet (opAssign rfl rfl)) ?_
    refine ASL.done ?_
    refine AWP.seqR rfl ?_
    refine ASL.q (v := (.list 3 (List.map TNode.av a16.1))) rfl rfl (Light.quiet (opMove rfl rfl)) ?_
    refine ASL.q (v := (TWord.av a16.2.1)) rfl rfl (Light.quiet (kAtA hS (j := 0) rfl rfl aggA_41 sizeA_41 rfl (nlt rfl) rfl)) ?_
    refine ASL.q (v := (.int .i64 (Int.tmod a21 60))) rfl rfl (Light.quiet (opMove rfl rfl)) ?_
    obtain ⟨a26, ha26, hF⟩ := bindE hF
    refine ASL.q (v := (.bool a26)) rfl rfl ((qCall rfl rfl call_25 (impl_LtlAt_ok ha26) rfl)) ?_
    refine ASL.q (v := (.bool a26)) rfl rfl (Light.quiet (opAssign rfl rfl)) ?_
    refine ASL.done ?_
    refine AWP.seq ?_
    refine AWP.seqR rfl ?_
    refine ASL.q (v := (.bool a26)) rfl rfl (Light.quiet (opMove rfl rfl)) ?_
    refine ASL.q (v := (.list 3 (List.map TNode.av a16.1))) rfl rfl (Light.quiet (opMove rfl rfl)) ?_
    refine ASL.q (v := (TWord.av a16.2.1)) rfl rfl (Light.quiet (kAtA hS (j := 0) rfl rfl aggA_41 sizeA_41 rfl (nlt rfl) rfl)) ?_
    refine ASL.q (v := (.int .i64 (Int.tmod a21 60))) rfl rfl (Light.quiet (opMove rfl rfl)) ?_
    obtain ⟨a31, ha31, hF⟩ := bindE hF
    refine ASL.q (v := (.bool a31)) rfl rfl ((qCall rfl rfl call_22 (spec_LtlAt_ok ha31) rfl)) ?_
    refine ASL.q (v := (.bool (!(a26 == a31)))) rfl rfl (Light.quiet (opBoolEq rfl rfl rfl und_4 rfl)) ?_
    refine ASL.done ?_
    refine AWP.ifB hF rfl (fun hc5 hF => ?_) (fun hc5 hF => ?_)
    · skip
      refine AWP.seqR rfl ?_
      refine ASL.q (v := (.bool false)) rfl rfl (Light.quiet (opAssign rfl rfl)) ?_
      refine ASL.done ?_
      refine AWP.ret ?_
      refine QThen.rt ?_
      obtain rfl := someE hF
      exact QRet.sole (v := (.bool false)) ⟨rfl, trivial⟩ rfl
    · skip
      refine AWP.skip ?_
      refine QThen.nrm ?_
      refine AWP.seq ?_
      refine AWP.seqR rfl ?_
      refine ASL.q (v := (.list 3 (List.map TNode.av a16.1))) rfl rfl (Light.quiet (opMove rfl rfl)) ?_
      obtain ⟨a34, ha34, hF⟩ := bindE hF
      refine ASL.q (v := (.bool a34)) rfl rfl ((qCall rfl rfl call_43 (spec_LtlOk_ok ha34) rfl)) ?_
      refine ASL.q (v := (.bool (!a34))) rfl rfl (Light.quiet (opNot rfl rfl)) ?_
      obtain ⟨c36, hc36, hF⟩ := bndE hF
      refine ASL.q (v := (.bool c36)) rfl rfl ((Quiet.cast (Light.quiet (opMove rfl rfl)) (congrArg AV.bool hc36.symm))) ?_
      refine ASL.g (v := (TWord.av a16.2.1)) (.bool c36) false rfl (wF _) rfl (fun hG => by have q0 := gN hG; subst q0; exact Light.quiet (kAtA hS (j := 0) rfl rfl aggA_41 sizeA_41 rfl (nlt rfl) rfl)) ?_
      obtain ⟨a38, ha38, hF⟩ := bindE hF
      refine ASL.g (v := (.bool a38)) (.bool c36) false rfl (wF _) rfl (fun hG => by have q0 := gN hG; subst q0; exact (qCall rfl rfl call_44 (spec_WordOk_ok (whenE ha38)) rfl)) ?_
      refine ASL.g (v := (.bool (!a38))) (.bool c36) false rfl (wF _) rfl (fun hG => by have q0 := gN hG; subst q0; exact Light.quiet (opNot rfl rfl)) ?_
      refine ASL.q (v := (.bool (c36 || (!a38)))) rfl rfl (Light.quiet (opPick (b := c36) rfl rfl (by cases c36 <;> rfl))) ?_
      refine ASL.done ?_
      refine AWP.ifB hF rfl (fun hc6 hF => ?_) (fun hc6 hF => ?_)
      · skip
        refine AWP.seqR rfl ?_
        refine ASL.q (v := (.bool a26)) rfl rfl (Light.quiet (opMove rfl rfl)) ?_
        refine ASL.q (v := (.bool (!a26))) rfl rfl (Light.quiet (opNot rfl rfl)) ?_
        refine ASL.q (v := (.bool (!a26))) rfl rfl (Light.quiet (opAssign rfl rfl)) ?_
        refine ASL.done ?_
        refine AWP.ret ?_
        refine QThen.rt ?_
        obtain rfl := someE hF
        exact QRet.sole (v := (.bool (!a26))) ⟨rfl, trivial⟩ rfl
      · skip
        refine AWP.skip ?_
        refine QThen.nrm ?_
        refine AWP.seqR rfl ?_
        refine ASL.q (v := (TWord.av a16.2.1)) rfl rfl (Light.quiet (kAtA hS (j := 0) rfl rfl aggA_41 sizeA_41 rfl (nlt rfl) rfl)) ?_
        refine ASL.q (v := (.int .i64 (Int.tmod a21 60))) rfl rfl (Light.quiet (opMove rfl rfl)) ?_
        obtain ⟨a46, ha46, hF⟩ := bindE hF
        refine ASL.q (v := (.tup [(TWord.av a46.1), (.bool a46.2)])) rfl rfl ((qCall rfl rfl call_45 (impl_WordTail_ok ha46) rfl)) ?_
        refine ASL.q (v := (.tup [(TWord.av a46.1), (.bool a46.2)])) rfl rfl (Light.quiet (opMove rfl rfl)) ?_
        refine ASL.q (v := (TWord.av a46.1)) rfl rfl (Light.quiet (opExtract rfl rfl rfl)) ?_
        refine ASL.q (v := (.bool a46.2)) rfl rfl (Light.quiet (opExtract rfl rfl rfl)) ?_
        refine ASL.x rfl rfl (hNewZ hS [(.list 1 (List.map (AV.int .i64) [])), (.list 1 (List.map (AV.int .i64) []))] rfl zeroA_41 ⟨.inr ⟨_, rfl, rfl⟩, .inr ⟨_, rfl, rfl⟩, trivial⟩ ?_); rintro b8 G7 hK hS
        refine ASL.n rfl rfl (hPutA hS (j := 0) rfl rfl sizeA_41 rfl rfl rfl rfl rfl (nlt rfl) ?_); rintro G9 hS
        refine ASL.q (v := (.bool a46.2)) rfl rfl (Light.quiet (opAssign rfl rfl)) ?_
        refine ASL.done ?_
        refine AWP.seq ?_
        refine AWP.seqR rfl ?_
        refine ASL.q (v := (.bool a46.2)) rfl rfl (Light.quiet (opMove rfl rfl)) ?_
        refine ASL.q (v := (.bool (!a46.2))) rfl rfl (Light.quiet (opNot rfl rfl)) ?_
        obtain ⟨c51, hc51, hF⟩ := bndE hF
        refine ASL.q (v := (.bool c51)) rfl rfl ((Quiet.cast (Light.quiet (opMove rfl rfl)) (congrArg AV.bool hc51.symm))) ?_
        refine ASL.g (v := (.list 3 (List.map TNode.av a16.1))) (.bool c51) false rfl (wF _) rfl (fun hG => by have q0 := gN hG; subst q0; exact Light.quiet (opMove rfl rfl)) ?_
        refine ASL.g (v := (TWord.av a46.1)) (.bool c51) false rfl (wF _) rfl (fun hG => by have q0 := gN hG; subst q0; exact Light.quiet (kAtA hS (j := 0) rfl rfl aggA_41 sizeA_41 rfl (nlt rfl) rfl)) ?_
        obtain ⟨a54, ha54, hF⟩ := bindE hF
        refine ASL.g (v := (.bool a54)) (.bool c51) false rfl (wF _) rfl (fun hG => by have q0 := gN hG; subst q0; exact (qCall rfl rfl call_29 (impl_LtlTakes_ok (whenE ha54)) rfl)) ?_
        refine ASL.g (v := (.bool a26)) (.bool c51) false rfl (wF _) rfl (fun hG => by have q0 := gN hG; subst q0; exact Light.quiet (opMove rfl rfl)) ?_
        refine ASL.g (v := (.bool (!(a54 == a26)))) (.bool c51) false rfl (wF _) rfl (fun hG => by have q0 := gN hG; subst q0; exact Light.quiet (opBoolEq rfl rfl rfl und_4 rfl)) ?_
        refine ASL.q (v := (.bool (c51 || (!(a54 == a26))))) rfl rfl (Light.quiet (opPick (b := c51) rfl rfl (by cases c51 <;> rfl))) ?_
        refine ASL.done ?_
        refine AWP.ifB hF rfl (fun hc10 hF => ?_) (fun hc10 hF => ?_)
        · skip
          refine AWP.seqR rfl ?_
          refine ASL.q (v := (.bool false)) rfl rfl (Light.quiet (opAssign rfl rfl)) ?_
          refine ASL.done ?_
          refine AWP.ret ?_
          refine QThen.rt ?_
          obtain rfl := someE hF
          exact QRet.sole (v := (.bool false)) ⟨rfl, trivial⟩ rfl
        · skip
          refine AWP.skip ?_
          refine QThen.nrm ?_
          refine AWP.seqR rfl ?_
          refine ASL.q (v := (.list 3 (List.map TNode.av a16.1))) rfl rfl (Light.quiet (opMove rfl rfl)) ?_
          obtain ⟨a60, ha60, hF⟩ := bindE hF
          refine ASL.x rfl rfl (hCallSR hS rfl rfl call_14 (impl_LtlNot_ok ha60) ⟨.same _, trivial⟩ (by rintro _ _ G ⟨w11, rfl, rfl⟩ hG; exact ⟨(Scal.tup (ScalC.cons (hG.scR (k := 0) rfl) (ScalC.cons (by constructor) ScalC.nil))), ⟨(Scal.row (fun _ => by simp only [TNode.av, cells, List.mem_cons, List.not_mem_nil, or_false]; rintro c hc; rcases hc with rfl | rfl | rfl <;> constructor)), trivial⟩⟩) ?_); rintro _ _ G13 ⟨w11, rfl, rfl⟩ hK hS
          refine ASL.q (v := (.tup [w11, (.bool a60.2)])) rfl rfl (Light.quiet (opMove rfl rfl)) ?_
          refine ASL.q (v := w11) rfl rfl (Light.quiet (opExtract rfl rfl rfl)) ?_
          refine ASL.q (v := (.bool a60.2)) rfl rfl (Light.quiet (opExtract rfl rfl rfl)) ?_
          refine ASL.q (v := w11) rfl rfl (Light.quiet (opAssign rfl rfl)) ?_
          refine ASL.q (v := (.bool a60.2)) rfl rfl (Light.quiet (opAssign rfl rfl)) ?_
          refine ASL.done ?_
          refine AWP.seqD [(0, false), (1, false), (2, false), (3, false), (4, false), (5, false), (6, false), (7, false), (8, false), (9, false), (10, false), (11, false), (12, false), (13, false), (14, false), (15, false), (16, false), (17, false), (18, false), (19, false), (20, false)] mixed (by kernel_rfl) rfl ?_
          refine ARL.q0 (v := (.bool a60.2)) rfl rfl (Light.quiet (opMove rfl rfl)) ?_
          refine ARL.q0 (v := (.bool (!a60.2))) rfl rfl (Light.quiet (opNot rfl rfl)) ?_
          obtain ⟨c65, hc65, hF⟩ := bndE hF
          refine ARL.q0 (v := (.bool c65)) rfl rfl ((Quiet.cast (Light.quiet (opMove rfl rfl)) (congrArg AV.bool hc65.symm))) ?_
          refine ARL.g (v := w11) (.bool c65) false rfl (wF _) rfl noneAlive (fun hG => by have q0 := gN hG; subst q0; exact Light.quiet (opMove rfl rfl)) ?_
          refine ARL.g (v := (TWord.av a16.2.1)) (.bool c65) false rfl (wF _) rfl (hS.aliveC (k := 2) rfl) (fun hG => by have q0 := gN hG; subst q0; exact Light.quiet (kAtA hS (j := 2) rfl rfl aggA_41 sizeA_41 rfl (nlt rfl) rfl)) ?_
          refine ARL.g (v := (.int .i64 (Int.tmod a21 60))) (.bool c65) false rfl (wF _) rfl noneAlive (fun hG => by have q0 := gN hG; subst q0; exact Light.quiet (opMove rfl rfl)) ?_
          obtain ⟨a69, ha69, hF⟩ := bindE hF
          refine ARL.g (v := (.bool a69)) (.bool c65) false rfl (wF _) rfl (hS.aliveAll) (fun hG => by have q0 := gN hG; subst q0; exact (qCallR hS rfl rfl call_25 (impl_LtlAt_ok (whenE ha69)) ⟨.row (k := 0) rfl, .same _, .same _, trivial⟩ (by constructor))) ?_
          refine ARL.g (v := (.bool a26)) (.bool c65) false rfl (wF _) rfl noneAlive (fun hG => by have q0 := gN hG; subst q0; exact Light.quiet (opMove rfl rfl)) ?_
          refine ARL.g (v := (.bool (!(a69 == a26)))) (.bool c65) false rfl (wF _) rfl noneAlive (fun hG => by have q0 := gN hG; subst q0; exact Light.quiet (opBoolEq rfl rfl rfl und_4 rfl)) ?_
          refine ARL.q0 (v := (.bool (c65 || (!(a69 == a26))))) rfl rfl (Light.quiet (opPick (b := c65) rfl rfl (by cases c65 <;> rfl))) ?_
          obtain ⟨c73, hc73, hF⟩ := bndE hF
          refine ARL.q0 (v := (.bool c73)) rfl rfl ((Quiet.cast (Light.quiet (opMove rfl rfl)) (congrArg AV.bool hc73.symm))) ?_
          refine ARL.g (v := (.list 3 (List.map TNode.av a16.1))) (.bool c73) true rfl (wT _) rfl noneAlive (fun hG => by have q0 := hG; subst q0; exact Light.quiet (opMove rfl rfl)) ?_
          refine ARL.g (v := (TWord.av a16.2.1)) (.bool c73) true rfl (wT _) rfl (hS.aliveC (k := 2) rfl) (fun hG => by have q0 := hG; subst q0; exact Light.quiet (kAtA hS (j := 2) rfl rfl aggA_41 sizeA_41 rfl (nlt rfl) rfl)) ?_
          obtain ⟨a76, ha76, hF⟩ := bindE hF
          refine ARL.g (v := (TWord.av a76)) (.bool c73) true rfl (wT _) rfl noneAlive (fun hG => by have q0 := hG; subst q0; exact (qCall rfl rfl call_46 (impl_WordCanon_ok (whenE ha76)) rfl)) ?_
          obtain ⟨a77, ha77, hF⟩ := bindE hF
          refine ARL.g (v := (.bool a77)) (.bool c73) true rfl (wT _) rfl noneAlive (fun hG => by have q0 := hG; subst q0; exact (qCall rfl rfl call_29 (impl_LtlTakes_ok (whenE ha77)) rfl)) ?_
          refine ARL.g (v := (.list 3 (List.map TNode.av a16.1))) (.bool c73) true rfl (wT _) rfl noneAlive (fun hG => by have q0 := hG; subst q0; exact Light.quiet (opMove rfl rfl)) ?_
          refine ARL.g (v := (TWord.av a16.2.1)) (.bool c73) true rfl (wT _) rfl (hS.aliveC (k := 2) rfl) (fun hG => by have q0 := hG; subst q0; exact Light.quiet (kAtA hS (j := 2) rfl rfl aggA_41 sizeA_41 rfl (nlt rfl) rfl)) ?_
          obtain ⟨a80, ha80, hF⟩ := bindE hF
          refine ARL.g (v := (.bool a80)) (.bool c73) true rfl (wT _) rfl noneAlive (fun hG => by have q0 := hG; subst q0; exact (qCall rfl rfl call_29 (impl_LtlTakes_ok (whenE ha80)) rfl)) ?_
          refine ARL.g (v := (.bool (a77 == a80))) (.bool c73) true rfl (wT _) rfl noneAlive (fun hG => by have q0 := hG; subst q0; exact Light.quiet (opBoolEq rfl rfl rfl und_4 rfl)) ?_
          refine ARL.q0 (v := (.bool (c73 && (a77 == a80)))) rfl rfl (Light.quiet (opPick (b := c73) rfl rfl (by cases c73 <;> rfl))) ?_
          refine ARL.q0 (v := (.bool (c73 && (a77 == a80)))) rfl rfl (Light.quiet (opAssign rfl rfl)) ?_
          refine ARL.done ?_
          refine AWP.ret ?_
          obtain rfl := someE hF
          exact QRet.sole (v := (.bool (c73 && (a77 == a80)))) ⟨rfl, trivial⟩ rfl

end Go.Proofs.Ytjjlkncefgfljaa
