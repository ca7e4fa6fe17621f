/- Each of these functions of the program comes to just what its plain function says: FnNnf. -/
import Derived.Test.YtjjlkncefgfljaaKNnfp1
namespace Go.Proofs.Ytjjlkncefgfljaa
open Go Go.RowKit E
set_option linter.unusedVariables false
set_option maxRecDepth 10000 in
theorem spec_l9One_ok {p0 : TNode} {p1 : (List (List Bool))} {p2 : TWord} {p3 : Int} {p4 : (List Bool)} {r : Bool} (hF : spec_l9One p0 p1 p2 p3 p4 = some r) : PC Try.prog 106 [(TNode.av p0), (.list 1 (List.map (fun xs : (List Bool) => AV.list 1 (List.map AV.bool xs)) p1)), (TWord.av p2), (.int .i64 p3), (.list 1 (List.map AV.bool p4))] fun v => v = (.bool r) := by
  refine PC.enter Try.func106 rfl Try.ntmps106 (by simp) ?_
  have hS := Sep.void; unfold spec_l9One at hF
  refine AWP.seqR rfl ?_
  refine ASL.q (v := (.rptr [(.int .i64 p0.kind), (.int .i64 p0.a), (.int .i64 p0.b)])) rfl rfl ((qBoxI (v := (TNode.av p0)) rfl rfl rfl rfl)) ?_
  refine ASL.q (v := (.rptr [(.list 1 (List.map (AV.int .i64) p2.stem)), (.list 1 (List.map (AV.int .i64) p2.loop))])) rfl rfl ((qBoxI (v := (TWord.av p2)) rfl rfl rfl rfl)) ?_
  refine ASL.q (v := (.bool false)) rfl rfl (Light.quiet (opAssign rfl rfl)) ?_
  refine ASL.done ?_
  refine AWP.seqR rfl ?_
  refine ASL.q (v := (TWord.av p2)) rfl rfl (Light.quiet (opLoadRA rfl aggA_41 sizeA_41 rfl (nlt rfl) rfl)) ?_
  refine ASL.q (v := (.int .i64 p3)) rfl rfl (Light.quiet (opMove rfl rfl)) ?_
  refine ASL.q (v := (.int .i64 (spec_l6After p2 p3))) rfl rfl ((qCall rfl rfl call_126 (spec_l6After_ok p2 p3) rfl)) ?_
  refine ASL.q (v := (.int .i64 (spec_l6After p2 p3))) rfl rfl (Light.quiet (opAssign rfl rfl)) ?_
  refine ASL.done ?_
  refine AWP.seq ?_
  refine AWP.seqR rfl ?_
  refine ASL.q (v := (.rptr [(.int .i64 p0.kind), (.int .i64 p0.a), (.int .i64 p0.b)])) rfl rfl (Light.quiet (opFieldAddrR rfl fieldA_59_0 rfl rfl)) ?_
  refine ASL.q (v := (.int .i64 p0.kind)) rfl rfl (Light.quiet (opLoadR rfl aggA_3 rfl rfl)) ?_
  refine ASL.done ?_
  refine AWP.block ?_
  refine AWP.seqR rfl ?_
  refine ASL.q (v := (.bool (decide (p0.kind = 1)))) rfl rfl (Light.quiet (opInt rfl rfl rfl rfl)) ?_
  refine ASL.q (v := (.bool (decide (p0.kind = 1)))) rfl rfl (Light.quiet (opAssign rfl rfl)) ?_
  refine ASL.done ?_
  refine AWP.ifP hF rfl (fun hc1 hF => ?_) (fun hc1 hF => ?_)
  · skip
    refine AWP.seqR rfl ?_
    refine ASL.q (v := (.bool true)) rfl rfl (Light.quiet (opAssign rfl rfl)) ?_
    refine ASL.done ?_
    refine AWP.ret ?_
    refine QBlock.ret ?_
    refine QThen.rt ?_
    obtain rfl := someE hF
    exact QRet.sole (v := (.bool true)) ⟨rfl, trivial⟩ rfl
  · skip
    refine AWP.seqR rfl ?_
    refine ASL.q (v := (.bool (decide (p0.kind = 3)))) rfl rfl (Light.quiet (opInt rfl rfl rfl rfl)) ?_
    refine ASL.q (v := (.bool (decide (p0.kind = 3)))) rfl rfl (Light.quiet (opAssign rfl rfl)) ?_
    refine ASL.done ?_
    refine AWP.ifP hF rfl (fun hc2 hF => ?_) (fun hc2 hF => ?_)
    · skip
      refine AWP.seqD [(0, false), (1, false), (2, false), (3, false), (4, false), (5, false), (6, false), (7, false), (8, false)] mixed (by kernel_rfl) rfl ?_
      refine ARL.q0 (v := (TWord.av p2)) rfl rfl (Light.quiet (opLoadRA rfl aggA_41 sizeA_41 rfl (nlt rfl) rfl)) ?_
      refine ARL.q0 (v := (.int .i64 p3)) rfl rfl (Light.quiet (opMove rfl rfl)) ?_
      obtain ⟨a23, ha23, hF⟩ := bindE hF
      refine ARL.q0 (v := (.int .i64 a23)) rfl rfl ((qCall rfl rfl call_84 (spec_l3At_ok ha23) rfl)) ?_
      refine ARL.q0 (v := (.rptr [(.int .i64 p0.a), (.int .i64 p0.b)])) rfl rfl (Light.quiet (opFieldAddrR rfl fieldA_59_1 rfl rfl)) ?_
      refine ARL.q0 (v := (.int .i64 p0.a)) rfl rfl (Light.quiet (opLoadR rfl aggA_3 rfl rfl)) ?_
      obtain ⟨u3, hu3, hF⟩ := bindE hF
      refine ARL.q0 (v := (.int .i64 (shr .i64 a23 p0.a))) rfl rfl (Light.quiet (opShr rfl rfl rfl (of_decide_eq_true (chkE hu3)) rfl)) ?_
      refine ARL.q0 (v := (.int .i64 (bAnd .i64 ((shr .i64 a23 p0.a)) 1))) rfl rfl (Light.quiet (opInt rfl rfl rfl rfl)) ?_
      refine ARL.q0 (v := (.bool (decide (((bAnd .i64 ((shr .i64 a23 p0.a)) 1)) = 1)))) rfl rfl (Light.quiet (opInt rfl rfl rfl rfl)) ?_
      refine ARL.q0 (v := (.bool (decide (((bAnd .i64 ((shr .i64 a23 p0.a)) 1)) = 1)))) rfl rfl (Light.quiet (opAssign rfl rfl)) ?_
      refine ARL.done ?_
      refine AWP.ret ?_
      refine QBlock.ret ?_
      refine QThen.rt ?_
      obtain rfl := someE hF
      exact QRet.sole (v := (.bool (decide (((bAnd .i64 ((shr .i64 a23 p0.a)) 1)) = 1)))) ⟨rfl, trivial⟩ rfl
    · skip
      refine AWP.seqR rfl ?_
      refine ASL.q (v := (.bool (decide (p0.kind = 4)))) rfl rfl (Light.quiet (opInt rfl rfl rfl rfl)) ?_
      refine ASL.q (v := (.bool (decide (p0.kind = 4)))) rfl rfl (Light.quiet (opAssign rfl rfl)) ?_
      refine ASL.done ?_
      refine AWP.ifP hF rfl (fun hc4 hF => ?_) (fun hc4 hF => ?_)
      · skip
        refine AWP.seqR rfl ?_
        refine ASL.q (v := (.list 1 (List.map (fun xs : (List Bool) => AV.list 1 (List.map AV.bool xs)) p1))) rfl rfl (Light.quiet (opMove rfl rfl)) ?_
        refine ASL.q (v := (.rptr [(.int .i64 p0.a), (.int .i64 p0.b)])) rfl rfl (Light.quiet (opFieldAddrR rfl fieldA_59_1 rfl rfl)) ?_
        refine ASL.q (v := (.int .i64 p0.a)) rfl rfl (Light.quiet (opLoadR rfl aggA_3 rfl rfl)) ?_
        obtain ⟨a34, ha34, hF⟩ := bindE hF
        refine ASL.q (v := (.rptr [(.list 1 (List.map AV.bool a34))])) rfl rfl (Light.quiet (kIx (f := (fun xs : (List Bool) => AV.list 1 (List.map AV.bool xs))) ha34 rfl rfl rfl elemA_48 sizeA_56 rfl)) ?_
        refine ASL.q (v := (.list 1 (List.map AV.bool a34))) rfl rfl (Light.quiet (opLoadR rfl aggA_56 rfl rfl)) ?_
        refine ASL.q (v := (.int .i64 p3)) rfl rfl (Light.quiet (opMove rfl rfl)) ?_
        obtain ⟨a37, ha37, hF⟩ := bindE hF
        refine ASL.q (v := (.rptr [(.bool a37)])) rfl rfl (Light.quiet (kIx (f := AV.bool) ha37 rfl rfl rfl elemA_56 sizeA_4 rfl)) ?_
        refine ASL.q (v := (.bool a37)) rfl rfl (Light.quiet (opLoadR rfl aggA_4 rfl rfl)) ?_
        refine ASL.q (v := (.bool (!a37))) rfl rfl (Light.quiet (opNot rfl rfl)) ?_
        refine ASL.q (v := (.bool (!a37))) rfl rfl (Light.quiet (opAssign rfl rfl)) ?_
        refine ASL.done ?_
        refine AWP.ret ?_
        refine QBlock.ret ?_
        refine QThen.rt ?_
        obtain rfl := someE hF
        exact QRet.sole (v := (.bool (!a37))) ⟨rfl, trivial⟩ rfl
      · skip
        refine AWP.seqR rfl ?_
        refine ASL.q (v := (.bool (decide (p0.kind = 5)))) rfl rfl (Light.quiet (opInt rfl rfl rfl rfl)) ?_
        refine ASL.q (v := (.bool (decide (p0.kind = 5)))) rfl rfl (Light.quiet (opAssign rfl rfl)) ?_
        refine ASL.done ?_
        refine AWP.ifP hF rfl (fun hc5 hF => ?_) (fun hc5 hF => ?_)
        · skip
          refine AWP.seqR rfl ?_
          refine ASL.q (v := (.list 1 (List.map (fun xs : (List Bool) => AV.list 1 (List.map AV.bool xs)) p1))) rfl rfl (Light.quiet (opMove rfl rfl)) ?_
          refine ASL.q (v := (.rptr [(.int .i64 p0.a), (.int .i64 p0.b)])) rfl rfl (Light.quiet (opFieldAddrR rfl fieldA_59_1 rfl rfl)) ?_
          refine ASL.q (v := (.int .i64 p0.a)) rfl rfl (Light.quiet (opLoadR rfl aggA_3 rfl rfl)) ?_
          obtain ⟨a45, ha45, hF⟩ := bindE hF
          refine ASL.q (v := (.rptr [(.list 1 (List.map AV.bool a45))])) rfl rfl (Light.quiet (kIx (f := (fun xs : (List Bool) => AV.list 1 (List.map AV.bool xs))) ha45 rfl rfl rfl elemA_48 sizeA_56 rfl)) ?_
          refine ASL.q (v := (.list 1 (List.map AV.bool a45))) rfl rfl (Light.quiet (opLoadR rfl aggA_56 rfl rfl)) ?_
          refine ASL.q (v := (.int .i64 p3)) rfl rfl (Light.quiet (opMove rfl rfl)) ?_
          obtain ⟨a48, ha48, hF⟩ := bindE hF
          refine ASL.q (v := (.rptr [(.bool a48)])) rfl rfl (Light.quiet (kIx (f := AV.bool) ha48 rfl rfl rfl elemA_56 sizeA_4 rfl)) ?_
          refine ASL.q (v := (.bool a48)) rfl rfl (Light.quiet (opLoadR rfl aggA_4 rfl rfl)) ?_
          refine ASL.q (v := (.bool a48)) rfl rfl (Light.quiet (opMove rfl rfl)) ?_
          refine ASL.g (v := (.list 1 (List.map (fun xs : (List Bool) => AV.list 1 (List.map AV.bool xs)) p1))) (.bool a48) true rfl (wT _) rfl (fun hG => by have q0 := hG; subst q0; exact Light.quiet (opMove rfl rfl)) ?_
          refine ASL.g (v := (.rptr [(.int .i64 p0.b)])) (.bool a48) true rfl (wT _) rfl (fun hG => by have q0 := hG; subst q0; exact Light.quiet (opFieldAddrR rfl fieldA_59_2 rfl rfl)) ?_
          refine ASL.g (v := (.int .i64 p0.b)) (.bool a48) true rfl (wT _) rfl (fun hG => by have q0 := hG; subst q0; exact Light.quiet (opLoadR rfl aggA_3 rfl rfl)) ?_
          obtain ⟨a54, ha54, hF⟩ := bindE hF
          refine ASL.g (v := (.rptr [(.list 1 (List.map AV.bool a54))])) (.bool a48) true rfl (wT _) rfl (fun hG => by have q0 := hG; subst q0; exact Light.quiet (kIx (f := (fun xs : (List Bool) => AV.list 1 (List.map AV.bool xs))) (whenE ha54) rfl rfl rfl elemA_48 sizeA_56 rfl)) ?_
          refine ASL.g (v := (.list 1 (List.map AV.bool a54))) (.bool a48) true rfl (wT _) rfl (fun hG => by have q0 := hG; subst q0; exact Light.quiet (opLoadR rfl aggA_56 rfl rfl)) ?_
          refine ASL.g (v := (.int .i64 p3)) (.bool a48) true rfl (wT _) rfl (fun hG => by have q0 := hG; subst q0; exact Light.quiet (opMove rfl rfl)) ?_
          obtain ⟨a57, ha57, hF⟩ := bindE hF
          refine ASL.g (v := (.rptr [(.bool a57)])) (.bool a48) true rfl (wT _) rfl (fun hG => by have q0 := hG; subst q0; exact Light.quiet (kIx (f := AV.bool) (whenE ha57) rfl rfl rfl elemA_56 sizeA_4 rfl)) ?_
          refine ASL.g (v := (.bool a57)) (.bool a48) true rfl (wT _) rfl (fun hG => by have q0 := hG; subst q0; exact Light.quiet (opLoadR rfl aggA_4 rfl rfl)) ?_
          refine ASL.q (v := (.bool (a48 && a57))) rfl rfl (Light.quiet (opPick (b := a48) rfl rfl (by cases a48 <;> rfl))) ?_
          refine ASL.q (v := (.bool (a48 && a57))) rfl rfl (Light.quiet (opAssign rfl rfl)) ?_
          refine ASL.done ?_
          refine AWP.ret ?_
          refine QBlock.ret ?_
          refine QThen.rt ?_
          obtain rfl := someE hF
          exact QRet.sole (v := (.bool (a48 && a57))) ⟨rfl, trivial⟩ rfl
        · skip
          refine AWP.seqR rfl ?_
          refine ASL.q (v := (.bool (decide (p0.kind = 6)))) rfl rfl (Light.quiet (opInt rfl rfl rfl rfl)) ?_
          refine ASL.q (v := (.bool (decide (p0.kind = 6)))) rfl rfl (Light.quiet (opAssign rfl rfl)) ?_
          refine ASL.done ?_
          refine AWP.ifP hF rfl (fun hc6 hF => ?_) (fun hc6 hF => ?_)
          · skip
            refine AWP.seqR rfl ?_
            refine ASL.q (v := (.list 1 (List.map (fun xs : (List Bool) => AV.list 1 (List.map AV.bool xs)) p1))) rfl rfl (Light.quiet (opMove rfl rfl)) ?_
            refine ASL.q (v := (.rptr [(.int .i64 p0.a), (.int .i64 p0.b)])) rfl rfl (Light.quiet (opFieldAddrR rfl fieldA_59_1 rfl rfl)) ?_
            refine ASL.q (v := (.int .i64 p0.a)) rfl rfl (Light.quiet (opLoadR rfl aggA_3 rfl rfl)) ?_
            obtain ⟨a65, ha65, hF⟩ := bindE hF
            refine ASL.q (v := (.rptr [(.list 1 (List.map AV.bool a65))])) rfl rfl (Light.quiet (kIx (f := (fun xs : (List Bool) => AV.list 1 (List.map AV.bool xs))) ha65 rfl rfl rfl elemA_48 sizeA_56 rfl)) ?_
            refine ASL.q (v := (.list 1 (List.map AV.bool a65))) rfl rfl (Light.quiet (opLoadR rfl aggA_56 rfl rfl)) ?_
            refine ASL.q (v := (.int .i64 p3)) rfl rfl (Light.quiet (opMove rfl rfl)) ?_
            obtain ⟨a68, ha68, hF⟩ := bindE hF
            refine ASL.q (v := (.rptr [(.bool a68)])) rfl rfl (Light.quiet (kIx (f := AV.bool) ha68 rfl rfl rfl elemA_56 sizeA_4 rfl)) ?_
            refine ASL.q (v := (.bool a68)) rfl rfl (Light.quiet (opLoadR rfl aggA_4 rfl rfl)) ?_
            refine ASL.q (v := (.bool a68)) rfl rfl (Light.quiet (opMove rfl rfl)) ?_
            refine ASL.g (v := (.list 1 (List.map (fun xs : (List Bool) => AV.list 1 (List.map AV.bool xs)) p1))) (.bool a68) false rfl (wF _) rfl (fun hG => by have q0 := gN hG; subst q0; exact Light.quiet (opMove rfl rfl)) ?_
            refine ASL.g (v := (.rptr [(.int .i64 p0.b)])) (.bool a68) false rfl (wF _) rfl (fun hG => by have q0 := gN hG; subst q0; exact Light.quiet (opFieldAddrR rfl fieldA_59_2 rfl rfl)) ?_
            refine ASL.g (v := (.int .i64 p0.b)) (.bool a68) false rfl (wF _) rfl (fun hG => by have q0 := gN hG; subst q0; exact Light.quiet (opLoadR rfl aggA_3 rfl rfl)) ?_
            obtain ⟨a74, ha74, hF⟩ := bindE hF
            refine ASL.g (v := (.rptr [(.list 1 (List.map AV.bool a74))])) (.bool a68) false rfl (wF _) rfl (fun hG => by have q0 := gN hG; subst q0; exact Light.quiet (kIx (f := (fun xs : (List Bool) => AV.list 1 (List.map AV.bool xs))) (whenE ha74) rfl rfl rfl elemA_48 sizeA_56 rfl)) ?_
            refine ASL.g (v := (.list 1 (List.map AV.bool a74))) (.bool a68) false rfl (wF _) rfl (fun hG => by have q0 := gN hG; subst q0; exact Light.quiet (opLoadR rfl aggA_56 rfl rfl)) ?_
            refine ASL.g (v := (.int .i64 p3)) (.bool a68) false rfl (wF _) rfl (fun hG => by have q0 := gN hG; subst q0; exact Light.quiet (opMove rfl rfl)) ?_
            obtain ⟨a77, ha77, hF⟩ := bindE hF
            refine ASL.g (v := (.rptr [(.bool a77)])) (.bool a68) false rfl (wF _) rfl (fun hG => by have q0 := gN hG; subst q0; exact Light.quiet (kIx (f := AV.bool) (whenE ha77) rfl rfl rfl elemA_56 sizeA_4 rfl)) ?_
            refine ASL.g (v := (.bool a77)) (.bool a68) false rfl (wF _) rfl (fun hG => by have q0 := gN hG; subst q0; exact Light.quiet (opLoadR rfl aggA_4 rfl rfl)) ?_
            refine ASL.q (v := (.bool (a68 || a77))) rfl rfl (Light.quiet (opPick (b := a68) rfl rfl (by cases a68 <;> rfl))) ?_
            refine ASL.q (v := (.bool (a68 || a77))) rfl rfl (Light.quiet (opAssign rfl rfl)) ?_
            refine ASL.done ?_
            refine AWP.ret ?_
            refine QBlock.ret ?_
            refine QThen.rt ?_
            obtain rfl := someE hF
            exact QRet.sole (v := (.bool (a68 || a77))) ⟨rfl, trivial⟩ rfl
          · skip
            refine AWP.seqR rfl ?_
            refine ASL.q (v := (.bool (decide (p0.kind = 7)))) rfl rfl (Light.quiet (opInt rfl rfl rfl rfl)) ?_
            refine ASL.q (v := (.bool (decide (p0.kind = 7)))) rfl rfl (Light.quiet (opAssign rfl rfl)) ?_
            refine ASL.done ?_
            refine AWP.ifP hF rfl (fun hc7 hF => ?_) (fun hc7 hF => ?_)
            · skip
              refine AWP.seqR rfl ?_
              refine ASL.q (v := (.list 1 (List.map (fun xs : (List Bool) => AV.list 1 (List.map AV.bool xs)) p1))) rfl rfl (Light.quiet (opMove rfl rfl)) ?_
              refine ASL.q (v := (.rptr [(.int .i64 p0.a), (.int .i64 p0.b)])) rfl rfl (Light.quiet (opFieldAddrR rfl fieldA_59_1 rfl rfl)) ?_
              refine ASL.q (v := (.int .i64 p0.a)) rfl rfl (Light.quiet (opLoadR rfl aggA_3 rfl rfl)) ?_
              obtain ⟨a85, ha85, hF⟩ := bindE hF
              refine ASL.q (v := (.rptr [(.list 1 (List.map AV.bool a85))])) rfl rfl (Light.quiet (kIx (f := (fun xs : (List Bool) => AV.list 1 (List.map AV.bool xs))) ha85 rfl rfl rfl elemA_48 sizeA_56 rfl)) ?_
              refine ASL.q (v := (.list 1 (List.map AV.bool a85))) rfl rfl (Light.quiet (opLoadR rfl aggA_56 rfl rfl)) ?_
              refine ASL.q (v := (.int .i64 (spec_l6After p2 p3))) rfl rfl (Light.quiet (opMove rfl rfl)) ?_
              obtain ⟨a88, ha88, hF⟩ := bindE hF
              refine ASL.q (v := (.rptr [(.bool a88)])) rfl rfl (Light.quiet (kIx (f := AV.bool) ha88 rfl rfl rfl elemA_56 sizeA_4 rfl)) ?_
              refine ASL.q (v := (.bool a88)) rfl rfl (Light.quiet (opLoadR rfl aggA_4 rfl rfl)) ?_
              refine ASL.q (v := (.bool a88)) rfl rfl (Light.quiet (opAssign rfl rfl)) ?_
              refine ASL.done ?_
              refine AWP.ret ?_
              refine QBlock.ret ?_
              refine QThen.rt ?_
              obtain rfl := someE hF
              exact QRet.sole (v := (.bool a88)) ⟨rfl, trivial⟩ rfl
            · skip
              refine AWP.seqR rfl ?_
              refine ASL.q (v := (.bool (decide (p0.kind = 8)))) rfl rfl (Light.quiet (opInt rfl rfl rfl rfl)) ?_
              refine ASL.q (v := (.bool (decide (p0.kind = 8)))) rfl rfl (Light.quiet (opAssign rfl rfl)) ?_
              refine ASL.done ?_
              refine AWP.ifP hF rfl (fun hc8 hF => ?_) (fun hc8 hF => ?_)
              · skip
                refine AWP.seqR rfl ?_
                refine ASL.q (v := (.list 1 (List.map (fun xs : (List Bool) => AV.list 1 (List.map AV.bool xs)) p1))) rfl rfl (Light.quiet (opMove rfl rfl)) ?_
                refine ASL.q (v := (.rptr [(.int .i64 p0.b)])) rfl rfl (Light.quiet (opFieldAddrR rfl fieldA_59_2 rfl rfl)) ?_
                refine ASL.q (v := (.int .i64 p0.b)) rfl rfl (Light.quiet (opLoadR rfl aggA_3 rfl rfl)) ?_
                obtain ⟨a95, ha95, hF⟩ := bindE hF
                refine ASL.q (v := (.rptr [(.list 1 (List.map AV.bool a95))])) rfl rfl (Light.quiet (kIx (f := (fun xs : (List Bool) => AV.list 1 (List.map AV.bool xs))) ha95 rfl rfl rfl elemA_48 sizeA_56 rfl)) ?_
                refine ASL.q (v := (.list 1 (List.map AV.bool a95))) rfl rfl (Light.quiet (opLoadR rfl aggA_56 rfl rfl)) ?_
                refine ASL.q (v := (.int .i64 p3)) rfl rfl (Light.quiet (opMove rfl rfl)) ?_
                obtain ⟨a98, ha98, hF⟩ := bindE hF
                refine ASL.q (v := (.rptr [(.bool a98)])) rfl rfl (Light.quiet (kIx (f := AV.bool) ha98 rfl rfl rfl elemA_56 sizeA_4 rfl)) ?_
                refine ASL.q (v := (.bool a98)) rfl rfl (Light.quiet (opLoadR rfl aggA_4 rfl rfl)) ?_
                refine ASL.q (v := (.bool a98)) rfl rfl (Light.quiet (opMove rfl rfl)) ?_
                refine ASL.g (v := (.list 1 (List.map (fun xs : (List Bool) => AV.list 1 (List.map AV.bool xs)) p1))) (.bool a98) false rfl (wF _) rfl (fun hG => by have q0 := gN hG; subst q0; exact Light.quiet (opMove rfl rfl)) ?_
                refine ASL.g (v := (.rptr [(.int .i64 p0.a), (.int .i64 p0.b)])) (.bool a98) false rfl (wF _) rfl (fun hG => by have q0 := gN hG; subst q0; exact Light.quiet (opFieldAddrR rfl fieldA_59_1 rfl rfl)) ?_
                refine ASL.g (v := (.int .i64 p0.a)) (.bool a98) false rfl (wF _) rfl (fun hG => by have q0 := gN hG; subst q0; exact Light.quiet (opLoadR rfl aggA_3 rfl rfl)) ?_
                obtain ⟨a104, ha104, hF⟩ := bindE hF
                refine ASL.g (v := (.rptr [(.list 1 (List.map AV.bool a104))])) (.bool a98) false rfl (wF _) rfl (fun hG => by have q0 := gN hG; subst q0; exact Light.quiet (kIx (f := (fun xs : (List Bool) => AV.list 1 (List.map AV.bool xs))) (whenE ha104) rfl rfl rfl elemA_48 sizeA_56 rfl)) ?_
                refine ASL.g (v := (.list 1 (List.map AV.bool a104))) (.bool a98) false rfl (wF _) rfl (fun hG => by have q0 := gN hG; subst q0; exact Light.quiet (opLoadR rfl aggA_56 rfl rfl)) ?_
                refine ASL.g (v := (.int .i64 p3)) (.bool a98) false rfl (wF _) rfl (fun hG => by have q0 := gN hG; subst q0; exact Light.quiet (opMove rfl rfl)) ?_
                obtain ⟨a107, ha107, hF⟩ := bindE hF
                refine ASL.g (v := (.rptr [(.bool a107)])) (.bool a98) false rfl (wF _) rfl (fun hG => by have q0 := gN hG; subst q0; exact Light.quiet (kIx (f := AV.bool) (whenE ha107) rfl rfl rfl elemA_56 sizeA_4 rfl)) ?_
                refine ASL.g (v := (.bool a107)) (.bool a98) false rfl (wF _) rfl (fun hG => by have q0 := gN hG; subst q0; exact Light.quiet (opLoadR rfl aggA_4 rfl rfl)) ?_
                refine ASL.g (v := (.bool a107)) (.bool a98) false rfl (wF _) rfl (fun hG => by have q0 := gN hG; subst q0; exact Light.quiet (opMove rfl rfl)) ?_
                refine ASL.g (v := (.list 1 (List.map AV.bool p4))) (bif (!a98) then (.bool a107) else .tup []) true rfl (wGT _ _) rfl (fun hG => by have q0 := gN (gA1 hG); have q1 := gA2 hG; subst q0; subst q1; exact Light.quiet (opMove rfl rfl)) ?_
                refine ASL.g (v := (.int .i64 (spec_l6After p2 p3))) (bif (!a98) then (.bool a107) else .tup []) true rfl (wGT _ _) rfl (fun hG => by have q0 := gN (gA1 hG); have q1 := gA2 hG; subst q0; subst q1; exact Light.quiet (opMove rfl rfl)) ?_
                obtain ⟨a112, ha112, hF⟩ := bindE hF
                refine ASL.g (v := (.rptr [(.bool a112)])) (bif (!a98) then (.bool a107) else .tup []) true rfl (wGT _ _) rfl (fun hG => by have q0 := gN (gA1 hG); have q1 := gA2 hG; subst q0; subst q1; exact Light.quiet (kIx (f := AV.bool) (whenE ha112) rfl rfl rfl elemA_56 sizeA_4 rfl)) ?_
                refine ASL.g (v := (.bool a112)) (bif (!a98) then (.bool a107) else .tup []) true rfl (wGT _ _) rfl (fun hG => by have q0 := gN (gA1 hG); have q1 := gA2 hG; subst q0; subst q1; exact Light.quiet (opLoadR rfl aggA_4 rfl rfl)) ?_
                refine ASL.g (v := (.bool (a107 && a112))) (.bool a98) false rfl (wF _) rfl (fun hG => by have q0 := gN hG; subst q0; exact Light.quiet (opPick (b := a107) rfl rfl (by cases a107 <;> rfl))) ?_
                refine ASL.q (v := (.bool (a98 || (a107 && a112)))) rfl rfl (Light.quiet (opPick (b := a98) rfl rfl (by cases a98 <;> rfl))) ?_
                refine ASL.q (v := (.bool (a98 || (a107 && a112)))) rfl rfl (Light.quiet (opAssign rfl rfl)) ?_
                refine ASL.done ?_
                refine AWP.ret ?_
                refine QBlock.ret ?_
                refine QThen.rt ?_
                obtain rfl := someE hF
                exact QRet.sole (v := (.bool (a98 || (a107 && a112)))) ⟨rfl, trivial⟩ rfl
              · skip
                refine AWP.seqR rfl ?_
                refine ASL.q (v := (.bool (decide (p0.kind = 9)))) rfl rfl (Light.quiet (opInt rfl rfl rfl rfl)) ?_
                refine ASL.q (v := (.bool (decide (p0.kind = 9)))) rfl rfl (Light.quiet (opAssign rfl rfl)) ?_
                refine ASL.done ?_
                refine AWP.ifP hF rfl (fun hc9 hF => ?_) (fun hc9 hF => ?_)
                · skip
                  refine AWP.seqR rfl ?_
                  refine ASL.q (v := (.list 1 (List.map (fun xs : (List Bool) => AV.list 1 (List.map AV.bool xs)) p1))) rfl rfl (Light.quiet (opMove rfl rfl)) ?_
                  refine ASL.q (v := (.rptr [(.int .i64 p0.b)])) rfl rfl (Light.quiet (opFieldAddrR rfl fieldA_59_2 rfl rfl)) ?_
                  refine ASL.q (v := (.int .i64 p0.b)) rfl rfl (Light.quiet (opLoadR rfl aggA_3 rfl rfl)) ?_
                  obtain ⟨a121, ha121, hF⟩ := bindE hF
                  refine ASL.q (v := (.rptr [(.list 1 (List.map AV.bool a121))])) rfl rfl (Light.quiet (kIx (f := (fun xs : (List Bool) => AV.list 1 (List.map AV.bool xs))) ha121 rfl rfl rfl elemA_48 sizeA_56 rfl)) ?_
                  refine ASL.q (v := (.list 1 (List.map AV.bool a121))) rfl rfl (Light.quiet (opLoadR rfl aggA_56 rfl rfl)) ?_
                  refine ASL.q (v := (.int .i64 p3)) rfl rfl (Light.quiet (opMove rfl rfl)) ?_
                  obtain ⟨a124, ha124, hF⟩ := bindE hF
                  refine ASL.q (v := (.rptr [(.bool a124)])) rfl rfl (Light.quiet (kIx (f := AV.bool) ha124 rfl rfl rfl elemA_56 sizeA_4 rfl)) ?_
                  refine ASL.q (v := (.bool a124)) rfl rfl (Light.quiet (opLoadR rfl aggA_4 rfl rfl)) ?_
                  refine ASL.q (v := (.bool a124)) rfl rfl (Light.quiet (opMove rfl rfl)) ?_
                  refine ASL.g (v := (.list 1 (List.map (fun xs : (List Bool) => AV.list 1 (List.map AV.bool xs)) p1))) (.bool a124) true rfl (wT _) rfl (fun hG => by have q0 := hG; subst q0; exact Light.quiet (opMove rfl rfl)) ?_
                  refine ASL.g (v := (.rptr [(.int .i64 p0.a), (.int .i64 p0.b)])) (.bool a124) true rfl (wT _) rfl (fun hG => by have q0 := hG; subst q0; exact Light.quiet (opFieldAddrR rfl fieldA_59_1 rfl rfl)) ?_
                  refine ASL.g (v := (.int .i64 p0.a)) (.bool a124) true rfl (wT _) rfl (fun hG => by have q0 := hG; subst q0; exact Light.quiet (opLoadR rfl aggA_3 rfl rfl)) ?_
                  obtain ⟨a130, ha130, hF⟩ := bindE hF
                  refine ASL.g (v := (.rptr [(.list 1 (List.map AV.bool a130))])) (.bool a124) true rfl (wT _) rfl (fun hG => by have q0 := hG; subst q0; exact Light.quiet (kIx (f := (fun xs : (List Bool) => AV.list 1 (List.map AV.bool xs))) (whenE ha130) rfl rfl rfl elemA_48 sizeA_56 rfl)) ?_
                  refine ASL.g (v := (.list 1 (List.map AV.bool a130))) (.bool a124) true rfl (wT _) rfl (fun hG => by have q0 := hG; subst q0; exact Light.quiet (opLoadR rfl aggA_56 rfl rfl)) ?_
                  refine ASL.g (v := (.int .i64 p3)) (.bool a124) true rfl (wT _) rfl (fun hG => by have q0 := hG; subst q0; exact Light.quiet (opMove rfl rfl)) ?_
                  obtain ⟨a133, ha133, hF⟩ := bindE hF
                  refine ASL.g (v := (.rptr [(.bool a133)])) (.bool a124) true rfl (wT _) rfl (fun hG => by have q0 := hG; subst q0; exact Light.quiet (kIx (f := AV.bool) (whenE ha133) rfl rfl rfl elemA_56 sizeA_4 rfl)) ?_
                  refine ASL.g (v := (.bool a133)) (.bool a124) true rfl (wT _) rfl (fun hG => by have q0 := hG; subst q0; exact Light.quiet (opLoadR rfl aggA_4 rfl rfl)) ?_
                  refine ASL.g (v := (.bool a133)) (.bool a124) true rfl (wT _) rfl (fun hG => by have q0 := hG; subst q0; exact Light.quiet (opMove rfl rfl)) ?_
                  refine ASL.g (v := (.list 1 (List.map AV.bool p4))) (bif a124 then (.bool a133) else .tup []) false rfl (wGF _ _) rfl (fun hG => by have q0 := gA1 hG; have q1 := gN (gA2 hG); subst q0; subst q1; exact Light.quiet (opMove rfl rfl)) ?_
                  refine ASL.g (v := (.int .i64 (spec_l6After p2 p3))) (bif a124 then (.bool a133) else .tup []) false rfl (wGF _ _) rfl (fun hG => by have q0 := gA1 hG; have q1 := gN (gA2 hG); subst q0; subst q1; exact Light.quiet (opMove rfl rfl)) ?_
                  obtain ⟨a138, ha138, hF⟩ := bindE hF
                  refine ASL.g (v := (.rptr [(.bool a138)])) (bif a124 then (.bool a133) else .tup []) false rfl (wGF _ _) rfl (fun hG => by have q0 := gA1 hG; have q1 := gN (gA2 hG); subst q0; subst q1; exact Light.quiet (kIx (f := AV.bool) (whenE ha138) rfl rfl rfl elemA_56 sizeA_4 rfl)) ?_
                  refine ASL.g (v := (.bool a138)) (bif a124 then (.bool a133) else .tup []) false rfl (wGF _ _) rfl (fun hG => by have q0 := gA1 hG; have q1 := gN (gA2 hG); subst q0; subst q1; exact Light.quiet (opLoadR rfl aggA_4 rfl rfl)) ?_
                  refine ASL.g (v := (.bool (a133 || a138))) (.bool a124) true rfl (wT _) rfl (fun hG => by have q0 := hG; subst q0; exact Light.quiet (opPick (b := a133) rfl rfl (by cases a133 <;> rfl))) ?_
                  refine ASL.q (v := (.bool (a124 && (a133 || a138)))) rfl rfl (Light.quiet (opPick (b := a124) rfl rfl (by cases a124 <;> rfl))) ?_
                  refine ASL.q (v := (.bool (a124 && (a133 || a138)))) rfl rfl (Light.quiet (opAssign rfl rfl)) ?_
                  refine ASL.done ?_
                  refine AWP.ret ?_
                  refine QBlock.ret ?_
                  refine QThen.rt ?_
                  obtain rfl := someE hF
                  exact QRet.sole (v := (.bool (a124 && (a133 || a138)))) ⟨rfl, trivial⟩ rfl
                · skip
                  refine AWP.seqR rfl ?_
                  refine ASL.q (v := (.bool (decide (p0.kind = 10)))) rfl rfl (Light.quiet (opInt rfl rfl rfl rfl)) ?_
                  refine ASL.q (v := (.bool (decide (p0.kind = 10)))) rfl rfl (Light.quiet (opAssign rfl rfl)) ?_
                  refine ASL.done ?_
                  refine AWP.ifP hF rfl (fun hc10 hF => ?_) (fun hc10 hF => ?_)
                  · skip
                    refine AWP.seqR rfl ?_
                    refine ASL.q (v := (.list 1 (List.map (fun xs : (List Bool) => AV.list 1 (List.map AV.bool xs)) p1))) rfl rfl (Light.quiet (opMove rfl rfl)) ?_
                    refine ASL.q (v := (.rptr [(.int .i64 p0.a), (.int .i64 p0.b)])) rfl rfl (Light.quiet (opFieldAddrR rfl fieldA_59_1 rfl rfl)) ?_
                    refine ASL.q (v := (.int .i64 p0.a)) rfl rfl (Light.quiet (opLoadR rfl aggA_3 rfl rfl)) ?_
                    obtain ⟨a147, ha147, hF⟩ := bindE hF
                    refine ASL.q (v := (.rptr [(.list 1 (List.map AV.bool a147))])) rfl rfl (Light.quiet (kIx (f := (fun xs : (List Bool) => AV.list 1 (List.map AV.bool xs))) ha147 rfl rfl rfl elemA_48 sizeA_56 rfl)) ?_
                    refine ASL.q (v := (.list 1 (List.map AV.bool a147))) rfl rfl (Light.quiet (opLoadR rfl aggA_56 rfl rfl)) ?_
                    refine ASL.q (v := (.int .i64 p3)) rfl rfl (Light.quiet (opMove rfl rfl)) ?_
                    obtain ⟨a150, ha150, hF⟩ := bindE hF
                    refine ASL.q (v := (.rptr [(.bool a150)])) rfl rfl (Light.quiet (kIx (f := AV.bool) ha150 rfl rfl rfl elemA_56 sizeA_4 rfl)) ?_
                    refine ASL.q (v := (.bool a150)) rfl rfl (Light.quiet (opLoadR rfl aggA_4 rfl rfl)) ?_
                    refine ASL.q (v := (.bool a150)) rfl rfl (Light.quiet (opMove rfl rfl)) ?_
                    refine ASL.g (v := (.list 1 (List.map AV.bool p4))) (.bool a150) false rfl (wF _) rfl (fun hG => by have q0 := gN hG; subst q0; exact Light.quiet (opMove rfl rfl)) ?_
                    refine ASL.g (v := (.int .i64 (spec_l6After p2 p3))) (.bool a150) false rfl (wF _) rfl (fun hG => by have q0 := gN hG; subst q0; exact Light.quiet (opMove rfl rfl)) ?_
                    obtain ⟨a155, ha155, hF⟩ := bindE hF
                    refine ASL.g (v := (.rptr [(.bool a155)])) (.bool a150) false rfl (wF _) rfl (fun hG => by have q0 := gN hG; subst q0; exact Light.quiet (kIx (f := AV.bool) (whenE ha155) rfl rfl rfl elemA_56 sizeA_4 rfl)) ?_
                    refine ASL.g (v := (.bool a155)) (.bool a150) false rfl (wF _) rfl (fun hG => by have q0 := gN hG; subst q0; exact Light.quiet (opLoadR rfl aggA_4 rfl rfl)) ?_
                    refine ASL.q (v := (.bool (a150 || a155))) rfl rfl (Light.quiet (opPick (b := a150) rfl rfl (by cases a150 <;> rfl))) ?_
                    refine ASL.q (v := (.bool (a150 || a155))) rfl rfl (Light.quiet (opAssign rfl rfl)) ?_
                    refine ASL.done ?_
                    refine AWP.ret ?_
                    refine QBlock.ret ?_
                    refine QThen.rt ?_
                    obtain rfl := someE hF
                    exact QRet.sole (v := (.bool (a150 || a155))) ⟨rfl, trivial⟩ rfl
                  · skip
                    refine AWP.seqR rfl ?_
                    refine ASL.q (v := (.bool (decide (p0.kind = 11)))) rfl rfl (Light.quiet (opInt rfl rfl rfl rfl)) ?_
                    refine ASL.q (v := (.bool (decide (p0.kind = 11)))) rfl rfl (Light.quiet (opAssign rfl rfl)) ?_
                    refine ASL.done ?_
                    refine AWP.ifP hF rfl (fun hc11 hF => ?_) (fun hc11 hF => ?_)
                    · skip
                      refine AWP.seqR rfl ?_
                      refine ASL.q (v := (.list 1 (List.map (fun xs : (List Bool) => AV.list 1 (List.map AV.bool xs)) p1))) rfl rfl (Light.quiet (opMove rfl rfl)) ?_
                      refine ASL.q (v := (.rptr [(.int .i64 p0.a), (.int .i64 p0.b)])) rfl rfl (Light.quiet (opFieldAddrR rfl fieldA_59_1 rfl rfl)) ?_
                      refine ASL.q (v := (.int .i64 p0.a)) rfl rfl (Light.quiet (opLoadR rfl aggA_3 rfl rfl)) ?_
                      obtain ⟨a163, ha163, hF⟩ := bindE hF
                      refine ASL.q (v := (.rptr [(.list 1 (List.map AV.bool a163))])) rfl rfl (Light.quiet (kIx (f := (fun xs : (List Bool) => AV.list 1 (List.map AV.bool xs))) ha163 rfl rfl rfl elemA_48 sizeA_56 rfl)) ?_
                      refine ASL.q (v := (.list 1 (List.map AV.bool a163))) rfl rfl (Light.quiet (opLoadR rfl aggA_56 rfl rfl)) ?_
                      refine ASL.q (v := (.int .i64 p3)) rfl rfl (Light.quiet (opMove rfl rfl)) ?_
                      obtain ⟨a166, ha166, hF⟩ := bindE hF
                      refine ASL.q (v := (.rptr [(.bool a166)])) rfl rfl (Light.quiet (kIx (f := AV.bool) ha166 rfl rfl rfl elemA_56 sizeA_4 rfl)) ?_
                      refine ASL.q (v := (.bool a166)) rfl rfl (Light.quiet (opLoadR rfl aggA_4 rfl rfl)) ?_
                      refine ASL.q (v := (.bool a166)) rfl rfl (Light.quiet (opMove rfl rfl)) ?_
                      refine ASL.g (v := (.list 1 (List.map AV.bool p4))) (.bool a166) true rfl (wT _) rfl (fun hG => by have q0 := hG; subst q0; exact Light.quiet (opMove rfl rfl)) ?_
                      refine ASL.g (v := (.int .i64 (spec_l6After p2 p3))) (.bool a166) true rfl (wT _) rfl (fun hG => by have q0 := hG; subst q0; exact Light.quiet (opMove rfl rfl)) ?_
                      obtain ⟨a171, ha171, hF⟩ := bindE hF
                      refine ASL.g (v := (.rptr [(.bool a171)])) (.bool a166) true rfl (wT _) rfl (fun hG => by have q0 := hG; subst q0; exact Light.quiet (kIx (f := AV.bool) (whenE ha171) rfl rfl rfl elemA_56 sizeA_4 rfl)) ?_
                      refine ASL.g (v := (.bool a171)) (.bool a166) true rfl (wT _) rfl (fun hG => by have q0 := hG; subst q0; exact Light.quiet (opLoadR rfl aggA_4 rfl rfl)) ?_
                      refine ASL.q (v := (.bool (a166 && a171))) rfl rfl (Light.quiet (opPick (b := a166) rfl rfl (by cases a166 <;> rfl))) ?_
                      refine ASL.q (v := (.bool (a166 && a171))) rfl rfl (Light.quiet (opAssign rfl rfl)) ?_
                      refine ASL.done ?_
                      refine AWP.ret ?_
                      refine QBlock.ret ?_
                      refine QThen.rt ?_
                      obtain rfl := someE hF
                      exact QRet.sole (v := (.bool (a166 && a171))) ⟨rfl, trivial⟩ rfl
                    · skip
                      refine AWP.skip ?_
                      refine QBlock.nrm ?_
                      refine QThen.nrm ?_
                      refine AWP.seqR rfl ?_
                      refine ASL.q (v := (.bool false)) rfl rfl (Light.quiet (opAssign rfl rfl)) ?_
                      refine ASL.done ?_
                      refine AWP.ret ?_
                      obtain rfl := someE hF
                      exact QRet.sole (v := (.bool false)) ⟨rfl, trivial⟩ rfl

set_option maxRecDepth 10000 in
theorem spec_l9Row_ok {p0 : TNode} {p1 : (List (List Bool))} {p2 : TWord} {r : (List Bool)} (hF : spec_l9Row p0 p1 p2 = some r) : PO Try.prog 73 [(TNode.av p0), (.list 1 (List.map (fun xs : (List Bool) => AV.list 1 (List.map AV.bool xs)) p1)), (TWord.av p2)] 1 (List.map AV.bool r) := by
  refine HC.enter Try.func73 rfl Try.ntmps73 (by simp) ?_
  have hS := Sep.void; unfold spec_l9Row at hF
  refine AWP.seqR rfl ?_
  refine ASL.q (v := (.rptr [(.int .i64 p0.kind), (.int .i64 p0.a), (.int .i64 p0.b)])) rfl rfl ((qBoxI (v := (TNode.av p0)) rfl rfl rfl rfl)) ?_
  refine ASL.q (v := (.rptr [(.list 1 (List.map (AV.int .i64) p2.stem)), (.list 1 (List.map (AV.int .i64) p2.loop))])) rfl rfl ((qBoxI (v := (TWord.av p2)) rfl rfl rfl rfl)) ?_
  have hS := hNil (s := 1) (f := AV.bool) hS
  refine ASL.q (v := .nil) rfl rfl (Light.quiet (opAssign rfl rfl)) ?_
  refine ASL.done ?_
  refine AWP.seqR rfl ?_
  refine ASL.q (v := (TWord.av p2)) rfl rfl (Light.quiet (opLoadRA rfl aggA_41 sizeA_41 rfl (nlt rfl) rfl)) ?_
  refine ASL.q (v := (.int .i64 (spec_l6Places p2))) rfl rfl ((qCall rfl rfl call_105 (spec_l6Places_ok p2) rfl)) ?_
  refine ASL.q (v := (.int .i64 (spec_l6Places p2))) rfl rfl (Light.quiet (opAssign rfl rfl)) ?_
  refine ASL.done ?_
  refine AWP.seqR rfl ?_
  refine ASL.q (v := (.int .i64 (spec_l6Places p2))) rfl rfl (Light.quiet (opMove rfl rfl)) ?_
  obtain ⟨z15, hz15, hF⟩ := bindE hF
  refine ASL.x rfl rfl (hMk (f := AV.bool) hS hz15 (by decide) rfl elemA_56 sizeA_4 bytesA_4 zeroA_4 rfl rfl (by decide) rfl rfl ?_); rintro v15 G2 hK hS
  refine ASL.q (v := v15) rfl rfl (Light.quiet (opAssign rfl rfl)) ?_
  refine ASL.done ?_
  refine AWP.seqM (fun e H => ∃ y4 : (List Bool), E.Told e [(1, (.list 1 (List.map (fun xs : (List Bool) => AV.list 1 (List.map AV.bool xs)) p1))), (3, (.rptr [(.int .i64 p0.kind), (.int .i64 p0.a), (.int .i64 p0.b)])), (5, (.rptr [(.list 1 (List.map (AV.int .i64) p2.stem)), (.list 1 (List.map (AV.int .i64) p2.loop))])), (7, (.int .i64 (spec_l6Places p2))), (8, v15)] ∧ E.Sep H [.row 1 v15 (List.map AV.bool y4)] ∧ spec_l9Row.k0 p0 p1 p2 y4 = some r) ?_ ?_
  · rintro e0 G26 ⟨y4, hT, hS, hF⟩; refine AWP.only _ hT ?_; unfold spec_l9Row.k0 at hF
    refine AWP.seqM (fun e H => ∃ y5 : (List Bool), E.Told e [(8, v15)] ∧ E.Sep H [.row 1 v15 (List.map AV.bool y5)] ∧ spec_l9Row.k1 y5 = some r) ?_ ?_
    · rintro e0 G6 ⟨y5, hT, hS, hF⟩; refine AWP.only _ hT ?_; unfold spec_l9Row.k1 at hF
      refine AWP.seqR rfl ?_
      refine ASL.q (v := v15) rfl rfl (Light.quiet (opMove rfl rfl)) ?_
      refine ASL.q (v := v15) rfl rfl (Light.quiet (opAssign rfl rfl)) ?_
      refine ASL.done ?_
      refine AWP.ret ?_
      obtain rfl := someE hF
      exact QRet.sole (v := v15) ⟨rfl, trivial⟩ (hS.get (k := 0) rfl)
    · skip
      refine AWP.seqR rfl ?_
      refine ASL.q (v := (.int .i64 0)) rfl rfl (Light.quiet (opAssign rfl rfl)) ?_
      refine ASL.done ?_
      refine AWP.block ?_
      obtain ⟨o11, hL10, hR12⟩ := bindE hF
      refine AWP.loopF (ω := Unit) hL10 (fun s w => [(1, (.list 1 (List.map (fun xs : (List Bool) => AV.list 1 (List.map AV.bool xs)) p1))), (3, (.rptr [(.int .i64 p0.kind), (.int .i64 p0.a), (.int .i64 p0.b)])), (5, (.rptr [(.list 1 (List.map (AV.int .i64) p2.stem)), (.list 1 (List.map (AV.int .i64) p2.loop))])), (7, (.int .i64 (spec_l6Places p2))), (8, v15), (10, (.int .i64 s.2))]) (fun s w => [.row 1 v15 (List.map AV.bool s.1)]) () ⟨rfl, rfl, rfl, rfl, rfl, rfl, trivial⟩ (hS.pick [0] rfl rfl) ?_
      rintro ⟨y7, x10_l0⟩ _ G13 hS x8 hF hx9
      try dsimp only at hS ⊢
      have hF : spec_l9Row.b0 p0 p1 p2 y7 x10_l0 = some x8 := hF; unfold spec_l9Row.b0 at hF
      refine AWP.seq ?_
      refine AWP.seqR rfl ?_
      refine ASL.q (v := (.int .i64 x10_l0)) rfl rfl (Light.quiet (opMove rfl rfl)) ?_
      refine ASL.q (v := (.bool (decide (x10_l0 < 2)))) rfl rfl (Light.quiet (opInt rfl rfl rfl rfl)) ?_
      refine ASL.done ?_
      refine AWP.ifP hF rfl (fun hc14 hF => ?_) (fun hc14 hF => ?_)
      · skip
        refine AWP.skip ?_
        refine QThen.nrm ?_
        refine AWP.seqM (fun e H => ∃ y15 : (List Bool), E.Told e [(1, (.list 1 (List.map (fun xs : (List Bool) => AV.list 1 (List.map AV.bool xs)) p1))), (3, (.rptr [(.int .i64 p0.kind), (.int .i64 p0.a), (.int .i64 p0.b)])), (5, (.rptr [(.list 1 (List.map (AV.int .i64) p2.stem)), (.list 1 (List.map (AV.int .i64) p2.loop))])), (7, (.int .i64 (spec_l6Places p2))), (8, v15), (10, (.int .i64 x10_l0))] ∧ E.Sep H [.row 1 v15 (List.map AV.bool y15)] ∧ spec_l9Row.k2 x10_l0 y15 = some x8) ?_ ?_
        · rintro e0 G16 ⟨y15, hT, hS, hF⟩; refine AWP.only _ hT ?_; unfold spec_l9Row.k2 at hF
          refine AWP.lastR rfl ?_
          refine ASL.q (v := (.int .i64 x10_l0)) rfl rfl (Light.quiet (opMove rfl rfl)) ?_
          refine ASL.q (v := (.int .i64 (W (x10_l0 + 1)))) rfl rfl (Light.quiet (opInt rfl rfl rfl rfl)) ?_
          refine ASL.q (v := (.int .i64 (W (x10_l0 + 1)))) rfl rfl (Light.quiet (opAssign rfl rfl)) ?_
          refine ASL.done ?_
          refine QThen.nrm ?_
          exact ⟨(y15, (W (x10_l0 + 1))), (), (someE hF).symm, ⟨rfl, rfl, rfl, rfl, rfl, rfl, trivial⟩, (hS.pick [0] rfl rfl)⟩
        · skip
          refine AWP.block ?_
          refine AWP.seqR rfl ?_
          refine ASL.q (v := (.int .i64 (spec_l6Places p2))) rfl rfl (Light.quiet (opMove rfl rfl)) ?_
          refine ASL.q (v := (.int .i64 (W (((spec_l6Places p2)) - 1)))) rfl rfl (Light.quiet (opInt rfl rfl rfl rfl)) ?_
          refine ASL.q (v := (.int .i64 (W (((spec_l6Places p2)) - 1)))) rfl rfl (Light.quiet (opAssign rfl rfl)) ?_
          refine ASL.done ?_
          refine AWP.block ?_
          obtain ⟨o21, hL20, hR22⟩ := bindE hF
          refine AWP.loopF (ω := Unit) hL20 (fun s w => [(1, (.list 1 (List.map (fun xs : (List Bool) => AV.list 1 (List.map AV.bool xs)) p1))), (3, (.rptr [(.int .i64 p0.kind), (.int .i64 p0.a), (.int .i64 p0.b)])), (5, (.rptr [(.list 1 (List.map (AV.int .i64) p2.stem)), (.list 1 (List.map (AV.int .i64) p2.loop))])), (7, (.int .i64 (spec_l6Places p2))), (8, v15), (10, (.int .i64 x10_l0)), (11, (.int .i64 s.2))]) (fun s w => [.row 1 v15 (List.map AV.bool s.1)]) () ⟨rfl, rfl, rfl, rfl, rfl, rfl, rfl, trivial⟩ (hS.pick [0] rfl rfl) ?_
          rintro ⟨y17, x11_l1⟩ _ G23 hS x18 hF hx19
          try dsimp only at hS ⊢
          have hF : spec_l9Row.b1 p0 p1 p2 y17 x11_l1 = some x18 := hF; unfold spec_l9Row.b1 at hF
          refine AWP.seq ?_
          refine AWP.seqR rfl ?_
          refine ASL.q (v := (.int .i64 x11_l1)) rfl rfl (Light.quiet (opMove rfl rfl)) ?_
          refine ASL.q (v := (.bool (decide (x11_l1 ≥ 0)))) rfl rfl (Light.quiet (opInt rfl rfl rfl rfl)) ?_
          refine ASL.done ?_
          refine AWP.ifP hF rfl (fun hc24 hF => ?_) (fun hc24 hF => ?_)
          · skip
            refine AWP.skip ?_
            refine QThen.nrm ?_
            refine AWP.seq ?_
            refine AWP.block ?_
            refine AWP.lastR rfl ?_
            refine ASL.q (v := v15) rfl rfl (Light.quiet (opMove rfl rfl)) ?_
            refine ASL.q (v := (.int .i64 x11_l1)) rfl rfl (Light.quiet (opMove rfl rfl)) ?_
            refine ASL.q (v := (TNode.av p0)) rfl rfl (Light.quiet (opLoadRA rfl aggA_59 sizeA_59 rfl (nlt rfl) rfl)) ?_
            refine ASL.q (v := (.list 1 (List.map (fun xs : (List Bool) => AV.list 1 (List.map AV.bool xs)) p1))) rfl rfl (Light.quiet (opMove rfl rfl)) ?_
            refine ASL.q (v := (TWord.av p2)) rfl rfl (Light.quiet (opLoadRA rfl aggA_41 sizeA_41 rfl (nlt rfl) rfl)) ?_
            refine ASL.q (v := (.int .i64 x11_l1)) rfl rfl (Light.quiet (opMove rfl rfl)) ?_
            refine ASL.q (v := v15) rfl rfl (Light.quiet (opMove rfl rfl)) ?_
            obtain ⟨a49, ha49, hF⟩ := bindE hF
            refine ASL.q (v := (.bool a49)) rfl rfl ((qCallR hS rfl rfl call_106 (spec_l9One_ok ha49) ⟨.same _, .same _, .same _, .same _, .row (k := 0) rfl, trivial⟩ (by constructor))) ?_
            obtain ⟨m50, hm50, hF⟩ := bindE hF
            refine ASL.q (v := (ptrTo v15 m50 1)) rfl rfl (Light.quiet (kIxO hS (j := 0) rfl hm50 rfl rfl rfl elemA_56 sizeA_4)) ?_
            refine ASL.n rfl rfl (hSt (f := AV.bool) (a := a49) hS (j := 0) rfl hm50 rfl sizeA_4 rfl rfl ⟨rfl, rfl, rfl⟩ ?_); rintro G25 hS
            refine ASL.done ?_
            refine QBlock.nrm ?_
            refine QThen.nrm ?_
            refine AWP.lastR rfl ?_
            refine ASL.q (v := (.int .i64 x11_l1)) rfl rfl (Light.quiet (opMove rfl rfl)) ?_
            refine ASL.q (v := (.int .i64 (W (x11_l1 - 1)))) rfl rfl (Light.quiet (opInt rfl rfl rfl rfl)) ?_
            refine ASL.q (v := (.int .i64 (W (x11_l1 - 1)))) rfl rfl (Light.quiet (opAssign rfl rfl)) ?_
            refine ASL.done ?_
            refine QThen.nrm ?_
            exact ⟨((y17.set m50 a49), (W (x11_l1 - 1))), (), (someE hF).symm, ⟨rfl, rfl, rfl, rfl, rfl, rfl, rfl, trivial⟩, (hS.pick [0] rfl rfl)⟩
          · skip
            refine AWP.exit ?_
            refine QThen.ext ?_
            refine QThen.ext ?_
            refine QBlock.hit ?_
            obtain rfl := (hx19 _ (someE hF).symm)
            have hF := hR22
            refine QBlock.nrm ?_
            refine QThen.nrm ?_
            exact ⟨y17, ⟨rfl, rfl, rfl, rfl, rfl, rfl, trivial⟩, (hS.pick [0] rfl rfl), hF⟩
      · skip
        refine AWP.exit ?_
        refine QThen.ext ?_
        refine QThen.ext ?_
        refine QBlock.hit ?_
        obtain rfl := (hx9 _ (someE hF).symm)
        have hF := hR12
        refine QThen.nrm ?_
        exact ⟨y7, ⟨rfl, trivial⟩, (hS.pick [0] rfl rfl), hF⟩
  · skip
    refine AWP.seqR rfl ?_
    refine ASL.q (v := (.int .i64 0)) rfl rfl (Light.quiet (opAssign rfl rfl)) ?_
    refine ASL.done ?_
    refine AWP.block ?_
    obtain ⟨o31, hL30, hR32⟩ := bindE hF
    refine AWP.loopF (ω := Unit) hL30 (fun s w => [(1, (.list 1 (List.map (fun xs : (List Bool) => AV.list 1 (List.map AV.bool xs)) p1))), (3, (.rptr [(.int .i64 p0.kind), (.int .i64 p0.a), (.int .i64 p0.b)])), (5, (.rptr [(.list 1 (List.map (AV.int .i64) p2.stem)), (.list 1 (List.map (AV.int .i64) p2.loop))])), (7, (.int .i64 (spec_l6Places p2))), (8, v15), (9, (.int .i64 s.2))]) (fun s w => [.row 1 v15 (List.map AV.bool s.1)]) () ⟨rfl, rfl, rfl, rfl, rfl, rfl, trivial⟩ (hS.pick [0] rfl rfl) ?_
    rintro ⟨y27, x9_l2⟩ _ G33 hS x28 hF hx29
    try dsimp only at hS ⊢
    have hF : spec_l9Row.b2 p2 p0 y27 x9_l2 = some x28 := hF; unfold spec_l9Row.b2 at hF
    refine AWP.seq ?_
    refine AWP.seqR rfl ?_
    refine ASL.q (v := (.int .i64 x9_l2)) rfl rfl (Light.quiet (opMove rfl rfl)) ?_
    refine ASL.q (v := (.int .i64 (spec_l6Places p2))) rfl rfl (Light.quiet (opMove rfl rfl)) ?_
    refine ASL.q (v := (.bool (decide (x9_l2 < ((spec_l6Places p2)))))) rfl rfl (Light.quiet (opInt rfl rfl rfl rfl)) ?_
    refine ASL.done ?_
    refine AWP.ifP hF rfl (fun hc34 hF => ?_) (fun hc34 hF => ?_)
    · skip
      refine AWP.skip ?_
      refine QThen.nrm ?_
      refine AWP.seq ?_
      refine AWP.block ?_
      refine AWP.lastR rfl ?_
      refine ASL.q (v := v15) rfl rfl (Light.quiet (opMove rfl rfl)) ?_
      refine ASL.q (v := (.int .i64 x9_l2)) rfl rfl (Light.quiet (opMove rfl rfl)) ?_
      refine ASL.q (v := (.rptr [(.int .i64 p0.kind), (.int .i64 p0.a), (.int .i64 p0.b)])) rfl rfl (Light.quiet (opFieldAddrR rfl fieldA_59_0 rfl rfl)) ?_
      refine ASL.q (v := (.int .i64 p0.kind)) rfl rfl (Light.quiet (opLoadR rfl aggA_3 rfl rfl)) ?_
      refine ASL.q (v := (.bool (decide (p0.kind = 9)))) rfl rfl (Light.quiet (opInt rfl rfl rfl rfl)) ?_
      obtain ⟨c26, hc26, hF⟩ := bndE hF
      refine ASL.q (v := (.bool c26)) rfl rfl ((Quiet.cast (Light.quiet (opMove rfl rfl)) (congrArg AV.bool hc26.symm))) ?_
      refine ASL.g (v := (.rptr [(.int .i64 p0.kind), (.int .i64 p0.a), (.int .i64 p0.b)])) (.bool c26) false rfl (wF _) rfl (fun hG => by have q0 := gN hG; subst q0; exact Light.quiet (opFieldAddrR rfl fieldA_59_0 rfl rfl)) ?_
      refine ASL.g (v := (.int .i64 p0.kind)) (.bool c26) false rfl (wF _) rfl (fun hG => by have q0 := gN hG; subst q0; exact Light.quiet (opLoadR rfl aggA_3 rfl rfl)) ?_
      refine ASL.g (v := (.bool (decide (p0.kind = 11)))) (.bool c26) false rfl (wF _) rfl (fun hG => by have q0 := gN hG; subst q0; exact Light.quiet (opInt rfl rfl rfl rfl)) ?_
      refine ASL.q (v := (.bool (c26 || (decide (p0.kind = 11))))) rfl rfl (Light.quiet (opPick (b := c26) rfl rfl (by cases c26 <;> rfl))) ?_
      obtain ⟨m31, hm31, hF⟩ := bindE hF
      refine ASL.q (v := (ptrTo v15 m31 1)) rfl rfl (Light.quiet (kIxO hS (j := 0) rfl hm31 rfl rfl rfl elemA_56 sizeA_4)) ?_
      refine ASL.n rfl rfl (hSt (f := AV.bool) (a := (c26 || (decide (p0.kind = 11)))) hS (j := 0) rfl hm31 rfl sizeA_4 rfl rfl ⟨rfl, rfl, rfl⟩ ?_); rintro G35 hS
      refine ASL.done ?_
      refine QBlock.nrm ?_
      refine QThen.nrm ?_
      refine AWP.lastR rfl ?_
      refine ASL.q (v := (.int .i64 x9_l2)) rfl rfl (Light.quiet (opMove rfl rfl)) ?_
      refine ASL.q (v := (.int .i64 (W (x9_l2 + 1)))) rfl rfl (Light.quiet (opInt rfl rfl rfl rfl)) ?_
      refine ASL.q (v := (.int .i64 (W (x9_l2 + 1)))) rfl rfl (Light.quiet (opAssign rfl rfl)) ?_
      refine ASL.done ?_
      refine QThen.nrm ?_
      exact ⟨((y27.set m31 ((c26 || (decide (p0.kind = 11))))), (W (x9_l2 + 1))), (), (someE hF).symm, ⟨rfl, rfl, rfl, rfl, rfl, rfl, trivial⟩, (hS.pick [0] rfl rfl)⟩
    · skip
      refine AWP.exit ?_
      refine QThen.ext ?_
      refine QThen.ext ?_
      refine QBlock.hit ?_
      obtain rfl := (hx29 _ (someE hF).symm)
      have hF := hR32
      refine QThen.nrm ?_
      exact ⟨y27, ⟨rfl, rfl, rfl, rfl, rfl, trivial⟩, (hS.pick [0] rfl rfl), hF⟩

set_option maxRecDepth 10000 in
theorem spec_LtlTable_ok {p0 : (List TNode)} {p1 : TWord} {r : (List (List Bool))} (hF : spec_LtlTable p0 p1 = some r) : PO Try.prog 30 [(.list 3 (List.map TNode.av p0)), (TWord.av p1)] 1 (List.map (fun xs : (List Bool) => AV.list 1 (List.map AV.bool xs)) r) := by
  refine HC.enter Try.func30 rfl Try.ntmps30 (by simp) ?_
  have hS := Sep.void; unfold spec_LtlTable at hF
  refine AWP.seqR rfl ?_
  refine ASL.q (v := (.rptr [(.list 1 (List.map (AV.int .i64) p1.stem)), (.list 1 (List.map (AV.int .i64) p1.loop))])) rfl rfl ((qBoxI (v := (TWord.av p1)) rfl rfl rfl rfl)) ?_
  have hS := hNil (s := 1) (f := (fun xs : (List Bool) => AV.list 1 (List.map AV.bool xs))) hS
  refine ASL.q (v := .nil) rfl rfl (Light.quiet (opAssign rfl rfl)) ?_
  refine ASL.done ?_
  refine AWP.seqR rfl ?_
  refine ASL.x rfl rfl (hLit (f := (fun xs : (List Bool) => AV.list 1 (List.map AV.bool xs))) (zs := []) hS rfl rfl elemA_48 sizeA_56 zeroA_56 rfl rfl rfl rfl (by simp [cells]) (nlt rfl) ?_); rintro v7 G2 hK hS
  refine ASL.q (v := v7) rfl rfl (Light.quiet (opAssign rfl rfl)) ?_
  refine ASL.done ?_
  refine AWP.seq ?_
  refine AWP.seqR rfl ?_
  refine ASL.q (v := (.list 3 (List.map TNode.av p0))) rfl rfl (Light.quiet (opMove rfl rfl)) ?_
  obtain ⟨a9, ha9, hF⟩ := bindE hF
  refine ASL.q (v := (.bool a9)) rfl rfl ((qCall rfl rfl call_43 (spec_LtlOk_ok ha9) rfl)) ?_
  refine ASL.q (v := (.bool (!a9))) rfl rfl (Light.quiet (opNot rfl rfl)) ?_
  obtain ⟨c11, hc11, hF⟩ := bndE hF
  refine ASL.q (v := (.bool c11)) rfl rfl ((Quiet.cast (Light.quiet (opMove rfl rfl)) (congrArg AV.bool hc11.symm))) ?_
  refine ASL.g (v := (TWord.av p1)) (.bool c11) false rfl (wF _) rfl (fun hG => by have q0 := gN hG; subst q0; exact Light.quiet (opLoadRA rfl aggA_41 sizeA_41 rfl (nlt rfl) rfl)) ?_
  obtain ⟨a13, ha13, hF⟩ := bindE hF
  refine ASL.g (v := (.bool a13)) (.bool c11) false rfl (wF _) rfl (fun hG => by have q0 := gN hG; subst q0; exact (qCall rfl rfl call_72 (spec_l3Right_ok (whenE ha13)) rfl)) ?_
  refine ASL.g (v := (.bool (!a13))) (.bool c11) false rfl (wF _) rfl (fun hG => by have q0 := gN hG; subst q0; exact Light.quiet (opNot rfl rfl)) ?_
  refine ASL.q (v := (.bool (c11 || (!a13)))) rfl rfl (Light.quiet (opPick (b := c11) rfl rfl (by cases c11 <;> rfl))) ?_
  refine ASL.done ?_
  refine AWP.ifB hF rfl (fun hc4 hF => ?_) (fun hc4 hF => ?_)
  · skip
    refine AWP.seqR rfl ?_
    refine ASL.q (v := v7) rfl rfl (Light.quiet (opMove rfl rfl)) ?_
    refine ASL.q (v := v7) rfl rfl (Light.quiet (opAssign rfl rfl)) ?_
    refine ASL.done ?_
    refine AWP.ret ?_
    refine QThen.rt ?_
    obtain rfl := someE hF
    exact QRet.sole (v := v7) ⟨rfl, trivial⟩ (hS.get (k := 0) rfl)
  · skip
    refine AWP.skip ?_
    refine QThen.nrm ?_
    refine AWP.seqM (fun e H => ∃ y5 : (List (List Bool)), ∃ w6 : AV, E.Told e [(5, w6)] ∧ E.Sep H [.row 1 w6 (List.map (fun xs : (List Bool) => AV.list 1 (List.map AV.bool xs)) y5)] ∧ spec_LtlTable.k0 y5 = some r) ?_ ?_
    · rintro e0 G8 ⟨y5, w6, hT, hS, hF⟩; refine AWP.only _ hT ?_; unfold spec_LtlTable.k0 at hF
      refine AWP.seqR rfl ?_
      refine ASL.q (v := w6) rfl rfl (Light.quiet (opMove rfl rfl)) ?_
      refine ASL.q (v := w6) rfl rfl (Light.quiet (opAssign rfl rfl)) ?_
      refine ASL.done ?_
      refine AWP.ret ?_
      obtain rfl := someE hF
      exact QRet.sole (v := w6) ⟨rfl, trivial⟩ (hS.get (k := 0) rfl)
    · skip
      refine AWP.seqR rfl ?_
      refine ASL.q (v := (.int .i64 0)) rfl rfl (Light.quiet (opAssign rfl rfl)) ?_
      refine ASL.done ?_
      refine AWP.block ?_
      obtain ⟨o15, hL14, hR16⟩ := bindE hF
      refine AWP.loopF (ω := AV) hL14 (fun s w => [(0, (.list 3 (List.map TNode.av p0))), (3, (.rptr [(.list 1 (List.map (AV.int .i64) p1.stem)), (.list 1 (List.map (AV.int .i64) p1.loop))])), (5, w), (6, (.int .i64 s.2))]) (fun s w => [.row 1 w (List.map (fun xs : (List Bool) => AV.list 1 (List.map AV.bool xs)) s.1)]) v7 ⟨rfl, rfl, rfl, rfl, trivial⟩ (hS.pick [0] rfl rfl) ?_
      rintro ⟨y9, x6_l0⟩ w10 G17 hS x12 hF hx13
      try dsimp only at hS ⊢
      have hF : spec_LtlTable.b0 p0 p1 y9 x6_l0 = some x12 := hF; unfold spec_LtlTable.b0 at hF
      refine AWP.seq ?_
      refine AWP.seqR rfl ?_
      refine ASL.q (v := (.int .i64 x6_l0)) rfl rfl (Light.quiet (opMove rfl rfl)) ?_
      refine ASL.q (v := (.list 3 (List.map TNode.av p0))) rfl rfl (Light.quiet (opMove rfl rfl)) ?_
      refine ASL.q (v := (.int .i64 (p0.length : Int))) rfl rfl (Light.quiet (opLenMap (f := TNode.av) rfl rfl rfl lenT_24 rfl)) ?_
      refine ASL.q (v := (.bool (decide (x6_l0 < ((p0.length : Int)))))) rfl rfl (Light.quiet (opInt rfl rfl rfl rfl)) ?_
      refine ASL.done ?_
      refine AWP.ifP hF rfl (fun hc18 hF => ?_) (fun hc18 hF => ?_)
      · skip
        refine AWP.skip ?_
        refine QThen.nrm ?_
        refine AWP.seq ?_
        refine AWP.block ?_
        refine AWP.lastD [(0, false), (1, false), (2, false), (3, false), (4, false), (5, false), (6, false), (7, false), (8, false), (9, true), (10, false)] mixed (by kernel_rfl) rfl ?_
        refine ARL.q0 (v := w10) rfl rfl (Light.quiet (opMove rfl rfl)) ?_
        refine ARL.q0 (v := (.list 3 (List.map TNode.av p0))) rfl rfl (Light.quiet (opMove rfl rfl)) ?_
        refine ARL.q0 (v := (.int .i64 x6_l0)) rfl rfl (Light.quiet (opMove rfl rfl)) ?_
        obtain ⟨a26, ha26, hF⟩ := bindE hF
        refine ARL.q0 (v := (.rptr [(.int .i64 a26.kind), (.int .i64 a26.a), (.int .i64 a26.b)])) rfl rfl (Light.quiet (kIx (f := TNode.av) ha26 rfl rfl rfl elemA_24 sizeA_59 rfl)) ?_
        refine ARL.q0 (v := (TNode.av a26)) rfl rfl (Light.quiet (opLoadRA rfl aggA_59 sizeA_59 rfl (nlt rfl) rfl)) ?_
        refine ARL.q0 (v := w10) rfl rfl (Light.quiet (opMove rfl rfl)) ?_
        refine ARL.q0 (v := (TWord.av p1)) rfl rfl (Light.quiet (opLoadRA rfl aggA_41 sizeA_41 rfl (nlt rfl) rfl)) ?_
        obtain ⟨a30, ha30, hF⟩ := bindE hF
        refine ARL.q (v := (.list 1 (List.map AV.bool a30))) rfl rfl (hS.aliveAll) ((qCallRL hS rfl rfl call_73 (spec_l9Row_ok ha30) ⟨.same _, .row (k := 0) rfl, .same _, trivial⟩ (Scal.row (fun _ => by intro c hc; simp only [cells, List.mem_singleton] at hc; subst hc; constructor)))) ?_
        refine ARL.q0 (v := (.list 1 (List.map (fun xs : (List Bool) => AV.list 1 (List.map AV.bool xs)) [a30]))) rfl rfl ((qLit (xs := [(.list 1 (List.map AV.bool a30))]) rfl elemA_48 sizeA_56 zeroA_56 rfl rfl rfl rfl (by simp [cells]) (nlt rfl))) ?_
        obtain ⟨z32, hz32, hF⟩ := bindE hF
        refine ARL.y rfl rfl rfl rfl (hApp (f := (fun xs : (List Bool) => AV.list 1 (List.map AV.bool xs))) (ws := [a30]) hS (j := 0) rfl hz32 rfl elemA_48 rfl sizeA_56 bytesA_56 zeroA_56 rfl rfl rfl (fun _ => rfl) ?_); rintro v32 G19 hS
        refine ARL.q0 (v := v32) rfl rfl (Light.quiet (opAssign rfl rfl)) ?_
        refine ARL.done ?_
        refine QBlock.nrm ?_
        refine QThen.nrm ?_
        refine AWP.lastR rfl ?_
        refine ASL.q (v := (.int .i64 x6_l0)) rfl rfl (Light.quiet (opMove rfl rfl)) ?_
        refine ASL.q (v := (.int .i64 (W (x6_l0 + 1)))) rfl rfl (Light.quiet (opInt rfl rfl rfl rfl)) ?_
        refine ASL.q (v := (.int .i64 (W (x6_l0 + 1)))) rfl rfl (Light.quiet (opAssign rfl rfl)) ?_
        refine ASL.done ?_
        refine QThen.nrm ?_
        exact ⟨(z32, (W (x6_l0 + 1))), v32, (someE hF).symm, ⟨rfl, rfl, rfl, rfl, trivial⟩, (hS.pick [0] rfl rfl)⟩
      · skip
        refine AWP.exit ?_
        refine QThen.ext ?_
        refine QThen.ext ?_
        refine QBlock.hit ?_
        obtain rfl := (hx13 _ (someE hF).symm)
        have hF := hR16
        refine QThen.nrm ?_
        exact ⟨y9, w10, ⟨rfl, trivial⟩, (hS.pick [0] rfl rfl), hF⟩

set_option maxRecDepth 10000 in
theorem spec_LtlAt_ok {p0 : (List TNode)} {p1 : TWord} {p2 : Int} {r : Bool} (hF : spec_LtlAt p0 p1 p2 = some r) : PC Try.prog 22 [(.list 3 (List.map TNode.av p0)), (TWord.av p1), (.int .i64 p2)] fun v => v = (.bool r) := by
  refine PC.enter Try.func22 rfl Try.ntmps22 (by simp) ?_
  have hS := Sep.void; unfold spec_LtlAt at hF
  refine AWP.seqR rfl ?_
  refine ASL.q (v := (.rptr [(.list 1 (List.map (AV.int .i64) p1.stem)), (.list 1 (List.map (AV.int .i64) p1.loop))])) rfl rfl ((qBoxI (v := (TWord.av p1)) rfl rfl rfl rfl)) ?_
  refine ASL.q (v := (.bool false)) rfl rfl (Light.quiet (opAssign rfl rfl)) ?_
  refine ASL.done ?_
  refine AWP.seqR rfl ?_
  refine ASL.q (v := (.list 3 (List.map TNode.av p0))) rfl rfl (Light.quiet (opMove rfl rfl)) ?_
  refine ASL.q (v := (TWord.av p1)) rfl rfl (Light.quiet (opLoadRA rfl aggA_41 sizeA_41 rfl (nlt rfl) rfl)) ?_
  obtain ⟨a10, ha10, hF⟩ := bindE hF
  refine ASL.q (v := (.list 1 (List.map (fun xs : (List Bool) => AV.list 1 (List.map AV.bool xs)) a10))) rfl rfl ((qCall rfl rfl call_30 (PO.list (spec_LtlTable_ok ha10)) rfl)) ?_
  refine ASL.q (v := (.list 1 (List.map (fun xs : (List Bool) => AV.list 1 (List.map AV.bool xs)) a10))) rfl rfl (Light.quiet (opAssign rfl rfl)) ?_
  refine ASL.done ?_
  refine AWP.seq ?_
  refine AWP.seqR rfl ?_
  refine ASL.q (v := (.list 1 (List.map (fun xs : (List Bool) => AV.list 1 (List.map AV.bool xs)) a10))) rfl rfl (Light.quiet (opMove rfl rfl)) ?_
  refine ASL.q (v := (.int .i64 (a10.length : Int))) rfl rfl (Light.quiet (opLenMap (f := (fun xs : (List Bool) => AV.list 1 (List.map AV.bool xs))) rfl rfl rfl lenT_48 rfl)) ?_
  refine ASL.q (v := (.bool (decide (((a10.length : Int)) = 0)))) rfl rfl (Light.quiet (opInt rfl rfl rfl rfl)) ?_
  obtain ⟨c14, hc14, hF⟩ := bndE hF
  refine ASL.q (v := (.bool c14)) rfl rfl ((Quiet.cast (Light.quiet (opMove rfl rfl)) (congrArg AV.bool hc14.symm))) ?_
  refine ASL.g (v := (.int .i64 p2)) (.bool c14) false rfl (wF _) rfl (fun hG => by have q0 := gN hG; subst q0; exact Light.quiet (opMove rfl rfl)) ?_
  refine ASL.g (v := (.bool (decide (p2 < 0)))) (.bool c14) false rfl (wF _) rfl (fun hG => by have q0 := gN hG; subst q0; exact Light.quiet (opInt rfl rfl rfl rfl)) ?_
  refine ASL.q (v := (.bool (c14 || (decide (p2 < 0))))) rfl rfl (Light.quiet (opPick (b := c14) rfl rfl (by cases c14 <;> rfl))) ?_
  refine ASL.done ?_
  refine AWP.ifB hF rfl (fun hc1 hF => ?_) (fun hc1 hF => ?_)
  · skip
    refine AWP.seqR rfl ?_
    refine ASL.q (v := (.bool false)) rfl rfl (Light.quiet (opAssign rfl rfl)) ?_
    refine ASL.done ?_
    refine AWP.ret ?_
    refine QThen.rt ?_
    obtain rfl := someE hF
    exact QRet.sole (v := (.bool false)) ⟨rfl, trivial⟩ rfl
  · skip
    refine AWP.skip ?_
    refine QThen.nrm ?_
    refine AWP.seqM (fun e H => ∃ x2_1 : Int, E.Told e [(2, (.int .i64 x2_1)), (7, (.list 1 (List.map (fun xs : (List Bool) => AV.list 1 (List.map AV.bool xs)) a10)))] ∧ E.Sep H [] ∧ spec_LtlAt.k0 a10 x2_1 = some r) ?_ ?_
    · rintro e0 G2 ⟨x2_1, hT, hS, hF⟩; refine AWP.only _ hT ?_; unfold spec_LtlAt.k0 at hF
      refine AWP.seqR rfl ?_
      refine ASL.q (v := (.list 1 (List.map (fun xs : (List Bool) => AV.list 1 (List.map AV.bool xs)) a10))) rfl rfl (Light.quiet (opMove rfl rfl)) ?_
      refine ASL.q (v := (.list 1 (List.map (fun xs : (List Bool) => AV.list 1 (List.map AV.bool xs)) a10))) rfl rfl (Light.quiet (opMove rfl rfl)) ?_
      refine ASL.q (v := (.int .i64 (a10.length : Int))) rfl rfl (Light.quiet (opLenMap (f := (fun xs : (List Bool) => AV.list 1 (List.map AV.bool xs))) rfl rfl rfl lenT_48 rfl)) ?_
      refine ASL.q (v := (.int .i64 (W (((a10.length : Int)) - 1)))) rfl rfl (Light.quiet (opInt rfl rfl rfl rfl)) ?_
      obtain ⟨a40, ha40, hF⟩ := bindE hF
      refine ASL.q (v := (.rptr [(.list 1 (List.map AV.bool a40))])) rfl rfl (Light.quiet (kIx (f := (fun xs : (List Bool) => AV.list 1 (List.map AV.bool xs))) ha40 rfl rfl rfl elemA_48 sizeA_56 rfl)) ?_
      refine ASL.q (v := (.list 1 (List.map AV.bool a40))) rfl rfl (Light.quiet (opLoadR rfl aggA_56 rfl rfl)) ?_
      refine ASL.q (v := (.int .i64 x2_1)) rfl rfl (Light.quiet (opMove rfl rfl)) ?_
      obtain ⟨a43, ha43, hF⟩ := bindE hF
      refine ASL.q (v := (.rptr [(.bool a43)])) rfl rfl (Light.quiet (kIx (f := AV.bool) ha43 rfl rfl rfl elemA_56 sizeA_4 rfl)) ?_
      refine ASL.q (v := (.bool a43)) rfl rfl (Light.quiet (opLoadR rfl aggA_4 rfl rfl)) ?_
      refine ASL.q (v := (.bool a43)) rfl rfl (Light.quiet (opAssign rfl rfl)) ?_
      refine ASL.done ?_
      refine AWP.ret ?_
      obtain rfl := someE hF
      exact QRet.sole (v := (.bool a43)) ⟨rfl, trivial⟩ rfl
    · skip
      refine AWP.seqR rfl ?_
      refine ASL.q (v := (.int .i64 p2)) rfl rfl (Light.quiet (opMove rfl rfl)) ?_
      refine ASL.q (v := (.rptr [(.list 1 (List.map (AV.int .i64) p1.stem)), (.list 1 (List.map (AV.int .i64) p1.loop))])) rfl rfl (Light.quiet (opFieldAddrR rfl fieldA_41_0 rfl rfl)) ?_
      refine ASL.q (v := (.list 1 (List.map (AV.int .i64) p1.stem))) rfl rfl (Light.quiet (opLoadR rfl aggA_32 rfl rfl)) ?_
      refine ASL.q (v := (.int .i64 (p1.stem.length : Int))) rfl rfl (Light.quiet (opLenMap (f := (AV.int .i64)) rfl rfl rfl lenT_32 rfl)) ?_
      refine ASL.q (v := (.bool (decide (p2 ≥ ((p1.stem.length : Int)))))) rfl rfl (Light.quiet (opInt rfl rfl rfl rfl)) ?_
      refine ASL.done ?_
      refine AWP.ifP hF rfl (fun hc3 hF => ?_) (fun hc3 hF => ?_)
      · skip
        refine AWP.lastD [(0, false), (1, false), (2, false), (3, false), (4, false), (5, false), (6, false), (7, false), (8, false), (9, false), (10, false), (11, false), (12, false), (13, false)] mixed (by kernel_rfl) rfl ?_
        refine ARL.q0 (v := (.rptr [(.list 1 (List.map (AV.int .i64) p1.stem)), (.list 1 (List.map (AV.int .i64) p1.loop))])) rfl rfl (Light.quiet (opFieldAddrR rfl fieldA_41_0 rfl rfl)) ?_
        refine ARL.q0 (v := (.list 1 (List.map (AV.int .i64) p1.stem))) rfl rfl (Light.quiet (opLoadR rfl aggA_32 rfl rfl)) ?_
        refine ARL.q0 (v := (.int .i64 (p1.stem.length : Int))) rfl rfl (Light.quiet (opLenMap (f := (AV.int .i64)) rfl rfl rfl lenT_32 rfl)) ?_
        refine ARL.q0 (v := (.int .i64 p2)) rfl rfl (Light.quiet (opMove rfl rfl)) ?_
        refine ARL.q0 (v := (.rptr [(.list 1 (List.map (AV.int .i64) p1.stem)), (.list 1 (List.map (AV.int .i64) p1.loop))])) rfl rfl (Light.quiet (opFieldAddrR rfl fieldA_41_0 rfl rfl)) ?_
        refine ARL.q0 (v := (.list 1 (List.map (AV.int .i64) p1.stem))) rfl rfl (Light.quiet (opLoadR rfl aggA_32 rfl rfl)) ?_
        refine ARL.q0 (v := (.int .i64 (p1.stem.length : Int))) rfl rfl (Light.quiet (opLenMap (f := (AV.int .i64)) rfl rfl rfl lenT_32 rfl)) ?_
        refine ARL.q0 (v := (.int .i64 (W (p2 - ((p1.stem.length : Int)))))) rfl rfl (Light.quiet (opInt rfl rfl rfl rfl)) ?_
        refine ARL.q0 (v := (.rptr [(.list 1 (List.map (AV.int .i64) p1.loop))])) rfl rfl (Light.quiet (opFieldAddrR rfl fieldA_41_1 rfl rfl)) ?_
        refine ARL.q0 (v := (.list 1 (List.map (AV.int .i64) p1.loop))) rfl rfl (Light.quiet (opLoadR rfl aggA_32 rfl rfl)) ?_
        refine ARL.q0 (v := (.int .i64 (p1.loop.length : Int))) rfl rfl (Light.quiet (opLenMap (f := (AV.int .i64)) rfl rfl rfl lenT_32 rfl)) ?_
        obtain ⟨u4, hu4, hF⟩ := bindE hF
        refine ARL.q0 (v := (.int .i64 (Int.tmod ((W (p2 - ((p1.stem.length : Int))))) ((p1.loop.length : Int))))) rfl rfl (Light.quiet (opRem rfl rfl rfl (of_decide_eq_true (chkE hu4)) rfl)) ?_
        refine ARL.q0 (v := (.int .i64 (W (((p1.stem.length : Int)) + ((Int.tmod ((W (p2 - ((p1.stem.length : Int))))) ((p1.loop.length : Int)))))))) rfl rfl (Light.quiet (opInt rfl rfl rfl rfl)) ?_
        refine ARL.q0 (v := (.int .i64 (W (((p1.stem.length : Int)) + ((Int.tmod ((W (p2 - ((p1.stem.length : Int))))) ((p1.loop.length : Int)))))))) rfl rfl (Light.quiet (opAssign rfl rfl)) ?_
        refine ARL.done ?_
        refine QThen.nrm ?_
        exact ⟨(W (((p1.stem.length : Int)) + ((Int.tmod ((W (p2 - ((p1.stem.length : Int))))) ((p1.loop.length : Int)))))), ⟨rfl, rfl, trivial⟩, (hS.pick [] rfl rfl), hF⟩
      · skip
        refine AWP.skip ?_
        refine QThen.nrm ?_
        exact ⟨p2, ⟨rfl, rfl, trivial⟩, (hS.pick [] rfl rfl), hF⟩

set_option maxRecDepth 10000 in
theorem spec_LtlTakes_ok {p0 : (List TNode)} {p1 : TWord} {r : Bool} (hF : spec_LtlTakes p0 p1 = some r) : PC Try.prog 28 [(.list 3 (List.map TNode.av p0)), (TWord.av p1)] fun v => v = (.bool r) := by
  refine PC.enter Try.func28 rfl Try.ntmps28 (by simp) ?_
  have hS := Sep.void; unfold spec_LtlTakes at hF
  refine AWP.seqR rfl ?_
  refine ASL.q (v := (.rptr [(.list 1 (List.map (AV.int .i64) p1.stem)), (.list 1 (List.map (AV.int .i64) p1.loop))])) rfl rfl ((qBoxI (v := (TWord.av p1)) rfl rfl rfl rfl)) ?_
  refine ASL.q (v := (.bool false)) rfl rfl (Light.quiet (opAssign rfl rfl)) ?_
  refine ASL.done ?_
  refine AWP.seqR rfl ?_
  refine ASL.q (v := (.list 3 (List.map TNode.av p0))) rfl rfl (Light.quiet (opMove rfl rfl)) ?_
  refine ASL.q (v := (TWord.av p1)) rfl rfl (Light.quiet (opLoadRA rfl aggA_41 sizeA_41 rfl (nlt rfl) rfl)) ?_
  obtain ⟨a7, ha7, hF⟩ := bindE hF
  refine ASL.q (v := (.bool a7)) rfl rfl ((qCall rfl rfl call_22 (spec_LtlAt_ok ha7) rfl)) ?_
  refine ASL.q (v := (.bool a7)) rfl rfl (Light.quiet (opAssign rfl rfl)) ?_
  refine ASL.done ?_
  refine AWP.ret ?_
  obtain rfl := someE hF
  exact QRet.sole (v := (.bool a7)) ⟨rfl, trivial⟩ rfl

set_option maxRecDepth 10000 in
theorem laws_FnNnf_ok {K : Nat} {p0 : (List Int)} {r : Bool} (hF : laws_FnNnf K p0 = some r) : PC Try.prog 9 [(.list 1 (List.map (AV.int .u8) p0))] fun v => v = (.bool r) := by
  refine PC.enter Try.func9 rfl Try.ntmps9 (by simp) ?_
  have hS := Sep.void; unfold laws_FnNnf at hF
  refine AWP.seqR rfl ?_
  refine ASL.q (v := (.bool false)) rfl rfl (Light.quiet (opAssign rfl rfl)) ?_
  refine ASL.done ?_
  refine AWP.seq ?_
  refine AWP.seqR rfl ?_
  refine ASL.q (v := (.list 1 (List.map (AV.int .u8) p0))) rfl rfl (Light.quiet (opMove rfl rfl)) ?_
  refine ASL.q (v := (.bool (laws_big p0))) rfl rfl ((qCall rfl rfl call_10 (laws_big_ok p0) rfl)) ?_
  refine ASL.done ?_
  refine AWP.ifB hF rfl (fun hc1 hF => ?_) (fun hc1 hF => ?_)
  · skip
    refine AWP.seqR rfl ?_
    refine ASL.q (v := (.bool true)) rfl rfl (Light.quiet (opAssign rfl rfl)) ?_
    refine ASL.done ?_
    refine AWP.ret ?_
    refine QThen.rt ?_
    obtain rfl := someE hF
    exact QRet.sole (v := (.bool true)) ⟨rfl, trivial⟩ rfl
  · skip
    refine AWP.skip ?_
    refine QThen.nrm ?_
    refine AWP.seqR rfl ?_
    refine ASL.q (v := (.list 1 (List.map (AV.int .u8) p0))) rfl rfl (Light.quiet (opMove rfl rfl)) ?_
    obtain ⟨a15, ha15, hF⟩ := bindE hF
    refine ASL.q (v := (.tup [(.list 3 (List.map TNode.av a15.1)), (TWord.av a15.2)])) rfl rfl ((qCall rfl rfl call_47 (spec_DrawLtlTakes_ok ha15) rfl)) ?_
    refine ASL.q (v := (.tup [(.list 3 (List.map TNode.av a15.1)), (TWord.av a15.2)])) rfl rfl (Light.quiet (opMove rfl rfl)) ?_
    refine ASL.q (v := (.list 3 (List.map TNode.av a15.1))) rfl rfl (Light.quiet (opExtract rfl rfl rfl)) ?_
    refine ASL.q (v := (TWord.av a15.2)) rfl rfl (Light.quiet (opExtract rfl rfl rfl)) ?_
    refine ASL.x rfl rfl (hNewZ hS [(.list 1 (List.map (AV.int .i64) [])), (.list 1 (List.map (AV.int .i64) []))] rfl zeroA_41 ⟨.inr ⟨_, rfl, rfl⟩, .inr ⟨_, rfl, rfl⟩, trivial⟩ ?_); rintro b4 G2 hK hS
    refine ASL.q (v := (.list 3 (List.map TNode.av a15.1))) rfl rfl (Light.quiet (opAssign rfl rfl)) ?_
    refine ASL.n rfl rfl (hPutA hS (j := 0) rfl rfl sizeA_41 rfl rfl rfl rfl rfl (nlt rfl) ?_); rintro G4 hS
    refine ASL.done ?_
    refine AWP.seqR rfl ?_
    refine ASL.q (v := (.list 3 (List.map TNode.av a15.1))) rfl rfl (Light.quiet (opMove rfl rfl)) ?_
    obtain ⟨a20, ha20, hF⟩ := bindE hF
    refine ASL.x rfl rfl (hCallSR hS rfl rfl call_48 (impl_LtlNnf_ok ha20) ⟨.same _, trivial⟩ (by rintro _ _ G ⟨w5, rfl, rfl⟩ hG; exact ⟨(Scal.tup (ScalC.cons (hG.scR (k := 0) rfl) (ScalC.cons (by constructor) ScalC.nil))), ⟨(Scal.row (fun _ => by simp only [TNode.av, cells, List.mem_cons, List.not_mem_nil, or_false]; rintro c hc; rcases hc with rfl | rfl | rfl <;> constructor)), trivial⟩⟩) ?_); rintro _ _ G7 ⟨w5, rfl, rfl⟩ hK hS
    refine ASL.q (v := (.tup [w5, (.bool a20.2)])) rfl rfl (Light.quiet (opMove rfl rfl)) ?_
    refine ASL.q (v := w5) rfl rfl (Light.quiet (opExtract rfl rfl rfl)) ?_
    refine ASL.q (v := (.bool a20.2)) rfl rfl (Light.quiet (opExtract rfl rfl rfl)) ?_
    refine ASL.q (v := w5) rfl rfl (Light.quiet (opAssign rfl rfl)) ?_
    refine ASL.q (v := (.bool a20.2)) rfl rfl (Light.quiet (opAssign rfl rfl)) ?_
    refine ASL.done ?_
    refine AWP.seqR rfl ?_
    refine ASL.q (v := (.list 3 (List.map TNode.av a15.1))) rfl rfl (Light.quiet (opMove rfl rfl)) ?_
    obtain ⟨a25, ha25, hF⟩ := bindE hF
    refine ASL.q (v := (.tup [(.list 3 (List.map TNode.av a25.1)), (.bool a25.2)])) rfl rfl ((qCall rfl rfl call_49 (spec_LtlNnf_ok ha25) rfl)) ?_
    refine ASL.q (v := (.tup [(.list 3 (List.map TNode.av a25.1)), (.bool a25.2)])) rfl rfl (Light.quiet (opMove rfl rfl)) ?_
    refine ASL.q (v := (.list 3 (List.map TNode.av a25.1))) rfl rfl (Light.quiet (opExtract rfl rfl rfl)) ?_
    refine ASL.q (v := (.bool a25.2)) rfl rfl (Light.quiet (opExtract rfl rfl rfl)) ?_
    refine ASL.q (v := (.list 3 (List.map TNode.av a25.1))) rfl rfl (Light.quiet (opAssign rfl rfl)) ?_
    refine ASL.q (v := (.bool a25.2)) rfl rfl (Light.quiet (opAssign rfl rfl)) ?_
    refine ASL.done ?_
    refine AWP.seq ?_
    refine AWP.seqR rfl ?_
    refine ASL.q (v := (.bool a20.2)) rfl rfl (Light.quiet (opMove rfl rfl)) ?_
    refine ASL.q (v := (.bool a25.2)) rfl rfl (Light.quiet (opMove rfl rfl)) ?_
    refine ASL.q (v := (.bool (!(a20.2 == a25.2)))) rfl rfl (Light.quiet (opBoolEq rfl rfl rfl und_4 rfl)) ?_
    refine ASL.done ?_
    refine AWP.ifB hF rfl (fun hc8 hF => ?_) (fun hc8 hF => ?_)
    · skip
      refine AWP.seqR rfl ?_
      refine ASL.q (v := (.bool false)) rfl rfl (Light.quiet (opAssign rfl rfl)) ?_
      refine ASL.done ?_
      refine AWP.ret ?_
      refine QThen.rt ?_
      obtain rfl := someE hF
      exact QRet.sole (v := (.bool false)) ⟨rfl, trivial⟩ rfl
    · skip
      refine AWP.skip ?_
      refine QThen.nrm ?_
      refine AWP.seqR rfl ?_
      refine ASL.q (v := (.list 3 (List.map TNode.av a15.1))) rfl rfl (Light.quiet (opMove rfl rfl)) ?_
      refine ASL.q (v := (TWord.av a15.2)) rfl rfl (Light.quiet (kAtA hS (j := 1) rfl rfl aggA_41 sizeA_41 rfl (nlt rfl) rfl)) ?_
      obtain ⟨a33, ha33, hF⟩ := bindE hF
      refine ASL.q (v := (.bool a33)) rfl rfl ((qCall rfl rfl call_29 (impl_LtlTakes_ok ha33) rfl)) ?_
      refine ASL.q (v := (.bool a33)) rfl rfl (Light.quiet (opAssign rfl rfl)) ?_
      refine ASL.done ?_
      refine AWP.seq ?_
      refine AWP.seqR rfl ?_
      refine ASL.q (v := (.bool a33)) rfl rfl (Light.quiet (opMove rfl rfl)) ?_
      refine ASL.q (v := (.list 3 (List.map TNode.av a15.1))) rfl rfl (Light.quiet (opMove rfl rfl)) ?_
      refine ASL.q (v := (TWord.av a15.2)) rfl rfl (Light.quiet (kAtA hS (j := 1) rfl rfl aggA_41 sizeA_41 rfl (nlt rfl) rfl)) ?_
      obtain ⟨a37, ha37, hF⟩ := bindE hF
      refine ASL.q (v := (.bool a37)) rfl rfl ((qCall rfl rfl call_28 (spec_LtlTakes_ok ha37) rfl)) ?_
      refine ASL.q (v := (.bool (!(a33 == a37)))) rfl rfl (Light.quiet (opBoolEq rfl rfl rfl und_4 rfl)) ?_
      refine ASL.done ?_
      refine AWP.ifB hF rfl (fun hc9 hF => ?_) (fun hc9 hF => ?_)
      · skip
        refine AWP.seqR rfl ?_
        refine ASL.q (v := (.bool false)) rfl rfl (Light.quiet (opAssign rfl rfl)) ?_
        refine ASL.done ?_
        refine AWP.ret ?_
        refine QThen.rt ?_
        obtain rfl := someE hF
        exact QRet.sole (v := (.bool false)) ⟨rfl, trivial⟩ rfl
      · skip
        refine AWP.skip ?_
        refine QThen.nrm ?_
        refine AWP.seq ?_
        refine AWP.seqR rfl ?_
        refine ASL.q (v := (.bool a20.2)) rfl rfl (Light.quiet (opMove rfl rfl)) ?_
        refine ASL.q (v := (.bool (!a20.2))) rfl rfl (Light.quiet (opNot rfl rfl)) ?_
        refine ASL.done ?_
        refine AWP.ifB hF rfl (fun hc10 hF => ?_) (fun hc10 hF => ?_)
        · skip
          refine AWP.seqR rfl ?_
          refine ASL.q (v := w5) rfl rfl (Light.quiet (opMove rfl rfl)) ?_
          refine ASL.q (v := (.int .i64 (a20.1.length : Int))) rfl rfl (Light.quiet (kLen hS (j := 0) rfl rfl rfl rfl lenT_24 rfl)) ?_
          refine ASL.q (v := (.bool (decide (((a20.1.length : Int)) = 0)))) rfl rfl (Light.quiet (opInt rfl rfl rfl rfl)) ?_
          refine ASL.q (v := (.bool (decide (((a20.1.length : Int)) = 0)))) rfl rfl (Light.quiet (opAssign rfl rfl)) ?_
          refine ASL.done ?_
          refine AWP.ret ?_
          refine QThen.rt ?_
          obtain rfl := someE hF
          exact QRet.sole (v := (.bool (decide (((a20.1.length : Int)) = 0)))) ⟨rfl, trivial⟩ rfl
        · skip
          refine AWP.skip ?_
          refine QThen.nrm ?_
          refine AWP.seqM (fun e H => E.Told e [(4, (.ptr b4 0)), (5, w5), (9, (.bool a33))] ∧ E.Sep H [.cell b4 [(.list 1 (List.map (AV.int .i64) a15.2.stem)), (.list 1 (List.map (AV.int .i64) a15.2.loop))], .row 3 w5 (List.map TNode.av a20.1)] ∧ laws_FnNnf.k0 a20 a15 a33 = some r) ?_ ?_
          · rintro e0 G11 ⟨hT, hS, hF⟩; refine AWP.only _ hT ?_; unfold laws_FnNnf.k0 at hF
            refine AWP.seqR rfl ?_
            refine ASL.q (v := w5) rfl rfl (Light.quiet (opMove rfl rfl)) ?_
            obtain ⟨a103, ha103, hF⟩ := bindE hF
            refine ASL.q (v := (.bool a103)) rfl rfl ((qCallR hS rfl rfl call_16 (impl_LtlOk_ok ha103) ⟨.row (k := 1) rfl, trivial⟩ (by constructor))) ?_
            refine ASL.q (v := (.bool a103)) rfl rfl (Light.quiet (opMove rfl rfl)) ?_
            refine ASL.g (v := w5) (.bool a103) true rfl (wT _) rfl (fun hG => by have q0 := hG; subst q0; exact Light.quiet (opMove rfl rfl)) ?_
            refine ASL.g (v := (TWord.av a15.2)) (.bool a103) true rfl (wT _) rfl (fun hG => by have q0 := hG; subst q0; exact Light.quiet (kAtA hS (j := 0) rfl rfl aggA_41 sizeA_41 rfl (nlt rfl) rfl)) ?_
            obtain ⟨a107, ha107, hF⟩ := bindE hF
            refine ASL.g (v := (.bool a107)) (.bool a103) true rfl (wT _) rfl (fun hG => by have q0 := hG; subst q0; exact (qCallR hS rfl rfl call_29 (impl_LtlTakes_ok (whenE ha107)) ⟨.row (k := 1) rfl, .same _, trivial⟩ (by constructor))) ?_
            refine ASL.g (v := (.bool a33)) (.bool a103) true rfl (wT _) rfl (fun hG => by have q0 := hG; subst q0; exact Light.quiet (opMove rfl rfl)) ?_
            refine ASL.g (v := (.bool (a107 == a33))) (.bool a103) true rfl (wT _) rfl (fun hG => by have q0 := hG; subst q0; exact Light.quiet (opBoolEq rfl rfl rfl und_4 rfl)) ?_
            refine ASL.q (v := (.bool (a103 && (a107 == a33)))) rfl rfl (Light.quiet (opPick (b := a103) rfl rfl (by cases a103 <;> rfl))) ?_
            refine ASL.q (v := (.bool (a103 && (a107 == a33)))) rfl rfl (Light.quiet (opAssign rfl rfl)) ?_
            refine ASL.done ?_
            refine AWP.ret ?_
            obtain rfl := someE hF
            exact QRet.sole (v := (.bool (a103 && (a107 == a33)))) ⟨rfl, trivial⟩ rfl
          · skip
            refine AWP.seqR rfl ?_
            refine ASL.q (v := (.int .i64 0)) rfl rfl (Light.quiet (opAssign rfl rfl)) ?_
            refine ASL.done ?_
            refine AWP.block ?_
            obtain ⟨o15, hL14, hR16⟩ := bindE hF
            refine AWP.loopF (ω := Unit) hL14 (fun s w => [(4, (.ptr b4 0)), (5, w5), (9, (.bool a33)), (10, (.int .i64 s))]) (fun s w => [.cell b4 [(.list 1 (List.map (AV.int .i64) a15.2.stem)), (.list 1 (List.map (AV.int .i64) a15.2.loop))], .row 3 w5 (List.map TNode.av a20.1)]) () ⟨rfl, rfl, rfl, rfl, trivial⟩ (hS.pick [1, 0] rfl rfl) ?_
            rintro x10_l0 _ G17 hS x12 hF hx13
            try dsimp only at hS ⊢
            have hF : laws_FnNnf.b0 a20 x10_l0 = some x12 := hF; unfold laws_FnNnf.b0 at hF
            refine AWP.seq ?_
            refine AWP.seqR rfl ?_
            refine ASL.q (v := (.int .i64 x10_l0)) rfl rfl (Light.quiet (opMove rfl rfl)) ?_
            refine ASL.q (v := w5) rfl rfl (Light.quiet (opMove rfl rfl)) ?_
            refine ASL.q (v := (.int .i64 (a20.1.length : Int))) rfl rfl (Light.quiet (kLen hS (j := 1) rfl rfl rfl rfl lenT_24 rfl)) ?_
            refine ASL.q (v := (.bool (decide (x10_l0 < ((a20.1.length : Int)))))) rfl rfl (Light.quiet (opInt rfl rfl rfl rfl)) ?_
            refine ASL.done ?_
            refine AWP.ifP hF rfl (fun hc18 hF => ?_) (fun hc18 hF => ?_)
            · skip
              refine AWP.skip ?_
              refine QThen.nrm ?_
              refine AWP.seq ?_
              refine AWP.block ?_
              refine AWP.seqR rfl ?_
              refine ASL.q (v := w5) rfl rfl (Light.quiet (opMove rfl rfl)) ?_
              refine ASL.q (v := (.int .i64 x10_l0)) rfl rfl (Light.quiet (opMove rfl rfl)) ?_
              obtain ⟨a52, ha52, hF⟩ := bindE hF
              refine ASL.q (v := (ptrTo w5 x10_l0.toNat 3)) rfl rfl (Light.quiet (kIxOx hS (j := 1) rfl ha52 rfl rfl rfl elemA_24 sizeA_59)) ?_
              refine ASL.q (v := (ptrOff w5 x10_l0.toNat 3 0)) rfl rfl (Light.quiet (kFldO (p := 0) hS (j := 1) rfl ha52 rfl fieldA_59_0 rfl)) ?_
              refine ASL.q (v := (.int .i64 a52.kind)) rfl rfl (Light.quiet (kLdP (f := TNode.av) hS (j := 1) rfl ha52 rfl aggA_3 rfl rfl)) ?_
              refine ASL.q (v := (.bool (decide (a52.kind = 10)))) rfl rfl (Light.quiet (opInt rfl rfl rfl rfl)) ?_
              obtain ⟨c56, hc56, hF⟩ := bndE hF
              refine ASL.q (v := (.bool c56)) rfl rfl ((Quiet.cast (Light.quiet (opMove rfl rfl)) (congrArg AV.bool hc56.symm))) ?_
              refine ASL.g (v := w5) (.bool c56) false rfl (wF _) rfl (fun hG => by have q0 := gN hG; subst q0; exact Light.quiet (opMove rfl rfl)) ?_
              refine ASL.g (v := (.int .i64 x10_l0)) (.bool c56) false rfl (wF _) rfl (fun hG => by have q0 := gN hG; subst q0; exact Light.quiet (opMove rfl rfl)) ?_
              obtain ⟨a59, ha59, hF⟩ := bindE hF
              refine ASL.g (v := (ptrTo w5 x10_l0.toNat 3)) (.bool c56) false rfl (wF _) rfl (fun hG => by have q0 := gN hG; subst q0; exact Light.quiet (kIxOx hS (j := 1) rfl (whenE ha59) rfl rfl rfl elemA_24 sizeA_59)) ?_
              refine ASL.g (v := (ptrOff w5 x10_l0.toNat 3 0)) (.bool c56) false rfl (wF _) rfl (fun hG => by have q0 := gN hG; subst q0; exact Light.quiet (kFldO (p := 0) hS (j := 1) rfl (whenE ha59) rfl fieldA_59_0 rfl)) ?_
              refine ASL.g (v := (.int .i64 a59.kind)) (.bool c56) false rfl (wF _) rfl (fun hG => by have q0 := gN hG; subst q0; exact Light.quiet (kLdP (f := TNode.av) hS (j := 1) rfl (whenE ha59) rfl aggA_3 rfl rfl)) ?_
              refine ASL.g (v := (.bool (decide (a59.kind = 11)))) (.bool c56) false rfl (wF _) rfl (fun hG => by have q0 := gN hG; subst q0; exact Light.quiet (opInt rfl rfl rfl rfl)) ?_
              refine ASL.q (v := (.bool (c56 || (decide (a59.kind = 11))))) rfl rfl (Light.quiet (opPick (b := c56) rfl rfl (by cases c56 <;> rfl))) ?_
              obtain ⟨c64, hc64, hF⟩ := bndE hF
              refine ASL.q (v := (.bool c64)) rfl rfl ((Quiet.cast (Light.quiet (opMove rfl rfl)) (congrArg AV.bool hc64.symm))) ?_
              refine ASL.g (v := w5) (.bool c64) false rfl (wF _) rfl (fun hG => by have q0 := gN hG; subst q0; exact Light.quiet (opMove rfl rfl)) ?_
              refine ASL.g (v := (.int .i64 x10_l0)) (.bool c64) false rfl (wF _) rfl (fun hG => by have q0 := gN hG; subst q0; exact Light.quiet (opMove rfl rfl)) ?_
              obtain ⟨a67, ha67, hF⟩ := bindE hF
              refine ASL.g (v := (ptrTo w5 x10_l0.toNat 3)) (.bool c64) false rfl (wF _) rfl (fun hG => by have q0 := gN hG; subst q0; exact Light.quiet (kIxOx hS (j := 1) rfl (whenE ha67) rfl rfl rfl elemA_24 sizeA_59)) ?_
              refine ASL.g (v := (ptrOff w5 x10_l0.toNat 3 0)) (.bool c64) false rfl (wF _) rfl (fun hG => by have q0 := gN hG; subst q0; exact Light.quiet (kFldO (p := 0) hS (j := 1) rfl (whenE ha67) rfl fieldA_59_0 rfl)) ?_
              refine ASL.g (v := (.int .i64 a67.kind)) (.bool c64) false rfl (wF _) rfl (fun hG => by have q0 := gN hG; subst q0; exact Light.quiet (kLdP (f := TNode.av) hS (j := 1) rfl (whenE ha67) rfl aggA_3 rfl rfl)) ?_
              refine ASL.g (v := (.bool (decide (a67.kind = 4)))) (.bool c64) false rfl (wF _) rfl (fun hG => by have q0 := gN hG; subst q0; exact Light.quiet (opInt rfl rfl rfl rfl)) ?_
              obtain ⟨c71, hc71, hF⟩ := bndE hF
              refine ASL.g (v := (.bool c71)) (.bool c64) false rfl (wF _) rfl (fun hG => by have q0 := gN hG; subst q0; exact (Quiet.cast (Light.quiet (opMove rfl rfl)) (congrArg AV.bool hc71.symm))) ?_
              refine ASL.g (v := w5) (bif (!c64) then (.bool c71) else .tup []) true rfl (wGT _ _) rfl (fun hG => by have q0 := gN (gA1 hG); have q1 := gA2 hG; subst q0; subst q1; exact Light.quiet (opMove rfl rfl)) ?_
              refine ASL.g (v := (.int .i64 x10_l0)) (bif (!c64) then (.bool c71) else .tup []) true rfl (wGT _ _) rfl (fun hG => by have q0 := gN (gA1 hG); have q1 := gA2 hG; subst q0; subst q1; exact Light.quiet (opMove rfl rfl)) ?_
              obtain ⟨a74, ha74, hF⟩ := bindE hF
              refine ASL.g (v := (ptrTo w5 x10_l0.toNat 3)) (bif (!c64) then (.bool c71) else .tup []) true rfl (wGT _ _) rfl (fun hG => by have q0 := gN (gA1 hG); have q1 := gA2 hG; subst q0; subst q1; exact Light.quiet (kIxOx hS (j := 1) rfl (whenE ha74) rfl rfl rfl elemA_24 sizeA_59)) ?_
              refine ASL.g (v := (ptrOff w5 x10_l0.toNat 3 1)) (bif (!c64) then (.bool c71) else .tup []) true rfl (wGT _ _) rfl (fun hG => by have q0 := gN (gA1 hG); have q1 := gA2 hG; subst q0; subst q1; exact Light.quiet (kFldO (p := 1) hS (j := 1) rfl (whenE ha74) rfl fieldA_59_1 rfl)) ?_
              refine ASL.g (v := (.int .i64 a74.a)) (bif (!c64) then (.bool c71) else .tup []) true rfl (wGT _ _) rfl (fun hG => by have q0 := gN (gA1 hG); have q1 := gA2 hG; subst q0; subst q1; exact Light.quiet (kLdP (f := TNode.av) hS (j := 1) rfl (whenE ha74) rfl aggA_3 rfl rfl)) ?_
              refine ASL.g (v := (.bool (decide (a74.a < 0)))) (bif (!c64) then (.bool c71) else .tup []) true rfl (wGT _ _) rfl (fun hG => by have q0 := gN (gA1 hG); have q1 := gA2 hG; subst q0; subst q1; exact Light.quiet (opInt rfl rfl rfl rfl)) ?_
              obtain ⟨c78, hc78, hF⟩ := bndE hF
              refine ASL.g (v := (.bool c78)) (bif (!c64) then (.bool c71) else .tup []) true rfl (wGT _ _) rfl (fun hG => by have q0 := gN (gA1 hG); have q1 := gA2 hG; subst q0; subst q1; exact (Quiet.cast (Light.quiet (opMove rfl rfl)) (congrArg AV.bool hc78.symm))) ?_
              refine ASL.g (v := w5) (bif ((!c64) && c71) then (.bool c78) else .tup []) false rfl (wGF _ _) rfl (fun hG => by have q0 := gN (gA1 (gA1 hG)); have q1 := gA2 (gA1 hG); have q2 := gN (gA2 hG); subst q0; subst q1; subst q2; exact Light.quiet (opMove rfl rfl)) ?_
              refine ASL.g (v := (.int .i64 x10_l0)) (bif ((!c64) && c71) then (.bool c78) else .tup []) false rfl (wGF _ _) rfl (fun hG => by have q0 := gN (gA1 (gA1 hG)); have q1 := gA2 (gA1 hG); have q2 := gN (gA2 hG); subst q0; subst q1; subst q2; exact Light.quiet (opMove rfl rfl)) ?_
              obtain ⟨a81, ha81, hF⟩ := bindE hF
              refine ASL.g (v := (ptrTo w5 x10_l0.toNat 3)) (bif ((!c64) && c71) then (.bool c78) else .tup []) false rfl (wGF _ _) rfl (fun hG => by have q0 := gN (gA1 (gA1 hG)); have q1 := gA2 (gA1 hG); have q2 := gN (gA2 hG); subst q0; subst q1; subst q2; exact Light.quiet (kIxOx hS (j := 1) rfl (whenE ha81) rfl rfl rfl elemA_24 sizeA_59)) ?_
              refine ASL.g (v := (ptrOff w5 x10_l0.toNat 3 1)) (bif ((!c64) && c71) then (.bool c78) else .tup []) false rfl (wGF _ _) rfl (fun hG => by have q0 := gN (gA1 (gA1 hG)); have q1 := gA2 (gA1 hG); have q2 := gN (gA2 hG); subst q0; subst q1; subst q2; exact Light.quiet (kFldO (p := 1) hS (j := 1) rfl (whenE ha81) rfl fieldA_59_1 rfl)) ?_
              refine ASL.g (v := (.int .i64 a81.a)) (bif ((!c64) && c71) then (.bool c78) else .tup []) false rfl (wGF _ _) rfl (fun hG => by have q0 := gN (gA1 (gA1 hG)); have q1 := gA2 (gA1 hG); have q2 := gN (gA2 hG); subst q0; subst q1; subst q2; exact Light.quiet (kLdP (f := TNode.av) hS (j := 1) rfl (whenE ha81) rfl aggA_3 rfl rfl)) ?_
              refine ASL.g (v := w5) (bif ((!c64) && c71) then (.bool c78) else .tup []) false rfl (wGF _ _) rfl (fun hG => by have q0 := gN (gA1 (gA1 hG)); have q1 := gA2 (gA1 hG); have q2 := gN (gA2 hG); subst q0; subst q1; subst q2; exact Light.quiet (opMove rfl rfl)) ?_
              refine ASL.g (v := (.int .i64 (a20.1.length : Int))) (bif ((!c64) && c71) then (.bool c78) else .tup []) false rfl (wGF _ _) rfl (fun hG => by have q0 := gN (gA1 (gA1 hG)); have q1 := gA2 (gA1 hG); have q2 := gN (gA2 hG); subst q0; subst q1; subst q2; exact Light.quiet (kLen hS (j := 1) rfl rfl rfl rfl lenT_24 rfl)) ?_
              refine ASL.g (v := (.bool (decide (a81.a ≥ ((a20.1.length : Int)))))) (bif ((!c64) && c71) then (.bool c78) else .tup []) false rfl (wGF _ _) rfl (fun hG => by have q0 := gN (gA1 (gA1 hG)); have q1 := gA2 (gA1 hG); have q2 := gN (gA2 hG); subst q0; subst q1; subst q2; exact Light.quiet (opInt rfl rfl rfl rfl)) ?_
              refine ASL.g (v := (.bool (c78 || (decide (a81.a ≥ ((a20.1.length : Int))))))) (bif (!c64) then (.bool c71) else .tup []) true rfl (wGT _ _) rfl (fun hG => by have q0 := gN (gA1 hG); have q1 := gA2 hG; subst q0; subst q1; exact Light.quiet (opPick (b := c78) rfl rfl (by cases c78 <;> rfl))) ?_
              obtain ⟨c88, hc88, hF⟩ := bndE hF
              refine ASL.g (v := (.bool c88)) (bif (!c64) then (.bool c71) else .tup []) true rfl (wGT _ _) rfl (fun hG => by have q0 := gN (gA1 hG); have q1 := gA2 hG; subst q0; subst q1; exact (Quiet.cast (Light.quiet (opMove rfl rfl)) (congrArg AV.bool hc88.symm))) ?_
              refine ASL.g (v := w5) (bif ((!c64) && c71) then (.bool c88) else .tup []) false rfl (wGF _ _) rfl (fun hG => by have q0 := gN (gA1 (gA1 hG)); have q1 := gA2 (gA1 hG); have q2 := gN (gA2 hG); subst q0; subst q1; subst q2; exact Light.quiet (opMove rfl rfl)) ?_
              refine ASL.g (v := w5) (bif ((!c64) && c71) then (.bool c88) else .tup []) false rfl (wGF _ _) rfl (fun hG => by have q0 := gN (gA1 (gA1 hG)); have q1 := gA2 (gA1 hG); have q2 := gN (gA2 hG); subst q0; subst q1; subst q2; exact Light.quiet (opMove rfl rfl)) ?_
              refine ASL.g (v := (.int .i64 x10_l0)) (bif ((!c64) && c71) then (.bool c88) else .tup []) false rfl (wGF _ _) rfl (fun hG => by have q0 := gN (gA1 (gA1 hG)); have q1 := gA2 (gA1 hG); have q2 := gN (gA2 hG); subst q0; subst q1; subst q2; exact Light.quiet (opMove rfl rfl)) ?_
              obtain ⟨a92, ha92, hF⟩ := bindE hF
              refine ASL.g (v := (ptrTo w5 x10_l0.toNat 3)) (bif ((!c64) && c71) then (.bool c88) else .tup []) false rfl (wGF _ _) rfl (fun hG => by have q0 := gN (gA1 (gA1 hG)); have q1 := gA2 (gA1 hG); have q2 := gN (gA2 hG); subst q0; subst q1; subst q2; exact Light.quiet (kIxOx hS (j := 1) rfl (whenE ha92) rfl rfl rfl elemA_24 sizeA_59)) ?_
              refine ASL.g (v := (ptrOff w5 x10_l0.toNat 3 1)) (bif ((!c64) && c71) then (.bool c88) else .tup []) false rfl (wGF _ _) rfl (fun hG => by have q0 := gN (gA1 (gA1 hG)); have q1 := gA2 (gA1 hG); have q2 := gN (gA2 hG); subst q0; subst q1; subst q2; exact Light.quiet (kFldO (p := 1) hS (j := 1) rfl (whenE ha92) rfl fieldA_59_1 rfl)) ?_
              refine ASL.g (v := (.int .i64 a92.a)) (bif ((!c64) && c71) then (.bool c88) else .tup []) false rfl (wGF _ _) rfl (fun hG => by have q0 := gN (gA1 (gA1 hG)); have q1 := gA2 (gA1 hG); have q2 := gN (gA2 hG); subst q0; subst q1; subst q2; exact Light.quiet (kLdP (f := TNode.av) hS (j := 1) rfl (whenE ha92) rfl aggA_3 rfl rfl)) ?_
              obtain ⟨a95, ha95, hF⟩ := bindE hF
              refine ASL.g (v := (ptrTo w5 a92.a.toNat 3)) (bif ((!c64) && c71) then (.bool c88) else .tup []) false rfl (wGF _ _) rfl (fun hG => by have q0 := gN (gA1 (gA1 hG)); have q1 := gA2 (gA1 hG); have q2 := gN (gA2 hG); subst q0; subst q1; subst q2; exact Light.quiet (kIxOx hS (j := 1) rfl (whenE ha95) rfl rfl rfl elemA_24 sizeA_59)) ?_
              refine ASL.g (v := (ptrOff w5 a92.a.toNat 3 0)) (bif ((!c64) && c71) then (.bool c88) else .tup []) false rfl (wGF _ _) rfl (fun hG => by have q0 := gN (gA1 (gA1 hG)); have q1 := gA2 (gA1 hG); have q2 := gN (gA2 hG); subst q0; subst q1; subst q2; exact Light.quiet (kFldO (p := 0) hS (j := 1) rfl (whenE ha95) rfl fieldA_59_0 rfl)) ?_
              refine ASL.g (v := (.int .i64 a95.kind)) (bif ((!c64) && c71) then (.bool c88) else .tup []) false rfl (wGF _ _) rfl (fun hG => by have q0 := gN (gA1 (gA1 hG)); have q1 := gA2 (gA1 hG); have q2 := gN (gA2 hG); subst q0; subst q1; subst q2; exact Light.quiet (kLdP (f := TNode.av) hS (j := 1) rfl (whenE ha95) rfl aggA_3 rfl rfl)) ?_
              refine ASL.g (v := (.bool (decide (a95.kind ≠ 3)))) (bif ((!c64) && c71) then (.bool c88) else .tup []) false rfl (wGF _ _) rfl (fun hG => by have q0 := gN (gA1 (gA1 hG)); have q1 := gA2 (gA1 hG); have q2 := gN (gA2 hG); subst q0; subst q1; subst q2; exact Light.quiet (opInt rfl rfl rfl rfl)) ?_
              refine ASL.g (v := (.bool (c88 || (decide (a95.kind ≠ 3))))) (bif (!c64) then (.bool c71) else .tup []) true rfl (wGT _ _) rfl (fun hG => by have q0 := gN (gA1 hG); have q1 := gA2 hG; subst q0; subst q1; exact Light.quiet (opPick (b := c88) rfl rfl (by cases c88 <;> rfl))) ?_
              refine ASL.g (v := (.bool (c71 && (c88 || (decide (a95.kind ≠ 3)))))) (.bool c64) false rfl (wF _) rfl (fun hG => by have q0 := gN hG; subst q0; exact Light.quiet (opPick (b := c71) rfl rfl (by cases c71 <;> rfl))) ?_
              refine ASL.q (v := (.bool (c64 || (c71 && (c88 || (decide (a95.kind ≠ 3))))))) rfl rfl (Light.quiet (opPick (b := c64) rfl rfl (by cases c64 <;> rfl))) ?_
              refine ASL.done ?_
              refine AWP.ifB hF rfl (fun hc19 hF => ?_) (fun hc19 hF => ?_)
              · skip
                refine AWP.seqR rfl ?_
                refine ASL.q (v := (.bool false)) rfl rfl (Light.quiet (opAssign rfl rfl)) ?_
                refine ASL.done ?_
                refine AWP.ret ?_
                refine QBlock.ret ?_
                refine QThen.rt ?_
                refine QThen.rt ?_
                refine QBlock.ret ?_
                refine QThen.rt ?_
                obtain rfl := (hx13 _ (someE hF).symm)
                have hF := hR16
                have hF := sumR hF
                obtain rfl := someE hF
                exact QRet.sole (v := (.bool false)) ⟨rfl, trivial⟩ rfl
              · skip
                refine AWP.skip ?_
                refine QBlock.nrm ?_
                refine QThen.nrm ?_
                refine AWP.lastR rfl ?_
                refine ASL.q (v := (.int .i64 x10_l0)) rfl rfl (Light.quiet (opMove rfl rfl)) ?_
                refine ASL.q (v := (.int .i64 (W (x10_l0 + 1)))) rfl rfl (Light.quiet (opInt rfl rfl rfl rfl)) ?_
                refine ASL.q (v := (.int .i64 (W (x10_l0 + 1)))) rfl rfl (Light.quiet (opAssign rfl rfl)) ?_
                refine ASL.done ?_
                refine QThen.nrm ?_
                exact ⟨(W (x10_l0 + 1)), (), (someE hF).symm, ⟨rfl, rfl, rfl, rfl, trivial⟩, (hS.pick [0, 1] rfl rfl)⟩
            · skip
              refine AWP.exit ?_
              refine QThen.ext ?_
              refine QThen.ext ?_
              refine QBlock.hit ?_
              obtain rfl := (hx13 _ (someE hF).symm)
              have hF := hR16
              have hF := sumL hF
              refine QThen.nrm ?_
              exact ⟨⟨rfl, rfl, rfl, trivial⟩, (hS.pick [0, 1] rfl rfl), hF⟩

end Go.Proofs.Ytjjlkncefgfljaa
