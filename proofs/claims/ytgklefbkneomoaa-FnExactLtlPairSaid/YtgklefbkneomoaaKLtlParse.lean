/- Each of these functions of the program comes to just what its plain function says: FnExactLtlParse. -/
import Derived.Test.YtgklefbkneomoaaDLtlParse
import Derived.Test.YtgklefbkneomoaaFa
import Derived.Test.YtgklefbkneomoaaKLtlTemporal
namespace Go.Proofs.Ytgklefbkneomoaa
open Go Go.RowKit E
set_option linter.unusedVariables false
set_option maxRecDepth 10000 in
theorem spec_l8Kind_ok (p0 : Int) (p1 : Int) : PC Try.prog 54 [(.int .u8 p0), (.int .i64 p1)] fun v => v = (.int .i64 (spec_l8Kind p0 p1)) := by
  generalize hF : spec_l8Kind p0 p1 = r
  refine PC.enter Try.func54 rfl Try.ntmps54 (by simp) ?_
  have hS := Sep.void; unfold spec_l8Kind at hF
  refine AWP.seqR rfl ?_
  refine ASL.q (v := (.int .i64 0)) rfl rfl (Light.quiet (opAssign rfl rfl)) ?_
  refine ASL.done ?_
  refine AWP.seq ?_
  refine AWP.seqR rfl ?_
  refine ASL.q (v := (.int .i64 p1)) rfl rfl (Light.quiet (opMove rfl rfl)) ?_
  refine ASL.q (v := (.bool (decide (p1 = 1)))) rfl rfl (Light.quiet (opInt rfl rfl rfl rfl)) ?_
  refine ASL.done ?_
  refine AWP.ifP hF rfl (fun hc1 hF => ?_) (fun hc1 hF => ?_)
  · skip
    refine AWP.seq ?_
    refine AWP.seqR rfl ?_
    refine ASL.q (v := (.int .u8 p0)) rfl rfl (Light.quiet (opMove rfl rfl)) ?_
    refine ASL.done ?_
    refine AWP.block ?_
    refine AWP.seqR rfl ?_
    refine ASL.q (v := (.bool (decide (p0 = 33)))) rfl rfl (Light.quiet (opInt rfl rfl rfl rfl)) ?_
    refine ASL.q (v := (.bool (decide (p0 = 33)))) rfl rfl (Light.quiet (opAssign rfl rfl)) ?_
    refine ASL.done ?_
    refine AWP.ifP hF rfl (fun hc2 hF => ?_) (fun hc2 hF => ?_)
    · skip
      refine AWP.seqR rfl ?_
      refine ASL.q (v := (.int .i64 4)) rfl rfl (Light.quiet (opAssign rfl rfl)) ?_
      refine ASL.done ?_
      refine AWP.ret ?_
      refine QBlock.ret ?_
      refine QThen.rt ?_
      refine QThen.rt ?_
      obtain rfl := hF
      exact QRet.sole (v := (.int .i64 4)) ⟨rfl, trivial⟩ rfl
    · skip
      refine AWP.seqR rfl ?_
      refine ASL.q (v := (.bool (decide (p0 = 88)))) rfl rfl (Light.quiet (opInt rfl rfl rfl rfl)) ?_
      refine ASL.q (v := (.bool (decide (p0 = 88)))) rfl rfl (Light.quiet (opAssign rfl rfl)) ?_
      refine ASL.done ?_
      refine AWP.ifP hF rfl (fun hc3 hF => ?_) (fun hc3 hF => ?_)
      · skip
        refine AWP.seqR rfl ?_
        refine ASL.q (v := (.int .i64 7)) rfl rfl (Light.quiet (opAssign rfl rfl)) ?_
        refine ASL.done ?_
        refine AWP.ret ?_
        refine QBlock.ret ?_
        refine QThen.rt ?_
        refine QThen.rt ?_
        obtain rfl := hF
        exact QRet.sole (v := (.int .i64 7)) ⟨rfl, trivial⟩ rfl
      · skip
        refine AWP.seqR rfl ?_
        refine ASL.q (v := (.bool (decide (p0 = 70)))) rfl rfl (Light.quiet (opInt rfl rfl rfl rfl)) ?_
        refine ASL.q (v := (.bool (decide (p0 = 70)))) rfl rfl (Light.quiet (opAssign rfl rfl)) ?_
        refine ASL.done ?_
        refine AWP.ifP hF rfl (fun hc4 hF => ?_) (fun hc4 hF => ?_)
        · skip
          refine AWP.seqR rfl ?_
          refine ASL.q (v := (.int .i64 10)) rfl rfl (Light.quiet (opAssign rfl rfl)) ?_
          refine ASL.done ?_
          refine AWP.ret ?_
          refine QBlock.ret ?_
          refine QThen.rt ?_
          refine QThen.rt ?_
          obtain rfl := hF
          exact QRet.sole (v := (.int .i64 10)) ⟨rfl, trivial⟩ rfl
        · skip
          refine AWP.seqR rfl ?_
          refine ASL.q (v := (.bool (decide (p0 = 71)))) rfl rfl (Light.quiet (opInt rfl rfl rfl rfl)) ?_
          refine ASL.q (v := (.bool (decide (p0 = 71)))) rfl rfl (Light.quiet (opAssign rfl rfl)) ?_
          refine ASL.done ?_
          refine AWP.ifP hF rfl (fun hc5 hF => ?_) (fun hc5 hF => ?_)
          · skip
            refine AWP.seqR rfl ?_
            refine ASL.q (v := (.int .i64 11)) rfl rfl (Light.quiet (opAssign rfl rfl)) ?_
            refine ASL.done ?_
            refine AWP.ret ?_
            refine QBlock.ret ?_
            refine QThen.rt ?_
            refine QThen.rt ?_
            obtain rfl := hF
            exact QRet.sole (v := (.int .i64 11)) ⟨rfl, trivial⟩ rfl
          · skip
            refine AWP.skip ?_
            refine QBlock.nrm ?_
            refine QThen.nrm ?_
            refine AWP.seqR rfl ?_
            refine ASL.q (v := (.int .i64 0)) rfl rfl (Light.quiet (opAssign rfl rfl)) ?_
            refine ASL.done ?_
            refine AWP.ret ?_
            refine QThen.rt ?_
            obtain rfl := hF
            exact QRet.sole (v := (.int .i64 0)) ⟨rfl, trivial⟩ rfl
  · skip
    refine AWP.skip ?_
    refine QThen.nrm ?_
    refine AWP.seq ?_
    refine AWP.seqR rfl ?_
    refine ASL.q (v := (.int .u8 p0)) rfl rfl (Light.quiet (opMove rfl rfl)) ?_
    refine ASL.done ?_
    refine AWP.block ?_
    refine AWP.seqR rfl ?_
    refine ASL.q (v := (.bool (decide (p0 = 85)))) rfl rfl (Light.quiet (opInt rfl rfl rfl rfl)) ?_
    refine ASL.q (v := (.bool (decide (p0 = 85)))) rfl rfl (Light.quiet (opAssign rfl rfl)) ?_
    refine ASL.done ?_
    refine AWP.ifP hF rfl (fun hc6 hF => ?_) (fun hc6 hF => ?_)
    · skip
      refine AWP.seqR rfl ?_
      refine ASL.q (v := (.int .i64 8)) rfl rfl (Light.quiet (opAssign rfl rfl)) ?_
      refine ASL.done ?_
      refine AWP.ret ?_
      refine QBlock.ret ?_
      refine QThen.rt ?_
      obtain rfl := hF
      exact QRet.sole (v := (.int .i64 8)) ⟨rfl, trivial⟩ rfl
    · skip
      refine AWP.seqR rfl ?_
      refine ASL.q (v := (.bool (decide (p0 = 82)))) rfl rfl (Light.quiet (opInt rfl rfl rfl rfl)) ?_
      refine ASL.q (v := (.bool (decide (p0 = 82)))) rfl rfl (Light.quiet (opAssign rfl rfl)) ?_
      refine ASL.done ?_
      refine AWP.ifP hF rfl (fun hc7 hF => ?_) (fun hc7 hF => ?_)
      · skip
        refine AWP.seqR rfl ?_
        refine ASL.q (v := (.int .i64 9)) rfl rfl (Light.quiet (opAssign rfl rfl)) ?_
        refine ASL.done ?_
        refine AWP.ret ?_
        refine QBlock.ret ?_
        refine QThen.rt ?_
        obtain rfl := hF
        exact QRet.sole (v := (.int .i64 9)) ⟨rfl, trivial⟩ rfl
      · skip
        refine AWP.skip ?_
        refine QBlock.nrm ?_
        refine QThen.nrm ?_
        refine AWP.seqR rfl ?_
        refine ASL.q (v := (.int .i64 0)) rfl rfl (Light.quiet (opAssign rfl rfl)) ?_
        refine ASL.done ?_
        refine AWP.ret ?_
        obtain rfl := hF
        exact QRet.sole (v := (.int .i64 0)) ⟨rfl, trivial⟩ rfl

set_option maxRecDepth 10000 in
theorem spec_l8Read.body_ok {p0 : ByteArray} {p1 : Int} {p2 : Int} {p3 : (List TNode)} {r : ((List TNode) × Int × Int)} {vp3 : AV} {rec_spec_l8Read : ByteArray → Int → Int → (List TNode) → Option ((List TNode) × Int × Int)} {rec_spec_l8Atom : ByteArray → Int → (List TNode) → Option ((List TNode) × Int × Int)} (ih_spec_l8Read : ∀ {p0 : ByteArray} {p1 : Int} {p2 : Int} {p3 : (List TNode)} {r : ((List TNode) × Int × Int)} {vp3 : AV} , rec_spec_l8Read p0 p1 p2 p3 = some r → HS Try.prog 40 [(.str p0), (.int .i64 p1), (.int .i64 p2), vp3] [.row 3 vp3 (List.map TNode.av p3)] fun v L' => ∃ o0 : AV, v = .tup [o0, (.int .i64 r.2.1), (.int .i64 r.2.2)] ∧ L' = [.row 3 o0 (List.map TNode.av r.1)]) (ih_spec_l8Atom : ∀ {p0 : ByteArray} {p1 : Int} {p2 : (List TNode)} {r : ((List TNode) × Int × Int)} {vp2 : AV} , rec_spec_l8Atom p0 p1 p2 = some r → HS Try.prog 55 [(.str p0), (.int .i64 p1), vp2] [.row 3 vp2 (List.map TNode.av p2)] fun v L' => ∃ o0 : AV, v = .tup [o0, (.int .i64 r.2.1), (.int .i64 r.2.2)] ∧ L' = [.row 3 o0 (List.map TNode.av r.1)]) (hF : spec_l8Read.body rec_spec_l8Read rec_spec_l8Atom p0 p1 p2 p3 = some r) : HS Try.prog 40 [(.str p0), (.int .i64 p1), (.int .i64 p2), vp3] [.row 3 vp3 (List.map TNode.av p3)] fun v L' => ∃ o0 : AV, v = .tup [o0, (.int .i64 r.2.1), (.int .i64 r.2.2)] ∧ L' = [.row 3 o0 (List.map TNode.av r.1)] := by
  intro H S hS
  refine HC.enter Try.func40 rfl Try.ntmps40 (by simp) ?_
  simp only [List.cons_append, List.nil_append] at hS
  unfold spec_l8Read.body at hF
  refine AWP.seqR rfl ?_
  have hS := hNil (s := 3) (f := TNode.av) hS
  refine ASL.q (v := .nil) rfl rfl (Light.quiet (opAssign rfl rfl)) ?_
  refine ASL.q (v := (.int .i64 0)) rfl rfl (Light.quiet (opAssign rfl rfl)) ?_
  refine ASL.q (v := (.int .i64 0)) rfl rfl (Light.quiet (opAssign rfl rfl)) ?_
  refine ASL.done ?_
  refine AWP.seq ?_
  refine AWP.seqR rfl ?_
  refine ASL.q (v := (.int .i64 p2)) rfl rfl (Light.quiet (opMove rfl rfl)) ?_
  refine ASL.done ?_
  refine AWP.block ?_
  refine AWP.seqR rfl ?_
  refine ASL.q (v := (.bool (decide (p2 = 2)))) rfl rfl (Light.quiet (opInt rfl rfl rfl rfl)) ?_
  refine ASL.q (v := (.bool (decide (p2 = 2)))) rfl rfl (Light.quiet (opAssign rfl rfl)) ?_
  refine ASL.done ?_
  refine AWP.ifP hF rfl (fun hc3 hF => ?_) (fun hc3 hF => ?_)
  · skip
    refine AWP.seqR rfl ?_
    refine ASL.q (v := (.str p0)) rfl rfl (Light.quiet (opMove rfl rfl)) ?_
    refine ASL.q (v := (.int .i64 p1)) rfl rfl (Light.quiet (opMove rfl rfl)) ?_
    refine ASL.q (v := vp3) rfl rfl (Light.quiet (opMove rfl rfl)) ?_
    obtain ⟨a29, ha29, hF⟩ := bindE hF
    refine ASL.x rfl rfl (hCallS hS [1, 0, 2] (F := [.row 3 .nil (List.map TNode.av ([])), .snap S]) rfl rfl rfl call_40 (ih_spec_l8Read ha29) rfl rfl ?_); rintro _ _ G6 ⟨w4, rfl, rfl⟩ hS
    refine ASL.q (v := (.tup [w4, (.int .i64 a29.2.1), (.int .i64 a29.2.2)])) rfl rfl (Light.quiet (opMove rfl rfl)) ?_
    refine ASL.q (v := w4) rfl rfl (Light.quiet (opExtract rfl rfl rfl)) ?_
    refine ASL.q (v := (.int .i64 a29.2.1)) rfl rfl (Light.quiet (opExtract rfl rfl rfl)) ?_
    refine ASL.q (v := (.int .i64 a29.2.2)) rfl rfl (Light.quiet (opExtract rfl rfl rfl)) ?_
    refine ASL.q (v := w4) rfl rfl (Light.quiet (opAssign rfl rfl)) ?_
    refine ASL.q (v := (.int .i64 a29.2.1)) rfl rfl (Light.quiet (opAssign rfl rfl)) ?_
    refine ASL.q (v := (.int .i64 a29.2.2)) rfl rfl (Light.quiet (opAssign rfl rfl)) ?_
    refine ASL.done ?_
    refine AWP.seq ?_
    refine AWP.seqR rfl ?_
    refine ASL.q (v := (.int .i64 a29.2.2)) rfl rfl (Light.quiet (opMove rfl rfl)) ?_
    refine ASL.q (v := (.bool (decide (a29.2.2 ≠ 0)))) rfl rfl (Light.quiet (opInt rfl rfl rfl rfl)) ?_
    obtain ⟨c35, hc35, hF⟩ := bndE hF
    refine ASL.q (v := (.bool c35)) rfl rfl ((Quiet.cast (Light.quiet (opMove rfl rfl)) (congrArg AV.bool hc35.symm))) ?_
    refine ASL.g (v := (.int .i64 a29.2.1)) (.bool c35) false rfl (wF _) rfl (fun hG => by have q0 := gN hG; subst q0; exact Light.quiet (opMove rfl rfl)) ?_
    refine ASL.g (v := (.str p0)) (.bool c35) false rfl (wF _) rfl (fun hG => by have q0 := gN hG; subst q0; exact Light.quiet (opMove rfl rfl)) ?_
    refine ASL.g (v := (.int .i64 (p0.size : Int))) (.bool c35) false rfl (wF _) rfl (fun hG => by have q0 := gN hG; subst q0; exact Light.quiet (opLenOf rfl rfl rfl lenT_9 rfl rfl)) ?_
    refine ASL.g (v := (.bool (decide (a29.2.1 ≥ ((p0.size : Int)))))) (.bool c35) false rfl (wF _) rfl (fun hG => by have q0 := gN hG; subst q0; exact Light.quiet (opInt rfl rfl rfl rfl)) ?_
    refine ASL.q (v := (.bool (c35 || (decide (a29.2.1 ≥ ((p0.size : Int))))))) rfl rfl (Light.quiet (opPick (b := c35) rfl rfl (by cases c35 <;> rfl))) ?_
    obtain ⟨c41, hc41, hF⟩ := bndE hF
    refine ASL.q (v := (.bool c41)) rfl rfl ((Quiet.cast (Light.quiet (opMove rfl rfl)) (congrArg AV.bool hc41.symm))) ?_
    refine ASL.g (v := (.str p0)) (.bool c41) false rfl (wF _) rfl (fun hG => by have q0 := gN hG; subst q0; exact Light.quiet (opMove rfl rfl)) ?_
    refine ASL.g (v := (.int .i64 a29.2.1)) (.bool c41) false rfl (wF _) rfl (fun hG => by have q0 := gN hG; subst q0; exact Light.quiet (opMove rfl rfl)) ?_
    obtain ⟨a44, ha44, hF⟩ := bindE hF
    refine ASL.g (v := (.int .u8 a44)) (.bool c41) false rfl (wF _) rfl (fun hG => by have q0 := gN hG; subst q0; exact Light.quiet (kIxS (whenE ha44) rfl und_9 rfl rfl)) ?_
    refine ASL.g (v := (.int .i64 (spec_l8Kind a44 2))) (.bool c41) false rfl (wF _) rfl (fun hG => by have q0 := gN hG; subst q0; exact (qCall rfl rfl call_54 (spec_l8Kind_ok a44 2) rfl)) ?_
    refine ASL.g (v := (.bool (decide (((spec_l8Kind a44 2)) = 0)))) (.bool c41) false rfl (wF _) rfl (fun hG => by have q0 := gN hG; subst q0; exact Light.quiet (opInt rfl rfl rfl rfl)) ?_
    refine ASL.q (v := (.bool (c41 || (decide (((spec_l8Kind a44 2)) = 0))))) rfl rfl (Light.quiet (opPick (b := c41) rfl rfl (by cases c41 <;> rfl))) ?_
    refine ASL.done ?_
    refine AWP.ifB hF rfl (fun hc7 hF => ?_) (fun hc7 hF => ?_)
    · skip
      refine AWP.seqR rfl ?_
      refine ASL.q (v := w4) rfl rfl (Light.quiet (opMove rfl rfl)) ?_
      refine ASL.q (v := (.int .i64 a29.2.1)) rfl rfl (Light.quiet (opMove rfl rfl)) ?_
      refine ASL.q (v := (.int .i64 a29.2.2)) rfl rfl (Light.quiet (opMove rfl rfl)) ?_
      refine ASL.q (v := w4) rfl rfl (Light.quiet (opAssign rfl rfl)) ?_
      refine ASL.q (v := (.int .i64 a29.2.1)) rfl rfl (Light.quiet (opAssign rfl rfl)) ?_
      refine ASL.q (v := (.int .i64 a29.2.2)) rfl rfl (Light.quiet (opAssign rfl rfl)) ?_
      refine ASL.done ?_
      refine AWP.ret ?_
      refine QThen.rt ?_
      refine QBlock.ret ?_
      refine QThen.rt ?_
      obtain rfl := someE hF
      exact QRet.many (vs := [w4, (.int .i64 a29.2.1), (.int .i64 a29.2.2)]) ⟨rfl, rfl, rfl, trivial⟩ (by simp) ⟨_, ⟨w4, rfl, rfl⟩, hS.pick [0, 2] rfl rfl⟩
    · skip
      refine AWP.skip ?_
      refine QThen.nrm ?_
      refine AWP.seqR rfl ?_
      refine ASL.q (v := (.str p0)) rfl rfl (Light.quiet (opMove rfl rfl)) ?_
      refine ASL.q (v := (.int .i64 a29.2.1)) rfl rfl (Light.quiet (opMove rfl rfl)) ?_
      obtain ⟨a53, ha53, hF⟩ := bindE hF
      refine ASL.q (v := (.int .u8 a53)) rfl rfl (Light.quiet (kIxS ha53 rfl und_9 rfl rfl)) ?_
      refine ASL.q (v := (.int .i64 (spec_l8Kind a53 2))) rfl rfl ((qCall rfl rfl call_54 (spec_l8Kind_ok a53 2) rfl)) ?_
      refine ASL.q (v := (.int .i64 (spec_l8Kind a53 2))) rfl rfl (Light.quiet (opAssign rfl rfl)) ?_
      refine ASL.done ?_
      refine AWP.seqR rfl ?_
      refine ASL.q (v := w4) rfl rfl (Light.quiet (opMove rfl rfl)) ?_
      refine ASL.q (v := (.int .i64 (a29.1.length : Int))) rfl rfl (Light.quiet (kLen hS (j := 0) rfl rfl rfl rfl lenT_26 rfl)) ?_
      refine ASL.q (v := (.int .i64 (W (((a29.1.length : Int)) - 1)))) rfl rfl (Light.quiet (opInt rfl rfl rfl rfl)) ?_
      refine ASL.q (v := (.int .i64 (W (((a29.1.length : Int)) - 1)))) rfl rfl (Light.quiet (opAssign rfl rfl)) ?_
      refine ASL.done ?_
      refine AWP.seqR rfl ?_
      refine ASL.q (v := (.str p0)) rfl rfl (Light.quiet (opMove rfl rfl)) ?_
      refine ASL.q (v := (.int .i64 a29.2.1)) rfl rfl (Light.quiet (opMove rfl rfl)) ?_
      refine ASL.q (v := (.int .i64 (W (a29.2.1 + 1)))) rfl rfl (Light.quiet (opInt rfl rfl rfl rfl)) ?_
      refine ASL.q (v := w4) rfl rfl (Light.quiet (opMove rfl rfl)) ?_
      obtain ⟨a63, ha63, hF⟩ := bindE hF
      refine ASL.x rfl rfl (hCallS hS [0, 1, 2] (F := [.row 3 .nil (List.map TNode.av ([])), .snap S]) rfl rfl rfl call_40 (ih_spec_l8Read ha63) rfl rfl ?_); rintro _ _ G10 ⟨w8, rfl, rfl⟩ hS
      refine ASL.q (v := (.tup [w8, (.int .i64 a63.2.1), (.int .i64 a63.2.2)])) rfl rfl (Light.quiet (opMove rfl rfl)) ?_
      refine ASL.q (v := w8) rfl rfl (Light.quiet (opExtract rfl rfl rfl)) ?_
      refine ASL.q (v := (.int .i64 a63.2.1)) rfl rfl (Light.quiet (opExtract rfl rfl rfl)) ?_
      refine ASL.q (v := (.int .i64 a63.2.2)) rfl rfl (Light.quiet (opExtract rfl rfl rfl)) ?_
      refine ASL.q (v := w8) rfl rfl (Light.quiet (opAssign rfl rfl)) ?_
      refine ASL.q (v := (.int .i64 a63.2.1)) rfl rfl (Light.quiet (opAssign rfl rfl)) ?_
      refine ASL.q (v := (.int .i64 a63.2.2)) rfl rfl (Light.quiet (opAssign rfl rfl)) ?_
      refine ASL.done ?_
      refine AWP.seq ?_
      refine AWP.seqR rfl ?_
      refine ASL.q (v := (.int .i64 a63.2.2)) rfl rfl (Light.quiet (opMove rfl rfl)) ?_
      refine ASL.q (v := (.bool (decide (a63.2.2 = 0)))) rfl rfl (Light.quiet (opInt rfl rfl rfl rfl)) ?_
      refine ASL.done ?_
      refine AWP.ifP hF rfl (fun hc11 hF => ?_) (fun hc11 hF => ?_)
      · skip
        refine AWP.lastR rfl ?_
        refine ASL.q (v := w8) rfl rfl (Light.quiet (opMove rfl rfl)) ?_
        refine ASL.q (v := (.int .i64 (spec_l8Kind a53 2))) rfl rfl (Light.quiet (opMove rfl rfl)) ?_
        refine ASL.q (v := (.int .i64 (W (((a29.1.length : Int)) - 1)))) rfl rfl (Light.quiet (opMove rfl rfl)) ?_
        refine ASL.q (v := w8) rfl rfl (Light.quiet (opMove rfl rfl)) ?_
        refine ASL.q (v := (.int .i64 (a63.1.length : Int))) rfl rfl (Light.quiet (kLen hS (j := 0) rfl rfl rfl rfl lenT_26 rfl)) ?_
        refine ASL.q (v := (.int .i64 (W (((a63.1.length : Int)) - 1)))) rfl rfl (Light.quiet (opInt rfl rfl rfl rfl)) ?_
        refine ASL.q (v := (.agg [(.int .i64 (spec_l8Kind a53 2)), (.int .i64 (W (((a29.1.length : Int)) - 1))), (.int .i64 (W (((a63.1.length : Int)) - 1)))])) rfl rfl (Light.quiet (opBuildZ (zs := [(.int .i64 0), (.int .i64 0), (.int .i64 0)]) rfl plan_43 zeroA_43 ⟨.inl rfl, .inl rfl, .inl rfl, trivial⟩ rfl)) ?_
        refine ASL.q (v := (.list 3 (List.map TNode.av [(TNode.mk ((spec_l8Kind a53 2)) ((W (((a29.1.length : Int)) - 1))) ((W (((a63.1.length : Int)) - 1))))]))) rfl rfl ((qLit (xs := [(.agg [(.int .i64 (spec_l8Kind a53 2)), (.int .i64 (W (((a29.1.length : Int)) - 1))), (.int .i64 (W (((a63.1.length : Int)) - 1)))])]) rfl elemA_26 sizeA_43 zeroA_43 rfl rfl rfl rfl (by simp [cells, TNode.av]) (nlt rfl))) ?_
        obtain ⟨z77, hz77, hF⟩ := bindE hF
        refine ASL.x rfl rfl (hApp (f := TNode.av) (ws := [(TNode.mk ((spec_l8Kind a53 2)) ((W (((a29.1.length : Int)) - 1))) ((W (((a63.1.length : Int)) - 1))))]) hS (j := 0) rfl hz77 rfl elemA_26 rfl sizeA_43 bytesA_43 zeroA_43 rfl rfl rfl (fun _ => rfl) ?_); rintro v77 G12 hS
        refine ASL.q (v := v77) rfl rfl (Light.quiet (opAssign rfl rfl)) ?_
        refine ASL.done ?_
        refine QThen.nrm ?_
        refine AWP.seqR rfl ?_
        refine ASL.q (v := v77) rfl rfl (Light.quiet (opMove rfl rfl)) ?_
        refine ASL.q (v := (.int .i64 a63.2.1)) rfl rfl (Light.quiet (opMove rfl rfl)) ?_
        refine ASL.q (v := (.int .i64 a63.2.2)) rfl rfl (Light.quiet (opMove rfl rfl)) ?_
        refine ASL.q (v := v77) rfl rfl (Light.quiet (opAssign rfl rfl)) ?_
        refine ASL.q (v := (.int .i64 a63.2.1)) rfl rfl (Light.quiet (opAssign rfl rfl)) ?_
        refine ASL.q (v := (.int .i64 a63.2.2)) rfl rfl (Light.quiet (opAssign rfl rfl)) ?_
        refine ASL.done ?_
        refine AWP.ret ?_
        refine QBlock.ret ?_
        refine QThen.rt ?_
        obtain rfl := someE hF
        exact QRet.many (vs := [v77, (.int .i64 a63.2.1), (.int .i64 a63.2.2)]) ⟨rfl, rfl, rfl, trivial⟩ (by simp) ⟨_, ⟨v77, rfl, rfl⟩, hS.pick [0, 2] rfl rfl⟩
      · skip
        refine AWP.skip ?_
        refine QThen.nrm ?_
        refine AWP.seqR rfl ?_
        refine ASL.q (v := w8) rfl rfl (Light.quiet (opMove rfl rfl)) ?_
        refine ASL.q (v := (.int .i64 a63.2.1)) rfl rfl (Light.quiet (opMove rfl rfl)) ?_
        refine ASL.q (v := (.int .i64 a63.2.2)) rfl rfl (Light.quiet (opMove rfl rfl)) ?_
        refine ASL.q (v := w8) rfl rfl (Light.quiet (opAssign rfl rfl)) ?_
        refine ASL.q (v := (.int .i64 a63.2.1)) rfl rfl (Light.quiet (opAssign rfl rfl)) ?_
        refine ASL.q (v := (.int .i64 a63.2.2)) rfl rfl (Light.quiet (opAssign rfl rfl)) ?_
        refine ASL.done ?_
        refine AWP.ret ?_
        refine QBlock.ret ?_
        refine QThen.rt ?_
        obtain rfl := someE hF
        exact QRet.many (vs := [w8, (.int .i64 a63.2.1), (.int .i64 a63.2.2)]) ⟨rfl, rfl, rfl, trivial⟩ (by simp) ⟨_, ⟨w8, rfl, rfl⟩, hS.pick [0, 2] rfl rfl⟩
  · skip
    refine AWP.seqR rfl ?_
    refine ASL.q (v := (.bool (decide (p2 = 3)))) rfl rfl (Light.quiet (opInt rfl rfl rfl rfl)) ?_
    refine ASL.q (v := (.bool (decide (p2 = 3)))) rfl rfl (Light.quiet (opAssign rfl rfl)) ?_
    refine ASL.done ?_
    refine AWP.ifP hF rfl (fun hc14 hF => ?_) (fun hc14 hF => ?_)
    · skip
      refine AWP.seqR rfl ?_
      refine ASL.q (v := (.str p0)) rfl rfl (Light.quiet (opMove rfl rfl)) ?_
      refine ASL.q (v := (.int .i64 p1)) rfl rfl (Light.quiet (opMove rfl rfl)) ?_
      refine ASL.q (v := vp3) rfl rfl (Light.quiet (opMove rfl rfl)) ?_
      obtain ⟨a86, ha86, hF⟩ := bindE hF
      refine ASL.x rfl rfl (hCallS hS [1, 0, 2] (F := [.row 3 .nil (List.map TNode.av ([])), .snap S]) rfl rfl rfl call_55 (ih_spec_l8Atom ha86) rfl rfl ?_); rintro _ _ G17 ⟨w15, rfl, rfl⟩ hS
      refine ASL.q (v := w15) rfl rfl (Light.quiet (opExtract rfl rfl rfl)) ?_
      refine ASL.q (v := (.int .i64 a86.2.1)) rfl rfl (Light.quiet (opExtract rfl rfl rfl)) ?_
      refine ASL.q (v := (.int .i64 a86.2.2)) rfl rfl (Light.quiet (opExtract rfl rfl rfl)) ?_
      refine ASL.q (v := w15) rfl rfl (Light.quiet (opAssign rfl rfl)) ?_
      refine ASL.q (v := (.int .i64 a86.2.1)) rfl rfl (Light.quiet (opAssign rfl rfl)) ?_
      refine ASL.q (v := (.int .i64 a86.2.2)) rfl rfl (Light.quiet (opAssign rfl rfl)) ?_
      refine ASL.done ?_
      refine AWP.ret ?_
      refine QBlock.ret ?_
      refine QThen.rt ?_
      obtain rfl := someE hF
      exact QRet.many (vs := [w15, (.int .i64 a86.2.1), (.int .i64 a86.2.2)]) ⟨rfl, rfl, rfl, trivial⟩ (by simp) ⟨_, ⟨w15, rfl, rfl⟩, hS.pick [0, 2] rfl rfl⟩
    · skip
      refine AWP.skip ?_
      refine QBlock.nrm ?_
      refine QThen.nrm ?_
      refine AWP.seqR rfl ?_
      refine ASL.q (v := (.list 1 (List.map (AV.int .u8) [124, 38]))) rfl rfl ((qLit (xs := [(.int .u8 124), (.int .u8 38)]) rfl elemA_70 sizeA_5 zeroA_5 rfl rfl rfl rfl (by simp [cells]) (nlt rfl))) ?_
      refine ASL.q (v := (.int .i64 p2)) rfl rfl (Light.quiet (opMove rfl rfl)) ?_
      obtain ⟨a92, ha92, hF⟩ := bindE hF
      refine ASL.q (v := (.rptr [(.int .u8 a92)])) rfl rfl (Light.quiet (kIx (f := (AV.int .u8)) ha92 rfl rfl rfl elemA_70 sizeA_5 rfl)) ?_
      refine ASL.q (v := (.int .u8 a92)) rfl rfl (Light.quiet (opLoadR rfl aggA_5 rfl rfl)) ?_
      refine ASL.q (v := (.int .u8 a92)) rfl rfl (Light.quiet (opAssign rfl rfl)) ?_
      refine ASL.done ?_
      refine AWP.seqR rfl ?_
      refine ASL.q (v := (.list 1 (List.map (AV.int .i64) [6, 5]))) rfl rfl ((qLit (xs := [(.int .i64 6), (.int .i64 5)]) rfl elemA_24 sizeA_3 zeroA_3 rfl rfl rfl rfl (by simp [cells]) (nlt rfl))) ?_
      refine ASL.q (v := (.int .i64 p2)) rfl rfl (Light.quiet (opMove rfl rfl)) ?_
      obtain ⟨a96, ha96, hF⟩ := bindE hF
      refine ASL.q (v := (.rptr [(.int .i64 a96)])) rfl rfl (Light.quiet (kIx (f := (AV.int .i64)) ha96 rfl rfl rfl elemA_24 sizeA_3 rfl)) ?_
      refine ASL.q (v := (.int .i64 a96)) rfl rfl (Light.quiet (opLoadR rfl aggA_3 rfl rfl)) ?_
      refine ASL.q (v := (.int .i64 a96)) rfl rfl (Light.quiet (opAssign rfl rfl)) ?_
      refine ASL.done ?_
      refine AWP.seqR rfl ?_
      refine ASL.q (v := (.str p0)) rfl rfl (Light.quiet (opMove rfl rfl)) ?_
      refine ASL.q (v := (.int .i64 p1)) rfl rfl (Light.quiet (opMove rfl rfl)) ?_
      refine ASL.q (v := (.int .i64 p2)) rfl rfl (Light.quiet (opMove rfl rfl)) ?_
      refine ASL.q (v := (.int .i64 (W (p2 + 1)))) rfl rfl (Light.quiet (opInt rfl rfl rfl rfl)) ?_
      refine ASL.q (v := vp3) rfl rfl (Light.quiet (opMove rfl rfl)) ?_
      obtain ⟨a104, ha104, hF⟩ := bindE hF
      refine ASL.x rfl rfl (hCallS hS [1, 0, 2] (F := [.row 3 .nil (List.map TNode.av ([])), .snap S]) rfl rfl rfl call_40 (ih_spec_l8Read ha104) rfl rfl ?_); rintro _ _ G20 ⟨w18, rfl, rfl⟩ hS
      refine ASL.q (v := (.tup [w18, (.int .i64 a104.2.1), (.int .i64 a104.2.2)])) rfl rfl (Light.quiet (opMove rfl rfl)) ?_
      refine ASL.q (v := w18) rfl rfl (Light.quiet (opExtract rfl rfl rfl)) ?_
      refine ASL.q (v := (.int .i64 a104.2.1)) rfl rfl (Light.quiet (opExtract rfl rfl rfl)) ?_
      refine ASL.q (v := (.int .i64 a104.2.2)) rfl rfl (Light.quiet (opExtract rfl rfl rfl)) ?_
      refine ASL.q (v := w18) rfl rfl (Light.quiet (opAssign rfl rfl)) ?_
      refine ASL.q (v := (.int .i64 a104.2.1)) rfl rfl (Light.quiet (opAssign rfl rfl)) ?_
      refine ASL.q (v := (.int .i64 a104.2.2)) rfl rfl (Light.quiet (opAssign rfl rfl)) ?_
      refine ASL.done ?_
      refine AWP.seqM (fun e H => ∃ y21 : (List TNode), ∃ x19_1 : Int, ∃ x20_1 : Int, ∃ w22 : AV, E.Told e [(18, w22), (19, (.int .i64 x19_1)), (20, (.int .i64 x20_1))] ∧ E.Sep H [.row 3 w22 (List.map TNode.av y21), .snap S] ∧ spec_l8Read.k0 y21 x19_1 x20_1 = some r) ?_ ?_
      · rintro e0 G24 ⟨y21, x19_1, x20_1, w22, hT, hS, hF⟩; refine AWP.only _ hT ?_; unfold spec_l8Read.k0 at hF
        refine AWP.seqR rfl ?_
        refine ASL.q (v := w22) rfl rfl (Light.quiet (opMove rfl rfl)) ?_
        refine ASL.q (v := (.int .i64 x19_1)) rfl rfl (Light.quiet (opMove rfl rfl)) ?_
        refine ASL.q (v := (.int .i64 x20_1)) rfl rfl (Light.quiet (opMove rfl rfl)) ?_
        refine ASL.q (v := w22) rfl rfl (Light.quiet (opAssign rfl rfl)) ?_
        refine ASL.q (v := (.int .i64 x19_1)) rfl rfl (Light.quiet (opAssign rfl rfl)) ?_
        refine ASL.q (v := (.int .i64 x20_1)) rfl rfl (Light.quiet (opAssign rfl rfl)) ?_
        refine ASL.done ?_
        refine AWP.ret ?_
        obtain rfl := someE hF
        exact QRet.many (vs := [w22, (.int .i64 x19_1), (.int .i64 x20_1)]) ⟨rfl, rfl, rfl, trivial⟩ (by simp) ⟨_, ⟨w22, rfl, rfl⟩, hS.pick [0, 1] rfl rfl⟩
      · skip
        refine AWP.block ?_
        obtain ⟨o31, hL30, hR32⟩ := bindE hF
        refine AWP.loopF (ω := AV) hL30 (fun s w => [(0, (.str p0)), (2, (.int .i64 p2)), (16, (.int .u8 a92)), (17, (.int .i64 a96)), (18, w), (19, (.int .i64 s.2.1)), (20, (.int .i64 s.2.2))]) (fun s w => [.row 3 w (List.map TNode.av s.1), .snap S]) w18 ⟨rfl, rfl, rfl, rfl, rfl, rfl, rfl, trivial⟩ (hS.pick [0, 2] rfl rfl) ?_
        rintro ⟨y25, x19_l0, x20_l0⟩ w26 G33 hS x28 hF hx29
        try dsimp only at hS ⊢
        have hF : spec_l8Read.b0 p0 a92 rec_spec_l8Read p2 a96 y25 x19_l0 x20_l0 = some x28 := hF; unfold spec_l8Read.b0 at hF
        refine AWP.seq ?_
        refine AWP.seqR rfl ?_
        refine ASL.q (v := (.int .i64 x20_l0)) rfl rfl (Light.quiet (opMove rfl rfl)) ?_
        refine ASL.q (v := (.bool (decide (x20_l0 = 0)))) rfl rfl (Light.quiet (opInt rfl rfl rfl rfl)) ?_
        obtain ⟨c110, hc110, hF⟩ := bndE hF
        refine ASL.q (v := (.bool c110)) rfl rfl ((Quiet.cast (Light.quiet (opMove rfl rfl)) (congrArg AV.bool hc110.symm))) ?_
        refine ASL.g (v := (.int .i64 x19_l0)) (.bool c110) true rfl (wT _) rfl (fun hG => by have q0 := hG; subst q0; exact Light.quiet (opMove rfl rfl)) ?_
        refine ASL.g (v := (.str p0)) (.bool c110) true rfl (wT _) rfl (fun hG => by have q0 := hG; subst q0; exact Light.quiet (opMove rfl rfl)) ?_
        refine ASL.g (v := (.int .i64 (p0.size : Int))) (.bool c110) true rfl (wT _) rfl (fun hG => by have q0 := hG; subst q0; exact Light.quiet (opLenOf rfl rfl rfl lenT_9 rfl rfl)) ?_
        refine ASL.g (v := (.bool (decide (x19_l0 < ((p0.size : Int)))))) (.bool c110) true rfl (wT _) rfl (fun hG => by have q0 := hG; subst q0; exact Light.quiet (opInt rfl rfl rfl rfl)) ?_
        refine ASL.q (v := (.bool (c110 && (decide (x19_l0 < ((p0.size : Int))))))) rfl rfl (Light.quiet (opPick (b := c110) rfl rfl (by cases c110 <;> rfl))) ?_
        obtain ⟨c116, hc116, hF⟩ := bndE hF
        refine ASL.q (v := (.bool c116)) rfl rfl ((Quiet.cast (Light.quiet (opMove rfl rfl)) (congrArg AV.bool hc116.symm))) ?_
        refine ASL.g (v := (.str p0)) (.bool c116) true rfl (wT _) rfl (fun hG => by have q0 := hG; subst q0; exact Light.quiet (opMove rfl rfl)) ?_
        refine ASL.g (v := (.int .i64 x19_l0)) (.bool c116) true rfl (wT _) rfl (fun hG => by have q0 := hG; subst q0; exact Light.quiet (opMove rfl rfl)) ?_
        obtain ⟨a119, ha119, hF⟩ := bindE hF
        refine ASL.g (v := (.int .u8 a119)) (.bool c116) true rfl (wT _) rfl (fun hG => by have q0 := hG; subst q0; exact Light.quiet (kIxS (whenE ha119) rfl und_9 rfl rfl)) ?_
        refine ASL.g (v := (.int .u8 a92)) (.bool c116) true rfl (wT _) rfl (fun hG => by have q0 := hG; subst q0; exact Light.quiet (opMove rfl rfl)) ?_
        refine ASL.g (v := (.bool (decide (a119 = a92)))) (.bool c116) true rfl (wT _) rfl (fun hG => by have q0 := hG; subst q0; exact Light.quiet (opInt rfl rfl rfl rfl)) ?_
        refine ASL.q (v := (.bool (c116 && (decide (a119 = a92))))) rfl rfl (Light.quiet (opPick (b := c116) rfl rfl (by cases c116 <;> rfl))) ?_
        refine ASL.done ?_
        refine AWP.ifB hF rfl (fun hc34 hF => ?_) (fun hc34 hF => ?_)
        · skip
          refine AWP.skip ?_
          refine QThen.nrm ?_
          refine AWP.block ?_
          refine AWP.seqR rfl ?_
          refine ASL.q (v := w26) rfl rfl (Light.quiet (opMove rfl rfl)) ?_
          refine ASL.q (v := (.int .i64 (y25.length : Int))) rfl rfl (Light.quiet (kLen hS (j := 0) rfl rfl rfl rfl lenT_26 rfl)) ?_
          refine ASL.q (v := (.int .i64 (W (((y25.length : Int)) - 1)))) rfl rfl (Light.quiet (opInt rfl rfl rfl rfl)) ?_
          refine ASL.q (v := (.int .i64 (W (((y25.length : Int)) - 1)))) rfl rfl (Light.quiet (opAssign rfl rfl)) ?_
          refine ASL.done ?_
          refine AWP.seqR rfl ?_
          refine ASL.q (v := (.str p0)) rfl rfl (Light.quiet (opMove rfl rfl)) ?_
          refine ASL.q (v := (.int .i64 x19_l0)) rfl rfl (Light.quiet (opMove rfl rfl)) ?_
          refine ASL.q (v := (.int .i64 (W (x19_l0 + 1)))) rfl rfl (Light.quiet (opInt rfl rfl rfl rfl)) ?_
          refine ASL.q (v := (.int .i64 p2)) rfl rfl (Light.quiet (opMove rfl rfl)) ?_
          refine ASL.q (v := (.int .i64 (W (p2 + 1)))) rfl rfl (Light.quiet (opInt rfl rfl rfl rfl)) ?_
          refine ASL.q (v := w26) rfl rfl (Light.quiet (opMove rfl rfl)) ?_
          obtain ⟨a133, ha133, hF⟩ := bindE hF
          refine ASL.x rfl rfl (hCallS hS [0, 1] (F := [.snap S]) rfl rfl rfl call_40 (ih_spec_l8Read ha133) rfl rfl ?_); rintro _ _ G37 ⟨w35, rfl, rfl⟩ hS
          refine ASL.q (v := (.tup [w35, (.int .i64 a133.2.1), (.int .i64 a133.2.2)])) rfl rfl (Light.quiet (opMove rfl rfl)) ?_
          refine ASL.q (v := w35) rfl rfl (Light.quiet (opExtract rfl rfl rfl)) ?_
          refine ASL.q (v := (.int .i64 a133.2.1)) rfl rfl (Light.quiet (opExtract rfl rfl rfl)) ?_
          refine ASL.q (v := (.int .i64 a133.2.2)) rfl rfl (Light.quiet (opExtract rfl rfl rfl)) ?_
          refine ASL.q (v := w35) rfl rfl (Light.quiet (opAssign rfl rfl)) ?_
          refine ASL.q (v := (.int .i64 a133.2.1)) rfl rfl (Light.quiet (opAssign rfl rfl)) ?_
          refine ASL.q (v := (.int .i64 a133.2.2)) rfl rfl (Light.quiet (opAssign rfl rfl)) ?_
          refine ASL.done ?_
          refine AWP.seqR rfl ?_
          refine ASL.q (v := (.int .i64 a133.2.2)) rfl rfl (Light.quiet (opMove rfl rfl)) ?_
          refine ASL.q (v := (.bool (decide (a133.2.2 = 0)))) rfl rfl (Light.quiet (opInt rfl rfl rfl rfl)) ?_
          refine ASL.done ?_
          refine AWP.ifP hF rfl (fun hc38 hF => ?_) (fun hc38 hF => ?_)
          · skip
            refine AWP.lastR rfl ?_
            refine ASL.q (v := w35) rfl rfl (Light.quiet (opMove rfl rfl)) ?_
            refine ASL.q (v := (.int .i64 a96)) rfl rfl (Light.quiet (opMove rfl rfl)) ?_
            refine ASL.q (v := (.int .i64 (W (((y25.length : Int)) - 1)))) rfl rfl (Light.quiet (opMove rfl rfl)) ?_
            refine ASL.q (v := w35) rfl rfl (Light.quiet (opMove rfl rfl)) ?_
            refine ASL.q (v := (.int .i64 (a133.1.length : Int))) rfl rfl (Light.quiet (kLen hS (j := 0) rfl rfl rfl rfl lenT_26 rfl)) ?_
            refine ASL.q (v := (.int .i64 (W (((a133.1.length : Int)) - 1)))) rfl rfl (Light.quiet (opInt rfl rfl rfl rfl)) ?_
            refine ASL.q (v := (.agg [(.int .i64 a96), (.int .i64 (W (((y25.length : Int)) - 1))), (.int .i64 (W (((a133.1.length : Int)) - 1)))])) rfl rfl (Light.quiet (opBuildZ (zs := [(.int .i64 0), (.int .i64 0), (.int .i64 0)]) rfl plan_43 zeroA_43 ⟨.inl rfl, .inl rfl, .inl rfl, trivial⟩ rfl)) ?_
            refine ASL.q (v := (.list 3 (List.map TNode.av [(TNode.mk a96 ((W (((y25.length : Int)) - 1))) ((W (((a133.1.length : Int)) - 1))))]))) rfl rfl ((qLit (xs := [(.agg [(.int .i64 a96), (.int .i64 (W (((y25.length : Int)) - 1))), (.int .i64 (W (((a133.1.length : Int)) - 1)))])]) rfl elemA_26 sizeA_43 zeroA_43 rfl rfl rfl rfl (by simp [cells, TNode.av]) (nlt rfl))) ?_
            obtain ⟨z147, hz147, hF⟩ := bindE hF
            refine ASL.x rfl rfl (hApp (f := TNode.av) (ws := [(TNode.mk a96 ((W (((y25.length : Int)) - 1))) ((W (((a133.1.length : Int)) - 1))))]) hS (j := 0) rfl hz147 rfl elemA_26 rfl sizeA_43 bytesA_43 zeroA_43 rfl rfl rfl (fun _ => rfl) ?_); rintro v147 G39 hS
            refine ASL.q (v := v147) rfl rfl (Light.quiet (opAssign rfl rfl)) ?_
            refine ASL.done ?_
            refine QBlock.nrm ?_
            refine QThen.nrm ?_
            exact ⟨(z147, a133.2.1, a133.2.2), v147, (someE hF).symm, ⟨rfl, rfl, rfl, rfl, rfl, rfl, rfl, trivial⟩, (hS.pick [0, 1] rfl rfl)⟩
          · skip
            refine AWP.skip ?_
            refine QBlock.nrm ?_
            refine QThen.nrm ?_
            exact ⟨(a133.1, a133.2.1, a133.2.2), w35, (someE hF).symm, ⟨rfl, rfl, rfl, rfl, rfl, rfl, rfl, trivial⟩, (hS.pick [0, 1] rfl rfl)⟩
        · skip
          refine AWP.exit ?_
          refine QThen.ext ?_
          refine QThen.ext ?_
          refine QBlock.hit ?_
          obtain rfl := (hx29 _ (someE hF).symm)
          have hF := hR32
          refine QThen.nrm ?_
          exact ⟨y25, x19_l0, x20_l0, w26, ⟨rfl, rfl, rfl, trivial⟩, (hS.pick [0, 1] rfl rfl), hF⟩

set_option maxRecDepth 10000 in
theorem spec_l8Atom.body_ok {p0 : ByteArray} {p1 : Int} {p2 : (List TNode)} {r : ((List TNode) × Int × Int)} {vp2 : AV} {rec_spec_l8Read : ByteArray → Int → Int → (List TNode) → Option ((List TNode) × Int × Int)} {rec_spec_l8Atom : ByteArray → Int → (List TNode) → Option ((List TNode) × Int × Int)} (ih_spec_l8Read : ∀ {p0 : ByteArray} {p1 : Int} {p2 : Int} {p3 : (List TNode)} {r : ((List TNode) × Int × Int)} {vp3 : AV} , rec_spec_l8Read p0 p1 p2 p3 = some r → HS Try.prog 40 [(.str p0), (.int .i64 p1), (.int .i64 p2), vp3] [.row 3 vp3 (List.map TNode.av p3)] fun v L' => ∃ o0 : AV, v = .tup [o0, (.int .i64 r.2.1), (.int .i64 r.2.2)] ∧ L' = [.row 3 o0 (List.map TNode.av r.1)]) (ih_spec_l8Atom : ∀ {p0 : ByteArray} {p1 : Int} {p2 : (List TNode)} {r : ((List TNode) × Int × Int)} {vp2 : AV} , rec_spec_l8Atom p0 p1 p2 = some r → HS Try.prog 55 [(.str p0), (.int .i64 p1), vp2] [.row 3 vp2 (List.map TNode.av p2)] fun v L' => ∃ o0 : AV, v = .tup [o0, (.int .i64 r.2.1), (.int .i64 r.2.2)] ∧ L' = [.row 3 o0 (List.map TNode.av r.1)]) (hF : spec_l8Atom.body rec_spec_l8Read rec_spec_l8Atom p0 p1 p2 = some r) : HS Try.prog 55 [(.str p0), (.int .i64 p1), vp2] [.row 3 vp2 (List.map TNode.av p2)] fun v L' => ∃ o0 : AV, v = .tup [o0, (.int .i64 r.2.1), (.int .i64 r.2.2)] ∧ L' = [.row 3 o0 (List.map TNode.av r.1)] := by
  intro H S hS
  refine HC.enter Try.func55 rfl Try.ntmps55 (by simp) ?_
  simp only [List.cons_append, List.nil_append] at hS
  unfold spec_l8Atom.body at hF
  refine AWP.seqR rfl ?_
  have hS := hNil (s := 3) (f := TNode.av) hS
  refine ASL.q (v := .nil) rfl rfl (Light.quiet (opAssign rfl rfl)) ?_
  refine ASL.q (v := (.int .i64 0)) rfl rfl (Light.quiet (opAssign rfl rfl)) ?_
  refine ASL.q (v := (.int .i64 0)) rfl rfl (Light.quiet (opAssign rfl rfl)) ?_
  refine ASL.done ?_
  refine AWP.seq ?_
  refine AWP.seqR rfl ?_
  refine ASL.q (v := (.int .i64 p1)) rfl rfl (Light.quiet (opMove rfl rfl)) ?_
  refine ASL.q (v := (.str p0)) rfl rfl (Light.quiet (opMove rfl rfl)) ?_
  refine ASL.q (v := (.int .i64 (p0.size : Int))) rfl rfl (Light.quiet (opLenOf rfl rfl rfl lenT_9 rfl rfl)) ?_
  refine ASL.q (v := (.bool (decide (p1 ≥ ((p0.size : Int)))))) rfl rfl (Light.quiet (opInt rfl rfl rfl rfl)) ?_
  refine ASL.done ?_
  refine AWP.ifP hF rfl (fun hc3 hF => ?_) (fun hc3 hF => ?_)
  · skip
    refine AWP.seqR rfl ?_
    refine ASL.q (v := vp2) rfl rfl (Light.quiet (opMove rfl rfl)) ?_
    refine ASL.q (v := (.str p0)) rfl rfl (Light.quiet (opMove rfl rfl)) ?_
    refine ASL.q (v := (.int .i64 (p0.size : Int))) rfl rfl (Light.quiet (opLenOf rfl rfl rfl lenT_9 rfl rfl)) ?_
    refine ASL.q (v := vp2) rfl rfl (Light.quiet (opAssign rfl rfl)) ?_
    refine ASL.q (v := (.int .i64 (p0.size : Int))) rfl rfl (Light.quiet (opAssign rfl rfl)) ?_
    refine ASL.q (v := (.int .i64 2)) rfl rfl (Light.quiet (opAssign rfl rfl)) ?_
    refine ASL.done ?_
    refine AWP.ret ?_
    refine QThen.rt ?_
    obtain rfl := someE hF
    exact QRet.many (vs := [vp2, (.int .i64 (p0.size : Int)), (.int .i64 2)]) ⟨rfl, rfl, rfl, trivial⟩ (by simp) ⟨_, ⟨vp2, rfl, rfl⟩, hS.pick [1, 2] rfl rfl⟩
  · skip
    refine AWP.skip ?_
    refine QThen.nrm ?_
    refine AWP.seq ?_
    refine AWP.block ?_
    refine AWP.seqR rfl ?_
    refine ASL.q (v := (.str p0)) rfl rfl (Light.quiet (opMove rfl rfl)) ?_
    refine ASL.q (v := (.int .i64 p1)) rfl rfl (Light.quiet (opMove rfl rfl)) ?_
    obtain ⟨a25, ha25, hF⟩ := bindE hF
    refine ASL.q (v := (.int .u8 a25)) rfl rfl (Light.quiet (kIxS ha25 rfl und_9 rfl rfl)) ?_
    refine ASL.q (v := (.bool (decide (a25 = 116)))) rfl rfl (Light.quiet (opInt rfl rfl rfl rfl)) ?_
    refine ASL.q (v := (.bool (decide (a25 = 116)))) rfl rfl (Light.quiet (opAssign rfl rfl)) ?_
    refine ASL.done ?_
    refine AWP.ifP hF rfl (fun hc4 hF => ?_) (fun hc4 hF => ?_)
    · skip
      refine AWP.seqR rfl ?_
      refine ASL.q (v := vp2) rfl rfl (Light.quiet (opMove rfl rfl)) ?_
      refine ASL.q (v := (.agg [(.int .i64 1), (.int .i64 0), (.int .i64 0)])) rfl rfl (Light.quiet (opBuildZ (zs := [(.int .i64 0), (.int .i64 0), (.int .i64 0)]) rfl plan_43 zeroA_43 ⟨.inl rfl, .inl rfl, .inl rfl, trivial⟩ rfl)) ?_
      refine ASL.q (v := (.list 3 (List.map TNode.av [(TNode.mk 1 0 0)]))) rfl rfl ((qLit (xs := [(.agg [(.int .i64 1), (.int .i64 0), (.int .i64 0)])]) rfl elemA_26 sizeA_43 zeroA_43 rfl rfl rfl rfl (by simp [cells, TNode.av]) (nlt rfl))) ?_
      obtain ⟨z30, hz30, hF⟩ := bindE hF
      refine ASL.x rfl rfl (hApp (f := TNode.av) (ws := [(TNode.mk 1 0 0)]) hS (j := 1) rfl hz30 rfl elemA_26 rfl sizeA_43 bytesA_43 zeroA_43 rfl rfl rfl (fun _ => rfl) ?_); rintro v30 G5 hS
      refine ASL.q (v := (.int .i64 p1)) rfl rfl (Light.quiet (opMove rfl rfl)) ?_
      refine ASL.q (v := (.int .i64 (W (p1 + 1)))) rfl rfl (Light.quiet (opInt rfl rfl rfl rfl)) ?_
      refine ASL.q (v := v30) rfl rfl (Light.quiet (opAssign rfl rfl)) ?_
      refine ASL.q (v := (.int .i64 (W (p1 + 1)))) rfl rfl (Light.quiet (opAssign rfl rfl)) ?_
      refine ASL.q (v := (.int .i64 0)) rfl rfl (Light.quiet (opAssign rfl rfl)) ?_
      refine ASL.done ?_
      refine AWP.ret ?_
      refine QBlock.ret ?_
      refine QThen.rt ?_
      obtain rfl := someE hF
      exact QRet.many (vs := [v30, (.int .i64 (W (p1 + 1))), (.int .i64 0)]) ⟨rfl, rfl, rfl, trivial⟩ (by simp) ⟨_, ⟨v30, rfl, rfl⟩, hS.pick [1, 2] rfl rfl⟩
    · skip
      refine AWP.seqR rfl ?_
      refine ASL.q (v := (.str p0)) rfl rfl (Light.quiet (opMove rfl rfl)) ?_
      refine ASL.q (v := (.int .i64 p1)) rfl rfl (Light.quiet (opMove rfl rfl)) ?_
      obtain ⟨a36, ha36, hF⟩ := bindE hF
      refine ASL.q (v := (.int .u8 a36)) rfl rfl (Light.quiet (kIxS ha36 rfl und_9 rfl rfl)) ?_
      refine ASL.q (v := (.bool (decide (a36 = 102)))) rfl rfl (Light.quiet (opInt rfl rfl rfl rfl)) ?_
      refine ASL.q (v := (.bool (decide (a36 = 102)))) rfl rfl (Light.quiet (opAssign rfl rfl)) ?_
      refine ASL.done ?_
      refine AWP.ifP hF rfl (fun hc7 hF => ?_) (fun hc7 hF => ?_)
      · skip
        refine AWP.seqR rfl ?_
        refine ASL.q (v := vp2) rfl rfl (Light.quiet (opMove rfl rfl)) ?_
        refine ASL.q (v := (.agg [(.int .i64 2), (.int .i64 0), (.int .i64 0)])) rfl rfl (Light.quiet (opBuildZ (zs := [(.int .i64 0), (.int .i64 0), (.int .i64 0)]) rfl plan_43 zeroA_43 ⟨.inl rfl, .inl rfl, .inl rfl, trivial⟩ rfl)) ?_
        refine ASL.q (v := (.list 3 (List.map TNode.av [(TNode.mk 2 0 0)]))) rfl rfl ((qLit (xs := [(.agg [(.int .i64 2), (.int .i64 0), (.int .i64 0)])]) rfl elemA_26 sizeA_43 zeroA_43 rfl rfl rfl rfl (by simp [cells, TNode.av]) (nlt rfl))) ?_
        obtain ⟨z41, hz41, hF⟩ := bindE hF
        refine ASL.x rfl rfl (hApp (f := TNode.av) (ws := [(TNode.mk 2 0 0)]) hS (j := 1) rfl hz41 rfl elemA_26 rfl sizeA_43 bytesA_43 zeroA_43 rfl rfl rfl (fun _ => rfl) ?_); rintro v41 G8 hS
        refine ASL.q (v := (.int .i64 p1)) rfl rfl (Light.quiet (opMove rfl rfl)) ?_
        refine ASL.q (v := (.int .i64 (W (p1 + 1)))) rfl rfl (Light.quiet (opInt rfl rfl rfl rfl)) ?_
        refine ASL.q (v := v41) rfl rfl (Light.quiet (opAssign rfl rfl)) ?_
        refine ASL.q (v := (.int .i64 (W (p1 + 1)))) rfl rfl (Light.quiet (opAssign rfl rfl)) ?_
        refine ASL.q (v := (.int .i64 0)) rfl rfl (Light.quiet (opAssign rfl rfl)) ?_
        refine ASL.done ?_
        refine AWP.ret ?_
        refine QBlock.ret ?_
        refine QThen.rt ?_
        obtain rfl := someE hF
        exact QRet.many (vs := [v41, (.int .i64 (W (p1 + 1))), (.int .i64 0)]) ⟨rfl, rfl, rfl, trivial⟩ (by simp) ⟨_, ⟨v41, rfl, rfl⟩, hS.pick [1, 2] rfl rfl⟩
      · skip
        refine AWP.seqR rfl ?_
        refine ASL.q (v := (.str p0)) rfl rfl (Light.quiet (opMove rfl rfl)) ?_
        refine ASL.q (v := (.int .i64 p1)) rfl rfl (Light.quiet (opMove rfl rfl)) ?_
        obtain ⟨a47, ha47, hF⟩ := bindE hF
        refine ASL.q (v := (.int .u8 a47)) rfl rfl (Light.quiet (kIxS ha47 rfl und_9 rfl rfl)) ?_
        refine ASL.q (v := (.bool (decide (a47 ≥ 48)))) rfl rfl (Light.quiet (opInt rfl rfl rfl rfl)) ?_
        obtain ⟨c49, hc49, hF⟩ := bndE hF
        refine ASL.q (v := (.bool c49)) rfl rfl ((Quiet.cast (Light.quiet (opMove rfl rfl)) (congrArg AV.bool hc49.symm))) ?_
        refine ASL.g (v := (.str p0)) (.bool c49) true rfl (wT _) rfl (fun hG => by have q0 := hG; subst q0; exact Light.quiet (opMove rfl rfl)) ?_
        refine ASL.g (v := (.int .i64 p1)) (.bool c49) true rfl (wT _) rfl (fun hG => by have q0 := hG; subst q0; exact Light.quiet (opMove rfl rfl)) ?_
        obtain ⟨a52, ha52, hF⟩ := bindE hF
        refine ASL.g (v := (.int .u8 a52)) (.bool c49) true rfl (wT _) rfl (fun hG => by have q0 := hG; subst q0; exact Light.quiet (kIxS (whenE ha52) rfl und_9 rfl rfl)) ?_
        refine ASL.g (v := (.int .i64 (IntKind.i64.wrap a52))) (.bool c49) true rfl (wT _) rfl (fun hG => by have q0 := hG; subst q0; exact Light.quiet (opConv rfl rfl und_5 und_3 rfl)) ?_
        refine ASL.g (v := (.bool (decide (((IntKind.i64.wrap a52)) < 51)))) (.bool c49) true rfl (wT _) rfl (fun hG => by have q0 := hG; subst q0; exact Light.quiet (opInt rfl rfl rfl rfl)) ?_
        refine ASL.q (v := (.bool (c49 && (decide (((IntKind.i64.wrap a52)) < 51))))) rfl rfl (Light.quiet (opPick (b := c49) rfl rfl (by cases c49 <;> rfl))) ?_
        refine ASL.q (v := (.bool (c49 && (decide (((IntKind.i64.wrap a52)) < 51))))) rfl rfl (Light.quiet (opAssign rfl rfl)) ?_
        refine ASL.done ?_
        refine AWP.ifB hF rfl (fun hc10 hF => ?_) (fun hc10 hF => ?_)
        · skip
          refine AWP.seqR rfl ?_
          refine ASL.q (v := vp2) rfl rfl (Light.quiet (opMove rfl rfl)) ?_
          refine ASL.q (v := (.str p0)) rfl rfl (Light.quiet (opMove rfl rfl)) ?_
          refine ASL.q (v := (.int .i64 p1)) rfl rfl (Light.quiet (opMove rfl rfl)) ?_
          obtain ⟨a59, ha59, hF⟩ := bindE hF
          refine ASL.q (v := (.int .u8 a59)) rfl rfl (Light.quiet (kIxS ha59 rfl und_9 rfl rfl)) ?_
          refine ASL.q (v := (.int .i64 (IntKind.i64.wrap a59))) rfl rfl (Light.quiet (opConv rfl rfl und_5 und_3 rfl)) ?_
          refine ASL.q (v := (.int .i64 (W (((IntKind.i64.wrap a59)) - 48)))) rfl rfl (Light.quiet (opInt rfl rfl rfl rfl)) ?_
          refine ASL.q (v := (.agg [(.int .i64 3), (.int .i64 (W (((IntKind.i64.wrap a59)) - 48))), (.int .i64 0)])) rfl rfl (Light.quiet (opBuildZ (zs := [(.int .i64 0), (.int .i64 0), (.int .i64 0)]) rfl plan_43 zeroA_43 ⟨.inl rfl, .inl rfl, .inl rfl, trivial⟩ rfl)) ?_
          refine ASL.q (v := (.list 3 (List.map TNode.av [(TNode.mk 3 ((W (((IntKind.i64.wrap a59)) - 48))) 0)]))) rfl rfl ((qLit (xs := [(.agg [(.int .i64 3), (.int .i64 (W (((IntKind.i64.wrap a59)) - 48))), (.int .i64 0)])]) rfl elemA_26 sizeA_43 zeroA_43 rfl rfl rfl rfl (by simp [cells, TNode.av]) (nlt rfl))) ?_
          obtain ⟨z64, hz64, hF⟩ := bindE hF
          refine ASL.x rfl rfl (hApp (f := TNode.av) (ws := [(TNode.mk 3 ((W (((IntKind.i64.wrap a59)) - 48))) 0)]) hS (j := 1) rfl hz64 rfl elemA_26 rfl sizeA_43 bytesA_43 zeroA_43 rfl rfl rfl (fun _ => rfl) ?_); rintro v64 G11 hS
          refine ASL.q (v := (.int .i64 p1)) rfl rfl (Light.quiet (opMove rfl rfl)) ?_
          refine ASL.q (v := (.int .i64 (W (p1 + 1)))) rfl rfl (Light.quiet (opInt rfl rfl rfl rfl)) ?_
          refine ASL.q (v := v64) rfl rfl (Light.quiet (opAssign rfl rfl)) ?_
          refine ASL.q (v := (.int .i64 (W (p1 + 1)))) rfl rfl (Light.quiet (opAssign rfl rfl)) ?_
          refine ASL.q (v := (.int .i64 0)) rfl rfl (Light.quiet (opAssign rfl rfl)) ?_
          refine ASL.done ?_
          refine AWP.ret ?_
          refine QBlock.ret ?_
          refine QThen.rt ?_
          obtain rfl := someE hF
          exact QRet.many (vs := [v64, (.int .i64 (W (p1 + 1))), (.int .i64 0)]) ⟨rfl, rfl, rfl, trivial⟩ (by simp) ⟨_, ⟨v64, rfl, rfl⟩, hS.pick [1, 2] rfl rfl⟩
        · skip
          refine AWP.seqR rfl ?_
          refine ASL.q (v := (.str p0)) rfl rfl (Light.quiet (opMove rfl rfl)) ?_
          refine ASL.q (v := (.int .i64 p1)) rfl rfl (Light.quiet (opMove rfl rfl)) ?_
          obtain ⟨a70, ha70, hF⟩ := bindE hF
          refine ASL.q (v := (.int .u8 a70)) rfl rfl (Light.quiet (kIxS ha70 rfl und_9 rfl rfl)) ?_
          refine ASL.q (v := (.int .i64 (spec_l8Kind a70 1))) rfl rfl ((qCall rfl rfl call_54 (spec_l8Kind_ok a70 1) rfl)) ?_
          refine ASL.q (v := (.bool (decide (((spec_l8Kind a70 1)) > 0)))) rfl rfl (Light.quiet (opInt rfl rfl rfl rfl)) ?_
          refine ASL.q (v := (.bool (decide (((spec_l8Kind a70 1)) > 0)))) rfl rfl (Light.quiet (opAssign rfl rfl)) ?_
          refine ASL.done ?_
          refine AWP.ifP hF rfl (fun hc13 hF => ?_) (fun hc13 hF => ?_)
          · skip
            refine AWP.seqR rfl ?_
            refine ASL.q (v := (.str p0)) rfl rfl (Light.quiet (opMove rfl rfl)) ?_
            refine ASL.q (v := (.int .i64 p1)) rfl rfl (Light.quiet (opMove rfl rfl)) ?_
            refine ASL.q (v := (.int .i64 (W (p1 + 1)))) rfl rfl (Light.quiet (opInt rfl rfl rfl rfl)) ?_
            refine ASL.q (v := vp2) rfl rfl (Light.quiet (opMove rfl rfl)) ?_
            obtain ⟨a78, ha78, hF⟩ := bindE hF
            refine ASL.x rfl rfl (hCallS hS [1, 0, 2] (F := [.row 3 .nil (List.map TNode.av ([])), .snap S]) rfl rfl rfl call_55 (ih_spec_l8Atom ha78) rfl rfl ?_); rintro _ _ G16 ⟨w14, rfl, rfl⟩ hS
            refine ASL.q (v := (.tup [w14, (.int .i64 a78.2.1), (.int .i64 a78.2.2)])) rfl rfl (Light.quiet (opMove rfl rfl)) ?_
            refine ASL.q (v := w14) rfl rfl (Light.quiet (opExtract rfl rfl rfl)) ?_
            refine ASL.q (v := (.int .i64 a78.2.1)) rfl rfl (Light.quiet (opExtract rfl rfl rfl)) ?_
            refine ASL.q (v := (.int .i64 a78.2.2)) rfl rfl (Light.quiet (opExtract rfl rfl rfl)) ?_
            refine ASL.q (v := w14) rfl rfl (Light.quiet (opAssign rfl rfl)) ?_
            refine ASL.q (v := (.int .i64 a78.2.1)) rfl rfl (Light.quiet (opAssign rfl rfl)) ?_
            refine ASL.q (v := (.int .i64 a78.2.2)) rfl rfl (Light.quiet (opAssign rfl rfl)) ?_
            refine ASL.done ?_
            refine AWP.seq ?_
            refine AWP.seqR rfl ?_
            refine ASL.q (v := (.int .i64 a78.2.2)) rfl rfl (Light.quiet (opMove rfl rfl)) ?_
            refine ASL.q (v := (.bool (decide (a78.2.2 = 0)))) rfl rfl (Light.quiet (opInt rfl rfl rfl rfl)) ?_
            refine ASL.done ?_
            refine AWP.ifP hF rfl (fun hc17 hF => ?_) (fun hc17 hF => ?_)
            · skip
              refine AWP.lastR rfl ?_
              refine ASL.q (v := w14) rfl rfl (Light.quiet (opMove rfl rfl)) ?_
              refine ASL.q (v := (.str p0)) rfl rfl (Light.quiet (opMove rfl rfl)) ?_
              refine ASL.q (v := (.int .i64 p1)) rfl rfl (Light.quiet (opMove rfl rfl)) ?_
              obtain ⟨a87, ha87, hF⟩ := bindE hF
              refine ASL.q (v := (.int .u8 a87)) rfl rfl (Light.quiet (kIxS ha87 rfl und_9 rfl rfl)) ?_
              refine ASL.q (v := (.int .i64 (spec_l8Kind a87 1))) rfl rfl ((qCall rfl rfl call_54 (spec_l8Kind_ok a87 1) rfl)) ?_
              refine ASL.q (v := w14) rfl rfl (Light.quiet (opMove rfl rfl)) ?_
              refine ASL.q (v := (.int .i64 (a78.1.length : Int))) rfl rfl (Light.quiet (kLen hS (j := 0) rfl rfl rfl rfl lenT_26 rfl)) ?_
              refine ASL.q (v := (.int .i64 (W (((a78.1.length : Int)) - 1)))) rfl rfl (Light.quiet (opInt rfl rfl rfl rfl)) ?_
              refine ASL.q (v := (.agg [(.int .i64 (spec_l8Kind a87 1)), (.int .i64 (W (((a78.1.length : Int)) - 1))), (.int .i64 0)])) rfl rfl (Light.quiet (opBuildZ (zs := [(.int .i64 0), (.int .i64 0), (.int .i64 0)]) rfl plan_43 zeroA_43 ⟨.inl rfl, .inl rfl, .inl rfl, trivial⟩ rfl)) ?_
              refine ASL.q (v := (.list 3 (List.map TNode.av [(TNode.mk ((spec_l8Kind a87 1)) ((W (((a78.1.length : Int)) - 1))) 0)]))) rfl rfl ((qLit (xs := [(.agg [(.int .i64 (spec_l8Kind a87 1)), (.int .i64 (W (((a78.1.length : Int)) - 1))), (.int .i64 0)])]) rfl elemA_26 sizeA_43 zeroA_43 rfl rfl rfl rfl (by simp [cells, TNode.av]) (nlt rfl))) ?_
              obtain ⟨z94, hz94, hF⟩ := bindE hF
              refine ASL.x rfl rfl (hApp (f := TNode.av) (ws := [(TNode.mk ((spec_l8Kind a87 1)) ((W (((a78.1.length : Int)) - 1))) 0)]) hS (j := 0) rfl hz94 rfl elemA_26 rfl sizeA_43 bytesA_43 zeroA_43 rfl rfl rfl (fun _ => rfl) ?_); rintro v94 G18 hS
              refine ASL.q (v := v94) rfl rfl (Light.quiet (opAssign rfl rfl)) ?_
              refine ASL.done ?_
              refine QThen.nrm ?_
              refine AWP.seqR rfl ?_
              refine ASL.q (v := v94) rfl rfl (Light.quiet (opMove rfl rfl)) ?_
              refine ASL.q (v := (.int .i64 a78.2.1)) rfl rfl (Light.quiet (opMove rfl rfl)) ?_
              refine ASL.q (v := (.int .i64 a78.2.2)) rfl rfl (Light.quiet (opMove rfl rfl)) ?_
              refine ASL.q (v := v94) rfl rfl (Light.quiet (opAssign rfl rfl)) ?_
              refine ASL.q (v := (.int .i64 a78.2.1)) rfl rfl (Light.quiet (opAssign rfl rfl)) ?_
              refine ASL.q (v := (.int .i64 a78.2.2)) rfl rfl (Light.quiet (opAssign rfl rfl)) ?_
              refine ASL.done ?_
              refine AWP.ret ?_
              refine QBlock.ret ?_
              refine QThen.rt ?_
              obtain rfl := someE hF
              exact QRet.many (vs := [v94, (.int .i64 a78.2.1), (.int .i64 a78.2.2)]) ⟨rfl, rfl, rfl, trivial⟩ (by simp) ⟨_, ⟨v94, rfl, rfl⟩, hS.pick [0, 2] rfl rfl⟩
            · skip
              refine AWP.skip ?_
              refine QThen.nrm ?_
              refine AWP.seqR rfl ?_
              refine ASL.q (v := w14) rfl rfl (Light.quiet (opMove rfl rfl)) ?_
              refine ASL.q (v := (.int .i64 a78.2.1)) rfl rfl (Light.quiet (opMove rfl rfl)) ?_
              refine ASL.q (v := (.int .i64 a78.2.2)) rfl rfl (Light.quiet (opMove rfl rfl)) ?_
              refine ASL.q (v := w14) rfl rfl (Light.quiet (opAssign rfl rfl)) ?_
              refine ASL.q (v := (.int .i64 a78.2.1)) rfl rfl (Light.quiet (opAssign rfl rfl)) ?_
              refine ASL.q (v := (.int .i64 a78.2.2)) rfl rfl (Light.quiet (opAssign rfl rfl)) ?_
              refine ASL.done ?_
              refine AWP.ret ?_
              refine QBlock.ret ?_
              refine QThen.rt ?_
              obtain rfl := someE hF
              exact QRet.many (vs := [w14, (.int .i64 a78.2.1), (.int .i64 a78.2.2)]) ⟨rfl, rfl, rfl, trivial⟩ (by simp) ⟨_, ⟨w14, rfl, rfl⟩, hS.pick [0, 2] rfl rfl⟩
          · skip
            refine AWP.seqR rfl ?_
            refine ASL.q (v := (.str p0)) rfl rfl (Light.quiet (opMove rfl rfl)) ?_
            refine ASL.q (v := (.int .i64 p1)) rfl rfl (Light.quiet (opMove rfl rfl)) ?_
            obtain ⟨a101, ha101, hF⟩ := bindE hF
            refine ASL.q (v := (.int .u8 a101)) rfl rfl (Light.quiet (kIxS ha101 rfl und_9 rfl rfl)) ?_
            refine ASL.q (v := (.bool (decide (a101 = 40)))) rfl rfl (Light.quiet (opInt rfl rfl rfl rfl)) ?_
            refine ASL.q (v := (.bool (decide (a101 = 40)))) rfl rfl (Light.quiet (opAssign rfl rfl)) ?_
            refine ASL.done ?_
            refine AWP.ifP hF rfl (fun hc20 hF => ?_) (fun hc20 hF => ?_)
            · skip
              refine AWP.seqR rfl ?_
              refine ASL.q (v := (.str p0)) rfl rfl (Light.quiet (opMove rfl rfl)) ?_
              refine ASL.q (v := (.int .i64 p1)) rfl rfl (Light.quiet (opMove rfl rfl)) ?_
              refine ASL.q (v := (.int .i64 (W (p1 + 1)))) rfl rfl (Light.quiet (opInt rfl rfl rfl rfl)) ?_
              refine ASL.q (v := vp2) rfl rfl (Light.quiet (opMove rfl rfl)) ?_
              obtain ⟨a108, ha108, hF⟩ := bindE hF
              refine ASL.x rfl rfl (hCallS hS [1, 0, 2] (F := [.row 3 .nil (List.map TNode.av ([])), .snap S]) rfl rfl rfl call_40 (ih_spec_l8Read ha108) rfl rfl ?_); rintro _ _ G23 ⟨w21, rfl, rfl⟩ hS
              refine ASL.q (v := (.tup [w21, (.int .i64 a108.2.1), (.int .i64 a108.2.2)])) rfl rfl (Light.quiet (opMove rfl rfl)) ?_
              refine ASL.q (v := w21) rfl rfl (Light.quiet (opExtract rfl rfl rfl)) ?_
              refine ASL.q (v := (.int .i64 a108.2.1)) rfl rfl (Light.quiet (opExtract rfl rfl rfl)) ?_
              refine ASL.q (v := (.int .i64 a108.2.2)) rfl rfl (Light.quiet (opExtract rfl rfl rfl)) ?_
              refine ASL.q (v := w21) rfl rfl (Light.quiet (opAssign rfl rfl)) ?_
              refine ASL.q (v := (.int .i64 a108.2.1)) rfl rfl (Light.quiet (opAssign rfl rfl)) ?_
              refine ASL.q (v := (.int .i64 a108.2.2)) rfl rfl (Light.quiet (opAssign rfl rfl)) ?_
              refine ASL.done ?_
              refine AWP.seq ?_
              refine AWP.block ?_
              refine AWP.seqR rfl ?_
              refine ASL.q (v := (.int .i64 a108.2.2)) rfl rfl (Light.quiet (opMove rfl rfl)) ?_
              refine ASL.q (v := (.bool (decide (a108.2.2 ≠ 0)))) rfl rfl (Light.quiet (opInt rfl rfl rfl rfl)) ?_
              refine ASL.q (v := (.bool (decide (a108.2.2 ≠ 0)))) rfl rfl (Light.quiet (opAssign rfl rfl)) ?_
              refine ASL.done ?_
              refine AWP.ifP hF rfl (fun hc24 hF => ?_) (fun hc24 hF => ?_)
              · skip
                refine AWP.seqR rfl ?_
                refine ASL.q (v := w21) rfl rfl (Light.quiet (opMove rfl rfl)) ?_
                refine ASL.q (v := (.int .i64 a108.2.1)) rfl rfl (Light.quiet (opMove rfl rfl)) ?_
                refine ASL.q (v := (.int .i64 a108.2.2)) rfl rfl (Light.quiet (opMove rfl rfl)) ?_
                refine ASL.q (v := w21) rfl rfl (Light.quiet (opAssign rfl rfl)) ?_
                refine ASL.q (v := (.int .i64 a108.2.1)) rfl rfl (Light.quiet (opAssign rfl rfl)) ?_
                refine ASL.q (v := (.int .i64 a108.2.2)) rfl rfl (Light.quiet (opAssign rfl rfl)) ?_
                refine ASL.done ?_
                refine AWP.ret ?_
                refine QBlock.ret ?_
                refine QThen.rt ?_
                refine QBlock.ret ?_
                refine QThen.rt ?_
                obtain rfl := someE hF
                exact QRet.many (vs := [w21, (.int .i64 a108.2.1), (.int .i64 a108.2.2)]) ⟨rfl, rfl, rfl, trivial⟩ (by simp) ⟨_, ⟨w21, rfl, rfl⟩, hS.pick [0, 2] rfl rfl⟩
              · skip
                refine AWP.seqR rfl ?_
                refine ASL.q (v := (.int .i64 a108.2.1)) rfl rfl (Light.quiet (opMove rfl rfl)) ?_
                refine ASL.q (v := (.str p0)) rfl rfl (Light.quiet (opMove rfl rfl)) ?_
                refine ASL.q (v := (.int .i64 (p0.size : Int))) rfl rfl (Light.quiet (opLenOf rfl rfl rfl lenT_9 rfl rfl)) ?_
                refine ASL.q (v := (.bool (decide (a108.2.1 ≥ ((p0.size : Int)))))) rfl rfl (Light.quiet (opInt rfl rfl rfl rfl)) ?_
                refine ASL.q (v := (.bool (decide (a108.2.1 ≥ ((p0.size : Int)))))) rfl rfl (Light.quiet (opAssign rfl rfl)) ?_
                refine ASL.done ?_
                refine AWP.ifP hF rfl (fun hc25 hF => ?_) (fun hc25 hF => ?_)
                · skip
                  refine AWP.seqR rfl ?_
                  refine ASL.q (v := w21) rfl rfl (Light.quiet (opMove rfl rfl)) ?_
                  refine ASL.q (v := (.str p0)) rfl rfl (Light.quiet (opMove rfl rfl)) ?_
                  refine ASL.q (v := (.int .i64 (p0.size : Int))) rfl rfl (Light.quiet (opLenOf rfl rfl rfl lenT_9 rfl rfl)) ?_
                  refine ASL.q (v := w21) rfl rfl (Light.quiet (opAssign rfl rfl)) ?_
                  refine ASL.q (v := (.int .i64 (p0.size : Int))) rfl rfl (Light.quiet (opAssign rfl rfl)) ?_
                  refine ASL.q (v := (.int .i64 2)) rfl rfl (Light.quiet (opAssign rfl rfl)) ?_
                  refine ASL.done ?_
                  refine AWP.ret ?_
                  refine QBlock.ret ?_
                  refine QThen.rt ?_
                  refine QBlock.ret ?_
                  refine QThen.rt ?_
                  obtain rfl := someE hF
                  exact QRet.many (vs := [w21, (.int .i64 (p0.size : Int)), (.int .i64 2)]) ⟨rfl, rfl, rfl, trivial⟩ (by simp) ⟨_, ⟨w21, rfl, rfl⟩, hS.pick [0, 2] rfl rfl⟩
                · skip
                  refine AWP.seqR rfl ?_
                  refine ASL.q (v := (.str p0)) rfl rfl (Light.quiet (opMove rfl rfl)) ?_
                  refine ASL.q (v := (.int .i64 a108.2.1)) rfl rfl (Light.quiet (opMove rfl rfl)) ?_
                  obtain ⟨a129, ha129, hF⟩ := bindE hF
                  refine ASL.q (v := (.int .u8 a129)) rfl rfl (Light.quiet (kIxS ha129 rfl und_9 rfl rfl)) ?_
                  refine ASL.q (v := (.bool (decide (a129 ≠ 41)))) rfl rfl (Light.quiet (opInt rfl rfl rfl rfl)) ?_
                  refine ASL.q (v := (.bool (decide (a129 ≠ 41)))) rfl rfl (Light.quiet (opAssign rfl rfl)) ?_
                  refine ASL.done ?_
                  refine AWP.ifP hF rfl (fun hc26 hF => ?_) (fun hc26 hF => ?_)
                  · skip
                    refine AWP.seqR rfl ?_
                    refine ASL.q (v := w21) rfl rfl (Light.quiet (opMove rfl rfl)) ?_
                    refine ASL.q (v := (.int .i64 a108.2.1)) rfl rfl (Light.quiet (opMove rfl rfl)) ?_
                    refine ASL.q (v := w21) rfl rfl (Light.quiet (opAssign rfl rfl)) ?_
                    refine ASL.q (v := (.int .i64 a108.2.1)) rfl rfl (Light.quiet (opAssign rfl rfl)) ?_
                    refine ASL.q (v := (.int .i64 3)) rfl rfl (Light.quiet (opAssign rfl rfl)) ?_
                    refine ASL.done ?_
                    refine AWP.ret ?_
                    refine QBlock.ret ?_
                    refine QThen.rt ?_
                    refine QBlock.ret ?_
                    refine QThen.rt ?_
                    obtain rfl := someE hF
                    exact QRet.many (vs := [w21, (.int .i64 a108.2.1), (.int .i64 3)]) ⟨rfl, rfl, rfl, trivial⟩ (by simp) ⟨_, ⟨w21, rfl, rfl⟩, hS.pick [0, 2] rfl rfl⟩
                  · skip
                    refine AWP.skip ?_
                    refine QBlock.nrm ?_
                    refine QThen.nrm ?_
                    refine AWP.seqR rfl ?_
                    refine ASL.q (v := w21) rfl rfl (Light.quiet (opMove rfl rfl)) ?_
                    refine ASL.q (v := (.int .i64 a108.2.1)) rfl rfl (Light.quiet (opMove rfl rfl)) ?_
                    refine ASL.q (v := (.int .i64 (W (a108.2.1 + 1)))) rfl rfl (Light.quiet (opInt rfl rfl rfl rfl)) ?_
                    refine ASL.q (v := w21) rfl rfl (Light.quiet (opAssign rfl rfl)) ?_
                    refine ASL.q (v := (.int .i64 (W (a108.2.1 + 1)))) rfl rfl (Light.quiet (opAssign rfl rfl)) ?_
                    refine ASL.q (v := (.int .i64 0)) rfl rfl (Light.quiet (opAssign rfl rfl)) ?_
                    refine ASL.done ?_
                    refine AWP.ret ?_
                    refine QBlock.ret ?_
                    refine QThen.rt ?_
                    obtain rfl := someE hF
                    exact QRet.many (vs := [w21, (.int .i64 (W (a108.2.1 + 1))), (.int .i64 0)]) ⟨rfl, rfl, rfl, trivial⟩ (by simp) ⟨_, ⟨w21, rfl, rfl⟩, hS.pick [0, 2] rfl rfl⟩
            · skip
              refine AWP.skip ?_
              refine QBlock.nrm ?_
              refine QThen.nrm ?_
              refine AWP.seqR rfl ?_
              refine ASL.q (v := vp2) rfl rfl (Light.quiet (opMove rfl rfl)) ?_
              refine ASL.q (v := (.int .i64 p1)) rfl rfl (Light.quiet (opMove rfl rfl)) ?_
              refine ASL.q (v := vp2) rfl rfl (Light.quiet (opAssign rfl rfl)) ?_
              refine ASL.q (v := (.int .i64 p1)) rfl rfl (Light.quiet (opAssign rfl rfl)) ?_
              refine ASL.q (v := (.int .i64 3)) rfl rfl (Light.quiet (opAssign rfl rfl)) ?_
              refine ASL.done ?_
              refine AWP.ret ?_
              obtain rfl := someE hF
              exact QRet.many (vs := [vp2, (.int .i64 p1), (.int .i64 3)]) ⟨rfl, rfl, rfl, trivial⟩ (by simp) ⟨_, ⟨vp2, rfl, rfl⟩, hS.pick [1, 2] rfl rfl⟩
theorem spec_l8Read.grp_ok {K : Nat} : (∀ {p0 : ByteArray} {p1 : Int} {p2 : Int} {p3 : (List TNode)} {r : ((List TNode) × Int × Int)} {vp3 : AV} , spec_l8Read K p0 p1 p2 p3 = some r → HS Try.prog 40 [(.str p0), (.int .i64 p1), (.int .i64 p2), vp3] [.row 3 vp3 (List.map TNode.av p3)] fun v L' => ∃ o0 : AV, v = .tup [o0, (.int .i64 r.2.1), (.int .i64 r.2.2)] ∧ L' = [.row 3 o0 (List.map TNode.av r.1)]) ∧ (∀ {p0 : ByteArray} {p1 : Int} {p2 : (List TNode)} {r : ((List TNode) × Int × Int)} {vp2 : AV} , spec_l8Atom K p0 p1 p2 = some r → HS Try.prog 55 [(.str p0), (.int .i64 p1), vp2] [.row 3 vp2 (List.map TNode.av p2)] fun v L' => ∃ o0 : AV, v = .tup [o0, (.int .i64 r.2.1), (.int .i64 r.2.2)] ∧ L' = [.row 3 o0 (List.map TNode.av r.1)]) := by
  induction K with
  | zero => exact ⟨(by intros; rename_i h; cases h), (by intros; rename_i h; cases h)⟩
  | succ K ih => exact ⟨(by intros; rename_i h; exact spec_l8Read.body_ok ih.1 ih.2 h), (by intros; rename_i h; exact spec_l8Atom.body_ok ih.1 ih.2 h)⟩

theorem spec_l8Read_ok {K : Nat} : (∀ {p0 : ByteArray} {p1 : Int} {p2 : Int} {p3 : (List TNode)} {r : ((List TNode) × Int × Int)} {vp3 : AV} , spec_l8Read K p0 p1 p2 p3 = some r → HS Try.prog 40 [(.str p0), (.int .i64 p1), (.int .i64 p2), vp3] [.row 3 vp3 (List.map TNode.av p3)] fun v L' => ∃ o0 : AV, v = .tup [o0, (.int .i64 r.2.1), (.int .i64 r.2.2)] ∧ L' = [.row 3 o0 (List.map TNode.av r.1)]) := spec_l8Read.grp_ok.1

theorem spec_l8Atom_ok {K : Nat} : (∀ {p0 : ByteArray} {p1 : Int} {p2 : (List TNode)} {r : ((List TNode) × Int × Int)} {vp2 : AV} , spec_l8Atom K p0 p1 p2 = some r → HS Try.prog 55 [(.str p0), (.int .i64 p1), vp2] [.row 3 vp2 (List.map TNode.av p2)] fun v L' => ∃ o0 : AV, v = .tup [o0, (.int .i64 r.2.1), (.int .i64 r.2.2)] ∧ L' = [.row 3 o0 (List.map TNode.av r.1)]) := spec_l8Read.grp_ok.2

set_option maxRecDepth 10000 in
theorem spec_LtlParse_ok {K : Nat} {p0 : ByteArray} {r : ((List TNode) × Int × Int)} (hF : spec_LtlParse K p0 = some r) : HS Try.prog 22 [(.str p0)] [] fun v L' => ∃ o0 : AV, v = .tup [o0, (.int .i64 r.2.1), (.int .i64 r.2.2)] ∧ L' = [.row 3 o0 (List.map TNode.av r.1)] := by
  intro H S hS
  refine HC.enter Try.func22 rfl Try.ntmps22 (by simp) ?_
  simp only [List.cons_append, List.nil_append] at hS
  unfold spec_LtlParse at hF
  refine AWP.seqR rfl ?_
  have hS := hNil (s := 3) (f := TNode.av) hS
  refine ASL.q (v := .nil) rfl rfl (Light.quiet (opAssign rfl rfl)) ?_
  refine ASL.q (v := (.int .i64 0)) rfl rfl (Light.quiet (opAssign rfl rfl)) ?_
  refine ASL.q (v := (.int .i64 0)) rfl rfl (Light.quiet (opAssign rfl rfl)) ?_
  refine ASL.done ?_
  refine AWP.seq ?_
  refine AWP.seqR rfl ?_
  refine ASL.q (v := (.str p0)) rfl rfl (Light.quiet (opMove rfl rfl)) ?_
  refine ASL.q (v := (.int .i64 (p0.size : Int))) rfl rfl (Light.quiet (opLenOf rfl rfl rfl lenT_9 rfl rfl)) ?_
  refine ASL.q (v := (.bool (decide (((p0.size : Int)) > 200)))) rfl rfl (Light.quiet (opInt rfl rfl rfl rfl)) ?_
  refine ASL.done ?_
  refine AWP.ifP hF rfl (fun hc2 hF => ?_) (fun hc2 hF => ?_)
  · skip
    refine AWP.seqR rfl ?_
    refine ASL.x rfl rfl (hLit (f := TNode.av) (zs := []) hS rfl rfl elemA_26 sizeA_43 zeroA_43 rfl rfl rfl rfl (by simp [cells, TNode.av]) (nlt rfl) ?_); rintro v11 G3 hK hS
    refine ASL.q (v := v11) rfl rfl (Light.quiet (opAssign rfl rfl)) ?_
    refine ASL.q (v := (.int .i64 0)) rfl rfl (Light.quiet (opAssign rfl rfl)) ?_
    refine ASL.q (v := (.int .i64 1)) rfl rfl (Light.quiet (opAssign rfl rfl)) ?_
    refine ASL.done ?_
    refine AWP.ret ?_
    refine QThen.rt ?_
    obtain rfl := someE hF
    exact QRet.many (vs := [v11, (.int .i64 0), (.int .i64 1)]) ⟨rfl, rfl, rfl, trivial⟩ (by simp) ⟨_, ⟨v11, rfl, rfl⟩, hS.pick [0, 2] rfl rfl⟩
  · skip
    refine AWP.skip ?_
    refine QThen.nrm ?_
    refine AWP.seqR rfl ?_
    refine ASL.q (v := (.str p0)) rfl rfl (Light.quiet (opMove rfl rfl)) ?_
    refine ASL.x rfl rfl (hLit (f := TNode.av) (zs := []) hS rfl rfl elemA_26 sizeA_43 zeroA_43 rfl rfl rfl rfl (by simp [cells, TNode.av]) (nlt rfl) ?_); rintro v14 G5 hK hS
    obtain ⟨a15, ha15, hF⟩ := bindE hF
    refine ASL.x rfl rfl (hCallS hS [0, 1, 2] (F := [.row 3 .nil (List.map TNode.av ([])), .snap S]) rfl rfl rfl call_40 (spec_l8Read_ok ha15) rfl rfl ?_); rintro _ _ G9 ⟨w7, rfl, rfl⟩ hS
    refine ASL.q (v := (.tup [w7, (.int .i64 a15.2.1), (.int .i64 a15.2.2)])) rfl rfl (Light.quiet (opMove rfl rfl)) ?_
    refine ASL.q (v := w7) rfl rfl (Light.quiet (opExtract rfl rfl rfl)) ?_
    refine ASL.q (v := (.int .i64 a15.2.1)) rfl rfl (Light.quiet (opExtract rfl rfl rfl)) ?_
    refine ASL.q (v := (.int .i64 a15.2.2)) rfl rfl (Light.quiet (opExtract rfl rfl rfl)) ?_
    refine ASL.q (v := w7) rfl rfl (Light.quiet (opAssign rfl rfl)) ?_
    refine ASL.q (v := (.int .i64 a15.2.1)) rfl rfl (Light.quiet (opAssign rfl rfl)) ?_
    refine ASL.q (v := (.int .i64 a15.2.2)) rfl rfl (Light.quiet (opAssign rfl rfl)) ?_
    refine ASL.done ?_
    refine AWP.seq ?_
    refine AWP.block ?_
    refine AWP.seqR rfl ?_
    refine ASL.q (v := (.int .i64 a15.2.2)) rfl rfl (Light.quiet (opMove rfl rfl)) ?_
    refine ASL.q (v := (.bool (decide (a15.2.2 ≠ 0)))) rfl rfl (Light.quiet (opInt rfl rfl rfl rfl)) ?_
    refine ASL.q (v := (.bool (decide (a15.2.2 ≠ 0)))) rfl rfl (Light.quiet (opAssign rfl rfl)) ?_
    refine ASL.done ?_
    refine AWP.ifP hF rfl (fun hc10 hF => ?_) (fun hc10 hF => ?_)
    · skip
      refine AWP.seqR rfl ?_
      refine ASL.x rfl rfl (hLit (f := TNode.av) (zs := []) hS rfl rfl elemA_26 sizeA_43 zeroA_43 rfl rfl rfl rfl (by simp [cells, TNode.av]) (nlt rfl) ?_); rintro v22 G11 hK hS
      refine ASL.q (v := (.int .i64 a15.2.1)) rfl rfl (Light.quiet (opMove rfl rfl)) ?_
      refine ASL.q (v := (.int .i64 a15.2.2)) rfl rfl (Light.quiet (opMove rfl rfl)) ?_
      refine ASL.q (v := v22) rfl rfl (Light.quiet (opAssign rfl rfl)) ?_
      refine ASL.q (v := (.int .i64 a15.2.1)) rfl rfl (Light.quiet (opAssign rfl rfl)) ?_
      refine ASL.q (v := (.int .i64 a15.2.2)) rfl rfl (Light.quiet (opAssign rfl rfl)) ?_
      refine ASL.done ?_
      refine AWP.ret ?_
      refine QBlock.ret ?_
      refine QThen.rt ?_
      obtain rfl := someE hF
      exact QRet.many (vs := [v22, (.int .i64 a15.2.1), (.int .i64 a15.2.2)]) ⟨rfl, rfl, rfl, trivial⟩ (by simp) ⟨_, ⟨v22, rfl, rfl⟩, hS.pick [0, 3] rfl rfl⟩
    · skip
      refine AWP.seqR rfl ?_
      refine ASL.q (v := (.int .i64 a15.2.1)) rfl rfl (Light.quiet (opMove rfl rfl)) ?_
      refine ASL.q (v := (.str p0)) rfl rfl (Light.quiet (opMove rfl rfl)) ?_
      refine ASL.q (v := (.int .i64 (p0.size : Int))) rfl rfl (Light.quiet (opLenOf rfl rfl rfl lenT_9 rfl rfl)) ?_
      refine ASL.q (v := (.bool (decide (a15.2.1 < ((p0.size : Int)))))) rfl rfl (Light.quiet (opInt rfl rfl rfl rfl)) ?_
      refine ASL.q (v := (.bool (decide (a15.2.1 < ((p0.size : Int)))))) rfl rfl (Light.quiet (opAssign rfl rfl)) ?_
      refine ASL.done ?_
      refine AWP.ifP hF rfl (fun hc13 hF => ?_) (fun hc13 hF => ?_)
      · skip
        refine AWP.seqR rfl ?_
        refine ASL.x rfl rfl (hLit (f := TNode.av) (zs := []) hS rfl rfl elemA_26 sizeA_43 zeroA_43 rfl rfl rfl rfl (by simp [cells, TNode.av]) (nlt rfl) ?_); rintro v30 G14 hK hS
        refine ASL.q (v := (.int .i64 a15.2.1)) rfl rfl (Light.quiet (opMove rfl rfl)) ?_
        refine ASL.q (v := v30) rfl rfl (Light.quiet (opAssign rfl rfl)) ?_
        refine ASL.q (v := (.int .i64 a15.2.1)) rfl rfl (Light.quiet (opAssign rfl rfl)) ?_
        refine ASL.q (v := (.int .i64 5)) rfl rfl (Light.quiet (opAssign rfl rfl)) ?_
        refine ASL.done ?_
        refine AWP.ret ?_
        refine QBlock.ret ?_
        refine QThen.rt ?_
        obtain rfl := someE hF
        exact QRet.many (vs := [v30, (.int .i64 a15.2.1), (.int .i64 5)]) ⟨rfl, rfl, rfl, trivial⟩ (by simp) ⟨_, ⟨v30, rfl, rfl⟩, hS.pick [0, 3] rfl rfl⟩
      · skip
        refine AWP.seqR rfl ?_
        refine ASL.q (v := w7) rfl rfl (Light.quiet (opMove rfl rfl)) ?_
        refine ASL.q (v := (.int .i64 (a15.1.length : Int))) rfl rfl (Light.quiet (kLen hS (j := 0) rfl rfl rfl rfl lenT_26 rfl)) ?_
        refine ASL.q (v := (.bool (decide (((a15.1.length : Int)) > 31)))) rfl rfl (Light.quiet (opInt rfl rfl rfl rfl)) ?_
        refine ASL.q (v := (.bool (decide (((a15.1.length : Int)) > 31)))) rfl rfl (Light.quiet (opAssign rfl rfl)) ?_
        refine ASL.done ?_
        refine AWP.ifP hF rfl (fun hc16 hF => ?_) (fun hc16 hF => ?_)
        · skip
          refine AWP.seqR rfl ?_
          refine ASL.x rfl rfl (hLit (f := TNode.av) (zs := []) hS rfl rfl elemA_26 sizeA_43 zeroA_43 rfl rfl rfl rfl (by simp [cells, TNode.av]) (nlt rfl) ?_); rintro v36 G17 hK hS
          refine ASL.q (v := v36) rfl rfl (Light.quiet (opAssign rfl rfl)) ?_
          refine ASL.q (v := (.int .i64 0)) rfl rfl (Light.quiet (opAssign rfl rfl)) ?_
          refine ASL.q (v := (.int .i64 4)) rfl rfl (Light.quiet (opAssign rfl rfl)) ?_
          refine ASL.done ?_
          refine AWP.ret ?_
          refine QBlock.ret ?_
          refine QThen.rt ?_
          obtain rfl := someE hF
          exact QRet.many (vs := [v36, (.int .i64 0), (.int .i64 4)]) ⟨rfl, rfl, rfl, trivial⟩ (by simp) ⟨_, ⟨v36, rfl, rfl⟩, hS.pick [0, 3] rfl rfl⟩
        · skip
          refine AWP.skip ?_
          refine QBlock.nrm ?_
          refine QThen.nrm ?_
          refine AWP.seqR rfl ?_
          refine ASL.q (v := w7) rfl rfl (Light.quiet (opMove rfl rfl)) ?_
          refine ASL.q (v := (.str p0)) rfl rfl (Light.quiet (opMove rfl rfl)) ?_
          refine ASL.q (v := (.int .i64 (p0.size : Int))) rfl rfl (Light.quiet (opLenOf rfl rfl rfl lenT_9 rfl rfl)) ?_
          refine ASL.q (v := w7) rfl rfl (Light.quiet (opAssign rfl rfl)) ?_
          refine ASL.q (v := (.int .i64 (p0.size : Int))) rfl rfl (Light.quiet (opAssign rfl rfl)) ?_
          refine ASL.q (v := (.int .i64 0)) rfl rfl (Light.quiet (opAssign rfl rfl)) ?_
          refine ASL.done ?_
          refine AWP.ret ?_
          obtain rfl := someE hF
          exact QRet.many (vs := [w7, (.int .i64 (p0.size : Int)), (.int .i64 0)]) ⟨rfl, rfl, rfl, trivial⟩ (by simp) ⟨_, ⟨w7, rfl, rfl⟩, hS.pick [0, 2] rfl rfl⟩

set_option maxRecDepth 10000 in
theorem slices_Clip_impl_Node_impl_Node_ok {p0 : (List TNode)} {r : (List TNode)} {vp0 : AV} (hF : slices_Clip_impl_Node_impl_Node p0 = some r) : HS Try.prog 56 [vp0] [.row 3 vp0 (List.map TNode.av p0)] fun v L' => ∃ o0 : AV, v = o0 ∧ L' = [.row 3 o0 (List.map TNode.av r)] := by
  intro H S hS
  refine HC.enter Try.func56 rfl Try.ntmps56 (by simp) ?_
  simp only [List.cons_append, List.nil_append] at hS
  unfold slices_Clip_impl_Node_impl_Node at hF
  refine AWP.seqR rfl ?_
  have hS := hNil (s := 3) (f := TNode.av) hS
  refine ASL.q (v := .nil) rfl rfl (Light.quiet (opAssign rfl rfl)) ?_
  refine ASL.done ?_
  refine AWP.seqR rfl ?_
  refine ASL.q (v := vp0) rfl rfl (Light.quiet (opMove rfl rfl)) ?_
  refine ASL.q (v := vp0) rfl rfl (Light.quiet (opMove rfl rfl)) ?_
  refine ASL.q (v := (.int .i64 (p0.length : Int))) rfl rfl (Light.quiet (kLen hS (j := 1) rfl rfl rfl rfl lenT_26 rfl)) ?_
  refine ASL.q (v := vp0) rfl rfl (Light.quiet (opMove rfl rfl)) ?_
  refine ASL.q (v := (.int .i64 (p0.length : Int))) rfl rfl (Light.quiet (kLen hS (j := 1) rfl rfl rfl rfl lenT_26 rfl)) ?_
  obtain ⟨a8, ha8, hF⟩ := bindE hF
  refine ASL.x rfl rfl (hCutO (f := TNode.av) hS (j := 1) rfl ha8 rfl elemA_26 sizeA_43 rfl (.inl ⟨rfl, rfl⟩) (.inr ⟨_, _, rfl, rfl, .inr ⟨_, _, rfl, rfl⟩⟩) ?_); rintro v8 G3 hS
  refine ASL.q (v := v8) rfl rfl (Light.quiet (opAssign rfl rfl)) ?_
  refine ASL.done ?_
  refine AWP.ret ?_
  obtain rfl := someE hF
  exact QRet.sole (v := v8) ⟨rfl, trivial⟩ ⟨_, ⟨v8, rfl, rfl⟩, hS.pick [1, 2] rfl rfl⟩

set_option maxRecDepth 10000 in
theorem impl_parsed_ok {p0 : ByteArray} {g1 : (Treader → Option (Treader))} {r : ((List TNode) × Int × Int)} {k1 : Nat} (hcal1 : callable Try.prog k1 = true) (hg1 : ∀ q0 y bq0 wq0_list, g1 q0 = some y → HS Try.prog k1 [(.ptr bq0 0)] [.cell bq0 [(.str q0.s), (.int .i64 q0.at_), (.int .i64 q0.code), wq0_list, .undef], .row 3 wq0_list (List.map TNode.av q0.list)] fun v L' => ∃ uq0_list : AV, v = .tup [] ∧ L' = [.cell bq0 [(.str y.s), (.int .i64 y.at_), (.int .i64 y.code), uq0_list, .undef], .row 3 uq0_list (List.map TNode.av y.list)]) (hF : impl_parsed p0 g1 = some r) : HS Try.prog 41 [(.str p0), (.fn (.func k1) [] [])] [] fun v L' => ∃ o0 : AV, v = .tup [o0, (.int .i64 r.2.1), (.int .i64 r.2.2)] ∧ L' = [.row 3 o0 (List.map TNode.av r.1)] := by
  intro H S hS
  refine HC.enter Try.func41 rfl Try.ntmps41 (by simp) ?_
  simp only [List.cons_append, List.nil_append] at hS
  unfold impl_parsed at hF
  refine AWP.seqR rfl ?_
  have hS := hNil (s := 3) (f := TNode.av) hS
  refine ASL.q (v := .nil) rfl rfl (Light.quiet (opAssign rfl rfl)) ?_
  refine ASL.q (v := (.int .i64 0)) rfl rfl (Light.quiet (opAssign rfl rfl)) ?_
  refine ASL.q (v := (.int .i64 0)) rfl rfl (Light.quiet (opAssign rfl rfl)) ?_
  refine ASL.done ?_
  refine AWP.seq ?_
  refine AWP.seqR rfl ?_
  refine ASL.q (v := (.str p0)) rfl rfl (Light.quiet (opMove rfl rfl)) ?_
  refine ASL.q (v := (.int .i64 (p0.size : Int))) rfl rfl (Light.quiet (opLenOf rfl rfl rfl lenT_9 rfl rfl)) ?_
  refine ASL.q (v := (.bool (decide (((p0.size : Int)) > 200)))) rfl rfl (Light.quiet (opInt rfl rfl rfl rfl)) ?_
  refine ASL.done ?_
  refine AWP.ifP hF rfl (fun hc2 hF => ?_) (fun hc2 hF => ?_)
  · skip
    refine AWP.seqR rfl ?_
    have hS := hNil (s := 3) (f := TNode.av) hS
    refine ASL.q (v := .nil) rfl rfl (Light.quiet (opAssign rfl rfl)) ?_
    refine ASL.q (v := (.int .i64 0)) rfl rfl (Light.quiet (opAssign rfl rfl)) ?_
    refine ASL.q (v := (.int .i64 1)) rfl rfl (Light.quiet (opAssign rfl rfl)) ?_
    refine ASL.done ?_
    refine AWP.ret ?_
    refine QThen.rt ?_
    obtain rfl := someE hF
    exact QRet.many (vs := [.nil, (.int .i64 0), (.int .i64 1)]) ⟨rfl, rfl, rfl, trivial⟩ (by simp) ⟨_, ⟨.nil, rfl, rfl⟩, hS.pick [0, 2] rfl rfl⟩
  · skip
    refine AWP.skip ?_
    refine QThen.nrm ?_
    refine AWP.seqR rfl ?_
    refine ASL.q (v := (.str p0)) rfl rfl (Light.quiet (opMove rfl rfl)) ?_
    refine ASL.q (v := (.agg [(.str p0), (.int .i64 0), (.int .i64 0), .nil, .undef])) rfl rfl (Light.quiet (opBuildZ (zs := [(.str ⟨#[]⟩), (.int .i64 0), (.int .i64 0), .nil, .undef]) rfl plan_56 zeroA_56 ⟨.inl rfl, .inl rfl, .inl rfl, .inl rfl, .inl rfl, trivial⟩ rfl)) ?_
    have hS := hNil (s := 3) (f := TNode.av) hS
    refine ASL.x rfl rfl (hBox hS rfl rfl rfl ?_); rintro b13 G4 hK hS
    refine ASL.q (v := (.ptr b13 0)) rfl rfl (Light.quiet (opAssign rfl rfl)) ?_
    refine ASL.done ?_
    refine AWP.seqR rfl ?_
    refine ASL.q (v := (.fn (.func k1) [] [])) rfl rfl (Light.quiet (opMove rfl rfl)) ?_
    refine ASL.q (v := (.ptr b13 0)) rfl rfl (Light.quiet (opMove rfl rfl)) ?_
    obtain ⟨a16, ha16, hF⟩ := bindE hF
    refine ASL.x rfl rfl (hCallS hS [0, 1, 2, 3] (F := [.row 3 .nil (List.map TNode.av ([])), .snap S]) rfl rfl rfl hcal1 ((hg1 _ _ _ _) ha16) rfl rfl ?_); rintro _ _ G9 ⟨w7, rfl, rfl⟩ hS
    refine ASL.done ?_
    refine AWP.seq ?_
    refine AWP.block ?_
    refine AWP.seqR rfl ?_
    refine ASL.q (v := (.ptr b13 0)) rfl rfl (Light.quiet (opMove rfl rfl)) ?_
    refine ASL.q (v := (.ptr b13 0)) rfl rfl (Light.quiet (opNil rfl rfl rfl)) ?_
    refine ASL.q (v := (.ptr b13 2)) rfl rfl (Light.quiet (opFieldAddr rfl fieldA_56_2 rfl rfl)) ?_
    refine ASL.q (v := (.int .i64 a16.code)) rfl rfl (Light.quiet (kAt hS (j := 0) rfl rfl aggA_3 rfl rfl)) ?_
    refine ASL.q (v := (.bool (decide (a16.code ≠ 0)))) rfl rfl (Light.quiet (opInt rfl rfl rfl rfl)) ?_
    refine ASL.q (v := (.bool (decide (a16.code ≠ 0)))) rfl rfl (Light.quiet (opAssign rfl rfl)) ?_
    refine ASL.done ?_
    refine AWP.ifP hF rfl (fun hc10 hF => ?_) (fun hc10 hF => ?_)
    · skip
      refine AWP.seqD [(0, false), (1, false), (2, false), (3, false), (4, false), (5, false), (6, false), (7, false), (8, false), (9, false), (10, false)] mixed (by kernel_rfl) rfl ?_
      refine ARL.q0 (v := (.ptr b13 0)) rfl rfl (Light.quiet (opMove rfl rfl)) ?_
      refine ARL.q0 (v := (.ptr b13 0)) rfl rfl (Light.quiet (opNil rfl rfl rfl)) ?_
      refine ARL.q0 (v := (.ptr b13 1)) rfl rfl (Light.quiet (opFieldAddr rfl fieldA_56_1 rfl rfl)) ?_
      refine ARL.q (v := (.int .i64 a16.at_)) rfl rfl (hS.aliveC (k := 0) rfl) (Light.quiet (kAt hS (j := 0) rfl rfl aggA_3 rfl rfl)) ?_
      refine ARL.q0 (v := (.ptr b13 0)) rfl rfl (Light.quiet (opMove rfl rfl)) ?_
      refine ARL.q0 (v := (.ptr b13 0)) rfl rfl (Light.quiet (opNil rfl rfl rfl)) ?_
      refine ARL.q0 (v := (.ptr b13 2)) rfl rfl (Light.quiet (opFieldAddr rfl fieldA_56_2 rfl rfl)) ?_
      refine ARL.q (v := (.int .i64 a16.code)) rfl rfl (hS.aliveC (k := 0) rfl) (Light.quiet (kAt hS (j := 0) rfl rfl aggA_3 rfl rfl)) ?_
      have hS := hNil (s := 3) (f := TNode.av) hS
      refine ARL.q0 (v := .nil) rfl rfl (Light.quiet (opAssign rfl rfl)) ?_
      refine ARL.q0 (v := (.int .i64 a16.at_)) rfl rfl (Light.quiet (opAssign rfl rfl)) ?_
      refine ARL.q0 (v := (.int .i64 a16.code)) rfl rfl (Light.quiet (opAssign rfl rfl)) ?_
      refine ARL.done ?_
      refine AWP.ret ?_
      refine QBlock.ret ?_
      refine QThen.rt ?_
      obtain rfl := someE hF
      exact QRet.many (vs := [.nil, (.int .i64 a16.at_), (.int .i64 a16.code)]) ⟨rfl, rfl, rfl, trivial⟩ (by simp) ⟨_, ⟨.nil, rfl, rfl⟩, hS.pick [0, 4] rfl rfl⟩
    · skip
      refine AWP.seqR rfl ?_
      refine ASL.q (v := (.ptr b13 0)) rfl rfl (Light.quiet (opMove rfl rfl)) ?_
      refine ASL.q (v := (.ptr b13 0)) rfl rfl (Light.quiet (opNil rfl rfl rfl)) ?_
      refine ASL.q (v := (.ptr b13 1)) rfl rfl (Light.quiet (opFieldAddr rfl fieldA_56_1 rfl rfl)) ?_
      refine ASL.q (v := (.int .i64 a16.at_)) rfl rfl (Light.quiet (kAt hS (j := 0) rfl rfl aggA_3 rfl rfl)) ?_
      refine ASL.q (v := (.str p0)) rfl rfl (Light.quiet (opMove rfl rfl)) ?_
      refine ASL.q (v := (.int .i64 (p0.size : Int))) rfl rfl (Light.quiet (opLenOf rfl rfl rfl lenT_9 rfl rfl)) ?_
      refine ASL.q (v := (.bool (decide (a16.at_ < ((p0.size : Int)))))) rfl rfl (Light.quiet (opInt rfl rfl rfl rfl)) ?_
      refine ASL.q (v := (.bool (decide (a16.at_ < ((p0.size : Int)))))) rfl rfl (Light.quiet (opAssign rfl rfl)) ?_
      refine ASL.done ?_
      refine AWP.ifP hF rfl (fun hc12 hF => ?_) (fun hc12 hF => ?_)
      · skip
        refine AWP.seqD [(0, false), (1, false), (2, false), (3, false), (4, false), (5, false), (6, false)] mixed (by kernel_rfl) rfl ?_
        refine ARL.q0 (v := (.ptr b13 0)) rfl rfl (Light.quiet (opMove rfl rfl)) ?_
        refine ARL.q0 (v := (.ptr b13 0)) rfl rfl (Light.quiet (opNil rfl rfl rfl)) ?_
        refine ARL.q0 (v := (.ptr b13 1)) rfl rfl (Light.quiet (opFieldAddr rfl fieldA_56_1 rfl rfl)) ?_
        refine ARL.q (v := (.int .i64 a16.at_)) rfl rfl (hS.aliveC (k := 0) rfl) (Light.quiet (kAt hS (j := 0) rfl rfl aggA_3 rfl rfl)) ?_
        have hS := hNil (s := 3) (f := TNode.av) hS
        refine ARL.q0 (v := .nil) rfl rfl (Light.quiet (opAssign rfl rfl)) ?_
        refine ARL.q0 (v := (.int .i64 a16.at_)) rfl rfl (Light.quiet (opAssign rfl rfl)) ?_
        refine ARL.q0 (v := (.int .i64 5)) rfl rfl (Light.quiet (opAssign rfl rfl)) ?_
        refine ARL.done ?_
        refine AWP.ret ?_
        refine QBlock.ret ?_
        refine QThen.rt ?_
        obtain rfl := someE hF
        exact QRet.many (vs := [.nil, (.int .i64 a16.at_), (.int .i64 5)]) ⟨rfl, rfl, rfl, trivial⟩ (by simp) ⟨_, ⟨.nil, rfl, rfl⟩, hS.pick [0, 4] rfl rfl⟩
      · skip
        refine AWP.seqR rfl ?_
        refine ASL.q (v := (.ptr b13 0)) rfl rfl (Light.quiet (opMove rfl rfl)) ?_
        refine ASL.q (v := (.ptr b13 0)) rfl rfl (Light.quiet (opNil rfl rfl rfl)) ?_
        refine ASL.q (v := (.ptr b13 3)) rfl rfl (Light.quiet (opFieldAddr rfl fieldA_56_3 rfl rfl)) ?_
        refine ASL.q (v := w7) rfl rfl (Light.quiet (kAt hS (j := 0) rfl rfl aggA_26 rfl rfl)) ?_
        refine ASL.q (v := (.int .i64 (a16.list.length : Int))) rfl rfl (Light.quiet (kLen hS (j := 1) rfl rfl rfl rfl lenT_26 rfl)) ?_
        refine ASL.q (v := (.bool (decide (((a16.list.length : Int)) > 31)))) rfl rfl (Light.quiet (opInt rfl rfl rfl rfl)) ?_
        refine ASL.q (v := (.bool (decide (((a16.list.length : Int)) > 31)))) rfl rfl (Light.quiet (opAssign rfl rfl)) ?_
        refine ASL.done ?_
        refine AWP.ifP hF rfl (fun hc14 hF => ?_) (fun hc14 hF => ?_)
        · skip
          refine AWP.seqR rfl ?_
          have hS := hNil (s := 3) (f := TNode.av) hS
          refine ASL.q (v := .nil) rfl rfl (Light.quiet (opAssign rfl rfl)) ?_
          refine ASL.q (v := (.int .i64 0)) rfl rfl (Light.quiet (opAssign rfl rfl)) ?_
          refine ASL.q (v := (.int .i64 4)) rfl rfl (Light.quiet (opAssign rfl rfl)) ?_
          refine ASL.done ?_
          refine AWP.ret ?_
          refine QBlock.ret ?_
          refine QThen.rt ?_
          obtain rfl := someE hF
          exact QRet.many (vs := [.nil, (.int .i64 0), (.int .i64 4)]) ⟨rfl, rfl, rfl, trivial⟩ (by simp) ⟨_, ⟨.nil, rfl, rfl⟩, hS.pick [0, 4] rfl rfl⟩
        · skip
          refine AWP.skip ?_
          refine QBlock.nrm ?_
          refine QThen.nrm ?_
          refine AWP.seqR rfl ?_
          refine ASL.q (v := (.ptr b13 0)) rfl rfl (Light.quiet (opMove rfl rfl)) ?_
          refine ASL.q (v := (.ptr b13 0)) rfl rfl (Light.quiet (opNil rfl rfl rfl)) ?_
          refine ASL.q (v := (.ptr b13 3)) rfl rfl (Light.quiet (opFieldAddr rfl fieldA_56_3 rfl rfl)) ?_
          refine ASL.q (v := w7) rfl rfl (Light.quiet (kAt hS (j := 0) rfl rfl aggA_26 rfl rfl)) ?_
          obtain ⟨a54, ha54, hF⟩ := bindE hF
          refine ASL.x rfl rfl (hCallS hS [1, 0, 2, 3] (F := [.cell b13 [(.str a16.s), (.int .i64 a16.at_), (.int .i64 a16.code), w7, .undef], .row 3 .nil (List.map TNode.av ([])), .snap S]) rfl rfl rfl call_56 (slices_Clip_impl_Node_impl_Node_ok ha54) rfl rfl ?_); rintro w16 _ G18 ⟨_, rfl, rfl⟩ hS
          refine ASL.q (v := (.str p0)) rfl rfl (Light.quiet (opMove rfl rfl)) ?_
          refine ASL.q (v := (.int .i64 (p0.size : Int))) rfl rfl (Light.quiet (opLenOf rfl rfl rfl lenT_9 rfl rfl)) ?_
          refine ASL.q (v := w16) rfl rfl (Light.quiet (opAssign rfl rfl)) ?_
          refine ASL.q (v := (.int .i64 (p0.size : Int))) rfl rfl (Light.quiet (opAssign rfl rfl)) ?_
          refine ASL.q (v := (.int .i64 0)) rfl rfl (Light.quiet (opAssign rfl rfl)) ?_
          refine ASL.done ?_
          refine AWP.ret ?_
          obtain rfl := someE hF
          exact QRet.many (vs := [w16, (.int .i64 (p0.size : Int)), (.int .i64 0)]) ⟨rfl, rfl, rfl, trivial⟩ (by simp) ⟨_, ⟨w16, rfl, rfl⟩, hS.pick [0, 3] rfl rfl⟩

set_option maxRecDepth 10000 in
theorem impl_reader_peek_ok {p0 : Treader} {r : Int} (hF : impl_reader_peek p0 = some r) : PC Try.prog 68 [(.rptr [(.str p0.s), (.int .i64 p0.at_), (.int .i64 p0.code), (.list 3 (List.map TNode.av p0.list)), .undef])] fun v => v = (.int .u8 r) := by
  refine PC.enter Try.func68 rfl Try.ntmps68 (by simp) ?_
  have hS := Sep.void; unfold impl_reader_peek at hF
  refine AWP.seqR rfl ?_
  refine ASL.q (v := (.int .u8 0)) rfl rfl (Light.quiet (opAssign rfl rfl)) ?_
  refine ASL.done ?_
  refine AWP.seq ?_
  refine AWP.seqD [(0, false), (1, false), (2, false), (3, false), (4, false), (5, false), (6, false), (7, false), (8, false), (9, false), (10, false), (11, false), (12, false), (13, false), (14, false), (15, false), (16, false)] mixed (by kernel_rfl) rfl ?_
  refine ARL.q0 (v := (.rptr [(.str p0.s), (.int .i64 p0.at_), (.int .i64 p0.code), (.list 3 (List.map TNode.av p0.list)), .undef])) rfl rfl (Light.quiet (opMove rfl rfl)) ?_
  refine ARL.q0 (v := (.rptr [(.str p0.s), (.int .i64 p0.at_), (.int .i64 p0.code), (.list 3 (List.map TNode.av p0.list)), .undef])) rfl rfl (Light.quiet (opNil rfl rfl rfl)) ?_
  refine ARL.q0 (v := (.rptr [(.int .i64 p0.code), (.list 3 (List.map TNode.av p0.list)), .undef])) rfl rfl (Light.quiet (opFieldAddrR rfl fieldA_56_2 rfl rfl)) ?_
  refine ARL.q0 (v := (.int .i64 p0.code)) rfl rfl (Light.quiet (opLoadR rfl aggA_3 rfl rfl)) ?_
  refine ARL.q0 (v := (.bool (decide (p0.code ≠ 0)))) rfl rfl (Light.quiet (opInt rfl rfl rfl rfl)) ?_
  obtain ⟨c8, hc8, hF⟩ := bndE hF
  refine ARL.q0 (v := (.bool c8)) rfl rfl ((Quiet.cast (Light.quiet (opMove rfl rfl)) (congrArg AV.bool hc8.symm))) ?_
  refine ARL.g (v := (.rptr [(.str p0.s), (.int .i64 p0.at_), (.int .i64 p0.code), (.list 3 (List.map TNode.av p0.list)), .undef])) (.bool c8) false rfl (wF _) rfl noneAlive (fun hG => by have q0 := gN hG; subst q0; exact Light.quiet (opMove rfl rfl)) ?_
  refine ARL.g (v := (.rptr [(.str p0.s), (.int .i64 p0.at_), (.int .i64 p0.code), (.list 3 (List.map TNode.av p0.list)), .undef])) (.bool c8) false rfl (wF _) rfl noneAlive (fun hG => by have q0 := gN hG; subst q0; exact Light.quiet (opNil rfl rfl rfl)) ?_
  refine ARL.g (v := (.rptr [(.int .i64 p0.at_), (.int .i64 p0.code), (.list 3 (List.map TNode.av p0.list)), .undef])) (.bool c8) false rfl (wF _) rfl noneAlive (fun hG => by have q0 := gN hG; subst q0; exact Light.quiet (opFieldAddrR rfl fieldA_56_1 rfl rfl)) ?_
  refine ARL.g (v := (.int .i64 p0.at_)) (.bool c8) false rfl (wF _) rfl noneAlive (fun hG => by have q0 := gN hG; subst q0; exact Light.quiet (opLoadR rfl aggA_3 rfl rfl)) ?_
  refine ARL.g (v := (.rptr [(.str p0.s), (.int .i64 p0.at_), (.int .i64 p0.code), (.list 3 (List.map TNode.av p0.list)), .undef])) (.bool c8) false rfl (wF _) rfl noneAlive (fun hG => by have q0 := gN hG; subst q0; exact Light.quiet (opMove rfl rfl)) ?_
  refine ARL.g (v := (.rptr [(.str p0.s), (.int .i64 p0.at_), (.int .i64 p0.code), (.list 3 (List.map TNode.av p0.list)), .undef])) (.bool c8) false rfl (wF _) rfl noneAlive (fun hG => by have q0 := gN hG; subst q0; exact Light.quiet (opNil rfl rfl rfl)) ?_
  refine ARL.g (v := (.rptr [(.str p0.s), (.int .i64 p0.at_), (.int .i64 p0.code), (.list 3 (List.map TNode.av p0.list)), .undef])) (.bool c8) false rfl (wF _) rfl noneAlive (fun hG => by have q0 := gN hG; subst q0; exact Light.quiet (opFieldAddrR rfl fieldA_56_0 rfl rfl)) ?_
  refine ARL.g (v := (.str p0.s)) (.bool c8) false rfl (wF _) rfl noneAlive (fun hG => by have q0 := gN hG; subst q0; exact Light.quiet (opLoadR rfl aggA_9 rfl rfl)) ?_
  refine ARL.g (v := (.int .i64 (p0.s.size : Int))) (.bool c8) false rfl (wF _) rfl noneAlive (fun hG => by have q0 := gN hG; subst q0; exact Light.quiet (opLenOf rfl rfl rfl lenT_9 rfl rfl)) ?_
  refine ARL.g (v := (.bool (decide (p0.at_ ≥ ((p0.s.size : Int)))))) (.bool c8) false rfl (wF _) rfl noneAlive (fun hG => by have q0 := gN hG; subst q0; exact Light.quiet (opInt rfl rfl rfl rfl)) ?_
  refine ARL.q0 (v := (.bool (c8 || (decide (p0.at_ ≥ ((p0.s.size : Int))))))) rfl rfl (Light.quiet (opPick (b := c8) rfl rfl (by cases c8 <;> rfl))) ?_
  refine ARL.done ?_
  refine AWP.ifB hF rfl (fun hc1 hF => ?_) (fun hc1 hF => ?_)
  · skip
    refine AWP.seqR rfl ?_
    refine ASL.q (v := (.int .u8 0)) rfl rfl (Light.quiet (opAssign rfl rfl)) ?_
    refine ASL.done ?_
    refine AWP.ret ?_
    refine QThen.rt ?_
    obtain rfl := someE hF
    exact QRet.sole (v := (.int .u8 0)) ⟨rfl, trivial⟩ rfl
  · skip
    refine AWP.skip ?_
    refine QThen.nrm ?_
    refine AWP.seqD [(0, false), (1, false), (2, false), (3, false), (4, false), (5, false), (6, false), (7, false), (8, false), (9, false)] mixed (by kernel_rfl) rfl ?_
    refine ARL.q0 (v := (.rptr [(.str p0.s), (.int .i64 p0.at_), (.int .i64 p0.code), (.list 3 (List.map TNode.av p0.list)), .undef])) rfl rfl (Light.quiet (opMove rfl rfl)) ?_
    refine ARL.q0 (v := (.rptr [(.str p0.s), (.int .i64 p0.at_), (.int .i64 p0.code), (.list 3 (List.map TNode.av p0.list)), .undef])) rfl rfl (Light.quiet (opNil rfl rfl rfl)) ?_
    refine ARL.q0 (v := (.rptr [(.str p0.s), (.int .i64 p0.at_), (.int .i64 p0.code), (.list 3 (List.map TNode.av p0.list)), .undef])) rfl rfl (Light.quiet (opFieldAddrR rfl fieldA_56_0 rfl rfl)) ?_
    refine ARL.q0 (v := (.str p0.s)) rfl rfl (Light.quiet (opLoadR rfl aggA_9 rfl rfl)) ?_
    refine ARL.q0 (v := (.rptr [(.str p0.s), (.int .i64 p0.at_), (.int .i64 p0.code), (.list 3 (List.map TNode.av p0.list)), .undef])) rfl rfl (Light.quiet (opMove rfl rfl)) ?_
    refine ARL.q0 (v := (.rptr [(.str p0.s), (.int .i64 p0.at_), (.int .i64 p0.code), (.list 3 (List.map TNode.av p0.list)), .undef])) rfl rfl (Light.quiet (opNil rfl rfl rfl)) ?_
    refine ARL.q0 (v := (.rptr [(.int .i64 p0.at_), (.int .i64 p0.code), (.list 3 (List.map TNode.av p0.list)), .undef])) rfl rfl (Light.quiet (opFieldAddrR rfl fieldA_56_1 rfl rfl)) ?_
    refine ARL.q0 (v := (.int .i64 p0.at_)) rfl rfl (Light.quiet (opLoadR rfl aggA_3 rfl rfl)) ?_
    obtain ⟨a28, ha28, hF⟩ := bindE hF
    refine ARL.q0 (v := (.int .u8 a28)) rfl rfl (Light.quiet (kIxS ha28 rfl und_9 rfl rfl)) ?_
    refine ARL.q0 (v := (.int .u8 a28)) rfl rfl (Light.quiet (opAssign rfl rfl)) ?_
    refine ARL.done ?_
    refine AWP.ret ?_
    obtain rfl := someE hF
    exact QRet.sole (v := (.int .u8 a28)) ⟨rfl, trivial⟩ rfl

set_option maxRecDepth 10000 in
theorem impl_reader_skip_ok {p0 : Treader} {p1 : Int} {r : (Bool × Treader)} {bp0 : Nat} {wp0_list : AV} (hF : impl_reader_skip p0 p1 = some r) : HS Try.prog 66 [(.ptr bp0 0), (.int .u8 p1)] [.cell bp0 [(.str p0.s), (.int .i64 p0.at_), (.int .i64 p0.code), wp0_list, .undef], .row 3 wp0_list (List.map TNode.av p0.list)] fun v L' => ∃ up0_list : AV, v = (.bool r.1) ∧ L' = [.cell bp0 [(.str r.2.s), (.int .i64 r.2.at_), (.int .i64 r.2.code), up0_list, .undef], .row 3 up0_list (List.map TNode.av r.2.list)] := by
  intro H S hS
  refine HC.enter Try.func66 rfl Try.ntmps66 (by simp) ?_
  simp only [List.cons_append, List.nil_append] at hS
  unfold impl_reader_skip at hF
  refine AWP.seqR rfl ?_
  refine ASL.q (v := (.bool false)) rfl rfl (Light.quiet (opAssign rfl rfl)) ?_
  refine ASL.done ?_
  refine AWP.seq ?_
  refine AWP.seqD [(0, false), (1, false), (2, false), (3, false), (4, false), (5, false), (6, false), (7, false), (8, false), (9, false), (10, false), (11, false), (12, false), (13, false), (14, false), (15, false), (16, false), (17, false), (18, false), (19, false), (20, false), (21, false), (22, false)] mixed (by kernel_rfl) rfl ?_
  refine ARL.q0 (v := (.ptr bp0 0)) rfl rfl (Light.quiet (opMove rfl rfl)) ?_
  obtain ⟨a6, ha6, hF⟩ := bindE hF
  refine ARL.q (v := (.int .u8 a6)) rfl rfl (hS.aliveAll) ((qCallR hS rfl rfl call_68 (impl_reader_peek_ok ha6) ⟨RAS.cellL (k := 0) rfl ⟨.same _, .same _, .same _, .row (k := 1) rfl, .same _, trivial⟩, trivial⟩ (by constructor))) ?_
  refine ARL.q0 (v := (.int .u8 p1)) rfl rfl (Light.quiet (opMove rfl rfl)) ?_
  refine ARL.q0 (v := (.bool (decide (a6 ≠ p1)))) rfl rfl (Light.quiet (opInt rfl rfl rfl rfl)) ?_
  obtain ⟨c9, hc9, hF⟩ := bndE hF
  refine ARL.q0 (v := (.bool c9)) rfl rfl ((Quiet.cast (Light.quiet (opMove rfl rfl)) (congrArg AV.bool hc9.symm))) ?_
  refine ARL.g (v := (.ptr bp0 0)) (.bool c9) false rfl (wF _) rfl noneAlive (fun hG => by have q0 := gN hG; subst q0; exact Light.quiet (opMove rfl rfl)) ?_
  refine ARL.g (v := (.ptr bp0 0)) (.bool c9) false rfl (wF _) rfl noneAlive (fun hG => by have q0 := gN hG; subst q0; exact Light.quiet (opNil rfl rfl rfl)) ?_
  refine ARL.g (v := (.ptr bp0 1)) (.bool c9) false rfl (wF _) rfl noneAlive (fun hG => by have q0 := gN hG; subst q0; exact Light.quiet (opFieldAddr rfl fieldA_56_1 rfl rfl)) ?_
  refine ARL.g (v := (.int .i64 p0.at_)) (.bool c9) false rfl (wF _) rfl (hS.aliveC (k := 0) rfl) (fun hG => by have q0 := gN hG; subst q0; exact Light.quiet (kAt hS (j := 0) rfl rfl aggA_3 rfl rfl)) ?_
  refine ARL.g (v := (.ptr bp0 0)) (.bool c9) false rfl (wF _) rfl noneAlive (fun hG => by have q0 := gN hG; subst q0; exact Light.quiet (opMove rfl rfl)) ?_
  refine ARL.g (v := (.ptr bp0 0)) (.bool c9) false rfl (wF _) rfl noneAlive (fun hG => by have q0 := gN hG; subst q0; exact Light.quiet (opNil rfl rfl rfl)) ?_
  refine ARL.g (v := (.ptr bp0 0)) (.bool c9) false rfl (wF _) rfl noneAlive (fun hG => by have q0 := gN hG; subst q0; exact Light.quiet (opFieldAddr rfl fieldA_56_0 rfl rfl)) ?_
  refine ARL.g (v := (.str p0.s)) (.bool c9) false rfl (wF _) rfl (hS.aliveC (k := 0) rfl) (fun hG => by have q0 := gN hG; subst q0; exact Light.quiet (kAt hS (j := 0) rfl rfl aggA_9 rfl rfl)) ?_
  refine ARL.g (v := (.int .i64 (p0.s.size : Int))) (.bool c9) false rfl (wF _) rfl noneAlive (fun hG => by have q0 := gN hG; subst q0; exact Light.quiet (opLenOf rfl rfl rfl lenT_9 rfl rfl)) ?_
  refine ARL.g (v := (.bool (decide (p0.at_ ≥ ((p0.s.size : Int)))))) (.bool c9) false rfl (wF _) rfl noneAlive (fun hG => by have q0 := gN hG; subst q0; exact Light.quiet (opInt rfl rfl rfl rfl)) ?_
  refine ARL.q0 (v := (.bool (c9 || (decide (p0.at_ ≥ ((p0.s.size : Int))))))) rfl rfl (Light.quiet (opPick (b := c9) rfl rfl (by cases c9 <;> rfl))) ?_
  obtain ⟨c21, hc21, hF⟩ := bndE hF
  refine ARL.q0 (v := (.bool c21)) rfl rfl ((Quiet.cast (Light.quiet (opMove rfl rfl)) (congrArg AV.bool hc21.symm))) ?_
  refine ARL.g (v := (.ptr bp0 0)) (.bool c21) false rfl (wF _) rfl noneAlive (fun hG => by have q0 := gN hG; subst q0; exact Light.quiet (opMove rfl rfl)) ?_
  refine ARL.g (v := (.ptr bp0 0)) (.bool c21) false rfl (wF _) rfl noneAlive (fun hG => by have q0 := gN hG; subst q0; exact Light.quiet (opNil rfl rfl rfl)) ?_
  refine ARL.g (v := (.ptr bp0 2)) (.bool c21) false rfl (wF _) rfl noneAlive (fun hG => by have q0 := gN hG; subst q0; exact Light.quiet (opFieldAddr rfl fieldA_56_2 rfl rfl)) ?_
  refine ARL.g (v := (.int .i64 p0.code)) (.bool c21) false rfl (wF _) rfl (hS.aliveC (k := 0) rfl) (fun hG => by have q0 := gN hG; subst q0; exact Light.quiet (kAt hS (j := 0) rfl rfl aggA_3 rfl rfl)) ?_
  refine ARL.g (v := (.bool (decide (p0.code ≠ 0)))) (.bool c21) false rfl (wF _) rfl noneAlive (fun hG => by have q0 := gN hG; subst q0; exact Light.quiet (opInt rfl rfl rfl rfl)) ?_
  refine ARL.q0 (v := (.bool (c21 || (decide (p0.code ≠ 0))))) rfl rfl (Light.quiet (opPick (b := c21) rfl rfl (by cases c21 <;> rfl))) ?_
  refine ARL.done ?_
  refine AWP.ifB hF rfl (fun hc3 hF => ?_) (fun hc3 hF => ?_)
  · skip
    refine AWP.seqR rfl ?_
    refine ASL.q (v := (.bool false)) rfl rfl (Light.quiet (opAssign rfl rfl)) ?_
    refine ASL.done ?_
    refine AWP.ret ?_
    refine QThen.rt ?_
    obtain rfl := someE hF
    exact QRet.sole (v := (.bool false)) ⟨rfl, trivial⟩ ⟨_, ⟨wp0_list, rfl, rfl⟩, hS.pick [0, 1, 2] rfl rfl⟩
  · skip
    refine AWP.skip ?_
    refine QThen.nrm ?_
    refine AWP.seqR rfl ?_
    refine ASL.q (v := (.ptr bp0 0)) rfl rfl (Light.quiet (opMove rfl rfl)) ?_
    refine ASL.q (v := (.ptr bp0 0)) rfl rfl (Light.quiet (opNil rfl rfl rfl)) ?_
    refine ASL.q (v := (.ptr bp0 1)) rfl rfl (Light.quiet (opFieldAddr rfl fieldA_56_1 rfl rfl)) ?_
    refine ASL.q (v := (.int .i64 p0.at_)) rfl rfl (Light.quiet (kAt hS (j := 0) rfl rfl aggA_3 rfl rfl)) ?_
    refine ASL.q (v := (.int .i64 (W (p0.at_ + 1)))) rfl rfl (Light.quiet (opInt rfl rfl rfl rfl)) ?_
    refine ASL.q (v := (.ptr bp0 0)) rfl rfl (Light.quiet (opNil rfl rfl rfl)) ?_
    refine ASL.q (v := (.ptr bp0 1)) rfl rfl (Light.quiet (opFieldAddr rfl fieldA_56_1 rfl rfl)) ?_
    refine ASL.n rfl rfl (hPut hS (j := 0) rfl rfl sizeA_3 rfl rfl rfl (nlt rfl) ?_); rintro G4 hS
    refine ASL.done ?_
    refine AWP.seqR rfl ?_
    refine ASL.q (v := (.bool true)) rfl rfl (Light.quiet (opAssign rfl rfl)) ?_
    refine ASL.done ?_
    refine AWP.ret ?_
    obtain rfl := someE hF
    exact QRet.sole (v := (.bool true)) ⟨rfl, trivial⟩ ⟨_, ⟨wp0_list, rfl, rfl⟩, hS.pick [0, 1, 2] rfl rfl⟩

set_option maxRecDepth 10000 in
theorem impl_reader_two_ok {p0 : Treader} {p1 : Int} {p2 : Int} {r : Treader} {bp0 : Nat} {wp0_list : AV} (hF : impl_reader_two p0 p1 p2 = some r) : HS Try.prog 38 [(.ptr bp0 0), (.int .i64 p1), (.int .i64 p2)] [.cell bp0 [(.str p0.s), (.int .i64 p0.at_), (.int .i64 p0.code), wp0_list, .undef], .row 3 wp0_list (List.map TNode.av p0.list)] fun v L' => ∃ up0_list : AV, v = .tup [] ∧ L' = [.cell bp0 [(.str r.s), (.int .i64 r.at_), (.int .i64 r.code), up0_list, .undef], .row 3 up0_list (List.map TNode.av r.list)] := by
  intro H S hS
  refine HC.enter Try.func38 rfl Try.ntmps38 (by simp) ?_
  simp only [List.cons_append, List.nil_append] at hS
  unfold impl_reader_two at hF
  refine AWP.lastD [(0, false), (1, false), (2, false), (3, false), (4, false), (5, false), (6, false), (7, false), (8, false), (9, false), (10, false), (11, false), (12, false), (13, false), (14, false), (15, true), (16, false), (17, false), (18, true)] mixed (by kernel_rfl) rfl ?_
  refine ARL.q0 (v := (.ptr bp0 0)) rfl rfl (Light.quiet (opMove rfl rfl)) ?_
  refine ARL.q0 (v := (.ptr bp0 0)) rfl rfl (Light.quiet (opMove rfl rfl)) ?_
  refine ARL.q0 (v := (.ptr bp0 0)) rfl rfl (Light.quiet (opNil rfl rfl rfl)) ?_
  refine ARL.q0 (v := (.ptr bp0 3)) rfl rfl (Light.quiet (opFieldAddr rfl fieldA_56_3 rfl rfl)) ?_
  refine ARL.q (v := wp0_list) rfl rfl (hS.aliveC (k := 0) rfl) (Light.quiet (kAt hS (j := 0) rfl rfl aggA_26 rfl rfl)) ?_
  refine ARL.q0 (v := (.int .i64 p1)) rfl rfl (Light.quiet (opMove rfl rfl)) ?_
  refine ARL.q0 (v := (.int .i64 p2)) rfl rfl (Light.quiet (opMove rfl rfl)) ?_
  refine ARL.q0 (v := (.ptr bp0 0)) rfl rfl (Light.quiet (opMove rfl rfl)) ?_
  refine ARL.q0 (v := (.ptr bp0 0)) rfl rfl (Light.quiet (opNil rfl rfl rfl)) ?_
  refine ARL.q0 (v := (.ptr bp0 3)) rfl rfl (Light.quiet (opFieldAddr rfl fieldA_56_3 rfl rfl)) ?_
  refine ARL.q (v := wp0_list) rfl rfl (hS.aliveC (k := 0) rfl) (Light.quiet (kAt hS (j := 0) rfl rfl aggA_26 rfl rfl)) ?_
  refine ARL.q0 (v := (.int .i64 (p0.list.length : Int))) rfl rfl (Light.quiet (kLen hS (j := 1) rfl rfl rfl rfl lenT_26 rfl)) ?_
  refine ARL.q0 (v := (.int .i64 (W (((p0.list.length : Int)) - 1)))) rfl rfl (Light.quiet (opInt rfl rfl rfl rfl)) ?_
  refine ARL.q0 (v := (.agg [(.int .i64 p1), (.int .i64 p2), (.int .i64 (W (((p0.list.length : Int)) - 1)))])) rfl rfl (Light.quiet (opBuildZ (zs := [(.int .i64 0), (.int .i64 0), (.int .i64 0)]) rfl plan_43 zeroA_43 ⟨.inl rfl, .inl rfl, .inl rfl, trivial⟩ rfl)) ?_
  refine ARL.q0 (v := (.list 3 (List.map TNode.av [(TNode.mk p1 p2 ((W (((p0.list.length : Int)) - 1))))]))) rfl rfl ((qLit (xs := [(.agg [(.int .i64 p1), (.int .i64 p2), (.int .i64 (W (((p0.list.length : Int)) - 1)))])]) rfl elemA_26 sizeA_43 zeroA_43 rfl rfl rfl rfl (by simp [cells, TNode.av]) (nlt rfl))) ?_
  obtain ⟨z21, hz21, hF⟩ := bindE hF
  refine ARL.y rfl rfl rfl rfl (hApp (f := TNode.av) (ws := [(TNode.mk p1 p2 ((W (((p0.list.length : Int)) - 1))))]) hS (j := 1) rfl hz21 rfl elemA_26 rfl sizeA_43 bytesA_43 zeroA_43 rfl rfl rfl (fun _ => rfl) ?_); rintro v21 G3 hS
  refine ARL.q0 (v := (.ptr bp0 0)) rfl rfl (Light.quiet (opNil rfl rfl rfl)) ?_
  refine ARL.q0 (v := (.ptr bp0 3)) rfl rfl (Light.quiet (opFieldAddr rfl fieldA_56_3 rfl rfl)) ?_
  refine ARL.n rfl rfl rfl rfl (hPut hS (j := 0) rfl rfl sizeA_26 rfl rfl (hS.one (k := 1) rfl) (nlt rfl) ?_); rintro G5 hS
  refine ARL.done ?_
  refine QRet.end ?_
  obtain rfl := someE hF
  exact QRet.many (vs := []) trivial (by simp) ⟨_, ⟨v21, rfl, rfl⟩, hS.pick [0, 1, 2] rfl rfl⟩

set_option maxRecDepth 10000 in
theorem impl_reader_row_ok {p0 : Treader} {p1 : Int} {p2 : Int} {g3 : (Treader → Option (Treader))} {r : Treader} {bp0 : Nat} {wp0_list : AV} {k3 : Nat} (hcal3 : callable Try.prog k3 = true) (hg3 : ∀ q0 y bq0 wq0_list, g3 q0 = some y → HS Try.prog k3 [(.ptr bq0 0)] [.cell bq0 [(.str q0.s), (.int .i64 q0.at_), (.int .i64 q0.code), wq0_list, .undef], .row 3 wq0_list (List.map TNode.av q0.list)] fun v L' => ∃ uq0_list : AV, v = .tup [] ∧ L' = [.cell bq0 [(.str y.s), (.int .i64 y.at_), (.int .i64 y.code), uq0_list, .undef], .row 3 uq0_list (List.map TNode.av y.list)]) (hF : impl_reader_row p0 p1 p2 g3 = some r) : HS Try.prog 57 [(.ptr bp0 0), (.int .u8 p1), (.int .i64 p2), (.fn (.func k3) [] [])] [.cell bp0 [(.str p0.s), (.int .i64 p0.at_), (.int .i64 p0.code), wp0_list, .undef], .row 3 wp0_list (List.map TNode.av p0.list)] fun v L' => ∃ up0_list : AV, v = .tup [] ∧ L' = [.cell bp0 [(.str r.s), (.int .i64 r.at_), (.int .i64 r.code), up0_list, .undef], .row 3 up0_list (List.map TNode.av r.list)] := by
  intro H S hS
  refine HC.enter Try.func57 rfl Try.ntmps57 (by simp) ?_
  simp only [List.cons_append, List.nil_append] at hS
  unfold impl_reader_row at hF
  refine AWP.seqR rfl ?_
  refine ASL.q (v := (.fn (.func k3) [] [])) rfl rfl (Light.quiet (opMove rfl rfl)) ?_
  refine ASL.q (v := (.ptr bp0 0)) rfl rfl (Light.quiet (opMove rfl rfl)) ?_
  obtain ⟨a11, ha11, hF⟩ := bindE hF
  refine ASL.x rfl rfl (hCallS hS [0, 1, 2] (F := [.snap S]) rfl rfl rfl hcal3 ((hg3 _ _ _ _) ha11) rfl rfl ?_); rintro _ _ G5 ⟨w3, rfl, rfl⟩ hS
  refine ASL.done ?_
  refine AWP.block ?_
  obtain ⟨o15, hL14, hR16⟩ := bindE hF
  refine AWP.loopF (ω := AV) hL14 (fun s w => [(0, (.ptr bp0 0)), (1, (.int .u8 p1)), (2, (.int .i64 p2)), (3, (.fn (.func k3) [] []))]) (fun s w => [.row 3 w (List.map TNode.av s.2.2.2), .cell bp0 [(.str s.1), (.int .i64 s.2.1), (.int .i64 s.2.2.1), w, .undef], .snap S]) w3 ⟨rfl, rfl, rfl, rfl, trivial⟩ (hS.pick [1, 0, 2] rfl rfl) ?_
  rintro ⟨y6, y7, y8, y9⟩ w10 G17 hS x12 hF hx13
  try dsimp only at hS ⊢
  have hF : impl_reader_row.b0 p1 g3 p2 y6 y7 y8 y9 = some x12 := hF; unfold impl_reader_row.b0 at hF
  refine AWP.seq ?_
  refine AWP.seqR rfl ?_
  refine ASL.q (v := (.ptr bp0 0)) rfl rfl (Light.quiet (opMove rfl rfl)) ?_
  refine ASL.q (v := (.int .u8 p1)) rfl rfl (Light.quiet (opMove rfl rfl)) ?_
  obtain ⟨a14, ha14, hF⟩ := bindE hF
  refine ASL.x rfl rfl (hCallS hS [1, 0, 2] (F := [.snap S]) rfl rfl rfl call_66 (impl_reader_skip_ok ha14) rfl rfl ?_); rintro _ _ G20 ⟨w18, rfl, rfl⟩ hS
  refine ASL.done ?_
  refine AWP.ifB hF rfl (fun hc21 hF => ?_) (fun hc21 hF => ?_)
  · skip
    refine AWP.skip ?_
    refine QThen.nrm ?_
    refine AWP.block ?_
    refine AWP.seqR rfl ?_
    refine ASL.q (v := (.ptr bp0 0)) rfl rfl (Light.quiet (opMove rfl rfl)) ?_
    refine ASL.q (v := (.ptr bp0 0)) rfl rfl (Light.quiet (opNil rfl rfl rfl)) ?_
    refine ASL.q (v := (.ptr bp0 3)) rfl rfl (Light.quiet (opFieldAddr rfl fieldA_56_3 rfl rfl)) ?_
    refine ASL.q (v := w18) rfl rfl (Light.quiet (kAt hS (j := 0) rfl rfl aggA_26 rfl rfl)) ?_
    refine ASL.q (v := (.int .i64 (a14.2.list.length : Int))) rfl rfl (Light.quiet (kLen hS (j := 1) rfl rfl rfl rfl lenT_26 rfl)) ?_
    refine ASL.q (v := (.int .i64 (W (((a14.2.list.length : Int)) - 1)))) rfl rfl (Light.quiet (opInt rfl rfl rfl rfl)) ?_
    refine ASL.q (v := (.int .i64 (W (((a14.2.list.length : Int)) - 1)))) rfl rfl (Light.quiet (opAssign rfl rfl)) ?_
    refine ASL.done ?_
    refine AWP.seqR rfl ?_
    refine ASL.q (v := (.fn (.func k3) [] [])) rfl rfl (Light.quiet (opMove rfl rfl)) ?_
    refine ASL.q (v := (.ptr bp0 0)) rfl rfl (Light.quiet (opMove rfl rfl)) ?_
    obtain ⟨a23, ha23, hF⟩ := bindE hF
    refine ASL.x rfl rfl (hCallS hS [0, 1, 2] (F := [.snap S]) rfl rfl rfl hcal3 ((hg3 _ _ _ _) ha23) rfl rfl ?_); rintro _ _ G24 ⟨w22, rfl, rfl⟩ hS
    refine ASL.done ?_
    refine AWP.lastR rfl ?_
    refine ASL.q (v := (.ptr bp0 0)) rfl rfl (Light.quiet (opMove rfl rfl)) ?_
    refine ASL.q (v := (.int .i64 p2)) rfl rfl (Light.quiet (opMove rfl rfl)) ?_
    refine ASL.q (v := (.int .i64 (W (((a14.2.list.length : Int)) - 1)))) rfl rfl (Light.quiet (opMove rfl rfl)) ?_
    obtain ⟨a27, ha27, hF⟩ := bindE hF
    refine ASL.x rfl rfl (hCallS hS [0, 1, 2] (F := [.snap S]) rfl rfl rfl call_38 (impl_reader_two_ok ha27) rfl rfl ?_); rintro _ _ G27 ⟨w25, rfl, rfl⟩ hS
    refine ASL.done ?_
    refine QBlock.nrm ?_
    refine QThen.nrm ?_
    exact ⟨(a27.s, a27.at_, a27.code, a27.list), w25, (someE hF).symm, ⟨rfl, rfl, rfl, rfl, trivial⟩, (hS.pick [1, 0, 2] rfl rfl)⟩
  · skip
    refine AWP.exit ?_
    refine QThen.ext ?_
    refine QThen.ext ?_
    refine QBlock.hit ?_
    obtain rfl := (hx13 _ (someE hF).symm)
    have hF := hR16
    refine QRet.end ?_
    obtain rfl := someE hF
    exact QRet.many (vs := []) trivial (by simp) ⟨_, ⟨w18, rfl, rfl⟩, hS.pick [0, 1, 2] rfl rfl⟩

set_option maxRecDepth 10000 in
theorem impl_reader_fail_ok {p0 : Treader} {r : Treader} {bp0 : Nat} {wp0_list : AV} (hF : impl_reader_fail p0 = some r) : HS Try.prog 72 [(.ptr bp0 0)] [.cell bp0 [(.str p0.s), (.int .i64 p0.at_), (.int .i64 p0.code), wp0_list, .undef], .row 3 wp0_list (List.map TNode.av p0.list)] fun v L' => ∃ up0_list : AV, v = .tup [] ∧ L' = [.cell bp0 [(.str r.s), (.int .i64 r.at_), (.int .i64 r.code), up0_list, .undef], .row 3 up0_list (List.map TNode.av r.list)] := by
  intro H S hS
  refine HC.enter Try.func72 rfl Try.ntmps72 (by simp) ?_
  simp only [List.cons_append, List.nil_append] at hS
  unfold impl_reader_fail at hF
  refine AWP.block ?_
  refine AWP.seqR rfl ?_
  refine ASL.q (v := (.ptr bp0 0)) rfl rfl (Light.quiet (opMove rfl rfl)) ?_
  refine ASL.q (v := (.ptr bp0 0)) rfl rfl (Light.quiet (opNil rfl rfl rfl)) ?_
  refine ASL.q (v := (.ptr bp0 2)) rfl rfl (Light.quiet (opFieldAddr rfl fieldA_56_2 rfl rfl)) ?_
  refine ASL.q (v := (.int .i64 p0.code)) rfl rfl (Light.quiet (kAt hS (j := 0) rfl rfl aggA_3 rfl rfl)) ?_
  refine ASL.q (v := (.bool (decide (p0.code ≠ 0)))) rfl rfl (Light.quiet (opInt rfl rfl rfl rfl)) ?_
  refine ASL.q (v := (.bool (decide (p0.code ≠ 0)))) rfl rfl (Light.quiet (opAssign rfl rfl)) ?_
  refine ASL.done ?_
  refine AWP.ifP hF rfl (fun hc3 hF => ?_) (fun hc3 hF => ?_)
  · skip
    refine AWP.skip ?_
    refine QBlock.nrm ?_
    refine QRet.end ?_
    obtain rfl := someE hF
    exact QRet.many (vs := []) trivial (by simp) ⟨_, ⟨wp0_list, rfl, rfl⟩, hS.pick [0, 1, 2] rfl rfl⟩
  · skip
    refine AWP.seqD [(0, false), (1, false), (2, false), (3, false), (4, false), (5, false), (6, false), (7, false), (8, false), (9, false), (10, false)] mixed (by kernel_rfl) rfl ?_
    refine ARL.q0 (v := (.ptr bp0 0)) rfl rfl (Light.quiet (opMove rfl rfl)) ?_
    refine ARL.q0 (v := (.ptr bp0 0)) rfl rfl (Light.quiet (opNil rfl rfl rfl)) ?_
    refine ARL.q0 (v := (.ptr bp0 1)) rfl rfl (Light.quiet (opFieldAddr rfl fieldA_56_1 rfl rfl)) ?_
    refine ARL.q (v := (.int .i64 p0.at_)) rfl rfl (hS.aliveC (k := 0) rfl) (Light.quiet (kAt hS (j := 0) rfl rfl aggA_3 rfl rfl)) ?_
    refine ARL.q0 (v := (.ptr bp0 0)) rfl rfl (Light.quiet (opMove rfl rfl)) ?_
    refine ARL.q0 (v := (.ptr bp0 0)) rfl rfl (Light.quiet (opNil rfl rfl rfl)) ?_
    refine ARL.q0 (v := (.ptr bp0 0)) rfl rfl (Light.quiet (opFieldAddr rfl fieldA_56_0 rfl rfl)) ?_
    refine ARL.q (v := (.str p0.s)) rfl rfl (hS.aliveC (k := 0) rfl) (Light.quiet (kAt hS (j := 0) rfl rfl aggA_9 rfl rfl)) ?_
    refine ARL.q0 (v := (.int .i64 (p0.s.size : Int))) rfl rfl (Light.quiet (opLenOf rfl rfl rfl lenT_9 rfl rfl)) ?_
    refine ARL.q0 (v := (.bool (decide (p0.at_ ≥ ((p0.s.size : Int)))))) rfl rfl (Light.quiet (opInt rfl rfl rfl rfl)) ?_
    refine ARL.q0 (v := (.bool (decide (p0.at_ ≥ ((p0.s.size : Int)))))) rfl rfl (Light.quiet (opAssign rfl rfl)) ?_
    refine ARL.done ?_
    refine AWP.ifP hF rfl (fun hc4 hF => ?_) (fun hc4 hF => ?_)
    · skip
      refine AWP.lastR rfl ?_
      refine ASL.q (v := (.ptr bp0 0)) rfl rfl (Light.quiet (opMove rfl rfl)) ?_
      refine ASL.q (v := (.ptr bp0 0)) rfl rfl (Light.quiet (opNil rfl rfl rfl)) ?_
      refine ASL.q (v := (.ptr bp0 2)) rfl rfl (Light.quiet (opFieldAddr rfl fieldA_56_2 rfl rfl)) ?_
      refine ASL.n rfl rfl (hPut hS (j := 0) rfl rfl sizeA_3 rfl rfl rfl (nlt rfl) ?_); rintro G5 hS
      refine ASL.done ?_
      refine QBlock.nrm ?_
      refine QRet.end ?_
      obtain rfl := someE hF
      exact QRet.many (vs := []) trivial (by simp) ⟨_, ⟨wp0_list, rfl, rfl⟩, hS.pick [0, 1, 2] rfl rfl⟩
    · skip
      refine AWP.lastR rfl ?_
      refine ASL.q (v := (.ptr bp0 0)) rfl rfl (Light.quiet (opMove rfl rfl)) ?_
      refine ASL.q (v := (.ptr bp0 0)) rfl rfl (Light.quiet (opNil rfl rfl rfl)) ?_
      refine ASL.q (v := (.ptr bp0 2)) rfl rfl (Light.quiet (opFieldAddr rfl fieldA_56_2 rfl rfl)) ?_
      refine ASL.n rfl rfl (hPut hS (j := 0) rfl rfl sizeA_3 rfl rfl rfl (nlt rfl) ?_); rintro G6 hS
      refine ASL.done ?_
      refine QBlock.nrm ?_
      refine QRet.end ?_
      obtain rfl := someE hF
      exact QRet.many (vs := []) trivial (by simp) ⟨_, ⟨wp0_list, rfl, rfl⟩, hS.pick [0, 1, 2] rfl rfl⟩

set_option maxRecDepth 10000 in
theorem impl_reader_bracket_ok {p0 : Treader} {g1 : (Treader → Option (Treader))} {r : Treader} {bp0 : Nat} {wp0_list : AV} {k1 : Nat} (hcal1 : callable Try.prog k1 = true) (hg1 : ∀ q0 y bq0 wq0_list, g1 q0 = some y → HS Try.prog k1 [(.ptr bq0 0)] [.cell bq0 [(.str q0.s), (.int .i64 q0.at_), (.int .i64 q0.code), wq0_list, .undef], .row 3 wq0_list (List.map TNode.av q0.list)] fun v L' => ∃ uq0_list : AV, v = .tup [] ∧ L' = [.cell bq0 [(.str y.s), (.int .i64 y.at_), (.int .i64 y.code), uq0_list, .undef], .row 3 uq0_list (List.map TNode.av y.list)]) (hF : impl_reader_bracket p0 g1 = some r) : HS Try.prog 71 [(.ptr bp0 0), (.fn (.func k1) [] [])] [.cell bp0 [(.str p0.s), (.int .i64 p0.at_), (.int .i64 p0.code), wp0_list, .undef], .row 3 wp0_list (List.map TNode.av p0.list)] fun v L' => ∃ up0_list : AV, v = .tup [] ∧ L' = [.cell bp0 [(.str r.s), (.int .i64 r.at_), (.int .i64 r.code), up0_list, .undef], .row 3 up0_list (List.map TNode.av r.list)] := by
  intro H S hS
  refine HC.enter Try.func71 rfl Try.ntmps71 (by simp) ?_
  simp only [List.cons_append, List.nil_append] at hS
  unfold impl_reader_bracket at hF
  refine AWP.seqR rfl ?_
  refine ASL.q (v := (.fn (.func k1) [] [])) rfl rfl (Light.quiet (opMove rfl rfl)) ?_
  refine ASL.q (v := (.ptr bp0 0)) rfl rfl (Light.quiet (opMove rfl rfl)) ?_
  obtain ⟨a6, ha6, hF⟩ := bindE hF
  refine ASL.x rfl rfl (hCallS hS [0, 1, 2] (F := [.snap S]) rfl rfl rfl hcal1 ((hg1 _ _ _ _) ha6) rfl rfl ?_); rintro _ _ G5 ⟨w3, rfl, rfl⟩ hS
  refine ASL.done ?_
  refine AWP.seqR rfl ?_
  refine ASL.q (v := (.ptr bp0 0)) rfl rfl (Light.quiet (opMove rfl rfl)) ?_
  obtain ⟨a8, ha8, hF⟩ := bindE hF
  refine ASL.x rfl rfl (hCallS hS [0, 1, 2] (F := [.snap S]) rfl rfl rfl call_66 (impl_reader_skip_ok ha8) rfl rfl ?_); rintro _ _ G8 ⟨w6, rfl, rfl⟩ hS
  refine ASL.q (v := (.bool (!a8.1))) rfl rfl (Light.quiet (opNot rfl rfl)) ?_
  refine ASL.done ?_
  refine AWP.ifB hF rfl (fun hc9 hF => ?_) (fun hc9 hF => ?_)
  · skip
    refine AWP.lastR rfl ?_
    refine ASL.q (v := (.ptr bp0 0)) rfl rfl (Light.quiet (opMove rfl rfl)) ?_
    obtain ⟨a11, ha11, hF⟩ := bindE hF
    refine ASL.x rfl rfl (hCallS hS [0, 1, 2] (F := [.snap S]) rfl rfl rfl call_72 (impl_reader_fail_ok ha11) rfl rfl ?_); rintro _ _ G12 ⟨w10, rfl, rfl⟩ hS
    refine ASL.done ?_
    refine QRet.end ?_
    obtain rfl := someE hF
    exact QRet.many (vs := []) trivial (by simp) ⟨_, ⟨w10, rfl, rfl⟩, hS.pick [0, 1, 2] rfl rfl⟩
  · skip
    refine AWP.skip ?_
    refine QRet.end ?_
    obtain rfl := someE hF
    exact QRet.many (vs := []) trivial (by simp) ⟨_, ⟨w6, rfl, rfl⟩, hS.pick [0, 1, 2] rfl rfl⟩

set_option maxRecDepth 10000 in
theorem impl_reader_leaf_ok {p0 : Treader} {p1 : Int} {p2 : Int} {r : Treader} {bp0 : Nat} {wp0_list : AV} (hF : impl_reader_leaf p0 p1 p2 = some r) : HS Try.prog 60 [(.ptr bp0 0), (.int .i64 p1), (.int .i64 p2)] [.cell bp0 [(.str p0.s), (.int .i64 p0.at_), (.int .i64 p0.code), wp0_list, .undef], .row 3 wp0_list (List.map TNode.av p0.list)] fun v L' => ∃ up0_list : AV, v = .tup [] ∧ L' = [.cell bp0 [(.str r.s), (.int .i64 r.at_), (.int .i64 r.code), up0_list, .undef], .row 3 up0_list (List.map TNode.av r.list)] := by
  intro H S hS
  refine HC.enter Try.func60 rfl Try.ntmps60 (by simp) ?_
  simp only [List.cons_append, List.nil_append] at hS
  unfold impl_reader_leaf at hF
  refine AWP.lastR rfl ?_
  refine ASL.q (v := (.ptr bp0 0)) rfl rfl (Light.quiet (opMove rfl rfl)) ?_
  refine ASL.q (v := (.ptr bp0 0)) rfl rfl (Light.quiet (opMove rfl rfl)) ?_
  refine ASL.q (v := (.ptr bp0 0)) rfl rfl (Light.quiet (opNil rfl rfl rfl)) ?_
  refine ASL.q (v := (.ptr bp0 3)) rfl rfl (Light.quiet (opFieldAddr rfl fieldA_56_3 rfl rfl)) ?_
  refine ASL.q (v := wp0_list) rfl rfl (Light.quiet (kAt hS (j := 0) rfl rfl aggA_26 rfl rfl)) ?_
  refine ASL.q (v := (.int .i64 p1)) rfl rfl (Light.quiet (opMove rfl rfl)) ?_
  refine ASL.q (v := (.int .i64 p2)) rfl rfl (Light.quiet (opMove rfl rfl)) ?_
  refine ASL.q (v := (.agg [(.int .i64 p1), (.int .i64 p2), (.int .i64 0)])) rfl rfl (Light.quiet (opBuildZ (zs := [(.int .i64 0), (.int .i64 0), (.int .i64 0)]) rfl plan_43 zeroA_43 ⟨.inl rfl, .inl rfl, .inl rfl, trivial⟩ rfl)) ?_
  refine ASL.q (v := (.list 3 (List.map TNode.av [(TNode.mk p1 p2 0)]))) rfl rfl ((qLit (xs := [(.agg [(.int .i64 p1), (.int .i64 p2), (.int .i64 0)])]) rfl elemA_26 sizeA_43 zeroA_43 rfl rfl rfl rfl (by simp [cells, TNode.av]) (nlt rfl))) ?_
  obtain ⟨z15, hz15, hF⟩ := bindE hF
  refine ASL.x rfl rfl (hApp (f := TNode.av) (ws := [(TNode.mk p1 p2 0)]) hS (j := 1) rfl hz15 rfl elemA_26 rfl sizeA_43 bytesA_43 zeroA_43 rfl rfl rfl (fun _ => rfl) ?_); rintro v15 G3 hS
  refine ASL.q (v := (.ptr bp0 0)) rfl rfl (Light.quiet (opNil rfl rfl rfl)) ?_
  refine ASL.q (v := (.ptr bp0 3)) rfl rfl (Light.quiet (opFieldAddr rfl fieldA_56_3 rfl rfl)) ?_
  refine ASL.n rfl rfl (hPut hS (j := 0) rfl rfl sizeA_26 rfl rfl (hS.one (k := 1) rfl) (nlt rfl) ?_); rintro G5 hS
  refine ASL.done ?_
  refine QRet.end ?_
  obtain rfl := someE hF
  exact QRet.many (vs := []) trivial (by simp) ⟨_, ⟨v15, rfl, rfl⟩, hS.pick [0, 1, 2] rfl rfl⟩

set_option maxRecDepth 10000 in
theorem impl_plainAtom_ok {p0 : Treader} {g1 : (Treader → Option (Treader))} {r : Treader} {bp0 : Nat} {wp0_list : AV} {k1 : Nat} (hcal1 : callable Try.prog k1 = true) (hg1 : ∀ q0 y bq0 wq0_list, g1 q0 = some y → HS Try.prog k1 [(.ptr bq0 0)] [.cell bq0 [(.str q0.s), (.int .i64 q0.at_), (.int .i64 q0.code), wq0_list, .undef], .row 3 wq0_list (List.map TNode.av q0.list)] fun v L' => ∃ uq0_list : AV, v = .tup [] ∧ L' = [.cell bq0 [(.str y.s), (.int .i64 y.at_), (.int .i64 y.code), uq0_list, .undef], .row 3 uq0_list (List.map TNode.av y.list)]) (hF : impl_plainAtom p0 g1 = some r) : HS Try.prog 70 [(.ptr bp0 0), (.fn (.func k1) [] [])] [.cell bp0 [(.str p0.s), (.int .i64 p0.at_), (.int .i64 p0.code), wp0_list, .undef], .row 3 wp0_list (List.map TNode.av p0.list)] fun v L' => ∃ up0_list : AV, v = .tup [] ∧ L' = [.cell bp0 [(.str r.s), (.int .i64 r.at_), (.int .i64 r.code), up0_list, .undef], .row 3 up0_list (List.map TNode.av r.list)] := by
  intro H S hS
  refine HC.enter Try.func70 rfl Try.ntmps70 (by simp) ?_
  simp only [List.cons_append, List.nil_append] at hS
  unfold impl_plainAtom at hF
  refine AWP.seqR rfl ?_
  refine ASL.q (v := (.ptr bp0 0)) rfl rfl (Light.quiet (opMove rfl rfl)) ?_
  obtain ⟨a6, ha6, hF⟩ := bindE hF
  refine ASL.q (v := (.int .u8 a6)) rfl rfl ((qCallR hS rfl rfl call_68 (impl_reader_peek_ok ha6) ⟨RAS.cellL (k := 0) rfl ⟨.same _, .same _, .same _, .row (k := 1) rfl, .same _, trivial⟩, trivial⟩ (by constructor))) ?_
  refine ASL.q (v := (.int .u8 a6)) rfl rfl (Light.quiet (opAssign rfl rfl)) ?_
  refine ASL.done ?_
  refine AWP.block ?_
  refine AWP.seqR rfl ?_
  refine ASL.q (v := (.ptr bp0 0)) rfl rfl (Light.quiet (opMove rfl rfl)) ?_
  obtain ⟨a11, ha11, hF⟩ := bindE hF
  refine ASL.x rfl rfl (hCallS hS [0, 1, 2] (F := [.snap S]) rfl rfl rfl call_66 (impl_reader_skip_ok ha11) rfl rfl ?_); rintro _ _ G5 ⟨w3, rfl, rfl⟩ hS
  refine ASL.q (v := (.bool a11.1)) rfl rfl (Light.quiet (opAssign rfl rfl)) ?_
  refine ASL.done ?_
  refine AWP.ifB hF rfl (fun hc6 hF => ?_) (fun hc6 hF => ?_)
  · skip
    refine AWP.lastR rfl ?_
    refine ASL.q (v := (.ptr bp0 0)) rfl rfl (Light.quiet (opMove rfl rfl)) ?_
    refine ASL.q (v := (.fn (.func k1) [] [])) rfl rfl (Light.quiet (opMove rfl rfl)) ?_
    obtain ⟨a14, ha14, hF⟩ := bindE hF
    refine ASL.x rfl rfl (hCallS hS [0, 1, 2] (F := [.snap S]) rfl rfl rfl call_71 (impl_reader_bracket_ok hcal1 hg1 ha14) rfl rfl ?_); rintro _ _ G9 ⟨w7, rfl, rfl⟩ hS
    refine ASL.done ?_
    refine QBlock.nrm ?_
    refine QRet.end ?_
    obtain rfl := someE hF
    exact QRet.many (vs := []) trivial (by simp) ⟨_, ⟨w7, rfl, rfl⟩, hS.pick [0, 1, 2] rfl rfl⟩
  · skip
    refine AWP.seqR rfl ?_
    refine ASL.q (v := (.ptr bp0 0)) rfl rfl (Light.quiet (opMove rfl rfl)) ?_
    obtain ⟨a17, ha17, hF⟩ := bindE hF
    refine ASL.x rfl rfl (hCallS hS [0, 1, 2] (F := [.snap S]) rfl rfl rfl call_66 (impl_reader_skip_ok ha17) rfl rfl ?_); rintro _ _ G12 ⟨w10, rfl, rfl⟩ hS
    refine ASL.q (v := (.bool a17.1)) rfl rfl (Light.quiet (opAssign rfl rfl)) ?_
    refine ASL.done ?_
    refine AWP.ifB hF rfl (fun hc13 hF => ?_) (fun hc13 hF => ?_)
    · skip
      refine AWP.lastR rfl ?_
      refine ASL.q (v := (.ptr bp0 0)) rfl rfl (Light.quiet (opMove rfl rfl)) ?_
      obtain ⟨a19, ha19, hF⟩ := bindE hF
      refine ASL.x rfl rfl (hCallS hS [0, 1, 2] (F := [.snap S]) rfl rfl rfl call_60 (impl_reader_leaf_ok ha19) rfl rfl ?_); rintro _ _ G16 ⟨w14, rfl, rfl⟩ hS
      refine ASL.done ?_
      refine QBlock.nrm ?_
      refine QRet.end ?_
      obtain rfl := someE hF
      exact QRet.many (vs := []) trivial (by simp) ⟨_, ⟨w14, rfl, rfl⟩, hS.pick [0, 1, 2] rfl rfl⟩
    · skip
      refine AWP.seqR rfl ?_
      refine ASL.q (v := (.ptr bp0 0)) rfl rfl (Light.quiet (opMove rfl rfl)) ?_
      obtain ⟨a22, ha22, hF⟩ := bindE hF
      refine ASL.x rfl rfl (hCallS hS [0, 1, 2] (F := [.snap S]) rfl rfl rfl call_66 (impl_reader_skip_ok ha22) rfl rfl ?_); rintro _ _ G19 ⟨w17, rfl, rfl⟩ hS
      refine ASL.q (v := (.bool a22.1)) rfl rfl (Light.quiet (opAssign rfl rfl)) ?_
      refine ASL.done ?_
      refine AWP.ifB hF rfl (fun hc20 hF => ?_) (fun hc20 hF => ?_)
      · skip
        refine AWP.lastR rfl ?_
        refine ASL.q (v := (.ptr bp0 0)) rfl rfl (Light.quiet (opMove rfl rfl)) ?_
        obtain ⟨a24, ha24, hF⟩ := bindE hF
        refine ASL.x rfl rfl (hCallS hS [0, 1, 2] (F := [.snap S]) rfl rfl rfl call_60 (impl_reader_leaf_ok ha24) rfl rfl ?_); rintro _ _ G23 ⟨w21, rfl, rfl⟩ hS
        refine ASL.done ?_
        refine QBlock.nrm ?_
        refine QRet.end ?_
        obtain rfl := someE hF
        exact QRet.many (vs := []) trivial (by simp) ⟨_, ⟨w21, rfl, rfl⟩, hS.pick [0, 1, 2] rfl rfl⟩
      · skip
        refine AWP.seqR rfl ?_
        refine ASL.q (v := (.int .u8 a6)) rfl rfl (Light.quiet (opMove rfl rfl)) ?_
        refine ASL.q (v := (.bool (decide (a6 ≥ 48)))) rfl rfl (Light.quiet (opInt rfl rfl rfl rfl)) ?_
        obtain ⟨c28, hc28, hF⟩ := bndE hF
        refine ASL.q (v := (.bool c28)) rfl rfl ((Quiet.cast (Light.quiet (opMove rfl rfl)) (congrArg AV.bool hc28.symm))) ?_
        refine ASL.g (v := (.int .u8 a6)) (.bool c28) true rfl (wT _) rfl (fun hG => by have q0 := hG; subst q0; exact Light.quiet (opMove rfl rfl)) ?_
        refine ASL.g (v := (.bool (decide (a6 < 51)))) (.bool c28) true rfl (wT _) rfl (fun hG => by have q0 := hG; subst q0; exact Light.quiet (opInt rfl rfl rfl rfl)) ?_
        refine ASL.q (v := (.bool (c28 && (decide (a6 < 51))))) rfl rfl (Light.quiet (opPick (b := c28) rfl rfl (by cases c28 <;> rfl))) ?_
        refine ASL.q (v := (.bool (c28 && (decide (a6 < 51))))) rfl rfl (Light.quiet (opAssign rfl rfl)) ?_
        refine ASL.done ?_
        refine AWP.ifB hF rfl (fun hc24 hF => ?_) (fun hc24 hF => ?_)
        · skip
          refine AWP.seqR rfl ?_
          refine ASL.q (v := (.ptr bp0 0)) rfl rfl (Light.quiet (opMove rfl rfl)) ?_
          refine ASL.q (v := (.ptr bp0 0)) rfl rfl (Light.quiet (opNil rfl rfl rfl)) ?_
          refine ASL.q (v := (.ptr bp0 1)) rfl rfl (Light.quiet (opFieldAddr rfl fieldA_56_1 rfl rfl)) ?_
          refine ASL.q (v := (.int .i64 a22.2.at_)) rfl rfl (Light.quiet (kAt hS (j := 0) rfl rfl aggA_3 rfl rfl)) ?_
          refine ASL.q (v := (.int .i64 (W (a22.2.at_ + 1)))) rfl rfl (Light.quiet (opInt rfl rfl rfl rfl)) ?_
          refine ASL.q (v := (.ptr bp0 0)) rfl rfl (Light.quiet (opNil rfl rfl rfl)) ?_
          refine ASL.q (v := (.ptr bp0 1)) rfl rfl (Light.quiet (opFieldAddr rfl fieldA_56_1 rfl rfl)) ?_
          refine ASL.n rfl rfl (hPut hS (j := 0) rfl rfl sizeA_3 rfl rfl rfl (nlt rfl) ?_); rintro G25 hS
          refine ASL.done ?_
          refine AWP.lastR rfl ?_
          refine ASL.q (v := (.ptr bp0 0)) rfl rfl (Light.quiet (opMove rfl rfl)) ?_
          refine ASL.q (v := (.int .u8 a6)) rfl rfl (Light.quiet (opMove rfl rfl)) ?_
          refine ASL.q (v := (.int .u8 (IntKind.u8.wrap (a6 - 48)))) rfl rfl (Light.quiet (opInt rfl rfl rfl rfl)) ?_
          refine ASL.q (v := (.int .i64 (IntKind.i64.wrap ((IntKind.u8.wrap (a6 - 48)))))) rfl rfl (Light.quiet (opConv rfl rfl und_5 und_3 rfl)) ?_
          obtain ⟨a43, ha43, hF⟩ := bindE hF
          refine ASL.x rfl rfl (hCallS hS [0, 1, 2] (F := [.snap S]) rfl rfl rfl call_60 (impl_reader_leaf_ok ha43) rfl rfl ?_); rintro _ _ G28 ⟨w26, rfl, rfl⟩ hS
          refine ASL.done ?_
          refine QBlock.nrm ?_
          refine QRet.end ?_
          obtain rfl := someE hF
          exact QRet.many (vs := []) trivial (by simp) ⟨_, ⟨w26, rfl, rfl⟩, hS.pick [0, 1, 2] rfl rfl⟩
        · skip
          refine AWP.lastR rfl ?_
          refine ASL.q (v := (.ptr bp0 0)) rfl rfl (Light.quiet (opMove rfl rfl)) ?_
          obtain ⟨a8, ha8, hF⟩ := bindE hF
          refine ASL.x rfl rfl (hCallS hS [0, 1, 2] (F := [.snap S]) rfl rfl rfl call_72 (impl_reader_fail_ok ha8) rfl rfl ?_); rintro _ _ G31 ⟨w29, rfl, rfl⟩ hS
          refine ASL.done ?_
          refine QBlock.nrm ?_
          refine QRet.end ?_
          obtain rfl := someE hF
          exact QRet.many (vs := []) trivial (by simp) ⟨_, ⟨w29, rfl, rfl⟩, hS.pick [0, 1, 2] rfl rfl⟩

set_option maxRecDepth 10000 in
theorem impl_reader_one_ok {p0 : Treader} {p1 : Int} {r : Treader} {bp0 : Nat} {wp0_list : AV} (hF : impl_reader_one p0 p1 = some r) : HS Try.prog 61 [(.ptr bp0 0), (.int .i64 p1)] [.cell bp0 [(.str p0.s), (.int .i64 p0.at_), (.int .i64 p0.code), wp0_list, .undef], .row 3 wp0_list (List.map TNode.av p0.list)] fun v L' => ∃ up0_list : AV, v = .tup [] ∧ L' = [.cell bp0 [(.str r.s), (.int .i64 r.at_), (.int .i64 r.code), up0_list, .undef], .row 3 up0_list (List.map TNode.av r.list)] := by
  intro H S hS
  refine HC.enter Try.func61 rfl Try.ntmps61 (by simp) ?_
  simp only [List.cons_append, List.nil_append] at hS
  unfold impl_reader_one at hF
  refine AWP.lastD [(0, false), (1, false), (2, false), (3, false), (4, false), (5, false), (6, false), (7, false), (8, false), (9, false), (10, false), (11, false), (12, false), (13, false), (14, true), (15, false), (16, false), (17, true)] mixed (by kernel_rfl) rfl ?_
  refine ARL.q0 (v := (.ptr bp0 0)) rfl rfl (Light.quiet (opMove rfl rfl)) ?_
  refine ARL.q0 (v := (.ptr bp0 0)) rfl rfl (Light.quiet (opMove rfl rfl)) ?_
  refine ARL.q0 (v := (.ptr bp0 0)) rfl rfl (Light.quiet (opNil rfl rfl rfl)) ?_
  refine ARL.q0 (v := (.ptr bp0 3)) rfl rfl (Light.quiet (opFieldAddr rfl fieldA_56_3 rfl rfl)) ?_
  refine ARL.q (v := wp0_list) rfl rfl (hS.aliveC (k := 0) rfl) (Light.quiet (kAt hS (j := 0) rfl rfl aggA_26 rfl rfl)) ?_
  refine ARL.q0 (v := (.int .i64 p1)) rfl rfl (Light.quiet (opMove rfl rfl)) ?_
  refine ARL.q0 (v := (.ptr bp0 0)) rfl rfl (Light.quiet (opMove rfl rfl)) ?_
  refine ARL.q0 (v := (.ptr bp0 0)) rfl rfl (Light.quiet (opNil rfl rfl rfl)) ?_
  refine ARL.q0 (v := (.ptr bp0 3)) rfl rfl (Light.quiet (opFieldAddr rfl fieldA_56_3 rfl rfl)) ?_
  refine ARL.q (v := wp0_list) rfl rfl (hS.aliveC (k := 0) rfl) (Light.quiet (kAt hS (j := 0) rfl rfl aggA_26 rfl rfl)) ?_
  refine ARL.q0 (v := (.int .i64 (p0.list.length : Int))) rfl rfl (Light.quiet (kLen hS (j := 1) rfl rfl rfl rfl lenT_26 rfl)) ?_
  refine ARL.q0 (v := (.int .i64 (W (((p0.list.length : Int)) - 1)))) rfl rfl (Light.quiet (opInt rfl rfl rfl rfl)) ?_
  refine ARL.q0 (v := (.agg [(.int .i64 p1), (.int .i64 (W (((p0.list.length : Int)) - 1))), (.int .i64 0)])) rfl rfl (Light.quiet (opBuildZ (zs := [(.int .i64 0), (.int .i64 0), (.int .i64 0)]) rfl plan_43 zeroA_43 ⟨.inl rfl, .inl rfl, .inl rfl, trivial⟩ rfl)) ?_
  refine ARL.q0 (v := (.list 3 (List.map TNode.av [(TNode.mk p1 ((W (((p0.list.length : Int)) - 1))) 0)]))) rfl rfl ((qLit (xs := [(.agg [(.int .i64 p1), (.int .i64 (W (((p0.list.length : Int)) - 1))), (.int .i64 0)])]) rfl elemA_26 sizeA_43 zeroA_43 rfl rfl rfl rfl (by simp [cells, TNode.av]) (nlt rfl))) ?_
  obtain ⟨z18, hz18, hF⟩ := bindE hF
  refine ARL.y rfl rfl rfl rfl (hApp (f := TNode.av) (ws := [(TNode.mk p1 ((W (((p0.list.length : Int)) - 1))) 0)]) hS (j := 1) rfl hz18 rfl elemA_26 rfl sizeA_43 bytesA_43 zeroA_43 rfl rfl rfl (fun _ => rfl) ?_); rintro v18 G3 hS
  refine ARL.q0 (v := (.ptr bp0 0)) rfl rfl (Light.quiet (opNil rfl rfl rfl)) ?_
  refine ARL.q0 (v := (.ptr bp0 3)) rfl rfl (Light.quiet (opFieldAddr rfl fieldA_56_3 rfl rfl)) ?_
  refine ARL.n rfl rfl rfl rfl (hPut hS (j := 0) rfl rfl sizeA_26 rfl rfl (hS.one (k := 1) rfl) (nlt rfl) ?_); rintro G5 hS
  refine ARL.done ?_
  refine QRet.end ?_
  obtain rfl := someE hF
  exact QRet.many (vs := []) trivial (by simp) ⟨_, ⟨v18, rfl, rfl⟩, hS.pick [0, 1, 2] rfl rfl⟩

set_option maxRecDepth 10000 in
theorem impl_ltlSum.body_ok {p0 : Treader} {r : Treader} {bp0 : Nat} {wp0_list : AV} {rec_impl_ltlSum : Treader → Option Treader} {rec_impl_ltlProduct : Treader → Option Treader} {rec_impl_ltlTerm : Treader → Option Treader} {rec_impl_ltlAtom : Treader → Option Treader} (ih_impl_ltlSum : ∀ {p0 : Treader} {r : Treader} {bp0 : Nat} {wp0_list : AV} , rec_impl_ltlSum p0 = some r → HS Try.prog 42 [(.ptr bp0 0)] [.cell bp0 [(.str p0.s), (.int .i64 p0.at_), (.int .i64 p0.code), wp0_list, .undef], .row 3 wp0_list (List.map TNode.av p0.list)] fun v L' => ∃ up0_list : AV, v = .tup [] ∧ L' = [.cell bp0 [(.str r.s), (.int .i64 r.at_), (.int .i64 r.code), up0_list, .undef], .row 3 up0_list (List.map TNode.av r.list)]) (ih_impl_ltlProduct : ∀ {p0 : Treader} {r : Treader} {bp0 : Nat} {wp0_list : AV} , rec_impl_ltlProduct p0 = some r → HS Try.prog 58 [(.ptr bp0 0)] [.cell bp0 [(.str p0.s), (.int .i64 p0.at_), (.int .i64 p0.code), wp0_list, .undef], .row 3 wp0_list (List.map TNode.av p0.list)] fun v L' => ∃ up0_list : AV, v = .tup [] ∧ L' = [.cell bp0 [(.str r.s), (.int .i64 r.at_), (.int .i64 r.code), up0_list, .undef], .row 3 up0_list (List.map TNode.av r.list)]) (ih_impl_ltlTerm : ∀ {p0 : Treader} {r : Treader} {bp0 : Nat} {wp0_list : AV} , rec_impl_ltlTerm p0 = some r → HS Try.prog 67 [(.ptr bp0 0)] [.cell bp0 [(.str p0.s), (.int .i64 p0.at_), (.int .i64 p0.code), wp0_list, .undef], .row 3 wp0_list (List.map TNode.av p0.list)] fun v L' => ∃ up0_list : AV, v = .tup [] ∧ L' = [.cell bp0 [(.str r.s), (.int .i64 r.at_), (.int .i64 r.code), up0_list, .undef], .row 3 up0_list (List.map TNode.av r.list)]) (ih_impl_ltlAtom : ∀ {p0 : Treader} {r : Treader} {bp0 : Nat} {wp0_list : AV} , rec_impl_ltlAtom p0 = some r → HS Try.prog 69 [(.ptr bp0 0)] [.cell bp0 [(.str p0.s), (.int .i64 p0.at_), (.int .i64 p0.code), wp0_list, .undef], .row 3 wp0_list (List.map TNode.av p0.list)] fun v L' => ∃ up0_list : AV, v = .tup [] ∧ L' = [.cell bp0 [(.str r.s), (.int .i64 r.at_), (.int .i64 r.code), up0_list, .undef], .row 3 up0_list (List.map TNode.av r.list)]) (hF : impl_ltlSum.body rec_impl_ltlSum rec_impl_ltlProduct rec_impl_ltlTerm rec_impl_ltlAtom p0 = some r) : HS Try.prog 42 [(.ptr bp0 0)] [.cell bp0 [(.str p0.s), (.int .i64 p0.at_), (.int .i64 p0.code), wp0_list, .undef], .row 3 wp0_list (List.map TNode.av p0.list)] fun v L' => ∃ up0_list : AV, v = .tup [] ∧ L' = [.cell bp0 [(.str r.s), (.int .i64 r.at_), (.int .i64 r.code), up0_list, .undef], .row 3 up0_list (List.map TNode.av r.list)] := by
  intro H S hS
  refine HC.enter Try.func42 rfl Try.ntmps42 (by simp) ?_
  simp only [List.cons_append, List.nil_append] at hS
  unfold impl_ltlSum.body at hF
  refine AWP.lastR rfl ?_
  refine ASL.q (v := (.ptr bp0 0)) rfl rfl (Light.quiet (opMove rfl rfl)) ?_
  obtain ⟨a3, ha3, hF⟩ := bindE hF
  refine ASL.x rfl rfl (hCallS hS [0, 1, 2] (F := [.snap S]) rfl rfl rfl call_57 (impl_reader_row_ok call_58 (fun _ _ _ _ h => ih_impl_ltlProduct h) ha3) rfl rfl ?_); rintro _ _ G5 ⟨w3, rfl, rfl⟩ hS
  refine ASL.done ?_
  refine QRet.end ?_
  obtain rfl := someE hF
  exact QRet.many (vs := []) trivial (by simp) ⟨_, ⟨w3, rfl, rfl⟩, hS.pick [0, 1, 2] rfl rfl⟩

set_option maxRecDepth 10000 in
theorem impl_ltlProduct.body_ok {p0 : Treader} {r : Treader} {bp0 : Nat} {wp0_list : AV} {rec_impl_ltlSum : Treader → Option Treader} {rec_impl_ltlProduct : Treader → Option Treader} {rec_impl_ltlTerm : Treader → Option Treader} {rec_impl_ltlAtom : Treader → Option Treader} (ih_impl_ltlSum : ∀ {p0 : Treader} {r : Treader} {bp0 : Nat} {wp0_list : AV} , rec_impl_ltlSum p0 = some r → HS Try.prog 42 [(.ptr bp0 0)] [.cell bp0 [(.str p0.s), (.int .i64 p0.at_), (.int .i64 p0.code), wp0_list, .undef], .row 3 wp0_list (List.map TNode.av p0.list)] fun v L' => ∃ up0_list : AV, v = .tup [] ∧ L' = [.cell bp0 [(.str r.s), (.int .i64 r.at_), (.int .i64 r.code), up0_list, .undef], .row 3 up0_list (List.map TNode.av r.list)]) (ih_impl_ltlProduct : ∀ {p0 : Treader} {r : Treader} {bp0 : Nat} {wp0_list : AV} , rec_impl_ltlProduct p0 = some r → HS Try.prog 58 [(.ptr bp0 0)] [.cell bp0 [(.str p0.s), (.int .i64 p0.at_), (.int .i64 p0.code), wp0_list, .undef], .row 3 wp0_list (List.map TNode.av p0.list)] fun v L' => ∃ up0_list : AV, v = .tup [] ∧ L' = [.cell bp0 [(.str r.s), (.int .i64 r.at_), (.int .i64 r.code), up0_list, .undef], .row 3 up0_list (List.map TNode.av r.list)]) (ih_impl_ltlTerm : ∀ {p0 : Treader} {r : Treader} {bp0 : Nat} {wp0_list : AV} , rec_impl_ltlTerm p0 = some r → HS Try.prog 67 [(.ptr bp0 0)] [.cell bp0 [(.str p0.s), (.int .i64 p0.at_), (.int .i64 p0.code), wp0_list, .undef], .row 3 wp0_list (List.map TNode.av p0.list)] fun v L' => ∃ up0_list : AV, v = .tup [] ∧ L' = [.cell bp0 [(.str r.s), (.int .i64 r.at_), (.int .i64 r.code), up0_list, .undef], .row 3 up0_list (List.map TNode.av r.list)]) (ih_impl_ltlAtom : ∀ {p0 : Treader} {r : Treader} {bp0 : Nat} {wp0_list : AV} , rec_impl_ltlAtom p0 = some r → HS Try.prog 69 [(.ptr bp0 0)] [.cell bp0 [(.str p0.s), (.int .i64 p0.at_), (.int .i64 p0.code), wp0_list, .undef], .row 3 wp0_list (List.map TNode.av p0.list)] fun v L' => ∃ up0_list : AV, v = .tup [] ∧ L' = [.cell bp0 [(.str r.s), (.int .i64 r.at_), (.int .i64 r.code), up0_list, .undef], .row 3 up0_list (List.map TNode.av r.list)]) (hF : impl_ltlProduct.body rec_impl_ltlSum rec_impl_ltlProduct rec_impl_ltlTerm rec_impl_ltlAtom p0 = some r) : HS Try.prog 58 [(.ptr bp0 0)] [.cell bp0 [(.str p0.s), (.int .i64 p0.at_), (.int .i64 p0.code), wp0_list, .undef], .row 3 wp0_list (List.map TNode.av p0.list)] fun v L' => ∃ up0_list : AV, v = .tup [] ∧ L' = [.cell bp0 [(.str r.s), (.int .i64 r.at_), (.int .i64 r.code), up0_list, .undef], .row 3 up0_list (List.map TNode.av r.list)] := by
  intro H S hS
  refine HC.enter Try.func58 rfl Try.ntmps58 (by simp) ?_
  simp only [List.cons_append, List.nil_append] at hS
  unfold impl_ltlProduct.body at hF
  refine AWP.lastR rfl ?_
  refine ASL.q (v := (.ptr bp0 0)) rfl rfl (Light.quiet (opMove rfl rfl)) ?_
  obtain ⟨a3, ha3, hF⟩ := bindE hF
  refine ASL.x rfl rfl (hCallS hS [0, 1, 2] (F := [.snap S]) rfl rfl rfl call_57 (impl_reader_row_ok call_67 (fun _ _ _ _ h => ih_impl_ltlTerm h) ha3) rfl rfl ?_); rintro _ _ G5 ⟨w3, rfl, rfl⟩ hS
  refine ASL.done ?_
  refine QRet.end ?_
  obtain rfl := someE hF
  exact QRet.many (vs := []) trivial (by simp) ⟨_, ⟨w3, rfl, rfl⟩, hS.pick [0, 1, 2] rfl rfl⟩

set_option maxRecDepth 10000 in
theorem impl_ltlTerm.body_ok {p0 : Treader} {r : Treader} {bp0 : Nat} {wp0_list : AV} {rec_impl_ltlSum : Treader → Option Treader} {rec_impl_ltlProduct : Treader → Option Treader} {rec_impl_ltlTerm : Treader → Option Treader} {rec_impl_ltlAtom : Treader → Option Treader} (ih_impl_ltlSum : ∀ {p0 : Treader} {r : Treader} {bp0 : Nat} {wp0_list : AV} , rec_impl_ltlSum p0 = some r → HS Try.prog 42 [(.ptr bp0 0)] [.cell bp0 [(.str p0.s), (.int .i64 p0.at_), (.int .i64 p0.code), wp0_list, .undef], .row 3 wp0_list (List.map TNode.av p0.list)] fun v L' => ∃ up0_list : AV, v = .tup [] ∧ L' = [.cell bp0 [(.str r.s), (.int .i64 r.at_), (.int .i64 r.code), up0_list, .undef], .row 3 up0_list (List.map TNode.av r.list)]) (ih_impl_ltlProduct : ∀ {p0 : Treader} {r : Treader} {bp0 : Nat} {wp0_list : AV} , rec_impl_ltlProduct p0 = some r → HS Try.prog 58 [(.ptr bp0 0)] [.cell bp0 [(.str p0.s), (.int .i64 p0.at_), (.int .i64 p0.code), wp0_list, .undef], .row 3 wp0_list (List.map TNode.av p0.list)] fun v L' => ∃ up0_list : AV, v = .tup [] ∧ L' = [.cell bp0 [(.str r.s), (.int .i64 r.at_), (.int .i64 r.code), up0_list, .undef], .row 3 up0_list (List.map TNode.av r.list)]) (ih_impl_ltlTerm : ∀ {p0 : Treader} {r : Treader} {bp0 : Nat} {wp0_list : AV} , rec_impl_ltlTerm p0 = some r → HS Try.prog 67 [(.ptr bp0 0)] [.cell bp0 [(.str p0.s), (.int .i64 p0.at_), (.int .i64 p0.code), wp0_list, .undef], .row 3 wp0_list (List.map TNode.av p0.list)] fun v L' => ∃ up0_list : AV, v = .tup [] ∧ L' = [.cell bp0 [(.str r.s), (.int .i64 r.at_), (.int .i64 r.code), up0_list, .undef], .row 3 up0_list (List.map TNode.av r.list)]) (ih_impl_ltlAtom : ∀ {p0 : Treader} {r : Treader} {bp0 : Nat} {wp0_list : AV} , rec_impl_ltlAtom p0 = some r → HS Try.prog 69 [(.ptr bp0 0)] [.cell bp0 [(.str p0.s), (.int .i64 p0.at_), (.int .i64 p0.code), wp0_list, .undef], .row 3 wp0_list (List.map TNode.av p0.list)] fun v L' => ∃ up0_list : AV, v = .tup [] ∧ L' = [.cell bp0 [(.str r.s), (.int .i64 r.at_), (.int .i64 r.code), up0_list, .undef], .row 3 up0_list (List.map TNode.av r.list)]) (hF : impl_ltlTerm.body rec_impl_ltlSum rec_impl_ltlProduct rec_impl_ltlTerm rec_impl_ltlAtom p0 = some r) : HS Try.prog 67 [(.ptr bp0 0)] [.cell bp0 [(.str p0.s), (.int .i64 p0.at_), (.int .i64 p0.code), wp0_list, .undef], .row 3 wp0_list (List.map TNode.av p0.list)] fun v L' => ∃ up0_list : AV, v = .tup [] ∧ L' = [.cell bp0 [(.str r.s), (.int .i64 r.at_), (.int .i64 r.code), up0_list, .undef], .row 3 up0_list (List.map TNode.av r.list)] := by
  intro H S hS
  refine HC.enter Try.func67 rfl Try.ntmps67 (by simp) ?_
  simp only [List.cons_append, List.nil_append] at hS
  unfold impl_ltlTerm.body at hF
  refine AWP.seqR rfl ?_
  refine ASL.q (v := (.ptr bp0 0)) rfl rfl (Light.quiet (opMove rfl rfl)) ?_
  obtain ⟨a5, ha5, hF⟩ := bindE hF
  refine ASL.x rfl rfl (hCallS hS [0, 1, 2] (F := [.snap S]) rfl rfl rfl call_69 (ih_impl_ltlAtom ha5) rfl rfl ?_); rintro _ _ G5 ⟨w3, rfl, rfl⟩ hS
  refine ASL.done ?_
  refine AWP.seqR rfl ?_
  refine ASL.q (v := (.ptr bp0 0)) rfl rfl (Light.quiet (opMove rfl rfl)) ?_
  refine ASL.q (v := (.ptr bp0 0)) rfl rfl (Light.quiet (opNil rfl rfl rfl)) ?_
  refine ASL.q (v := (.ptr bp0 3)) rfl rfl (Light.quiet (opFieldAddr rfl fieldA_56_3 rfl rfl)) ?_
  refine ASL.q (v := w3) rfl rfl (Light.quiet (kAt hS (j := 0) rfl rfl aggA_26 rfl rfl)) ?_
  refine ASL.q (v := (.int .i64 (a5.list.length : Int))) rfl rfl (Light.quiet (kLen hS (j := 1) rfl rfl rfl rfl lenT_26 rfl)) ?_
  refine ASL.q (v := (.int .i64 (W (((a5.list.length : Int)) - 1)))) rfl rfl (Light.quiet (opInt rfl rfl rfl rfl)) ?_
  refine ASL.q (v := (.int .i64 (W (((a5.list.length : Int)) - 1)))) rfl rfl (Light.quiet (opAssign rfl rfl)) ?_
  refine ASL.done ?_
  refine AWP.seqR rfl ?_
  refine ASL.q (v := (.int .i64 0)) rfl rfl (Light.quiet (opAssign rfl rfl)) ?_
  refine ASL.done ?_
  refine AWP.seqM (fun e H => ∃ y6 : ByteArray, ∃ y7 : Int, ∃ y8 : Int, ∃ y9 : (List TNode), ∃ x3_1 : Int, ∃ w10 : AV, E.Told e [(0, (.ptr bp0 0)), (2, (.int .i64 (W (((a5.list.length : Int)) - 1)))), (3, (.int .i64 x3_1))] ∧ E.Sep H [.row 3 w10 (List.map TNode.av y9), .cell bp0 [(.str y6), (.int .i64 y7), (.int .i64 y8), w10, .undef], .snap S] ∧ impl_ltlTerm.k0 rec_impl_ltlTerm a5 y6 y7 y8 y9 x3_1 = some r) ?_ ?_
  · rintro e0 G18 ⟨y6, y7, y8, y9, x3_1, w10, hT, hS, hF⟩; refine AWP.only _ hT ?_; unfold impl_ltlTerm.k0 at hF
    refine AWP.seqR rfl ?_
    refine ASL.q (v := (.ptr bp0 0)) rfl rfl (Light.quiet (opMove rfl rfl)) ?_
    obtain ⟨a19, ha19, hF⟩ := bindE hF
    refine ASL.x rfl rfl (hCallS hS [1, 0, 2] (F := [.snap S]) rfl rfl rfl call_67 (ih_impl_ltlTerm ha19) rfl rfl ?_); rintro _ _ G14 ⟨w12, rfl, rfl⟩ hS
    refine ASL.done ?_
    refine AWP.lastR rfl ?_
    refine ASL.q (v := (.ptr bp0 0)) rfl rfl (Light.quiet (opMove rfl rfl)) ?_
    refine ASL.q (v := (.int .i64 x3_1)) rfl rfl (Light.quiet (opMove rfl rfl)) ?_
    refine ASL.q (v := (.int .i64 (W (((a5.list.length : Int)) - 1)))) rfl rfl (Light.quiet (opMove rfl rfl)) ?_
    obtain ⟨a23, ha23, hF⟩ := bindE hF
    refine ASL.x rfl rfl (hCallS hS [0, 1, 2] (F := [.snap S]) rfl rfl rfl call_38 (impl_reader_two_ok ha23) rfl rfl ?_); rintro _ _ G17 ⟨w15, rfl, rfl⟩ hS
    refine ASL.done ?_
    refine QRet.end ?_
    obtain rfl := someE hF
    exact QRet.many (vs := []) trivial (by simp) ⟨_, ⟨w15, rfl, rfl⟩, hS.pick [0, 1, 2] rfl rfl⟩
  · skip
    refine AWP.block ?_
    refine AWP.seqR rfl ?_
    refine ASL.q (v := (.ptr bp0 0)) rfl rfl (Light.quiet (opMove rfl rfl)) ?_
    obtain ⟨a14, ha14, hF⟩ := bindE hF
    refine ASL.x rfl rfl (hCallS hS [0, 1, 2] (F := [.snap S]) rfl rfl rfl call_66 (impl_reader_skip_ok ha14) rfl rfl ?_); rintro _ _ G21 ⟨w19, rfl, rfl⟩ hS
    refine ASL.q (v := (.bool a14.1)) rfl rfl (Light.quiet (opAssign rfl rfl)) ?_
    refine ASL.done ?_
    refine AWP.ifB hF rfl (fun hc22 hF => ?_) (fun hc22 hF => ?_)
    · skip
      refine AWP.lastR rfl ?_
      refine ASL.q (v := (.int .i64 8)) rfl rfl (Light.quiet (opAssign rfl rfl)) ?_
      refine ASL.done ?_
      refine QBlock.nrm ?_
      refine QThen.nrm ?_
      exact ⟨a14.2.s, a14.2.at_, a14.2.code, a14.2.list, 8, w19, ⟨rfl, rfl, rfl, trivial⟩, (hS.pick [1, 0, 2] rfl rfl), hF⟩
    · skip
      refine AWP.seqR rfl ?_
      refine ASL.q (v := (.ptr bp0 0)) rfl rfl (Light.quiet (opMove rfl rfl)) ?_
      obtain ⟨a17, ha17, hF⟩ := bindE hF
      refine ASL.x rfl rfl (hCallS hS [0, 1, 2] (F := [.snap S]) rfl rfl rfl call_66 (impl_reader_skip_ok ha17) rfl rfl ?_); rintro _ _ G25 ⟨w23, rfl, rfl⟩ hS
      refine ASL.q (v := (.bool a17.1)) rfl rfl (Light.quiet (opAssign rfl rfl)) ?_
      refine ASL.done ?_
      refine AWP.ifB hF rfl (fun hc26 hF => ?_) (fun hc26 hF => ?_)
      · skip
        refine AWP.lastR rfl ?_
        refine ASL.q (v := (.int .i64 9)) rfl rfl (Light.quiet (opAssign rfl rfl)) ?_
        refine ASL.done ?_
        refine QBlock.nrm ?_
        refine QThen.nrm ?_
        exact ⟨a17.2.s, a17.2.at_, a17.2.code, a17.2.list, 9, w23, ⟨rfl, rfl, rfl, trivial⟩, (hS.pick [1, 0, 2] rfl rfl), hF⟩
      · skip
        refine AWP.ret ?_
        refine QBlock.ret ?_
        refine QThen.rt ?_
        obtain rfl := someE hF
        exact QRet.many (vs := []) trivial (by simp) ⟨_, ⟨w23, rfl, rfl⟩, hS.pick [0, 1, 2] rfl rfl⟩

set_option maxRecDepth 10000 in
theorem impl_ltlAtom.body_ok {p0 : Treader} {r : Treader} {bp0 : Nat} {wp0_list : AV} {rec_impl_ltlSum : Treader → Option Treader} {rec_impl_ltlProduct : Treader → Option Treader} {rec_impl_ltlTerm : Treader → Option Treader} {rec_impl_ltlAtom : Treader → Option Treader} (ih_impl_ltlSum : ∀ {p0 : Treader} {r : Treader} {bp0 : Nat} {wp0_list : AV} , rec_impl_ltlSum p0 = some r → HS Try.prog 42 [(.ptr bp0 0)] [.cell bp0 [(.str p0.s), (.int .i64 p0.at_), (.int .i64 p0.code), wp0_list, .undef], .row 3 wp0_list (List.map TNode.av p0.list)] fun v L' => ∃ up0_list : AV, v = .tup [] ∧ L' = [.cell bp0 [(.str r.s), (.int .i64 r.at_), (.int .i64 r.code), up0_list, .undef], .row 3 up0_list (List.map TNode.av r.list)]) (ih_impl_ltlProduct : ∀ {p0 : Treader} {r : Treader} {bp0 : Nat} {wp0_list : AV} , rec_impl_ltlProduct p0 = some r → HS Try.prog 58 [(.ptr bp0 0)] [.cell bp0 [(.str p0.s), (.int .i64 p0.at_), (.int .i64 p0.code), wp0_list, .undef], .row 3 wp0_list (List.map TNode.av p0.list)] fun v L' => ∃ up0_list : AV, v = .tup [] ∧ L' = [.cell bp0 [(.str r.s), (.int .i64 r.at_), (.int .i64 r.code), up0_list, .undef], .row 3 up0_list (List.map TNode.av r.list)]) (ih_impl_ltlTerm : ∀ {p0 : Treader} {r : Treader} {bp0 : Nat} {wp0_list : AV} , rec_impl_ltlTerm p0 = some r → HS Try.prog 67 [(.ptr bp0 0)] [.cell bp0 [(.str p0.s), (.int .i64 p0.at_), (.int .i64 p0.code), wp0_list, .undef], .row 3 wp0_list (List.map TNode.av p0.list)] fun v L' => ∃ up0_list : AV, v = .tup [] ∧ L' = [.cell bp0 [(.str r.s), (.int .i64 r.at_), (.int .i64 r.code), up0_list, .undef], .row 3 up0_list (List.map TNode.av r.list)]) (ih_impl_ltlAtom : ∀ {p0 : Treader} {r : Treader} {bp0 : Nat} {wp0_list : AV} , rec_impl_ltlAtom p0 = some r → HS Try.prog 69 [(.ptr bp0 0)] [.cell bp0 [(.str p0.s), (.int .i64 p0.at_), (.int .i64 p0.code), wp0_list, .undef], .row 3 wp0_list (List.map TNode.av p0.list)] fun v L' => ∃ up0_list : AV, v = .tup [] ∧ L' = [.cell bp0 [(.str r.s), (.int .i64 r.at_), (.int .i64 r.code), up0_list, .undef], .row 3 up0_list (List.map TNode.av r.list)]) (hF : impl_ltlAtom.body rec_impl_ltlSum rec_impl_ltlProduct rec_impl_ltlTerm rec_impl_ltlAtom p0 = some r) : HS Try.prog 69 [(.ptr bp0 0)] [.cell bp0 [(.str p0.s), (.int .i64 p0.at_), (.int .i64 p0.code), wp0_list, .undef], .row 3 wp0_list (List.map TNode.av p0.list)] fun v L' => ∃ up0_list : AV, v = .tup [] ∧ L' = [.cell bp0 [(.str r.s), (.int .i64 r.at_), (.int .i64 r.code), up0_list, .undef], .row 3 up0_list (List.map TNode.av r.list)] := by
  intro H S hS
  refine HC.enter Try.func69 rfl Try.ntmps69 (by simp) ?_
  simp only [List.cons_append, List.nil_append] at hS
  unfold impl_ltlAtom.body at hF
  refine AWP.seqR rfl ?_
  refine ASL.q (v := (.int .i64 0)) rfl rfl (Light.quiet (opAssign rfl rfl)) ?_
  refine ASL.done ?_
  refine AWP.seqM (fun e H => ∃ y3 : ByteArray, ∃ y4 : Int, ∃ y5 : Int, ∃ y6 : (List TNode), ∃ x2_1 : Int, ∃ w7 : AV, E.Told e [(0, (.ptr bp0 0)), (2, (.int .i64 x2_1))] ∧ E.Sep H [.row 3 w7 (List.map TNode.av y6), .cell bp0 [(.str y3), (.int .i64 y4), (.int .i64 y5), w7, .undef], .snap S] ∧ impl_ltlAtom.k0 rec_impl_ltlAtom y3 y4 y5 y6 x2_1 = some r) ?_ ?_
  · rintro e0 G15 ⟨y3, y4, y5, y6, x2_1, w7, hT, hS, hF⟩; refine AWP.only _ hT ?_; unfold impl_ltlAtom.k0 at hF
    refine AWP.seqR rfl ?_
    refine ASL.q (v := (.ptr bp0 0)) rfl rfl (Light.quiet (opMove rfl rfl)) ?_
    obtain ⟨a18, ha18, hF⟩ := bindE hF
    refine ASL.x rfl rfl (hCallS hS [1, 0, 2] (F := [.snap S]) rfl rfl rfl call_69 (ih_impl_ltlAtom ha18) rfl rfl ?_); rintro _ _ G11 ⟨w9, rfl, rfl⟩ hS
    refine ASL.done ?_
    refine AWP.lastR rfl ?_
    refine ASL.q (v := (.ptr bp0 0)) rfl rfl (Light.quiet (opMove rfl rfl)) ?_
    refine ASL.q (v := (.int .i64 x2_1)) rfl rfl (Light.quiet (opMove rfl rfl)) ?_
    obtain ⟨a21, ha21, hF⟩ := bindE hF
    refine ASL.x rfl rfl (hCallS hS [0, 1, 2] (F := [.snap S]) rfl rfl rfl call_61 (impl_reader_one_ok ha21) rfl rfl ?_); rintro _ _ G14 ⟨w12, rfl, rfl⟩ hS
    refine ASL.done ?_
    refine QRet.end ?_
    obtain rfl := someE hF
    exact QRet.many (vs := []) trivial (by simp) ⟨_, ⟨w12, rfl, rfl⟩, hS.pick [0, 1, 2] rfl rfl⟩
  · skip
    refine AWP.block ?_
    refine AWP.seqR rfl ?_
    refine ASL.q (v := (.ptr bp0 0)) rfl rfl (Light.quiet (opMove rfl rfl)) ?_
    obtain ⟨a7, ha7, hF⟩ := bindE hF
    refine ASL.x rfl rfl (hCallS hS [0, 1, 2] (F := [.snap S]) rfl rfl rfl call_66 (impl_reader_skip_ok ha7) rfl rfl ?_); rintro _ _ G18 ⟨w16, rfl, rfl⟩ hS
    refine ASL.q (v := (.bool a7.1)) rfl rfl (Light.quiet (opAssign rfl rfl)) ?_
    refine ASL.done ?_
    refine AWP.ifB hF rfl (fun hc19 hF => ?_) (fun hc19 hF => ?_)
    · skip
      refine AWP.lastR rfl ?_
      refine ASL.q (v := (.int .i64 4)) rfl rfl (Light.quiet (opAssign rfl rfl)) ?_
      refine ASL.done ?_
      refine QBlock.nrm ?_
      refine QThen.nrm ?_
      exact ⟨a7.2.s, a7.2.at_, a7.2.code, a7.2.list, 4, w16, ⟨rfl, rfl, trivial⟩, (hS.pick [1, 0, 2] rfl rfl), hF⟩
    · skip
      refine AWP.seqR rfl ?_
      refine ASL.q (v := (.ptr bp0 0)) rfl rfl (Light.quiet (opMove rfl rfl)) ?_
      obtain ⟨a10, ha10, hF⟩ := bindE hF
      refine ASL.x rfl rfl (hCallS hS [0, 1, 2] (F := [.snap S]) rfl rfl rfl call_66 (impl_reader_skip_ok ha10) rfl rfl ?_); rintro _ _ G22 ⟨w20, rfl, rfl⟩ hS
      refine ASL.q (v := (.bool a10.1)) rfl rfl (Light.quiet (opAssign rfl rfl)) ?_
      refine ASL.done ?_
      refine AWP.ifB hF rfl (fun hc23 hF => ?_) (fun hc23 hF => ?_)
      · skip
        refine AWP.lastR rfl ?_
        refine ASL.q (v := (.int .i64 7)) rfl rfl (Light.quiet (opAssign rfl rfl)) ?_
        refine ASL.done ?_
        refine QBlock.nrm ?_
        refine QThen.nrm ?_
        exact ⟨a10.2.s, a10.2.at_, a10.2.code, a10.2.list, 7, w20, ⟨rfl, rfl, trivial⟩, (hS.pick [1, 0, 2] rfl rfl), hF⟩
      · skip
        refine AWP.seqR rfl ?_
        refine ASL.q (v := (.ptr bp0 0)) rfl rfl (Light.quiet (opMove rfl rfl)) ?_
        obtain ⟨a13, ha13, hF⟩ := bindE hF
        refine ASL.x rfl rfl (hCallS hS [0, 1, 2] (F := [.snap S]) rfl rfl rfl call_66 (impl_reader_skip_ok ha13) rfl rfl ?_); rintro _ _ G26 ⟨w24, rfl, rfl⟩ hS
        refine ASL.q (v := (.bool a13.1)) rfl rfl (Light.quiet (opAssign rfl rfl)) ?_
        refine ASL.done ?_
        refine AWP.ifB hF rfl (fun hc27 hF => ?_) (fun hc27 hF => ?_)
        · skip
          refine AWP.lastR rfl ?_
          refine ASL.q (v := (.int .i64 10)) rfl rfl (Light.quiet (opAssign rfl rfl)) ?_
          refine ASL.done ?_
          refine QBlock.nrm ?_
          refine QThen.nrm ?_
          exact ⟨a13.2.s, a13.2.at_, a13.2.code, a13.2.list, 10, w24, ⟨rfl, rfl, trivial⟩, (hS.pick [1, 0, 2] rfl rfl), hF⟩
        · skip
          refine AWP.seqR rfl ?_
          refine ASL.q (v := (.ptr bp0 0)) rfl rfl (Light.quiet (opMove rfl rfl)) ?_
          obtain ⟨a16, ha16, hF⟩ := bindE hF
          refine ASL.x rfl rfl (hCallS hS [0, 1, 2] (F := [.snap S]) rfl rfl rfl call_66 (impl_reader_skip_ok ha16) rfl rfl ?_); rintro _ _ G30 ⟨w28, rfl, rfl⟩ hS
          refine ASL.q (v := (.bool a16.1)) rfl rfl (Light.quiet (opAssign rfl rfl)) ?_
          refine ASL.done ?_
          refine AWP.ifB hF rfl (fun hc31 hF => ?_) (fun hc31 hF => ?_)
          · skip
            refine AWP.lastR rfl ?_
            refine ASL.q (v := (.int .i64 11)) rfl rfl (Light.quiet (opAssign rfl rfl)) ?_
            refine ASL.done ?_
            refine QBlock.nrm ?_
            refine QThen.nrm ?_
            exact ⟨a16.2.s, a16.2.at_, a16.2.code, a16.2.list, 11, w28, ⟨rfl, rfl, trivial⟩, (hS.pick [1, 0, 2] rfl rfl), hF⟩
          · skip
            refine AWP.seqR rfl ?_
            refine ASL.q (v := (.ptr bp0 0)) rfl rfl (Light.quiet (opMove rfl rfl)) ?_
            obtain ⟨a4, ha4, hF⟩ := bindE hF
            refine ASL.x rfl rfl (hCallS hS [0, 1, 2] (F := [.snap S]) rfl rfl rfl call_70 (impl_plainAtom_ok call_42 (fun _ _ _ _ h => ih_impl_ltlSum h) ha4) rfl rfl ?_); rintro _ _ G34 ⟨w32, rfl, rfl⟩ hS
            refine ASL.done ?_
            refine AWP.ret ?_
            refine QBlock.ret ?_
            refine QThen.rt ?_
            obtain rfl := someE hF
            exact QRet.many (vs := []) trivial (by simp) ⟨_, ⟨w32, rfl, rfl⟩, hS.pick [0, 1, 2] rfl rfl⟩
theorem impl_ltlSum.grp_ok {K : Nat} : (∀ {p0 : Treader} {r : Treader} {bp0 : Nat} {wp0_list : AV} , impl_ltlSum K p0 = some r → HS Try.prog 42 [(.ptr bp0 0)] [.cell bp0 [(.str p0.s), (.int .i64 p0.at_), (.int .i64 p0.code), wp0_list, .undef], .row 3 wp0_list (List.map TNode.av p0.list)] fun v L' => ∃ up0_list : AV, v = .tup [] ∧ L' = [.cell bp0 [(.str r.s), (.int .i64 r.at_), (.int .i64 r.code), up0_list, .undef], .row 3 up0_list (List.map TNode.av r.list)]) ∧ (∀ {p0 : Treader} {r : Treader} {bp0 : Nat} {wp0_list : AV} , impl_ltlProduct K p0 = some r → HS Try.prog 58 [(.ptr bp0 0)] [.cell bp0 [(.str p0.s), (.int .i64 p0.at_), (.int .i64 p0.code), wp0_list, .undef], .row 3 wp0_list (List.map TNode.av p0.list)] fun v L' => ∃ up0_list : AV, v = .tup [] ∧ L' = [.cell bp0 [(.str r.s), (.int .i64 r.at_), (.int .i64 r.code), up0_list, .undef], .row 3 up0_list (List.map TNode.av r.list)]) ∧ (∀ {p0 : Treader} {r : Treader} {bp0 : Nat} {wp0_list : AV} , impl_ltlTerm K p0 = some r → HS Try.prog 67 [(.ptr bp0 0)] [.cell bp0 [(.str p0.s), (.int .i64 p0.at_), (.int .i64 p0.code), wp0_list, .undef], .row 3 wp0_list (List.map TNode.av p0.list)] fun v L' => ∃ up0_list : AV, v = .tup [] ∧ L' = [.cell bp0 [(.str r.s), (.int .i64 r.at_), (.int .i64 r.code), up0_list, .undef], .row 3 up0_list (List.map TNode.av r.list)]) ∧ (∀ {p0 : Treader} {r : Treader} {bp0 : Nat} {wp0_list : AV} , impl_ltlAtom K p0 = some r → HS Try.prog 69 [(.ptr bp0 0)] [.cell bp0 [(.str p0.s), (.int .i64 p0.at_), (.int .i64 p0.code), wp0_list, .undef], .row 3 wp0_list (List.map TNode.av p0.list)] fun v L' => ∃ up0_list : AV, v = .tup [] ∧ L' = [.cell bp0 [(.str r.s), (.int .i64 r.at_), (.int .i64 r.code), up0_list, .undef], .row 3 up0_list (List.map TNode.av r.list)]) := by
  induction K with
  | zero => exact ⟨(by intros; rename_i h; cases h), (by intros; rename_i h; cases h), (by intros; rename_i h; cases h), (by intros; rename_i h; cases h)⟩
  | succ K ih => exact ⟨(by intros; rename_i h; exact impl_ltlSum.body_ok ih.1 ih.2.1 ih.2.2.1 ih.2.2.2 h), (by intros; rename_i h; exact impl_ltlProduct.body_ok ih.1 ih.2.1 ih.2.2.1 ih.2.2.2 h), (by intros; rename_i h; exact impl_ltlTerm.body_ok ih.1 ih.2.1 ih.2.2.1 ih.2.2.2 h), (by intros; rename_i h; exact impl_ltlAtom.body_ok ih.1 ih.2.1 ih.2.2.1 ih.2.2.2 h)⟩

theorem impl_ltlSum_ok {K : Nat} : (∀ {p0 : Treader} {r : Treader} {bp0 : Nat} {wp0_list : AV} , impl_ltlSum K p0 = some r → HS Try.prog 42 [(.ptr bp0 0)] [.cell bp0 [(.str p0.s), (.int .i64 p0.at_), (.int .i64 p0.code), wp0_list, .undef], .row 3 wp0_list (List.map TNode.av p0.list)] fun v L' => ∃ up0_list : AV, v = .tup [] ∧ L' = [.cell bp0 [(.str r.s), (.int .i64 r.at_), (.int .i64 r.code), up0_list, .undef], .row 3 up0_list (List.map TNode.av r.list)]) := impl_ltlSum.grp_ok.1

theorem impl_ltlProduct_ok {K : Nat} : (∀ {p0 : Treader} {r : Treader} {bp0 : Nat} {wp0_list : AV} , impl_ltlProduct K p0 = some r → HS Try.prog 58 [(.ptr bp0 0)] [.cell bp0 [(.str p0.s), (.int .i64 p0.at_), (.int .i64 p0.code), wp0_list, .undef], .row 3 wp0_list (List.map TNode.av p0.list)] fun v L' => ∃ up0_list : AV, v = .tup [] ∧ L' = [.cell bp0 [(.str r.s), (.int .i64 r.at_), (.int .i64 r.code), up0_list, .undef], .row 3 up0_list (List.map TNode.av r.list)]) := impl_ltlSum.grp_ok.2.1

theorem impl_ltlTerm_ok {K : Nat} : (∀ {p0 : Treader} {r : Treader} {bp0 : Nat} {wp0_list : AV} , impl_ltlTerm K p0 = some r → HS Try.prog 67 [(.ptr bp0 0)] [.cell bp0 [(.str p0.s), (.int .i64 p0.at_), (.int .i64 p0.code), wp0_list, .undef], .row 3 wp0_list (List.map TNode.av p0.list)] fun v L' => ∃ up0_list : AV, v = .tup [] ∧ L' = [.cell bp0 [(.str r.s), (.int .i64 r.at_), (.int .i64 r.code), up0_list, .undef], .row 3 up0_list (List.map TNode.av r.list)]) := impl_ltlSum.grp_ok.2.2.1

theorem impl_ltlAtom_ok {K : Nat} : (∀ {p0 : Treader} {r : Treader} {bp0 : Nat} {wp0_list : AV} , impl_ltlAtom K p0 = some r → HS Try.prog 69 [(.ptr bp0 0)] [.cell bp0 [(.str p0.s), (.int .i64 p0.at_), (.int .i64 p0.code), wp0_list, .undef], .row 3 wp0_list (List.map TNode.av p0.list)] fun v L' => ∃ up0_list : AV, v = .tup [] ∧ L' = [.cell bp0 [(.str r.s), (.int .i64 r.at_), (.int .i64 r.code), up0_list, .undef], .row 3 up0_list (List.map TNode.av r.list)]) := impl_ltlSum.grp_ok.2.2.2

set_option maxRecDepth 10000 in
theorem impl_LtlParse_ok {K : Nat} {p0 : ByteArray} {r : ((List TNode) × Int × Int)} (hF : impl_LtlParse K p0 = some r) : HS Try.prog 23 [(.str p0)] [] fun v L' => ∃ o0 : AV, v = .tup [o0, (.int .i64 r.2.1), (.int .i64 r.2.2)] ∧ L' = [.row 3 o0 (List.map TNode.av r.1)] := by
  intro H S hS
  refine HC.enter Try.func23 rfl Try.ntmps23 (by simp) ?_
  simp only [List.cons_append, List.nil_append] at hS
  unfold impl_LtlParse at hF
  refine AWP.seqR rfl ?_
  have hS := hNil (s := 3) (f := TNode.av) hS
  refine ASL.q (v := .nil) rfl rfl (Light.quiet (opAssign rfl rfl)) ?_
  refine ASL.q (v := (.int .i64 0)) rfl rfl (Light.quiet (opAssign rfl rfl)) ?_
  refine ASL.q (v := (.int .i64 0)) rfl rfl (Light.quiet (opAssign rfl rfl)) ?_
  refine ASL.done ?_
  refine AWP.seqR rfl ?_
  refine ASL.q (v := (.str p0)) rfl rfl (Light.quiet (opMove rfl rfl)) ?_
  obtain ⟨a6, ha6, hF⟩ := bindE hF
  refine ASL.x rfl rfl (hCallS hS [0, 1] (F := [.row 3 .nil (List.map TNode.av ([])), .snap S]) rfl rfl rfl call_41 (impl_parsed_ok call_42 (fun _ _ _ _ h => impl_ltlSum_ok h) ha6) rfl rfl ?_); rintro _ _ G4 ⟨w2, rfl, rfl⟩ hS
  refine ASL.q (v := w2) rfl rfl (Light.quiet (opExtract rfl rfl rfl)) ?_
  refine ASL.q (v := (.int .i64 a6.2.1)) rfl rfl (Light.quiet (opExtract rfl rfl rfl)) ?_
  refine ASL.q (v := (.int .i64 a6.2.2)) rfl rfl (Light.quiet (opExtract rfl rfl rfl)) ?_
  refine ASL.q (v := w2) rfl rfl (Light.quiet (opAssign rfl rfl)) ?_
  refine ASL.q (v := (.int .i64 a6.2.1)) rfl rfl (Light.quiet (opAssign rfl rfl)) ?_
  refine ASL.q (v := (.int .i64 a6.2.2)) rfl rfl (Light.quiet (opAssign rfl rfl)) ?_
  refine ASL.done ?_
  refine AWP.ret ?_
  obtain rfl := someE hF
  exact QRet.many (vs := [w2, (.int .i64 a6.2.1), (.int .i64 a6.2.2)]) ⟨rfl, rfl, rfl, trivial⟩ (by simp) ⟨_, ⟨w2, rfl, rfl⟩, hS.pick [0, 2] rfl rfl⟩

set_option maxRecDepth 10000 in
theorem laws_heldNodeS_ok {p0 : (List TNode)} {p1 : Int} {r : Int} (hF : laws_heldNodeS p0 p1 = some r) : PC Try.prog 21 [(.list 3 (List.map TNode.av p0)), (.int .i64 p1)] fun v => v = (.int .i64 r) := by
  refine PC.enter Try.func21 rfl Try.ntmps21 (by simp) ?_
  have hS := Sep.void; unfold laws_heldNodeS at hF
  refine AWP.seqR rfl ?_
  refine ASL.q (v := (.int .i64 0)) rfl rfl (Light.quiet (opAssign rfl rfl)) ?_
  refine ASL.done ?_
  refine AWP.seqM (fun e H => ∃ x1_1 : Int, E.Told e [(1, (.int .i64 x1_1))] ∧ E.Sep H [] ∧ laws_heldNodeS.k0 x1_1 = some r) ?_ ?_
  · rintro e0 G1 ⟨x1_1, hT, hS, hF⟩; refine AWP.only _ hT ?_; unfold laws_heldNodeS.k0 at hF
    refine AWP.seqR rfl ?_
    refine ASL.q (v := (.int .i64 x1_1)) rfl rfl (Light.quiet (opMove rfl rfl)) ?_
    refine ASL.q (v := (.int .i64 x1_1)) rfl rfl (Light.quiet (opAssign rfl rfl)) ?_
    refine ASL.done ?_
    refine AWP.ret ?_
    obtain rfl := someE hF
    exact QRet.sole (v := (.int .i64 x1_1)) ⟨rfl, trivial⟩ rfl
  · skip
    refine AWP.seqR rfl ?_
    refine ASL.q (v := (.int .i64 0)) rfl rfl (Light.quiet (opAssign rfl rfl)) ?_
    refine ASL.done ?_
    refine AWP.block ?_
    obtain ⟨o5, hL4, hR6⟩ := bindE hF
    refine AWP.loopF (ω := Unit) hL4 (fun s w => [(0, (.list 3 (List.map TNode.av p0))), (1, (.int .i64 s.1)), (5, (.int .i64 s.2))]) (fun s w => []) () ⟨rfl, rfl, rfl, trivial⟩ (hS.pick [] rfl rfl) ?_
    rintro ⟨x1_l0, x5_l0⟩ _ G7 hS x2 hF hx3
    try dsimp only at hS ⊢
    have hF : laws_heldNodeS.b0 p0 x1_l0 x5_l0 = some x2 := hF; unfold laws_heldNodeS.b0 at hF
    refine AWP.seq ?_
    refine AWP.seqR rfl ?_
    refine ASL.q (v := (.int .i64 x5_l0)) rfl rfl (Light.quiet (opMove rfl rfl)) ?_
    refine ASL.q (v := (.list 3 (List.map TNode.av p0))) rfl rfl (Light.quiet (opMove rfl rfl)) ?_
    refine ASL.q (v := (.int .i64 (p0.length : Int))) rfl rfl (Light.quiet (opLenMap (f := TNode.av) rfl rfl rfl lenT_26 rfl)) ?_
    refine ASL.q (v := (.bool (decide (x5_l0 < ((p0.length : Int)))))) rfl rfl (Light.quiet (opInt rfl rfl rfl rfl)) ?_
    refine ASL.done ?_
    refine AWP.ifP hF rfl (fun hc8 hF => ?_) (fun hc8 hF => ?_)
    · skip
      refine AWP.skip ?_
      refine QThen.nrm ?_
      refine AWP.seq ?_
      refine AWP.block ?_
      refine AWP.seq ?_
      refine AWP.seqR rfl ?_
      refine ASL.q (v := (.list 3 (List.map TNode.av p0))) rfl rfl (Light.quiet (opMove rfl rfl)) ?_
      refine ASL.q (v := (.int .i64 x5_l0)) rfl rfl (Light.quiet (opMove rfl rfl)) ?_
      obtain ⟨a14, ha14, hF⟩ := bindE hF
      refine ASL.q (v := (.rptr [(.int .i64 a14.kind), (.int .i64 a14.a), (.int .i64 a14.b)])) rfl rfl (Light.quiet (kIx (f := TNode.av) ha14 rfl rfl rfl elemA_26 sizeA_43 rfl)) ?_
      refine ASL.q (v := (.rptr [(.int .i64 a14.kind), (.int .i64 a14.a), (.int .i64 a14.b)])) rfl rfl (Light.quiet (opFieldAddrR rfl fieldA_43_0 rfl rfl)) ?_
      refine ASL.q (v := (.int .i64 a14.kind)) rfl rfl (Light.quiet (opLoadR rfl aggA_3 rfl rfl)) ?_
      refine ASL.q (v := (.int .i64 x1_l0)) rfl rfl (Light.quiet (opMove rfl rfl)) ?_
      refine ASL.q (v := (.bool (decide (a14.kind ≠ x1_l0)))) rfl rfl (Light.quiet (opInt rfl rfl rfl rfl)) ?_
      refine ASL.done ?_
      refine AWP.ifP hF rfl (fun hc9 hF => ?_) (fun hc9 hF => ?_)
      · skip
        refine AWP.seqR rfl ?_
        refine ASL.q (v := (.int .i64 (-1))) rfl rfl (Light.quiet (opAssign rfl rfl)) ?_
        refine ASL.done ?_
        refine AWP.ret ?_
        refine QThen.rt ?_
        refine QBlock.ret ?_
        refine QThen.rt ?_
        refine QThen.rt ?_
        refine QBlock.ret ?_
        refine QThen.rt ?_
        obtain rfl := (hx3 _ (someE hF).symm)
        have hF := hR6
        have hF := sumR hF
        obtain rfl := someE hF
        exact QRet.sole (v := (.int .i64 (-1))) ⟨rfl, trivial⟩ rfl
      · skip
        refine AWP.skip ?_
        refine QThen.nrm ?_
        refine AWP.seqR rfl ?_
        refine ASL.q (v := (.int .i64 x1_l0)) rfl rfl (Light.quiet (opMove rfl rfl)) ?_
        refine ASL.q (v := (.int .i64 (W (x1_l0 + 1)))) rfl rfl (Light.quiet (opInt rfl rfl rfl rfl)) ?_
        refine ASL.q (v := (.int .i64 (W (x1_l0 + 1)))) rfl rfl (Light.quiet (opAssign rfl rfl)) ?_
        refine ASL.done ?_
        refine AWP.seq ?_
        refine AWP.seqR rfl ?_
        refine ASL.q (v := (.list 3 (List.map TNode.av p0))) rfl rfl (Light.quiet (opMove rfl rfl)) ?_
        refine ASL.q (v := (.int .i64 x5_l0)) rfl rfl (Light.quiet (opMove rfl rfl)) ?_
        obtain ⟨a23, ha23, hF⟩ := bindE hF
        refine ASL.q (v := (.rptr [(.int .i64 a23.kind), (.int .i64 a23.a), (.int .i64 a23.b)])) rfl rfl (Light.quiet (kIx (f := TNode.av) ha23 rfl rfl rfl elemA_26 sizeA_43 rfl)) ?_
        refine ASL.q (v := (.rptr [(.int .i64 a23.a), (.int .i64 a23.b)])) rfl rfl (Light.quiet (opFieldAddrR rfl fieldA_43_1 rfl rfl)) ?_
        refine ASL.q (v := (.int .i64 a23.a)) rfl rfl (Light.quiet (opLoadR rfl aggA_3 rfl rfl)) ?_
        refine ASL.q (v := (.int .i64 (W (x1_l0 + 1)))) rfl rfl (Light.quiet (opMove rfl rfl)) ?_
        refine ASL.q (v := (.bool (decide (a23.a ≠ ((W (x1_l0 + 1))))))) rfl rfl (Light.quiet (opInt rfl rfl rfl rfl)) ?_
        refine ASL.done ?_
        refine AWP.ifP hF rfl (fun hc10 hF => ?_) (fun hc10 hF => ?_)
        · skip
          refine AWP.seqR rfl ?_
          refine ASL.q (v := (.int .i64 (-1))) rfl rfl (Light.quiet (opAssign rfl rfl)) ?_
          refine ASL.done ?_
          refine AWP.ret ?_
          refine QThen.rt ?_
          refine QBlock.ret ?_
          refine QThen.rt ?_
          refine QThen.rt ?_
          refine QBlock.ret ?_
          refine QThen.rt ?_
          obtain rfl := (hx3 _ (someE hF).symm)
          have hF := hR6
          have hF := sumR hF
          obtain rfl := someE hF
          exact QRet.sole (v := (.int .i64 (-1))) ⟨rfl, trivial⟩ rfl
        · skip
          refine AWP.skip ?_
          refine QThen.nrm ?_
          refine AWP.seqR rfl ?_
          refine ASL.q (v := (.int .i64 (W (x1_l0 + 1)))) rfl rfl (Light.quiet (opMove rfl rfl)) ?_
          refine ASL.q (v := (.int .i64 (W (((W (x1_l0 + 1))) + 1)))) rfl rfl (Light.quiet (opInt rfl rfl rfl rfl)) ?_
          refine ASL.q (v := (.int .i64 (W (((W (x1_l0 + 1))) + 1)))) rfl rfl (Light.quiet (opAssign rfl rfl)) ?_
          refine ASL.done ?_
          refine AWP.seq ?_
          refine AWP.seqR rfl ?_
          refine ASL.q (v := (.list 3 (List.map TNode.av p0))) rfl rfl (Light.quiet (opMove rfl rfl)) ?_
          refine ASL.q (v := (.int .i64 x5_l0)) rfl rfl (Light.quiet (opMove rfl rfl)) ?_
          obtain ⟨a32, ha32, hF⟩ := bindE hF
          refine ASL.q (v := (.rptr [(.int .i64 a32.kind), (.int .i64 a32.a), (.int .i64 a32.b)])) rfl rfl (Light.quiet (kIx (f := TNode.av) ha32 rfl rfl rfl elemA_26 sizeA_43 rfl)) ?_
          refine ASL.q (v := (.rptr [(.int .i64 a32.b)])) rfl rfl (Light.quiet (opFieldAddrR rfl fieldA_43_2 rfl rfl)) ?_
          refine ASL.q (v := (.int .i64 a32.b)) rfl rfl (Light.quiet (opLoadR rfl aggA_3 rfl rfl)) ?_
          refine ASL.q (v := (.int .i64 (W (((W (x1_l0 + 1))) + 1)))) rfl rfl (Light.quiet (opMove rfl rfl)) ?_
          refine ASL.q (v := (.bool (decide (a32.b ≠ ((W (((W (x1_l0 + 1))) + 1))))))) rfl rfl (Light.quiet (opInt rfl rfl rfl rfl)) ?_
          refine ASL.done ?_
          refine AWP.ifP hF rfl (fun hc11 hF => ?_) (fun hc11 hF => ?_)
          · skip
            refine AWP.seqR rfl ?_
            refine ASL.q (v := (.int .i64 (-1))) rfl rfl (Light.quiet (opAssign rfl rfl)) ?_
            refine ASL.done ?_
            refine AWP.ret ?_
            refine QThen.rt ?_
            refine QBlock.ret ?_
            refine QThen.rt ?_
            refine QThen.rt ?_
            refine QBlock.ret ?_
            refine QThen.rt ?_
            obtain rfl := (hx3 _ (someE hF).symm)
            have hF := hR6
            have hF := sumR hF
            obtain rfl := someE hF
            exact QRet.sole (v := (.int .i64 (-1))) ⟨rfl, trivial⟩ rfl
          · skip
            refine AWP.skip ?_
            refine QThen.nrm ?_
            refine AWP.lastR rfl ?_
            refine ASL.q (v := (.int .i64 (W (((W (x1_l0 + 1))) + 1)))) rfl rfl (Light.quiet (opMove rfl rfl)) ?_
            refine ASL.q (v := (.int .i64 (W (((W (((W (x1_l0 + 1))) + 1))) + 1)))) rfl rfl (Light.quiet (opInt rfl rfl rfl rfl)) ?_
            refine ASL.q (v := (.int .i64 (W (((W (((W (x1_l0 + 1))) + 1))) + 1)))) rfl rfl (Light.quiet (opAssign rfl rfl)) ?_
            refine ASL.done ?_
            refine QBlock.nrm ?_
            refine QThen.nrm ?_
            refine AWP.lastR rfl ?_
            refine ASL.q (v := (.int .i64 x5_l0)) rfl rfl (Light.quiet (opMove rfl rfl)) ?_
            refine ASL.q (v := (.int .i64 (W (x5_l0 + 1)))) rfl rfl (Light.quiet (opInt rfl rfl rfl rfl)) ?_
            refine ASL.q (v := (.int .i64 (W (x5_l0 + 1)))) rfl rfl (Light.quiet (opAssign rfl rfl)) ?_
            refine ASL.done ?_
            refine QThen.nrm ?_
            exact ⟨((W (((W (((W (x1_l0 + 1))) + 1))) + 1)), (W (x5_l0 + 1))), (), (someE hF).symm, ⟨rfl, rfl, rfl, trivial⟩, (hS.pick [] rfl rfl)⟩
    · skip
      refine AWP.exit ?_
      refine QThen.ext ?_
      refine QThen.ext ?_
      refine QBlock.hit ?_
      obtain rfl := (hx3 _ (someE hF).symm)
      have hF := hR6
      have hF := sumL hF
      refine QThen.nrm ?_
      exact ⟨x1_l0, ⟨rfl, trivial⟩, (hS.pick [] rfl rfl), hF⟩

set_option maxRecDepth 10000 in
theorem laws_FnExactLtlParse_ok {K : Nat} {p0 : ByteArray} {r : Bool} (hF : laws_FnExactLtlParse K p0 = some r) : PC Try.prog 6 [(.str p0)] fun v => v = (.bool r) := by
  refine PC.enter Try.func6 rfl Try.ntmps6 (by simp) ?_
  have hS := Sep.void; unfold laws_FnExactLtlParse at hF
  refine AWP.seqR rfl ?_
  refine ASL.q (v := (.bool false)) rfl rfl (Light.quiet (opAssign rfl rfl)) ?_
  refine ASL.done ?_
  refine AWP.seq ?_
  refine AWP.seqR rfl ?_
  refine ASL.q (v := (.str p0)) rfl rfl (Light.quiet (opMove rfl rfl)) ?_
  refine ASL.q (v := (.int .i64 (p0.size : Int))) rfl rfl (Light.quiet (opLenOf rfl rfl rfl lenT_9 rfl rfl)) ?_
  refine ASL.q (v := (.bool (decide (((p0.size : Int)) > 1048576)))) rfl rfl (Light.quiet (opInt rfl rfl rfl rfl)) ?_
  refine ASL.done ?_
  refine AWP.ifP hF rfl (fun hc1 hF => ?_) (fun hc1 hF => ?_)
  · skip
    refine AWP.seqR rfl ?_
    refine ASL.q (v := (.bool true)) rfl rfl (Light.quiet (opAssign rfl rfl)) ?_
    refine ASL.done ?_
    refine AWP.ret ?_
    refine QThen.rt ?_
    obtain rfl := someE hF
    exact QRet.sole (v := (.bool true)) ⟨rfl, trivial⟩ rfl
  · skip
    refine AWP.skip ?_
    refine QThen.nrm ?_
    refine AWP.seqR rfl ?_
    refine ASL.q (v := (.str p0)) rfl rfl (Light.quiet (opMove rfl rfl)) ?_
    obtain ⟨a19, ha19, hF⟩ := bindE hF
    refine ASL.x rfl rfl (hCallS hS [] (F := []) rfl rfl rfl call_22 (spec_LtlParse_ok ha19) rfl rfl ?_); rintro _ _ G4 ⟨w2, rfl, rfl⟩ hS
    refine ASL.q (v := (.tup [w2, (.int .i64 a19.2.1), (.int .i64 a19.2.2)])) rfl rfl (Light.quiet (opMove rfl rfl)) ?_
    refine ASL.q (v := w2) rfl rfl (Light.quiet (opExtract rfl rfl rfl)) ?_
    refine ASL.q (v := (.int .i64 a19.2.1)) rfl rfl (Light.quiet (opExtract rfl rfl rfl)) ?_
    refine ASL.q (v := (.int .i64 a19.2.2)) rfl rfl (Light.quiet (opExtract rfl rfl rfl)) ?_
    refine ASL.q (v := w2) rfl rfl (Light.quiet (opAssign rfl rfl)) ?_
    refine ASL.q (v := (.int .i64 a19.2.1)) rfl rfl (Light.quiet (opAssign rfl rfl)) ?_
    refine ASL.q (v := (.int .i64 a19.2.2)) rfl rfl (Light.quiet (opAssign rfl rfl)) ?_
    refine ASL.done ?_
    refine AWP.seqR rfl ?_
    refine ASL.q (v := (.str p0)) rfl rfl (Light.quiet (opMove rfl rfl)) ?_
    obtain ⟨a25, ha25, hF⟩ := bindE hF
    refine ASL.x rfl rfl (hCallS hS [0] (F := [.row 3 w2 (List.map TNode.av a19.1)]) rfl rfl rfl call_23 (impl_LtlParse_ok ha25) rfl rfl ?_); rintro _ _ G7 ⟨w5, rfl, rfl⟩ hS
    refine ASL.q (v := (.tup [w5, (.int .i64 a25.2.1), (.int .i64 a25.2.2)])) rfl rfl (Light.quiet (opMove rfl rfl)) ?_
    refine ASL.q (v := w5) rfl rfl (Light.quiet (opExtract rfl rfl rfl)) ?_
    refine ASL.q (v := (.int .i64 a25.2.1)) rfl rfl (Light.quiet (opExtract rfl rfl rfl)) ?_
    refine ASL.q (v := (.int .i64 a25.2.2)) rfl rfl (Light.quiet (opExtract rfl rfl rfl)) ?_
    refine ASL.q (v := w5) rfl rfl (Light.quiet (opAssign rfl rfl)) ?_
    refine ASL.q (v := (.int .i64 a25.2.1)) rfl rfl (Light.quiet (opAssign rfl rfl)) ?_
    refine ASL.q (v := (.int .i64 a25.2.2)) rfl rfl (Light.quiet (opAssign rfl rfl)) ?_
    refine ASL.done ?_
    refine AWP.seq ?_
    refine AWP.seqR rfl ?_
    refine ASL.q (v := w5) rfl rfl (Light.quiet (opMove rfl rfl)) ?_
    refine ASL.q (v := w2) rfl rfl (Light.quiet (opMove rfl rfl)) ?_
    obtain ⟨a31, ha31, hF⟩ := bindE hF
    refine ASL.q (v := (.bool a31)) rfl rfl ((qCallR hS rfl rfl call_13 (laws_eqNodeS_ok ha31) ⟨.row (k := 0) rfl, .row (k := 1) rfl, trivial⟩ (by constructor))) ?_
    refine ASL.q (v := (.bool (!a31))) rfl rfl (Light.quiet (opNot rfl rfl)) ?_
    obtain ⟨c33, hc33, hF⟩ := bndE hF
    refine ASL.q (v := (.bool c33)) rfl rfl ((Quiet.cast (Light.quiet (opMove rfl rfl)) (congrArg AV.bool hc33.symm))) ?_
    refine ASL.g (v := (.int .i64 a25.2.1)) (.bool c33) false rfl (wF _) rfl (fun hG => by have q0 := gN hG; subst q0; exact Light.quiet (opMove rfl rfl)) ?_
    refine ASL.g (v := (.int .i64 a19.2.1)) (.bool c33) false rfl (wF _) rfl (fun hG => by have q0 := gN hG; subst q0; exact Light.quiet (opMove rfl rfl)) ?_
    refine ASL.g (v := (.bool (decide (a25.2.1 ≠ a19.2.1)))) (.bool c33) false rfl (wF _) rfl (fun hG => by have q0 := gN hG; subst q0; exact Light.quiet (opInt rfl rfl rfl rfl)) ?_
    refine ASL.q (v := (.bool (c33 || (decide (a25.2.1 ≠ a19.2.1))))) rfl rfl (Light.quiet (opPick (b := c33) rfl rfl (by cases c33 <;> rfl))) ?_
    obtain ⟨c38, hc38, hF⟩ := bndE hF
    refine ASL.q (v := (.bool c38)) rfl rfl ((Quiet.cast (Light.quiet (opMove rfl rfl)) (congrArg AV.bool hc38.symm))) ?_
    refine ASL.g (v := (.int .i64 a25.2.2)) (.bool c38) false rfl (wF _) rfl (fun hG => by have q0 := gN hG; subst q0; exact Light.quiet (opMove rfl rfl)) ?_
    refine ASL.g (v := (.int .i64 a19.2.2)) (.bool c38) false rfl (wF _) rfl (fun hG => by have q0 := gN hG; subst q0; exact Light.quiet (opMove rfl rfl)) ?_
    refine ASL.g (v := (.bool (decide (a25.2.2 ≠ a19.2.2)))) (.bool c38) false rfl (wF _) rfl (fun hG => by have q0 := gN hG; subst q0; exact Light.quiet (opInt rfl rfl rfl rfl)) ?_
    refine ASL.q (v := (.bool (c38 || (decide (a25.2.2 ≠ a19.2.2))))) rfl rfl (Light.quiet (opPick (b := c38) rfl rfl (by cases c38 <;> rfl))) ?_
    refine ASL.done ?_
    refine AWP.ifB hF rfl (fun hc8 hF => ?_) (fun hc8 hF => ?_)
    · skip
      refine AWP.seqR rfl ?_
      refine ASL.q (v := (.bool false)) rfl rfl (Light.quiet (opAssign rfl rfl)) ?_
      refine ASL.done ?_
      refine AWP.ret ?_
      refine QThen.rt ?_
      obtain rfl := someE hF
      exact QRet.sole (v := (.bool false)) ⟨rfl, trivial⟩ rfl
    · skip
      refine AWP.skip ?_
      refine QThen.nrm ?_
      refine AWP.seqR rfl ?_
      refine ASL.q (v := (.int .i64 1)) rfl rfl (Light.quiet (opAssign rfl rfl)) ?_
      refine ASL.done ?_
      refine AWP.seqR rfl ?_
      refine ASL.q (v := w5) rfl rfl (Light.quiet (opMove rfl rfl)) ?_
      refine ASL.q (v := (.int .i64 1)) rfl rfl (Light.quiet (opMove rfl rfl)) ?_
      obtain ⟨a45, ha45, hF⟩ := bindE hF
      refine ASL.x rfl rfl (hCallS hS [0, 1] (F := [.row 3 w2 (List.map TNode.av a19.1)]) rfl rfl rfl call_14 (laws_markNodeS_ok ha45) rfl rfl ?_); rintro _ _ G9 ⟨rfl, rfl⟩ hS
      refine ASL.q (v := (.int .i64 a45.1)) rfl rfl (Light.quiet (opAssign rfl rfl)) ?_
      refine ASL.done ?_
      refine AWP.seqR rfl ?_
      refine ASL.q (v := (.int .i64 1)) rfl rfl (Light.quiet (opAssign rfl rfl)) ?_
      refine ASL.done ?_
      refine AWP.seqR rfl ?_
      refine ASL.q (v := w5) rfl rfl (Light.quiet (opMove rfl rfl)) ?_
      refine ASL.q (v := (.int .i64 1)) rfl rfl (Light.quiet (opMove rfl rfl)) ?_
      obtain ⟨a48, ha48, hF⟩ := bindE hF
      refine ASL.q (v := (.int .i64 a48)) rfl rfl ((qCallR hS rfl rfl call_21 (laws_heldNodeS_ok ha48) ⟨.row (k := 0) rfl, .same _, trivial⟩ (by constructor))) ?_
      refine ASL.q (v := (.int .i64 a48)) rfl rfl (Light.quiet (opAssign rfl rfl)) ?_
      refine ASL.done ?_
      refine AWP.seq ?_
      refine AWP.seqR rfl ?_
      refine ASL.q (v := (.int .i64 a48)) rfl rfl (Light.quiet (opMove rfl rfl)) ?_
      refine ASL.q (v := (.bool (decide (a48 < 0)))) rfl rfl (Light.quiet (opInt rfl rfl rfl rfl)) ?_
      refine ASL.done ?_
      refine AWP.ifP hF rfl (fun hc10 hF => ?_) (fun hc10 hF => ?_)
      · skip
        refine AWP.seqR rfl ?_
        refine ASL.q (v := (.bool false)) rfl rfl (Light.quiet (opAssign rfl rfl)) ?_
        refine ASL.done ?_
        refine AWP.ret ?_
        refine QThen.rt ?_
        obtain rfl := someE hF
        exact QRet.sole (v := (.bool false)) ⟨rfl, trivial⟩ rfl
      · skip
        refine AWP.skip ?_
        refine QThen.nrm ?_
        refine AWP.seq ?_
        refine AWP.seqR rfl ?_
        refine ASL.q (v := (.int .i64 a48)) rfl rfl (Light.quiet (opMove rfl rfl)) ?_
        refine ASL.q (v := (.int .i64 a45.1)) rfl rfl (Light.quiet (opMove rfl rfl)) ?_
        refine ASL.q (v := (.bool (decide (a48 ≠ a45.1)))) rfl rfl (Light.quiet (opInt rfl rfl rfl rfl)) ?_
        refine ASL.done ?_
        refine AWP.ifP hF rfl (fun hc11 hF => ?_) (fun hc11 hF => ?_)
        · skip
          refine AWP.seqR rfl ?_
          refine ASL.q (v := (.bool false)) rfl rfl (Light.quiet (opAssign rfl rfl)) ?_
          refine ASL.done ?_
          refine AWP.ret ?_
          refine QThen.rt ?_
          obtain rfl := someE hF
          exact QRet.sole (v := (.bool false)) ⟨rfl, trivial⟩ rfl
        · skip
          refine AWP.skip ?_
          refine QThen.nrm ?_
          refine AWP.seqR rfl ?_
          refine ASL.q (v := (.str p0)) rfl rfl (Light.quiet (opMove rfl rfl)) ?_
          obtain ⟨a56, ha56, hF⟩ := bindE hF
          refine ASL.x rfl rfl (hCallS hS [0, 1] (F := [.row 3 w5 (List.map TNode.av a45.2), .row 3 w2 (List.map TNode.av a19.1)]) rfl rfl rfl call_23 (impl_LtlParse_ok ha56) rfl rfl ?_); rintro _ _ G14 ⟨w12, rfl, rfl⟩ hS
          refine ASL.q (v := (.tup [w12, (.int .i64 a56.2.1), (.int .i64 a56.2.2)])) rfl rfl (Light.quiet (opMove rfl rfl)) ?_
          refine ASL.q (v := w12) rfl rfl (Light.quiet (opExtract rfl rfl rfl)) ?_
          refine ASL.q (v := (.int .i64 a56.2.1)) rfl rfl (Light.quiet (opExtract rfl rfl rfl)) ?_
          refine ASL.q (v := (.int .i64 a56.2.2)) rfl rfl (Light.quiet (opExtract rfl rfl rfl)) ?_
          refine ASL.q (v := w12) rfl rfl (Light.quiet (opAssign rfl rfl)) ?_
          refine ASL.q (v := (.int .i64 a56.2.1)) rfl rfl (Light.quiet (opAssign rfl rfl)) ?_
          refine ASL.q (v := (.int .i64 a56.2.2)) rfl rfl (Light.quiet (opAssign rfl rfl)) ?_
          refine ASL.done ?_
          refine AWP.seq ?_
          refine AWP.seqR rfl ?_
          refine ASL.q (v := w12) rfl rfl (Light.quiet (opMove rfl rfl)) ?_
          refine ASL.q (v := w2) rfl rfl (Light.quiet (opMove rfl rfl)) ?_
          obtain ⟨a62, ha62, hF⟩ := bindE hF
          refine ASL.q (v := (.bool a62)) rfl rfl ((qCallR hS rfl rfl call_13 (laws_eqNodeS_ok ha62) ⟨.row (k := 0) rfl, .row (k := 2) rfl, trivial⟩ (by constructor))) ?_
          refine ASL.q (v := (.bool (!a62))) rfl rfl (Light.quiet (opNot rfl rfl)) ?_
          obtain ⟨c64, hc64, hF⟩ := bndE hF
          refine ASL.q (v := (.bool c64)) rfl rfl ((Quiet.cast (Light.quiet (opMove rfl rfl)) (congrArg AV.bool hc64.symm))) ?_
          refine ASL.g (v := (.int .i64 a56.2.1)) (.bool c64) false rfl (wF _) rfl (fun hG => by have q0 := gN hG; subst q0; exact Light.quiet (opMove rfl rfl)) ?_
          refine ASL.g (v := (.int .i64 a19.2.1)) (.bool c64) false rfl (wF _) rfl (fun hG => by have q0 := gN hG; subst q0; exact Light.quiet (opMove rfl rfl)) ?_
          refine ASL.g (v := (.bool (decide (a56.2.1 ≠ a19.2.1)))) (.bool c64) false rfl (wF _) rfl (fun hG => by have q0 := gN hG; subst q0; exact Light.quiet (opInt rfl rfl rfl rfl)) ?_
          refine ASL.q (v := (.bool (c64 || (decide (a56.2.1 ≠ a19.2.1))))) rfl rfl (Light.quiet (opPick (b := c64) rfl rfl (by cases c64 <;> rfl))) ?_
          obtain ⟨c69, hc69, hF⟩ := bndE hF
          refine ASL.q (v := (.bool c69)) rfl rfl ((Quiet.cast (Light.quiet (opMove rfl rfl)) (congrArg AV.bool hc69.symm))) ?_
          refine ASL.g (v := (.int .i64 a56.2.2)) (.bool c69) false rfl (wF _) rfl (fun hG => by have q0 := gN hG; subst q0; exact Light.quiet (opMove rfl rfl)) ?_
          refine ASL.g (v := (.int .i64 a19.2.2)) (.bool c69) false rfl (wF _) rfl (fun hG => by have q0 := gN hG; subst q0; exact Light.quiet (opMove rfl rfl)) ?_
          refine ASL.g (v := (.bool (decide (a56.2.2 ≠ a19.2.2)))) (.bool c69) false rfl (wF _) rfl (fun hG => by have q0 := gN hG; subst q0; exact Light.quiet (opInt rfl rfl rfl rfl)) ?_
          refine ASL.q (v := (.bool (c69 || (decide (a56.2.2 ≠ a19.2.2))))) rfl rfl (Light.quiet (opPick (b := c69) rfl rfl (by cases c69 <;> rfl))) ?_
          refine ASL.done ?_
          refine AWP.ifB hF rfl (fun hc15 hF => ?_) (fun hc15 hF => ?_)
          · skip
            refine AWP.seqR rfl ?_
            refine ASL.q (v := (.bool false)) rfl rfl (Light.quiet (opAssign rfl rfl)) ?_
            refine ASL.done ?_
            refine AWP.ret ?_
            refine QThen.rt ?_
            obtain rfl := someE hF
            exact QRet.sole (v := (.bool false)) ⟨rfl, trivial⟩ rfl
          · skip
            refine AWP.skip ?_
            refine QThen.nrm ?_
            refine AWP.seqR rfl ?_
            refine ASL.q (v := (.int .i64 1)) rfl rfl (Light.quiet (opAssign rfl rfl)) ?_
            refine ASL.done ?_
            refine AWP.seqR rfl ?_
            refine ASL.q (v := w5) rfl rfl (Light.quiet (opMove rfl rfl)) ?_
            refine ASL.q (v := (.int .i64 1)) rfl rfl (Light.quiet (opMove rfl rfl)) ?_
            obtain ⟨a76, ha76, hF⟩ := bindE hF
            refine ASL.q (v := (.int .i64 a76)) rfl rfl ((qCallR hS rfl rfl call_21 (laws_heldNodeS_ok ha76) ⟨.row (k := 1) rfl, .same _, trivial⟩ (by constructor))) ?_
            refine ASL.q (v := (.int .i64 a76)) rfl rfl (Light.quiet (opAssign rfl rfl)) ?_
            refine ASL.done ?_
            refine AWP.seq ?_
            refine AWP.seqR rfl ?_
            refine ASL.q (v := (.int .i64 a76)) rfl rfl (Light.quiet (opMove rfl rfl)) ?_
            refine ASL.q (v := (.bool (decide (a76 < 0)))) rfl rfl (Light.quiet (opInt rfl rfl rfl rfl)) ?_
            refine ASL.done ?_
            refine AWP.ifP hF rfl (fun hc16 hF => ?_) (fun hc16 hF => ?_)
            · skip
              refine AWP.seqR rfl ?_
              refine ASL.q (v := (.bool false)) rfl rfl (Light.quiet (opAssign rfl rfl)) ?_
              refine ASL.done ?_
              refine AWP.ret ?_
              refine QThen.rt ?_
              obtain rfl := someE hF
              exact QRet.sole (v := (.bool false)) ⟨rfl, trivial⟩ rfl
            · skip
              refine AWP.skip ?_
              refine QThen.nrm ?_
              refine AWP.seq ?_
              refine AWP.seqR rfl ?_
              refine ASL.q (v := (.int .i64 a76)) rfl rfl (Light.quiet (opMove rfl rfl)) ?_
              refine ASL.q (v := (.int .i64 a45.1)) rfl rfl (Light.quiet (opMove rfl rfl)) ?_
              refine ASL.q (v := (.bool (decide (a76 ≠ a45.1)))) rfl rfl (Light.quiet (opInt rfl rfl rfl rfl)) ?_
              refine ASL.done ?_
              refine AWP.ifP hF rfl (fun hc17 hF => ?_) (fun hc17 hF => ?_)
              · skip
                refine AWP.seqR rfl ?_
                refine ASL.q (v := (.bool false)) rfl rfl (Light.quiet (opAssign rfl rfl)) ?_
                refine ASL.done ?_
                refine AWP.ret ?_
                refine QThen.rt ?_
                obtain rfl := someE hF
                exact QRet.sole (v := (.bool false)) ⟨rfl, trivial⟩ rfl
              · skip
                refine AWP.skip ?_
                refine QThen.nrm ?_
                refine AWP.seqR rfl ?_
                refine ASL.q (v := (.bool true)) rfl rfl (Light.quiet (opAssign rfl rfl)) ?_
                refine ASL.done ?_
                refine AWP.ret ?_
                obtain rfl := someE hF
                exact QRet.sole (v := (.bool true)) ⟨rfl, trivial⟩ rfl

end Go.Proofs.Ytgklefbkneomoaa
