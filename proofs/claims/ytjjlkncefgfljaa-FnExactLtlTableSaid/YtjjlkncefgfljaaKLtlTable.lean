/- Each of these functions of the program comes to just what its plain function says: FnExactLtlTable. -/
import Derived.Test.YtjjlkncefgfljaaKLtlTablep0
namespace Go.Proofs.Ytjjlkncefgfljaa
open Go Go.RowKit E
set_option linter.unusedVariables false
set_option maxRecDepth 10000 in
theorem impl_Word_letter_ok {p0 : TWord} {p1 : Int} {r : Int} (hF : impl_Word_letter p0 p1 = some r) : PC Try.prog 125 [(.rptr [(.list 1 (List.map (AV.int .i64) p0.stem)), (.list 1 (List.map (AV.int .i64) p0.loop))]), (.int .i64 p1)] fun v => v = (.int .i64 r) := by
  refine PC.enter Try.func125 rfl Try.ntmps125 (by simp) ?_
  have hS := Sep.void; unfold impl_Word_letter at hF
  refine AWP.seqR rfl ?_
  refine ASL.q (v := (.int .i64 0)) rfl rfl (Light.quiet (opAssign rfl rfl)) ?_
  refine ASL.done ?_
  refine AWP.seq ?_
  refine AWP.seqR rfl ?_
  refine ASL.q (v := (.int .i64 p1)) rfl rfl (Light.quiet (opMove rfl rfl)) ?_
  refine ASL.q (v := (.rptr [(.list 1 (List.map (AV.int .i64) p0.stem)), (.list 1 (List.map (AV.int .i64) p0.loop))])) rfl rfl (Light.quiet (opMove rfl rfl)) ?_
  refine ASL.q (v := (.rptr [(.list 1 (List.map (AV.int .i64) p0.stem)), (.list 1 (List.map (AV.int .i64) p0.loop))])) rfl rfl (Light.quiet (opNil rfl rfl rfl)) ?_
  refine ASL.q (v := (.rptr [(.list 1 (List.map (AV.int .i64) p0.stem)), (.list 1 (List.map (AV.int .i64) p0.loop))])) rfl rfl (Light.quiet (opFieldAddrR rfl fieldA_41_0 rfl rfl)) ?_
  refine ASL.q (v := (.list 1 (List.map (AV.int .i64) p0.stem))) rfl rfl (Light.quiet (opLoadR rfl aggA_32 rfl rfl)) ?_
  refine ASL.q (v := (.int .i64 (p0.stem.length : Int))) rfl rfl (Light.quiet (opLenMap (f := (AV.int .i64)) rfl rfl rfl lenT_32 rfl)) ?_
  refine ASL.q (v := (.bool (decide (p1 < ((p0.stem.length : Int)))))) rfl rfl (Light.quiet (opInt rfl rfl rfl rfl)) ?_
  refine ASL.done ?_
  refine AWP.ifP hF rfl (fun hc1 hF => ?_) (fun hc1 hF => ?_)
  · skip
    refine AWP.seqR rfl ?_
    refine ASL.q (v := (.rptr [(.list 1 (List.map (AV.int .i64) p0.stem)), (.list 1 (List.map (AV.int .i64) p0.loop))])) rfl rfl (Light.quiet (opMove rfl rfl)) ?_
    refine ASL.q (v := (.rptr [(.list 1 (List.map (AV.int .i64) p0.stem)), (.list 1 (List.map (AV.int .i64) p0.loop))])) rfl rfl (Light.quiet (opNil rfl rfl rfl)) ?_
    refine ASL.q (v := (.rptr [(.list 1 (List.map (AV.int .i64) p0.stem)), (.list 1 (List.map (AV.int .i64) p0.loop))])) rfl rfl (Light.quiet (opFieldAddrR rfl fieldA_41_0 rfl rfl)) ?_
    refine ASL.q (v := (.list 1 (List.map (AV.int .i64) p0.stem))) rfl rfl (Light.quiet (opLoadR rfl aggA_32 rfl rfl)) ?_
    refine ASL.q (v := (.int .i64 p1)) rfl rfl (Light.quiet (opMove rfl rfl)) ?_
    obtain ⟨a17, ha17, hF⟩ := bindE hF
    refine ASL.q (v := (.rptr [(.int .i64 a17)])) rfl rfl (Light.quiet (kIx (f := (AV.int .i64)) ha17 rfl rfl rfl elemA_32 sizeA_3 rfl)) ?_
    refine ASL.q (v := (.int .i64 a17)) rfl rfl (Light.quiet (opLoadR rfl aggA_3 rfl rfl)) ?_
    refine ASL.q (v := (.int .i64 a17)) rfl rfl (Light.quiet (opAssign rfl rfl)) ?_
    refine ASL.done ?_
    refine AWP.ret ?_
    refine QThen.rt ?_
    obtain rfl := someE hF
    exact QRet.sole (v := (.int .i64 a17)) ⟨rfl, trivial⟩ rfl
  · skip
    refine AWP.skip ?_
    refine QThen.nrm ?_
    refine AWP.seqD [(0, false), (1, false), (2, false), (3, false), (4, false), (5, false), (6, false), (7, false), (8, false), (9, false), (10, false), (11, false), (12, false), (13, false)] mixed (by kernel_rfl) rfl ?_
    refine ARL.q0 (v := (.rptr [(.list 1 (List.map (AV.int .i64) p0.stem)), (.list 1 (List.map (AV.int .i64) p0.loop))])) rfl rfl (Light.quiet (opMove rfl rfl)) ?_
    refine ARL.q0 (v := (.rptr [(.list 1 (List.map (AV.int .i64) p0.stem)), (.list 1 (List.map (AV.int .i64) p0.loop))])) rfl rfl (Light.quiet (opNil rfl rfl rfl)) ?_
    refine ARL.q0 (v := (.rptr [(.list 1 (List.map (AV.int .i64) p0.loop))])) rfl rfl (Light.quiet (opFieldAddrR rfl fieldA_41_1 rfl rfl)) ?_
    refine ARL.q0 (v := (.list 1 (List.map (AV.int .i64) p0.loop))) rfl rfl (Light.quiet (opLoadR rfl aggA_32 rfl rfl)) ?_
    refine ARL.q0 (v := (.int .i64 p1)) rfl rfl (Light.quiet (opMove rfl rfl)) ?_
    refine ARL.q0 (v := (.rptr [(.list 1 (List.map (AV.int .i64) p0.stem)), (.list 1 (List.map (AV.int .i64) p0.loop))])) rfl rfl (Light.quiet (opMove rfl rfl)) ?_
    refine ARL.q0 (v := (.rptr [(.list 1 (List.map (AV.int .i64) p0.stem)), (.list 1 (List.map (AV.int .i64) p0.loop))])) rfl rfl (Light.quiet (opNil rfl rfl rfl)) ?_
    refine ARL.q0 (v := (.rptr [(.list 1 (List.map (AV.int .i64) p0.stem)), (.list 1 (List.map (AV.int .i64) p0.loop))])) rfl rfl (Light.quiet (opFieldAddrR rfl fieldA_41_0 rfl rfl)) ?_
    refine ARL.q0 (v := (.list 1 (List.map (AV.int .i64) p0.stem))) rfl rfl (Light.quiet (opLoadR rfl aggA_32 rfl rfl)) ?_
    refine ARL.q0 (v := (.int .i64 (p0.stem.length : Int))) rfl rfl (Light.quiet (opLenMap (f := (AV.int .i64)) rfl rfl rfl lenT_32 rfl)) ?_
    refine ARL.q0 (v := (.int .i64 (W (p1 - ((p0.stem.length : Int)))))) rfl rfl (Light.quiet (opInt rfl rfl rfl rfl)) ?_
    obtain ⟨a30, ha30, hF⟩ := bindE hF
    refine ARL.q0 (v := (.rptr [(.int .i64 a30)])) rfl rfl (Light.quiet (kIx (f := (AV.int .i64)) ha30 rfl rfl rfl elemA_32 sizeA_3 rfl)) ?_
    refine ARL.q0 (v := (.int .i64 a30)) rfl rfl (Light.quiet (opLoadR rfl aggA_3 rfl rfl)) ?_
    refine ARL.q0 (v := (.int .i64 a30)) rfl rfl (Light.quiet (opAssign rfl rfl)) ?_
    refine ARL.done ?_
    refine AWP.ret ?_
    obtain rfl := someE hF
    exact QRet.sole (v := (.int .i64 a30)) ⟨rfl, trivial⟩ rfl

set_option maxRecDepth 10000 in
theorem impl_has_ok (p0 : Int) (p1 : Int) : PC Try.prog 110 [(.int .i64 p0), (.int .i64 p1)] fun v => v = (.bool (impl_has p0 p1)) := by
  generalize hF : impl_has p0 p1 = r
  refine PC.enter Try.func110 rfl Try.ntmps110 (by simp) ?_
  have hS := Sep.void; unfold impl_has at hF
  refine AWP.seqR rfl ?_
  refine ASL.q (v := (.bool false)) rfl rfl (Light.quiet (opAssign rfl rfl)) ?_
  refine ASL.done ?_
  refine AWP.seqR rfl ?_
  refine ASL.q (v := (.int .i64 p0)) rfl rfl (Light.quiet (opMove rfl rfl)) ?_
  refine ASL.q (v := (.int .i64 p1)) rfl rfl (Light.quiet (opMove rfl rfl)) ?_
  refine ASL.q (v := (.int .u64 (IntKind.u64.wrap p1))) rfl rfl (Light.quiet (opConv rfl rfl und_3 und_118 rfl)) ?_
  refine ASL.q (v := (.int .i64 (shr .i64 p0 ((IntKind.u64.wrap p1))))) rfl rfl (Light.quiet (opShr rfl rfl rfl (wrapU_nn rfl _) rfl)) ?_
  refine ASL.q (v := (.int .i64 (bAnd .i64 ((shr .i64 p0 ((IntKind.u64.wrap p1)))) 1))) rfl rfl (Light.quiet (opInt rfl rfl rfl rfl)) ?_
  refine ASL.q (v := (.bool (decide (((bAnd .i64 ((shr .i64 p0 ((IntKind.u64.wrap p1)))) 1)) = 1)))) rfl rfl (Light.quiet (opInt rfl rfl rfl rfl)) ?_
  refine ASL.q (v := (.bool (decide (((bAnd .i64 ((shr .i64 p0 ((IntKind.u64.wrap p1)))) 1)) = 1)))) rfl rfl (Light.quiet (opAssign rfl rfl)) ?_
  refine ASL.done ?_
  refine AWP.ret ?_
  obtain rfl := hF
  exact QRet.sole (v := (.bool (decide (((bAnd .i64 ((shr .i64 p0 ((IntKind.u64.wrap p1)))) 1)) = 1)))) ⟨rfl, trivial⟩ rfl

set_option maxRecDepth 10000 in
theorem impl_plain_ok {p0 : TNode} {p1 : (List Bool)} {p2 : Int} {r : Bool} (hF : impl_plain p0 p1 p2 = some r) : PC Try.prog 128 [(TNode.av p0), (.list 1 (List.map AV.bool p1)), (.int .i64 p2)] fun v => v = (.bool r) := by
  refine PC.enter Try.func128 rfl Try.ntmps128 (by simp) ?_
  have hS := Sep.void; unfold impl_plain at hF
  refine AWP.seqR rfl ?_
  refine ASL.q (v := (.rptr [(.int .i64 p0.kind), (.int .i64 p0.a), (.int .i64 p0.b)])) rfl rfl ((qBoxI (v := (TNode.av p0)) rfl rfl rfl rfl)) ?_
  refine ASL.q (v := (.bool false)) rfl rfl (Light.quiet (opAssign rfl rfl)) ?_
  refine ASL.done ?_
  refine AWP.seq ?_
  refine AWP.seqR rfl ?_
  refine ASL.q (v := (.rptr [(.int .i64 p0.kind), (.int .i64 p0.a), (.int .i64 p0.b)])) rfl rfl (Light.quiet (opFieldAddrR rfl fieldA_59_0 rfl rfl)) ?_
  refine ASL.q (v := (.int .i64 p0.kind)) rfl rfl (Light.quiet (opLoadR rfl aggA_3 rfl rfl)) ?_
  refine ASL.done ?_
  refine AWP.block ?_
  refine AWP.seqR rfl ?_
  refine ASL.q (v := (.bool (decide (p0.kind = 1)))) rfl rfl (Light.quiet (opInt rfl rfl rfl rfl)) ?_
  refine ASL.q (v := (.bool (decide (p0.kind = 1)))) rfl rfl (Light.quiet (opAssign rfl rfl)) ?_
  refine ASL.done ?_
  refine AWP.ifP hF rfl (fun hc1 hF => ?_) (fun hc1 hF => ?_)
  · skip
    refine AWP.seqR rfl ?_
    refine ASL.q (v := (.bool true)) rfl rfl (Light.quiet (opAssign rfl rfl)) ?_
    refine ASL.done ?_
    refine AWP.ret ?_
    refine QBlock.ret ?_
    refine QThen.rt ?_
    obtain rfl := someE hF
    exact QRet.sole (v := (.bool true)) ⟨rfl, trivial⟩ rfl
  · skip
    refine AWP.seqR rfl ?_
    refine ASL.q (v := (.bool (decide (p0.kind = 3)))) rfl rfl (Light.quiet (opInt rfl rfl rfl rfl)) ?_
    refine ASL.q (v := (.bool (decide (p0.kind = 3)))) rfl rfl (Light.quiet (opAssign rfl rfl)) ?_
    refine ASL.done ?_
    refine AWP.ifP hF rfl (fun hc2 hF => ?_) (fun hc2 hF => ?_)
    · skip
      refine AWP.seqR rfl ?_
      refine ASL.q (v := (.int .i64 p2)) rfl rfl (Light.quiet (opMove rfl rfl)) ?_
      refine ASL.q (v := (.rptr [(.int .i64 p0.a), (.int .i64 p0.b)])) rfl rfl (Light.quiet (opFieldAddrR rfl fieldA_59_1 rfl rfl)) ?_
      refine ASL.q (v := (.int .i64 p0.a)) rfl rfl (Light.quiet (opLoadR rfl aggA_3 rfl rfl)) ?_
      refine ASL.q (v := (.bool (impl_has p2 p0.a))) rfl rfl ((qCall rfl rfl call_110 (impl_has_ok p2 p0.a) rfl)) ?_
      refine ASL.q (v := (.bool (impl_has p2 p0.a))) rfl rfl (Light.quiet (opAssign rfl rfl)) ?_
      refine ASL.done ?_
      refine AWP.ret ?_
      refine QBlock.ret ?_
      refine QThen.rt ?_
      obtain rfl := someE hF
      exact QRet.sole (v := (.bool (impl_has p2 p0.a))) ⟨rfl, trivial⟩ rfl
    · skip
      refine AWP.seqR rfl ?_
      refine ASL.q (v := (.bool (decide (p0.kind = 4)))) rfl rfl (Light.quiet (opInt rfl rfl rfl rfl)) ?_
      refine ASL.q (v := (.bool (decide (p0.kind = 4)))) rfl rfl (Light.quiet (opAssign rfl rfl)) ?_
      refine ASL.done ?_
      refine AWP.ifP hF rfl (fun hc3 hF => ?_) (fun hc3 hF => ?_)
      · skip
        refine AWP.seqR rfl ?_
        refine ASL.q (v := (.list 1 (List.map AV.bool p1))) rfl rfl (Light.quiet (opMove rfl rfl)) ?_
        refine ASL.q (v := (.rptr [(.int .i64 p0.a), (.int .i64 p0.b)])) rfl rfl (Light.quiet (opFieldAddrR rfl fieldA_59_1 rfl rfl)) ?_
        refine ASL.q (v := (.int .i64 p0.a)) rfl rfl (Light.quiet (opLoadR rfl aggA_3 rfl rfl)) ?_
        obtain ⟨a22, ha22, hF⟩ := bindE hF
        refine ASL.q (v := (.rptr [(.bool a22)])) rfl rfl (Light.quiet (kIx (f := AV.bool) ha22 rfl rfl rfl elemA_56 sizeA_4 rfl)) ?_
        refine ASL.q (v := (.bool a22)) rfl rfl (Light.quiet (opLoadR rfl aggA_4 rfl rfl)) ?_
        refine ASL.q (v := (.bool (!a22))) rfl rfl (Light.quiet (opNot rfl rfl)) ?_
        refine ASL.q (v := (.bool (!a22))) rfl rfl (Light.quiet (opAssign rfl rfl)) ?_
        refine ASL.done ?_
        refine AWP.ret ?_
        refine QBlock.ret ?_
        refine QThen.rt ?_
        obtain rfl := someE hF
        exact QRet.sole (v := (.bool (!a22))) ⟨rfl, trivial⟩ rfl
      · skip
        refine AWP.seqR rfl ?_
        refine ASL.q (v := (.bool (decide (p0.kind = 5)))) rfl rfl (Light.quiet (opInt rfl rfl rfl rfl)) ?_
        refine ASL.q (v := (.bool (decide (p0.kind = 5)))) rfl rfl (Light.quiet (opAssign rfl rfl)) ?_
        refine ASL.done ?_
        refine AWP.ifP hF rfl (fun hc4 hF => ?_) (fun hc4 hF => ?_)
        · skip
          refine AWP.seqR rfl ?_
          refine ASL.q (v := (.list 1 (List.map AV.bool p1))) rfl rfl (Light.quiet (opMove rfl rfl)) ?_
          refine ASL.q (v := (.rptr [(.int .i64 p0.a), (.int .i64 p0.b)])) rfl rfl (Light.quiet (opFieldAddrR rfl fieldA_59_1 rfl rfl)) ?_
          refine ASL.q (v := (.int .i64 p0.a)) rfl rfl (Light.quiet (opLoadR rfl aggA_3 rfl rfl)) ?_
          obtain ⟨a30, ha30, hF⟩ := bindE hF
          refine ASL.q (v := (.rptr [(.bool a30)])) rfl rfl (Light.quiet (kIx (f := AV.bool) ha30 rfl rfl rfl elemA_56 sizeA_4 rfl)) ?_
          refine ASL.q (v := (.bool a30)) rfl rfl (Light.quiet (opLoadR rfl aggA_4 rfl rfl)) ?_
          refine ASL.q (v := (.bool a30)) rfl rfl (Light.quiet (opMove rfl rfl)) ?_
          refine ASL.g (v := (.list 1 (List.map AV.bool p1))) (.bool a30) true rfl (wT _) rfl (fun hG => by have q0 := hG; subst q0; exact Light.quiet (opMove rfl rfl)) ?_
          refine ASL.g (v := (.rptr [(.int .i64 p0.b)])) (.bool a30) true rfl (wT _) rfl (fun hG => by have q0 := hG; subst q0; exact Light.quiet (opFieldAddrR rfl fieldA_59_2 rfl rfl)) ?_
          refine ASL.g (v := (.int .i64 p0.b)) (.bool a30) true rfl (wT _) rfl (fun hG => by have q0 := hG; subst q0; exact Light.quiet (opLoadR rfl aggA_3 rfl rfl)) ?_
          obtain ⟨a36, ha36, hF⟩ := bindE hF
          refine ASL.g (v := (.rptr [(.bool a36)])) (.bool a30) true rfl (wT _) rfl (fun hG => by have q0 := hG; subst q0; exact Light.quiet (kIx (f := AV.bool) (whenE ha36) rfl rfl rfl elemA_56 sizeA_4 rfl)) ?_
          refine ASL.g (v := (.bool a36)) (.bool a30) true rfl (wT _) rfl (fun hG => by have q0 := hG; subst q0; exact Light.quiet (opLoadR rfl aggA_4 rfl rfl)) ?_
          refine ASL.q (v := (.bool (a30 && a36))) rfl rfl (Light.quiet (opPick (b := a30) rfl rfl (by cases a30 <;> rfl))) ?_
          refine ASL.q (v := (.bool (a30 && a36))) rfl rfl (Light.quiet (opAssign rfl rfl)) ?_
          refine ASL.done ?_
          refine AWP.ret ?_
          refine QBlock.ret ?_
          refine QThen.rt ?_
          obtain rfl := someE hF
          exact QRet.sole (v := (.bool (a30 && a36))) ⟨rfl, trivial⟩ rfl
        · skip
          refine AWP.seqR rfl ?_
          refine ASL.q (v := (.bool (decide (p0.kind = 6)))) rfl rfl (Light.quiet (opInt rfl rfl rfl rfl)) ?_
          refine ASL.q (v := (.bool (decide (p0.kind = 6)))) rfl rfl (Light.quiet (opAssign rfl rfl)) ?_
          refine ASL.done ?_
          refine AWP.ifP hF rfl (fun hc5 hF => ?_) (fun hc5 hF => ?_)
          · skip
            refine AWP.seqR rfl ?_
            refine ASL.q (v := (.list 1 (List.map AV.bool p1))) rfl rfl (Light.quiet (opMove rfl rfl)) ?_
            refine ASL.q (v := (.rptr [(.int .i64 p0.a), (.int .i64 p0.b)])) rfl rfl (Light.quiet (opFieldAddrR rfl fieldA_59_1 rfl rfl)) ?_
            refine ASL.q (v := (.int .i64 p0.a)) rfl rfl (Light.quiet (opLoadR rfl aggA_3 rfl rfl)) ?_
            obtain ⟨a44, ha44, hF⟩ := bindE hF
            refine ASL.q (v := (.rptr [(.bool a44)])) rfl rfl (Light.quiet (kIx (f := AV.bool) ha44 rfl rfl rfl elemA_56 sizeA_4 rfl)) ?_
            refine ASL.q (v := (.bool a44)) rfl rfl (Light.quiet (opLoadR rfl aggA_4 rfl rfl)) ?_
            refine ASL.q (v := (.bool a44)) rfl rfl (Light.quiet (opMove rfl rfl)) ?_
            refine ASL.g (v := (.list 1 (List.map AV.bool p1))) (.bool a44) false rfl (wF _) rfl (fun hG => by have q0 := gN hG; subst q0; exact Light.quiet (opMove rfl rfl)) ?_
            refine ASL.g (v := (.rptr [(.int .i64 p0.b)])) (.bool a44) false rfl (wF _) rfl (fun hG => by have q0 := gN hG; subst q0; exact Light.quiet (opFieldAddrR rfl fieldA_59_2 rfl rfl)) ?_
            refine ASL.g (v := (.int .i64 p0.b)) (.bool a44) false rfl (wF _) rfl (fun hG => by have q0 := gN hG; subst q0; exact Light.quiet (opLoadR rfl aggA_3 rfl rfl)) ?_
            obtain ⟨a50, ha50, hF⟩ := bindE hF
            refine ASL.g (v := (.rptr [(.bool a50)])) (.bool a44) false rfl (wF _) rfl (fun hG => by have q0 := gN hG; subst q0; exact Light.quiet (kIx (f := AV.bool) (whenE ha50) rfl rfl rfl elemA_56 sizeA_4 rfl)) ?_
            refine ASL.g (v := (.bool a50)) (.bool a44) false rfl (wF _) rfl (fun hG => by have q0 := gN hG; subst q0; exact Light.quiet (opLoadR rfl aggA_4 rfl rfl)) ?_
            refine ASL.q (v := (.bool (a44 || a50))) rfl rfl (Light.quiet (opPick (b := a44) rfl rfl (by cases a44 <;> rfl))) ?_
            refine ASL.q (v := (.bool (a44 || a50))) rfl rfl (Light.quiet (opAssign rfl rfl)) ?_
            refine ASL.done ?_
            refine AWP.ret ?_
            refine QBlock.ret ?_
            refine QThen.rt ?_
            obtain rfl := someE hF
            exact QRet.sole (v := (.bool (a44 || a50))) ⟨rfl, trivial⟩ rfl
          · skip
            refine AWP.skip ?_
            refine QBlock.nrm ?_
            refine QThen.nrm ?_
            refine AWP.seqR rfl ?_
            refine ASL.q (v := (.bool false)) rfl rfl (Light.quiet (opAssign rfl rfl)) ?_
            refine ASL.done ?_
            refine AWP.ret ?_
            obtain rfl := someE hF
            exact QRet.sole (v := (.bool false)) ⟨rfl, trivial⟩ rfl

set_option maxRecDepth 10000 in
theorem impl_soBy_ok {p0 : TNode} {p1 : (List Bool)} {p2 : Int} {p3 : Bool} {r : Bool} (hF : impl_soBy p0 p1 p2 p3 = some r) : PC Try.prog 109 [(TNode.av p0), (.list 1 (List.map AV.bool p1)), (.int .i64 p2), (.bool p3)] fun v => v = (.bool r) := by
  refine PC.enter Try.func109 rfl Try.ntmps109 (by simp) ?_
  have hS := Sep.void; unfold impl_soBy at hF
  refine AWP.seqR rfl ?_
  refine ASL.q (v := (.rptr [(.int .i64 p0.kind), (.int .i64 p0.a), (.int .i64 p0.b)])) rfl rfl ((qBoxI (v := (TNode.av p0)) rfl rfl rfl rfl)) ?_
  refine ASL.q (v := (.bool false)) rfl rfl (Light.quiet (opAssign rfl rfl)) ?_
  refine ASL.done ?_
  refine AWP.seq ?_
  refine AWP.seqR rfl ?_
  refine ASL.q (v := (.rptr [(.int .i64 p0.kind), (.int .i64 p0.a), (.int .i64 p0.b)])) rfl rfl (Light.quiet (opFieldAddrR rfl fieldA_59_0 rfl rfl)) ?_
  refine ASL.q (v := (.int .i64 p0.kind)) rfl rfl (Light.quiet (opLoadR rfl aggA_3 rfl rfl)) ?_
  refine ASL.done ?_
  refine AWP.block ?_
  refine AWP.seqR rfl ?_
  refine ASL.q (v := (.bool (decide (p0.kind = 7)))) rfl rfl (Light.quiet (opInt rfl rfl rfl rfl)) ?_
  refine ASL.q (v := (.bool (decide (p0.kind = 7)))) rfl rfl (Light.quiet (opAssign rfl rfl)) ?_
  refine ASL.done ?_
  refine AWP.ifP hF rfl (fun hc1 hF => ?_) (fun hc1 hF => ?_)
  · skip
    refine AWP.seqR rfl ?_
    refine ASL.q (v := (.bool p3)) rfl rfl (Light.quiet (opMove rfl rfl)) ?_
    refine ASL.q (v := (.bool p3)) rfl rfl (Light.quiet (opAssign rfl rfl)) ?_
    refine ASL.done ?_
    refine AWP.ret ?_
    refine QBlock.ret ?_
    refine QThen.rt ?_
    obtain rfl := someE hF
    exact QRet.sole (v := (.bool p3)) ⟨rfl, trivial⟩ rfl
  · skip
    refine AWP.seqR rfl ?_
    refine ASL.q (v := (.bool (decide (p0.kind = 8)))) rfl rfl (Light.quiet (opInt rfl rfl rfl rfl)) ?_
    refine ASL.q (v := (.bool (decide (p0.kind = 8)))) rfl rfl (Light.quiet (opAssign rfl rfl)) ?_
    refine ASL.done ?_
    refine AWP.ifP hF rfl (fun hc2 hF => ?_) (fun hc2 hF => ?_)
    · skip
      refine AWP.seqR rfl ?_
      refine ASL.q (v := (.list 1 (List.map AV.bool p1))) rfl rfl (Light.quiet (opMove rfl rfl)) ?_
      refine ASL.q (v := (.rptr [(.int .i64 p0.b)])) rfl rfl (Light.quiet (opFieldAddrR rfl fieldA_59_2 rfl rfl)) ?_
      refine ASL.q (v := (.int .i64 p0.b)) rfl rfl (Light.quiet (opLoadR rfl aggA_3 rfl rfl)) ?_
      obtain ⟨a19, ha19, hF⟩ := bindE hF
      refine ASL.q (v := (.rptr [(.bool a19)])) rfl rfl (Light.quiet (kIx (f := AV.bool) ha19 rfl rfl rfl elemA_56 sizeA_4 rfl)) ?_
      refine ASL.q (v := (.bool a19)) rfl rfl (Light.quiet (opLoadR rfl aggA_4 rfl rfl)) ?_
      refine ASL.q (v := (.bool a19)) rfl rfl (Light.quiet (opMove rfl rfl)) ?_
      refine ASL.g (v := (.list 1 (List.map AV.bool p1))) (.bool a19) false rfl (wF _) rfl (fun hG => by have q0 := gN hG; subst q0; exact Light.quiet (opMove rfl rfl)) ?_
      refine ASL.g (v := (.rptr [(.int .i64 p0.a), (.int .i64 p0.b)])) (.bool a19) false rfl (wF _) rfl (fun hG => by have q0 := gN hG; subst q0; exact Light.quiet (opFieldAddrR rfl fieldA_59_1 rfl rfl)) ?_
      refine ASL.g (v := (.int .i64 p0.a)) (.bool a19) false rfl (wF _) rfl (fun hG => by have q0 := gN hG; subst q0; exact Light.quiet (opLoadR rfl aggA_3 rfl rfl)) ?_
      obtain ⟨a25, ha25, hF⟩ := bindE hF
      refine ASL.g (v := (.rptr [(.bool a25)])) (.bool a19) false rfl (wF _) rfl (fun hG => by have q0 := gN hG; subst q0; exact Light.quiet (kIx (f := AV.bool) (whenE ha25) rfl rfl rfl elemA_56 sizeA_4 rfl)) ?_
      refine ASL.g (v := (.bool a25)) (.bool a19) false rfl (wF _) rfl (fun hG => by have q0 := gN hG; subst q0; exact Light.quiet (opLoadR rfl aggA_4 rfl rfl)) ?_
      refine ASL.g (v := (.bool a25)) (.bool a19) false rfl (wF _) rfl (fun hG => by have q0 := gN hG; subst q0; exact Light.quiet (opMove rfl rfl)) ?_
      refine ASL.g (v := (.bool p3)) (bif (!a19) then (.bool a25) else .tup []) true rfl (wGT _ _) rfl (fun hG => by have q0 := gN (gA1 hG); have q1 := gA2 hG; subst q0; subst q1; exact Light.quiet (opMove rfl rfl)) ?_
      refine ASL.g (v := (.bool (a25 && p3))) (.bool a19) false rfl (wF _) rfl (fun hG => by have q0 := gN hG; subst q0; exact Light.quiet (opPick (b := a25) rfl rfl (by cases a25 <;> rfl))) ?_
      refine ASL.q (v := (.bool (a19 || (a25 && p3)))) rfl rfl (Light.quiet (opPick (b := a19) rfl rfl (by cases a19 <;> rfl))) ?_
      refine ASL.q (v := (.bool (a19 || (a25 && p3)))) rfl rfl (Light.quiet (opAssign rfl rfl)) ?_
      refine ASL.done ?_
      refine AWP.ret ?_
      refine QBlock.ret ?_
      refine QThen.rt ?_
      obtain rfl := someE hF
      exact QRet.sole (v := (.bool (a19 || (a25 && p3)))) ⟨rfl, trivial⟩ rfl
    · skip
      refine AWP.seqR rfl ?_
      refine ASL.q (v := (.bool (decide (p0.kind = 9)))) rfl rfl (Light.quiet (opInt rfl rfl rfl rfl)) ?_
      refine ASL.q (v := (.bool (decide (p0.kind = 9)))) rfl rfl (Light.quiet (opAssign rfl rfl)) ?_
      refine ASL.done ?_
      refine AWP.ifP hF rfl (fun hc3 hF => ?_) (fun hc3 hF => ?_)
      · skip
        refine AWP.seqR rfl ?_
        refine ASL.q (v := (.list 1 (List.map AV.bool p1))) rfl rfl (Light.quiet (opMove rfl rfl)) ?_
        refine ASL.q (v := (.rptr [(.int .i64 p0.b)])) rfl rfl (Light.quiet (opFieldAddrR rfl fieldA_59_2 rfl rfl)) ?_
        refine ASL.q (v := (.int .i64 p0.b)) rfl rfl (Light.quiet (opLoadR rfl aggA_3 rfl rfl)) ?_
        obtain ⟨a36, ha36, hF⟩ := bindE hF
        refine ASL.q (v := (.rptr [(.bool a36)])) rfl rfl (Light.quiet (kIx (f := AV.bool) ha36 rfl rfl rfl elemA_56 sizeA_4 rfl)) ?_
        refine ASL.q (v := (.bool a36)) rfl rfl (Light.quiet (opLoadR rfl aggA_4 rfl rfl)) ?_
        refine ASL.q (v := (.bool a36)) rfl rfl (Light.quiet (opMove rfl rfl)) ?_
        refine ASL.g (v := (.list 1 (List.map AV.bool p1))) (.bool a36) true rfl (wT _) rfl (fun hG => by have q0 := hG; subst q0; exact Light.quiet (opMove rfl rfl)) ?_
        refine ASL.g (v := (.rptr [(.int .i64 p0.a), (.int .i64 p0.b)])) (.bool a36) true rfl (wT _) rfl (fun hG => by have q0 := hG; subst q0; exact Light.quiet (opFieldAddrR rfl fieldA_59_1 rfl rfl)) ?_
        refine ASL.g (v := (.int .i64 p0.a)) (.bool a36) true rfl (wT _) rfl (fun hG => by have q0 := hG; subst q0; exact Light.quiet (opLoadR rfl aggA_3 rfl rfl)) ?_
        obtain ⟨a42, ha42, hF⟩ := bindE hF
        refine ASL.g (v := (.rptr [(.bool a42)])) (.bool a36) true rfl (wT _) rfl (fun hG => by have q0 := hG; subst q0; exact Light.quiet (kIx (f := AV.bool) (whenE ha42) rfl rfl rfl elemA_56 sizeA_4 rfl)) ?_
        refine ASL.g (v := (.bool a42)) (.bool a36) true rfl (wT _) rfl (fun hG => by have q0 := hG; subst q0; exact Light.quiet (opLoadR rfl aggA_4 rfl rfl)) ?_
        refine ASL.g (v := (.bool a42)) (.bool a36) true rfl (wT _) rfl (fun hG => by have q0 := hG; subst q0; exact Light.quiet (opMove rfl rfl)) ?_
        refine ASL.g (v := (.bool p3)) (bif a36 then (.bool a42) else .tup []) false rfl (wGF _ _) rfl (fun hG => by have q0 := gA1 hG; have q1 := gN (gA2 hG); subst q0; subst q1; exact Light.quiet (opMove rfl rfl)) ?_
        refine ASL.g (v := (.bool (a42 || p3))) (.bool a36) true rfl (wT _) rfl (fun hG => by have q0 := hG; subst q0; exact Light.quiet (opPick (b := a42) rfl rfl (by cases a42 <;> rfl))) ?_
        refine ASL.q (v := (.bool (a36 && (a42 || p3)))) rfl rfl (Light.quiet (opPick (b := a36) rfl rfl (by cases a36 <;> rfl))) ?_
        refine ASL.q (v := (.bool (a36 && (a42 || p3)))) rfl rfl (Light.quiet (opAssign rfl rfl)) ?_
        refine ASL.done ?_
        refine AWP.ret ?_
        refine QBlock.ret ?_
        refine QThen.rt ?_
        obtain rfl := someE hF
        exact QRet.sole (v := (.bool (a36 && (a42 || p3)))) ⟨rfl, trivial⟩ rfl
      · skip
        refine AWP.seqR rfl ?_
        refine ASL.q (v := (.bool (decide (p0.kind = 10)))) rfl rfl (Light.quiet (opInt rfl rfl rfl rfl)) ?_
        refine ASL.q (v := (.bool (decide (p0.kind = 10)))) rfl rfl (Light.quiet (opAssign rfl rfl)) ?_
        refine ASL.done ?_
        refine AWP.ifP hF rfl (fun hc4 hF => ?_) (fun hc4 hF => ?_)
        · skip
          refine AWP.seqR rfl ?_
          refine ASL.q (v := (.list 1 (List.map AV.bool p1))) rfl rfl (Light.quiet (opMove rfl rfl)) ?_
          refine ASL.q (v := (.rptr [(.int .i64 p0.a), (.int .i64 p0.b)])) rfl rfl (Light.quiet (opFieldAddrR rfl fieldA_59_1 rfl rfl)) ?_
          refine ASL.q (v := (.int .i64 p0.a)) rfl rfl (Light.quiet (opLoadR rfl aggA_3 rfl rfl)) ?_
          obtain ⟨a53, ha53, hF⟩ := bindE hF
          refine ASL.q (v := (.rptr [(.bool a53)])) rfl rfl (Light.quiet (kIx (f := AV.bool) ha53 rfl rfl rfl elemA_56 sizeA_4 rfl)) ?_
          refine ASL.q (v := (.bool a53)) rfl rfl (Light.quiet (opLoadR rfl aggA_4 rfl rfl)) ?_
          refine ASL.q (v := (.bool a53)) rfl rfl (Light.quiet (opMove rfl rfl)) ?_
          refine ASL.g (v := (.bool p3)) (.bool a53) false rfl (wF _) rfl (fun hG => by have q0 := gN hG; subst q0; exact Light.quiet (opMove rfl rfl)) ?_
          refine ASL.q (v := (.bool (a53 || p3))) rfl rfl (Light.quiet (opPick (b := a53) rfl rfl (by cases a53 <;> rfl))) ?_
          refine ASL.q (v := (.bool (a53 || p3))) rfl rfl (Light.quiet (opAssign rfl rfl)) ?_
          refine ASL.done ?_
          refine AWP.ret ?_
          refine QBlock.ret ?_
          refine QThen.rt ?_
          obtain rfl := someE hF
          exact QRet.sole (v := (.bool (a53 || p3))) ⟨rfl, trivial⟩ rfl
        · skip
          refine AWP.seqR rfl ?_
          refine ASL.q (v := (.bool (decide (p0.kind = 11)))) rfl rfl (Light.quiet (opInt rfl rfl rfl rfl)) ?_
          refine ASL.q (v := (.bool (decide (p0.kind = 11)))) rfl rfl (Light.quiet (opAssign rfl rfl)) ?_
          refine ASL.done ?_
          refine AWP.ifP hF rfl (fun hc5 hF => ?_) (fun hc5 hF => ?_)
          · skip
            refine AWP.seqR rfl ?_
            refine ASL.q (v := (.list 1 (List.map AV.bool p1))) rfl rfl (Light.quiet (opMove rfl rfl)) ?_
            refine ASL.q (v := (.rptr [(.int .i64 p0.a), (.int .i64 p0.b)])) rfl rfl (Light.quiet (opFieldAddrR rfl fieldA_59_1 rfl rfl)) ?_
            refine ASL.q (v := (.int .i64 p0.a)) rfl rfl (Light.quiet (opLoadR rfl aggA_3 rfl rfl)) ?_
            obtain ⟨a63, ha63, hF⟩ := bindE hF
            refine ASL.q (v := (.rptr [(.bool a63)])) rfl rfl (Light.quiet (kIx (f := AV.bool) ha63 rfl rfl rfl elemA_56 sizeA_4 rfl)) ?_
            refine ASL.q (v := (.bool a63)) rfl rfl (Light.quiet (opLoadR rfl aggA_4 rfl rfl)) ?_
            refine ASL.q (v := (.bool a63)) rfl rfl (Light.quiet (opMove rfl rfl)) ?_
            refine ASL.g (v := (.bool p3)) (.bool a63) true rfl (wT _) rfl (fun hG => by have q0 := hG; subst q0; exact Light.quiet (opMove rfl rfl)) ?_
            refine ASL.q (v := (.bool (a63 && p3))) rfl rfl (Light.quiet (opPick (b := a63) rfl rfl (by cases a63 <;> rfl))) ?_
            refine ASL.q (v := (.bool (a63 && p3))) rfl rfl (Light.quiet (opAssign rfl rfl)) ?_
            refine ASL.done ?_
            refine AWP.ret ?_
            refine QBlock.ret ?_
            refine QThen.rt ?_
            obtain rfl := someE hF
            exact QRet.sole (v := (.bool (a63 && p3))) ⟨rfl, trivial⟩ rfl
          · skip
            refine AWP.skip ?_
            refine QBlock.nrm ?_
            refine QThen.nrm ?_
            refine AWP.seqR rfl ?_
            refine ASL.q (v := (TNode.av p0)) rfl rfl (Light.quiet (opLoadRA rfl aggA_59 sizeA_59 rfl (nlt rfl) rfl)) ?_
            refine ASL.q (v := (.list 1 (List.map AV.bool p1))) rfl rfl (Light.quiet (opMove rfl rfl)) ?_
            refine ASL.q (v := (.int .i64 p2)) rfl rfl (Light.quiet (opMove rfl rfl)) ?_
            obtain ⟨a71, ha71, hF⟩ := bindE hF
            refine ASL.q (v := (.bool a71)) rfl rfl ((qCall rfl rfl call_128 (impl_plain_ok ha71) rfl)) ?_
            refine ASL.q (v := (.bool a71)) rfl rfl (Light.quiet (opAssign rfl rfl)) ?_
            refine ASL.done ?_
            refine AWP.ret ?_
            obtain rfl := someE hF
            exact QRet.sole (v := (.bool a71)) ⟨rfl, trivial⟩ rfl

set_option maxRecDepth 10000 in
theorem impl_rowOf_ok {p0 : TNode} {p1 : (List (List Bool))} {p2 : TWord} {r : (List Bool)} (hF : impl_rowOf p0 p1 p2 = some r) : PO Try.prog 104 [(TNode.av p0), (.list 1 (List.map (fun xs : (List Bool) => AV.list 1 (List.map AV.bool xs)) p1)), (TWord.av p2)] 1 (List.map AV.bool r) := by
  refine HC.enter Try.func104 rfl Try.ntmps104 (by simp) ?_
  have hS := Sep.void; unfold impl_rowOf at hF
  refine AWP.seqR rfl ?_
  refine ASL.q (v := (.rptr [(.int .i64 p0.kind), (.int .i64 p0.a), (.int .i64 p0.b)])) rfl rfl ((qBoxI (v := (TNode.av p0)) rfl rfl rfl rfl)) ?_
  refine ASL.q (v := (.rptr [(.list 1 (List.map (AV.int .i64) p2.stem)), (.list 1 (List.map (AV.int .i64) p2.loop))])) rfl rfl ((qBoxI (v := (TWord.av p2)) rfl rfl rfl rfl)) ?_
  have hS := hNil (s := 1) (f := AV.bool) hS
  refine ASL.q (v := .nil) rfl rfl (Light.quiet (opAssign rfl rfl)) ?_
  refine ASL.done ?_
  refine AWP.seqR rfl ?_
  refine ASL.q (v := (.int .i64 (impl_Word_places p2))) rfl rfl ((qCall rfl rfl call_122 (impl_Word_places_ok p2) rfl)) ?_
  obtain ⟨z12, hz12, hF⟩ := bindE hF
  refine ASL.x rfl rfl (hMk (f := AV.bool) hS hz12 (by decide) rfl elemA_56 sizeA_4 bytesA_4 zeroA_4 rfl rfl (by decide) rfl rfl ?_); rintro v12 G2 hK hS
  refine ASL.q (v := v12) rfl rfl (Light.quiet (opAssign rfl rfl)) ?_
  refine ASL.done ?_
  refine AWP.seqM (fun e H => ∃ y4 : (List Bool), E.Told e [(1, (.list 1 (List.map (fun xs : (List Bool) => AV.list 1 (List.map AV.bool xs)) p1))), (3, (.rptr [(.int .i64 p0.kind), (.int .i64 p0.a), (.int .i64 p0.b)])), (5, (.rptr [(.list 1 (List.map (AV.int .i64) p2.stem)), (.list 1 (List.map (AV.int .i64) p2.loop))])), (7, v12)] ∧ E.Sep H [.row 1 v12 (List.map AV.bool y4)] ∧ impl_rowOf.k0 p2 p0 p1 y4 = some r) ?_ ?_
  · rintro e0 G28 ⟨y4, hT, hS, hF⟩; refine AWP.only _ hT ?_; unfold impl_rowOf.k0 at hF
    refine AWP.seqM (fun e H => ∃ y5 : (List Bool), E.Told e [(7, v12)] ∧ E.Sep H [.row 1 v12 (List.map AV.bool y5)] ∧ impl_rowOf.k1 y5 = some r) ?_ ?_
    · rintro e0 G6 ⟨y5, hT, hS, hF⟩; refine AWP.only _ hT ?_; unfold impl_rowOf.k1 at hF
      refine AWP.seqR rfl ?_
      refine ASL.q (v := v12) rfl rfl (Light.quiet (opMove rfl rfl)) ?_
      refine ASL.q (v := v12) rfl rfl (Light.quiet (opAssign rfl rfl)) ?_
      refine ASL.done ?_
      refine AWP.ret ?_
      obtain rfl := someE hF
      exact QRet.sole (v := v12) ⟨rfl, trivial⟩ (hS.get (k := 0) rfl)
    · skip
      refine AWP.seqR rfl ?_
      refine ASL.q (v := (.int .i64 0)) rfl rfl (Light.quiet (opMove rfl rfl)) ?_
      refine ASL.done ?_
      refine AWP.block ?_
      obtain ⟨o11, hL10, hR12⟩ := bindE hF
      refine AWP.loopF (ω := Unit) hL10 (fun s w => [(1, (.list 1 (List.map (fun xs : (List Bool) => AV.list 1 (List.map AV.bool xs)) p1))), (3, (.rptr [(.int .i64 p0.kind), (.int .i64 p0.a), (.int .i64 p0.b)])), (5, (.rptr [(.list 1 (List.map (AV.int .i64) p2.stem)), (.list 1 (List.map (AV.int .i64) p2.loop))])), (7, v12), (30, (.int .i64 s.2))]) (fun s w => [.row 1 v12 (List.map AV.bool s.1)]) () ⟨rfl, rfl, rfl, rfl, rfl, trivial⟩ (hS.pick [0] rfl rfl) ?_
      rintro ⟨y7, x30_l0⟩ _ G13 hS x8 hF hx9
      try dsimp only at hS ⊢
      have hF : impl_rowOf.b0 p2 p0 p1 y7 x30_l0 = some x8 := hF; unfold impl_rowOf.b0 at hF
      refine AWP.seqR rfl ?_
      refine ASL.q (v := (.bool (decide (x30_l0 < 2)))) rfl rfl (Light.quiet (opInt rfl rfl rfl rfl)) ?_
      refine ASL.done ?_
      refine AWP.seq ?_
      refine AWP.ifP hF rfl (fun hc14 hF => ?_) (fun hc14 hF => ?_)
      · skip
        refine AWP.skip ?_
        refine QThen.nrm ?_
        refine AWP.seqM (fun e H => ∃ y15 : (List Bool), E.Told e [(1, (.list 1 (List.map (fun xs : (List Bool) => AV.list 1 (List.map AV.bool xs)) p1))), (3, (.rptr [(.int .i64 p0.kind), (.int .i64 p0.a), (.int .i64 p0.b)])), (5, (.rptr [(.list 1 (List.map (AV.int .i64) p2.stem)), (.list 1 (List.map (AV.int .i64) p2.loop))])), (7, v12), (30, (.int .i64 x30_l0))] ∧ E.Sep H [.row 1 v12 (List.map AV.bool y15)] ∧ impl_rowOf.k2 x30_l0 y15 = some x8) ?_ ?_
        · rintro e0 G16 ⟨y15, hT, hS, hF⟩; refine AWP.only _ hT ?_; unfold impl_rowOf.k2 at hF
          refine AWP.lastR rfl ?_
          refine ASL.q (v := (.int .i64 (W (x30_l0 + 1)))) rfl rfl (Light.quiet (opInt rfl rfl rfl rfl)) ?_
          refine ASL.q (v := (.int .i64 (W (x30_l0 + 1)))) rfl rfl (Light.quiet (opMove rfl rfl)) ?_
          refine ASL.done ?_
          refine QThen.nrm ?_
          exact ⟨(y15, (W (x30_l0 + 1))), (), (someE hF).symm, ⟨rfl, rfl, rfl, rfl, rfl, trivial⟩, (hS.pick [0] rfl rfl)⟩
        · skip
          refine AWP.block ?_
          refine AWP.seqR rfl ?_
          refine ASL.q (v := v12) rfl rfl (Light.quiet (opMove rfl rfl)) ?_
          refine ASL.q (v := (.int .i64 (y7.length : Int))) rfl rfl (Light.quiet (kLen hS (j := 0) rfl rfl rfl rfl lenT_56 rfl)) ?_
          refine ASL.q (v := (.int .i64 (W (((y7.length : Int)) - 1)))) rfl rfl (Light.quiet (opInt rfl rfl rfl rfl)) ?_
          refine ASL.q (v := (.int .i64 (W (((y7.length : Int)) - 1)))) rfl rfl (Light.quiet (opAssign rfl rfl)) ?_
          refine ASL.done ?_
          refine AWP.block ?_
          obtain ⟨o21, hL20, hR22⟩ := bindE hF
          refine AWP.loopF (ω := Unit) hL20 (fun s w => [(1, (.list 1 (List.map (fun xs : (List Bool) => AV.list 1 (List.map AV.bool xs)) p1))), (3, (.rptr [(.int .i64 p0.kind), (.int .i64 p0.a), (.int .i64 p0.b)])), (5, (.rptr [(.list 1 (List.map (AV.int .i64) p2.stem)), (.list 1 (List.map (AV.int .i64) p2.loop))])), (7, v12), (9, (.int .i64 s.2)), (30, (.int .i64 x30_l0))]) (fun s w => [.row 1 v12 (List.map AV.bool s.1)]) () ⟨rfl, rfl, rfl, rfl, rfl, rfl, trivial⟩ (hS.pick [0] rfl rfl) ?_
          rintro ⟨y17, x9_l1⟩ _ G23 hS x18 hF hx19
          try dsimp only at hS ⊢
          have hF : impl_rowOf.b1 p2 p0 p1 y17 x9_l1 = some x18 := hF; unfold impl_rowOf.b1 at hF
          refine AWP.seq ?_
          refine AWP.seqR rfl ?_
          refine ASL.q (v := (.int .i64 x9_l1)) rfl rfl (Light.quiet (opMove rfl rfl)) ?_
          refine ASL.q (v := (.bool (decide (x9_l1 ≥ 0)))) rfl rfl (Light.quiet (opInt rfl rfl rfl rfl)) ?_
          refine ASL.done ?_
          refine AWP.ifP hF rfl (fun hc24 hF => ?_) (fun hc24 hF => ?_)
          · skip
            refine AWP.skip ?_
            refine QThen.nrm ?_
            refine AWP.seq ?_
            refine AWP.block ?_
            refine AWP.seqR rfl ?_
            refine ASL.q (v := v12) rfl rfl (Light.quiet (opMove rfl rfl)) ?_
            refine ASL.q (v := (.int .i64 x9_l1)) rfl rfl (Light.quiet (opMove rfl rfl)) ?_
            refine ASL.q (v := (.int .i64 (impl_Word_next p2 x9_l1))) rfl rfl ((qCall rfl rfl call_123 (impl_Word_next_ok p2 x9_l1) rfl)) ?_
            obtain ⟨a42, ha42, hF⟩ := bindE hF
            refine ASL.q (v := (ptrTo v12 ((impl_Word_next p2 x9_l1)).toNat 1)) rfl rfl (Light.quiet (kIxOx hS (j := 0) rfl ha42 rfl rfl rfl elemA_56 sizeA_4)) ?_
            refine ASL.q (v := (.bool a42)) rfl rfl (Light.quiet (kLd (f := AV.bool) hS (j := 0) rfl ha42 rfl aggA_4 rfl (fun _ => rfl))) ?_
            refine ASL.q (v := (.bool a42)) rfl rfl (Light.quiet (opAssign rfl rfl)) ?_
            refine ASL.done ?_
            refine AWP.seqM (fun e H => ∃ x10_4 : Bool, E.Told e [(1, (.list 1 (List.map (fun xs : (List Bool) => AV.list 1 (List.map AV.bool xs)) p1))), (3, (.rptr [(.int .i64 p0.kind), (.int .i64 p0.a), (.int .i64 p0.b)])), (5, (.rptr [(.list 1 (List.map (AV.int .i64) p2.stem)), (.list 1 (List.map (AV.int .i64) p2.loop))])), (7, v12), (9, (.int .i64 x9_l1)), (10, (.bool x10_4)), (30, (.int .i64 x30_l0))] ∧ E.Sep H [.row 1 v12 (List.map AV.bool y17)] ∧ impl_rowOf.k3 p0 p1 x9_l1 p2 y17 x10_4 = some x18) ?_ ?_
            · rintro e0 G26 ⟨x10_4, hT, hS, hF⟩; refine AWP.only _ hT ?_; unfold impl_rowOf.k3 at hF
              refine AWP.lastD [(0, false), (1, false), (2, false), (3, false), (4, false), (5, false), (6, false), (7, false), (8, false), (9, false), (10, false), (11, false), (12, true)] mixed (by kernel_rfl) rfl ?_
              refine ARL.q0 (v := v12) rfl rfl (Light.quiet (opMove rfl rfl)) ?_
              refine ARL.q0 (v := (.int .i64 x9_l1)) rfl rfl (Light.quiet (opMove rfl rfl)) ?_
              refine ARL.q0 (v := (TNode.av p0)) rfl rfl (Light.quiet (opLoadRA rfl aggA_59 sizeA_59 rfl (nlt rfl) rfl)) ?_
              refine ARL.q0 (v := (TNode.av p0)) rfl rfl (Light.quiet (opLoadRA rfl aggA_59 sizeA_59 rfl (nlt rfl) rfl)) ?_
              refine ARL.q0 (v := (.list 1 (List.map (fun xs : (List Bool) => AV.list 1 (List.map AV.bool xs)) p1))) rfl rfl (Light.quiet (opMove rfl rfl)) ?_
              refine ARL.q0 (v := (.int .i64 x9_l1)) rfl rfl (Light.quiet (opMove rfl rfl)) ?_
              obtain ⟨a62, ha62, hF⟩ := bindE hF
              refine ARL.q0 (v := (.list 1 (List.map AV.bool a62))) rfl rfl ((qCall rfl rfl call_124 (PO.list (impl_columnOf_ok ha62)) rfl)) ?_
              refine ARL.q0 (v := (.int .i64 x9_l1)) rfl rfl (Light.quiet (opMove rfl rfl)) ?_
              obtain ⟨a64, ha64, hF⟩ := bindE hF
              refine ARL.q0 (v := (.int .i64 a64)) rfl rfl ((qCall rfl rfl call_125 (impl_Word_letter_ok ha64) rfl)) ?_
              refine ARL.q0 (v := (.bool x10_4)) rfl rfl (Light.quiet (opMove rfl rfl)) ?_
              obtain ⟨a66, ha66, hF⟩ := bindE hF
              refine ARL.q0 (v := (.bool a66)) rfl rfl ((qCall rfl rfl call_109 (impl_soBy_ok ha66) rfl)) ?_
              obtain ⟨m67, hm67, hF⟩ := bindE hF
              refine ARL.q0 (v := (ptrTo v12 m67 1)) rfl rfl (Light.quiet (kIxO hS (j := 0) rfl hm67 rfl rfl rfl elemA_56 sizeA_4)) ?_
              refine ARL.n rfl rfl rfl rfl (hSt (f := AV.bool) (a := a66) hS (j := 0) rfl hm67 rfl sizeA_4 rfl rfl ⟨rfl, rfl, rfl⟩ ?_); rintro G25 hS
              refine ARL.done ?_
              refine QBlock.nrm ?_
              refine QThen.nrm ?_
              refine AWP.lastR rfl ?_
              refine ASL.q (v := (.int .i64 x9_l1)) rfl rfl (Light.quiet (opMove rfl rfl)) ?_
              refine ASL.q (v := (.int .i64 (W (x9_l1 - 1)))) rfl rfl (Light.quiet (opInt rfl rfl rfl rfl)) ?_
              refine ASL.q (v := (.int .i64 (W (x9_l1 - 1)))) rfl rfl (Light.quiet (opAssign rfl rfl)) ?_
              refine ASL.done ?_
              refine QThen.nrm ?_
              exact ⟨((y17.set m67 a66), (W (x9_l1 - 1))), (), (someE hF).symm, ⟨rfl, rfl, rfl, rfl, rfl, rfl, trivial⟩, (hS.pick [0] rfl rfl)⟩
            · skip
              refine AWP.seqR rfl ?_
              refine ASL.q (v := (.rptr [(.int .i64 p0.kind), (.int .i64 p0.a), (.int .i64 p0.b)])) rfl rfl (Light.quiet (opFieldAddrR rfl fieldA_59_0 rfl rfl)) ?_
              refine ASL.q (v := (.int .i64 p0.kind)) rfl rfl (Light.quiet (opLoadR rfl aggA_3 rfl rfl)) ?_
              refine ASL.q (v := (.bool (decide (p0.kind = 7)))) rfl rfl (Light.quiet (opInt rfl rfl rfl rfl)) ?_
              refine ASL.done ?_
              refine AWP.ifP hF rfl (fun hc27 hF => ?_) (fun hc27 hF => ?_)
              · skip
                refine AWP.lastD [(0, false), (1, false), (2, false), (3, false), (4, false), (5, false), (6, false), (7, false), (8, false), (9, false)] mixed (by kernel_rfl) rfl ?_
                refine ARL.q0 (v := (.list 1 (List.map (fun xs : (List Bool) => AV.list 1 (List.map AV.bool xs)) p1))) rfl rfl (Light.quiet (opMove rfl rfl)) ?_
                refine ARL.q0 (v := (.rptr [(.int .i64 p0.a), (.int .i64 p0.b)])) rfl rfl (Light.quiet (opFieldAddrR rfl fieldA_59_1 rfl rfl)) ?_
                refine ARL.q0 (v := (.int .i64 p0.a)) rfl rfl (Light.quiet (opLoadR rfl aggA_3 rfl rfl)) ?_
                obtain ⟨a50, ha50, hF⟩ := bindE hF
                refine ARL.q0 (v := (.rptr [(.list 1 (List.map AV.bool a50))])) rfl rfl (Light.quiet (kIx (f := (fun xs : (List Bool) => AV.list 1 (List.map AV.bool xs))) ha50 rfl rfl rfl elemA_48 sizeA_56 rfl)) ?_
                refine ARL.q0 (v := (.list 1 (List.map AV.bool a50))) rfl rfl (Light.quiet (opLoadR rfl aggA_56 rfl rfl)) ?_
                refine ARL.q0 (v := (.int .i64 x9_l1)) rfl rfl (Light.quiet (opMove rfl rfl)) ?_
                refine ARL.q0 (v := (.int .i64 (impl_Word_next p2 x9_l1))) rfl rfl ((qCall rfl rfl call_123 (impl_Word_next_ok p2 x9_l1) rfl)) ?_
                obtain ⟨a54, ha54, hF⟩ := bindE hF
                refine ARL.q0 (v := (.rptr [(.bool a54)])) rfl rfl (Light.quiet (kIx (f := AV.bool) ha54 rfl rfl rfl elemA_56 sizeA_4 rfl)) ?_
                refine ARL.q0 (v := (.bool a54)) rfl rfl (Light.quiet (opLoadR rfl aggA_4 rfl rfl)) ?_
                refine ARL.q0 (v := (.bool a54)) rfl rfl (Light.quiet (opAssign rfl rfl)) ?_
                refine ARL.done ?_
                refine QThen.nrm ?_
                exact ⟨a54, ⟨rfl, rfl, rfl, rfl, rfl, rfl, rfl, trivial⟩, (hS.pick [0] rfl rfl), hF⟩
              · skip
                refine AWP.skip ?_
                refine QThen.nrm ?_
                exact ⟨a42, ⟨rfl, rfl, rfl, rfl, rfl, rfl, rfl, trivial⟩, (hS.pick [0] rfl rfl), hF⟩
          · skip
            refine AWP.exit ?_
            refine QThen.ext ?_
            refine QThen.ext ?_
            refine QBlock.hit ?_
            obtain rfl := (hx19 _ (someE hF).symm)
            have hF := hR22
            refine QBlock.nrm ?_
            refine QThen.nrm ?_
            exact ⟨y17, ⟨rfl, rfl, rfl, rfl, rfl, trivial⟩, (hS.pick [0] rfl rfl), hF⟩
      · skip
        refine AWP.exit ?_
        refine QThen.ext ?_
        refine QThen.ext ?_
        refine QBlock.hit ?_
        obtain rfl := (hx9 _ (someE hF).symm)
        have hF := hR12
        refine QThen.nrm ?_
        exact ⟨y7, ⟨rfl, trivial⟩, (hS.pick [0] rfl rfl), hF⟩
  · skip
    refine AWP.seqR rfl ?_
    refine ASL.q (v := v12) rfl rfl (Light.quiet (opMove rfl rfl)) ?_
    refine ASL.q (v := (.int .i64 (z12.length : Int))) rfl rfl (Light.quiet (kLen hS (j := 0) rfl rfl rfl rfl lenT_56 rfl)) ?_
    refine ASL.q (v := (.int .i64 0)) rfl rfl (Light.quiet (opMove rfl rfl)) ?_
    refine ASL.done ?_
    refine AWP.block ?_
    obtain ⟨o33, hL32, hR34⟩ := bindE hF
    refine AWP.loopF (ω := Unit) hL32 (fun s w => [(1, (.list 1 (List.map (fun xs : (List Bool) => AV.list 1 (List.map AV.bool xs)) p1))), (3, (.rptr [(.int .i64 p0.kind), (.int .i64 p0.a), (.int .i64 p0.b)])), (5, (.rptr [(.list 1 (List.map (AV.int .i64) p2.stem)), (.list 1 (List.map (AV.int .i64) p2.loop))])), (7, v12), (14, (.int .i64 (z12.length : Int))), (15, (.int .i64 s.2))]) (fun s w => [.row 1 v12 (List.map AV.bool s.1)]) () ⟨rfl, rfl, rfl, rfl, rfl, rfl, trivial⟩ (hS.pick [0] rfl rfl) ?_
    rintro ⟨y29, x15_l2⟩ _ G35 hS x30 hF hx31
    try dsimp only at hS ⊢
    have hF : impl_rowOf.b2 z12 p0 y29 x15_l2 = some x30 := hF; unfold impl_rowOf.b2 at hF
    refine AWP.seqR rfl ?_
    refine ASL.q (v := (.bool (decide (x15_l2 < ((z12.length : Int)))))) rfl rfl (Light.quiet (opInt rfl rfl rfl rfl)) ?_
    refine ASL.done ?_
    refine AWP.seq ?_
    refine AWP.ifP hF rfl (fun hc36 hF => ?_) (fun hc36 hF => ?_)
    · skip
      refine AWP.skip ?_
      refine QThen.nrm ?_
      refine AWP.seq ?_
      refine AWP.block ?_
      refine AWP.seqR rfl ?_
      refine ASL.q (v := (.int .i64 x15_l2)) rfl rfl (Light.quiet (opMove rfl rfl)) ?_
      refine ASL.q (v := (.int .i64 x15_l2)) rfl rfl (Light.quiet (opAssign rfl rfl)) ?_
      refine ASL.done ?_
      refine AWP.lastR rfl ?_
      refine ASL.q (v := v12) rfl rfl (Light.quiet (opMove rfl rfl)) ?_
      refine ASL.q (v := (.int .i64 x15_l2)) rfl rfl (Light.quiet (opMove rfl rfl)) ?_
      refine ASL.q (v := (.rptr [(.int .i64 p0.kind), (.int .i64 p0.a), (.int .i64 p0.b)])) rfl rfl (Light.quiet (opFieldAddrR rfl fieldA_59_0 rfl rfl)) ?_
      refine ASL.q (v := (.int .i64 p0.kind)) rfl rfl (Light.quiet (opLoadR rfl aggA_3 rfl rfl)) ?_
      refine ASL.q (v := (.bool (decide (p0.kind = 9)))) rfl rfl (Light.quiet (opInt rfl rfl rfl rfl)) ?_
      obtain ⟨c23, hc23, hF⟩ := bndE hF
      refine ASL.q (v := (.bool c23)) rfl rfl ((Quiet.cast (Light.quiet (opMove rfl rfl)) (congrArg AV.bool hc23.symm))) ?_
      refine ASL.g (v := (.rptr [(.int .i64 p0.kind), (.int .i64 p0.a), (.int .i64 p0.b)])) (.bool c23) false rfl (wF _) rfl (fun hG => by have q0 := gN hG; subst q0; exact Light.quiet (opFieldAddrR rfl fieldA_59_0 rfl rfl)) ?_
      refine ASL.g (v := (.int .i64 p0.kind)) (.bool c23) false rfl (wF _) rfl (fun hG => by have q0 := gN hG; subst q0; exact Light.quiet (opLoadR rfl aggA_3 rfl rfl)) ?_
      refine ASL.g (v := (.bool (decide (p0.kind = 11)))) (.bool c23) false rfl (wF _) rfl (fun hG => by have q0 := gN hG; subst q0; exact Light.quiet (opInt rfl rfl rfl rfl)) ?_
      refine ASL.q (v := (.bool (c23 || (decide (p0.kind = 11))))) rfl rfl (Light.quiet (opPick (b := c23) rfl rfl (by cases c23 <;> rfl))) ?_
      obtain ⟨m28, hm28, hF⟩ := bindE hF
      refine ASL.q (v := (ptrTo v12 m28 1)) rfl rfl (Light.quiet (kIxO hS (j := 0) rfl hm28 rfl rfl rfl elemA_56 sizeA_4)) ?_
      refine ASL.n rfl rfl (hSt (f := AV.bool) (a := (c23 || (decide (p0.kind = 11)))) hS (j := 0) rfl hm28 rfl sizeA_4 rfl rfl ⟨rfl, rfl, rfl⟩ ?_); rintro G37 hS
      refine ASL.done ?_
      refine QBlock.nrm ?_
      refine QThen.nrm ?_
      refine AWP.lastR rfl ?_
      refine ASL.q (v := (.int .i64 (W (x15_l2 + 1)))) rfl rfl (Light.quiet (opInt rfl rfl rfl rfl)) ?_
      refine ASL.q (v := (.int .i64 (W (x15_l2 + 1)))) rfl rfl (Light.quiet (opMove rfl rfl)) ?_
      refine ASL.done ?_
      refine QThen.nrm ?_
      exact ⟨((y29.set m28 ((c23 || (decide (p0.kind = 11))))), (W (x15_l2 + 1))), (), (someE hF).symm, ⟨rfl, rfl, rfl, rfl, rfl, rfl, trivial⟩, (hS.pick [0] rfl rfl)⟩
    · skip
      refine AWP.exit ?_
      refine QThen.ext ?_
      refine QThen.ext ?_
      refine QBlock.hit ?_
      obtain rfl := (hx31 _ (someE hF).symm)
      have hF := hR34
      refine QThen.nrm ?_
      exact ⟨y29, ⟨rfl, rfl, rfl, rfl, trivial⟩, (hS.pick [0] rfl rfl), hF⟩

set_option maxRecDepth 10000 in
theorem impl_tableOf_ok {p0 : (List TNode)} {p1 : TWord} {r : (List (List Bool))} (hF : impl_tableOf p0 p1 = some r) : HS Try.prog 68 [(.list 3 (List.map TNode.av p0)), (TWord.av p1)] [] fun v L' => ∃ o0 : AV, ∃ o0_s : List AV, v = o0 ∧ L' = [.rows 1 o0 o0_s (List.map (List.map AV.bool) r) none] := by
  intro H S hS
  refine HC.enter Try.func68 rfl Try.ntmps68 (by simp) ?_
  simp only [List.cons_append, List.nil_append] at hS
  unfold impl_tableOf at hF
  refine AWP.seqR rfl ?_
  refine ASL.q (v := (.rptr [(.list 1 (List.map (AV.int .i64) p1.stem)), (.list 1 (List.map (AV.int .i64) p1.loop))])) rfl rfl ((qBoxI (v := (TWord.av p1)) rfl rfl rfl rfl)) ?_
  have hS := hNilRs (s := 1) (f := AV.bool) hS
  refine ASL.q (v := .nil) rfl rfl (Light.quiet (opAssign rfl rfl)) ?_
  refine ASL.done ?_
  refine AWP.seqR rfl ?_
  have hS := hNilRs (s := 1) (f := AV.bool) hS
  refine ASL.q (v := .nil) rfl rfl (Light.quiet (opAssign rfl rfl)) ?_
  refine ASL.done ?_
  refine AWP.seqM (fun e H => ∃ y3 : (List (List Bool)), ∃ w4 : AV, ∃ w6 : List AV, E.Told e [(5, w4)] ∧ E.Sep H [.rows 1 w4 w6 (List.map (List.map AV.bool) y3) none, .snap S] ∧ impl_tableOf.k0 y3 = some r) ?_ ?_
  · rintro e0 G7 ⟨y3, w4, w6, hT, hS, hF⟩; refine AWP.only _ hT ?_; unfold impl_tableOf.k0 at hF
    refine AWP.seqR rfl ?_
    refine ASL.q (v := w4) rfl rfl (Light.quiet (opMove rfl rfl)) ?_
    refine ASL.q (v := w4) rfl rfl (Light.quiet (opAssign rfl rfl)) ?_
    refine ASL.done ?_
    refine AWP.ret ?_
    obtain rfl := someE hF
    exact QRet.sole (v := w4) ⟨rfl, trivial⟩ ⟨_, ⟨w4, w6, rfl, rfl⟩, hS.pick [0, 1] rfl rfl⟩
  · skip
    refine AWP.seqR rfl ?_
    refine ASL.q (v := (.list 3 (List.map TNode.av p0))) rfl rfl (Light.quiet (opMove rfl rfl)) ?_
    refine ASL.q (v := (.int .i64 (p0.length : Int))) rfl rfl (Light.quiet (opLenMap (f := TNode.av) rfl rfl rfl lenT_24 rfl)) ?_
    refine ASL.q (v := (.int .i64 0)) rfl rfl (Light.quiet (opMove rfl rfl)) ?_
    refine ASL.done ?_
    refine AWP.block ?_
    obtain ⟨o15, hL14, hR16⟩ := bindE hF
    refine AWP.loopF (ω := (AV × (List AV))) hL14 (fun s w => [(3, (.rptr [(.list 1 (List.map (AV.int .i64) p1.stem)), (.list 1 (List.map (AV.int .i64) p1.loop))])), (5, w.1), (8, (.list 3 (List.map TNode.av p0))), (9, (.int .i64 (p0.length : Int))), (10, (.int .i64 s.2))]) (fun s w => [.rows 1 w.1 w.2 (List.map (List.map AV.bool) s.1) none, .snap S]) (.nil, []) ⟨rfl, rfl, rfl, rfl, rfl, trivial⟩ (hS.pick [0, 2] rfl rfl) ?_
    rintro ⟨y8, x10_l0⟩ ⟨w9, w11⟩ G17 hS x12 hF hx13
    try dsimp only at hS ⊢
    have hF : impl_tableOf.b0 p0 p1 y8 x10_l0 = some x12 := hF; unfold impl_tableOf.b0 at hF
    refine AWP.seqR rfl ?_
    refine ASL.q (v := (.bool (decide (x10_l0 < ((p0.length : Int)))))) rfl rfl (Light.quiet (opInt rfl rfl rfl rfl)) ?_
    refine ASL.done ?_
    refine AWP.seq ?_
    refine AWP.ifP hF rfl (fun hc18 hF => ?_) (fun hc18 hF => ?_)
    · skip
      refine AWP.skip ?_
      refine QThen.nrm ?_
      refine AWP.seq ?_
      refine AWP.block ?_
      refine AWP.seqR rfl ?_
      obtain ⟨a12, ha12, hF⟩ := bindE hF
      refine ASL.q (v := (.rptr [(.int .i64 a12.kind), (.int .i64 a12.a), (.int .i64 a12.b)])) rfl rfl (Light.quiet (kIx (f := TNode.av) ha12 rfl rfl rfl elemA_24 sizeA_59 rfl)) ?_
      refine ASL.q (v := (TNode.av a12)) rfl rfl (Light.quiet (opLoadRA rfl aggA_59 sizeA_59 rfl (nlt rfl) rfl)) ?_
      refine ASL.x rfl rfl (hNewZ hS [(.int .i64 0), (.int .i64 0), (.int .i64 0)] rfl zeroA_59 ⟨.inl rfl, .inl rfl, .inl rfl, trivial⟩ ?_); rintro b7 G19 hK hS
      refine ASL.n rfl rfl (hPutA hS (j := 0) rfl rfl sizeA_59 rfl rfl rfl rfl rfl (nlt rfl) ?_); rintro G21 hS
      refine ASL.done ?_
      refine AWP.lastR rfl ?_
      refine ASL.q (v := w9) rfl rfl (Light.quiet (opMove rfl rfl)) ?_
      refine ASL.q (v := (TNode.av a12)) rfl rfl (Light.quiet (kAtA hS (j := 0) rfl rfl aggA_59 sizeA_59 rfl (nlt rfl) rfl)) ?_
      refine ASL.q (v := w9) rfl rfl (Light.quiet (opMove rfl rfl)) ?_
      refine ASL.q (v := (TWord.av p1)) rfl rfl (Light.quiet (opLoadRA rfl aggA_41 sizeA_41 rfl (nlt rfl) rfl)) ?_
      obtain ⟨a18, ha18, hF⟩ := bindE hF
      refine ASL.x rfl rfl (hCallOR hS rfl rfl call_104 (impl_rowOf_ok ha18) ⟨.same _, RAS.rowsF (k := 1) rfl, .same _, trivial⟩ (Scal.row (fun _ => by intro c hc; simp only [cells, List.mem_singleton] at hc; subst hc; constructor)) ?_); rintro v18 G22 hK hS
      refine ASL.q (v := (.list 1 [v18])) rfl rfl ((qLitO hS (i := 0) rfl rfl elemA_48 sizeA_56 zeroA_56 rfl rfl rfl (nlt rfl))) ?_
      obtain ⟨z20, hz20, hF⟩ := bindE hF
      refine ASL.x rfl rfl (hAppRows (f := AV.bool) (us := a18) (hS.pick (L' := [.row 1 v18 (List.map AV.bool a18), .rows 1 w9 w11 (List.map (List.map AV.bool) y8) none, .cell b7 [(.int .i64 a12.kind), (.int .i64 a12.a), (.int .i64 a12.b)], .snap S]) [0, 2, 1, 3] rfl rfl) hz20 rfl elemA_48 rfl sizeA_56 bytesA_56 zeroA_56 rfl rfl rfl ?_); rintro v20 G24 hS
      refine ASL.q (v := v20) rfl rfl (Light.quiet (opAssign rfl rfl)) ?_
      refine ASL.done ?_
      refine QBlock.nrm ?_
      refine QThen.nrm ?_
      refine AWP.lastR rfl ?_
      refine ASL.q (v := (.int .i64 (W (x10_l0 + 1)))) rfl rfl (Light.quiet (opInt rfl rfl rfl rfl)) ?_
      refine ASL.q (v := (.int .i64 (W (x10_l0 + 1)))) rfl rfl (Light.quiet (opMove rfl rfl)) ?_
      refine ASL.done ?_
      refine QThen.nrm ?_
      exact ⟨(z20, (W (x10_l0 + 1))), (v20, (w11 ++ [v18])), (someE hF).symm, ⟨rfl, rfl, rfl, rfl, rfl, trivial⟩, (hS.pick [0, 2] rfl rfl)⟩
    · skip
      refine AWP.exit ?_
      refine QThen.ext ?_
      refine QThen.ext ?_
      refine QBlock.hit ?_
      obtain rfl := (hx13 _ (someE hF).symm)
      have hF := hR16
      refine QThen.nrm ?_
      exact ⟨y8, w9, w11, ⟨rfl, trivial⟩, (hS.pick [0, 1] rfl rfl), hF⟩

set_option maxRecDepth 10000 in
theorem impl_LtlTable_ok {p0 : (List TNode)} {p1 : TWord} {r : (List (List Bool))} (hF : impl_LtlTable p0 p1 = some r) : HS Try.prog 31 [(.list 3 (List.map TNode.av p0)), (TWord.av p1)] [] fun v L' => ∃ o0 : AV, ∃ o0_s : List AV, v = o0 ∧ L' = [.rows 1 o0 o0_s (List.map (List.map AV.bool) r) none] := by
  intro H S hS
  refine HC.enter Try.func31 rfl Try.ntmps31 (by simp) ?_
  simp only [List.cons_append, List.nil_append] at hS
  unfold impl_LtlTable at hF
  refine AWP.seqR rfl ?_
  refine ASL.q (v := (.rptr [(.list 1 (List.map (AV.int .i64) p1.stem)), (.list 1 (List.map (AV.int .i64) p1.loop))])) rfl rfl ((qBoxI (v := (TWord.av p1)) rfl rfl rfl rfl)) ?_
  have hS := hNilRs (s := 1) (f := AV.bool) hS
  refine ASL.q (v := .nil) rfl rfl (Light.quiet (opAssign rfl rfl)) ?_
  refine ASL.done ?_
  refine AWP.seq ?_
  refine AWP.seqR rfl ?_
  refine ASL.q (v := (.list 3 (List.map TNode.av p0))) rfl rfl (Light.quiet (opMove rfl rfl)) ?_
  obtain ⟨a6, ha6, hF⟩ := bindE hF
  refine ASL.q (v := (.bool a6)) rfl rfl ((qCall rfl rfl call_16 (impl_LtlOk_ok ha6) rfl)) ?_
  refine ASL.q (v := (.bool (!a6))) rfl rfl (Light.quiet (opNot rfl rfl)) ?_
  obtain ⟨c8, hc8, hF⟩ := bndE hF
  refine ASL.q (v := (.bool c8)) rfl rfl ((Quiet.cast (Light.quiet (opMove rfl rfl)) (congrArg AV.bool hc8.symm))) ?_
  refine ASL.g (v := (TWord.av p1)) (.bool c8) false rfl (wF _) rfl (fun hG => by have q0 := gN hG; subst q0; exact Light.quiet (opLoadRA rfl aggA_41 sizeA_41 rfl (nlt rfl) rfl)) ?_
  obtain ⟨a10, ha10, hF⟩ := bindE hF
  refine ASL.g (v := (.bool a10)) (.bool c8) false rfl (wF _) rfl (fun hG => by have q0 := gN hG; subst q0; exact (qCall rfl rfl call_67 (impl_isRight_ok (whenE ha10)) rfl)) ?_
  refine ASL.g (v := (.bool (!a10))) (.bool c8) false rfl (wF _) rfl (fun hG => by have q0 := gN hG; subst q0; exact Light.quiet (opNot rfl rfl)) ?_
  refine ASL.q (v := (.bool (c8 || (!a10)))) rfl rfl (Light.quiet (opPick (b := c8) rfl rfl (by cases c8 <;> rfl))) ?_
  refine ASL.done ?_
  refine AWP.ifB hF rfl (fun hc2 hF => ?_) (fun hc2 hF => ?_)
  · skip
    refine AWP.seqR rfl ?_
    have hS := hNilRs (s := 1) (f := AV.bool) hS
    refine ASL.q (v := .nil) rfl rfl (Light.quiet (opAssign rfl rfl)) ?_
    refine ASL.done ?_
    refine AWP.ret ?_
    refine QThen.rt ?_
    obtain rfl := someE hF
    exact QRet.sole (v := .nil) ⟨rfl, trivial⟩ ⟨_, ⟨.nil, [], rfl, rfl⟩, hS.pick [0, 2] rfl rfl⟩
  · skip
    refine AWP.skip ?_
    refine QThen.nrm ?_
    refine AWP.seqR rfl ?_
    refine ASL.q (v := (.list 3 (List.map TNode.av p0))) rfl rfl (Light.quiet (opMove rfl rfl)) ?_
    refine ASL.q (v := (TWord.av p1)) rfl rfl (Light.quiet (opLoadRA rfl aggA_41 sizeA_41 rfl (nlt rfl) rfl)) ?_
    obtain ⟨a15, ha15, hF⟩ := bindE hF
    refine ASL.x rfl rfl (hCallSR hS rfl rfl call_68 (impl_tableOf_ok ha15) ⟨.same _, .same _, trivial⟩ (by rintro w4 _ G ⟨_, w5, rfl, rfl⟩ hG; exact ⟨(hG.scRs (k := 0) rfl), ⟨⟨rfl, rowsScal (fun _ => by intro c hc; simp only [cells, List.mem_singleton] at hc; subst hc; constructor) _⟩, trivial⟩⟩) ?_); rintro w4 _ G7 ⟨_, w5, rfl, rfl⟩ hK hS
    refine ASL.q (v := w4) rfl rfl (Light.quiet (opAssign rfl rfl)) ?_
    refine ASL.done ?_
    refine AWP.ret ?_
    obtain rfl := someE hF
    exact QRet.sole (v := w4) ⟨rfl, trivial⟩ ⟨_, ⟨w4, w5, rfl, rfl⟩, hS.pick [0, 2] rfl rfl⟩

set_option maxRecDepth 10000 in
theorem laws_eqBoolS_ok {p0 : (List Bool)} {p1 : (List Bool)} {r : Bool} (hF : laws_eqBoolS p0 p1 = some r) : PC Try.prog 74 [(.list 1 (List.map AV.bool p0)), (.list 1 (List.map AV.bool p1))] fun v => v = (.bool r) := by
  refine PC.enter Try.func74 rfl Try.ntmps74 (by simp) ?_
  have hS := Sep.void; unfold laws_eqBoolS at hF
  refine AWP.seqR rfl ?_
  refine ASL.q (v := (.bool false)) rfl rfl (Light.quiet (opAssign rfl rfl)) ?_
  refine ASL.done ?_
  refine AWP.seq ?_
  refine AWP.seqR rfl ?_
  refine ASL.q (v := (.list 1 (List.map AV.bool p0))) rfl rfl (Light.quiet (opMove rfl rfl)) ?_
  refine ASL.q (v := (.int .i64 (p0.length : Int))) rfl rfl (Light.quiet (opLenMap (f := AV.bool) rfl rfl rfl lenT_56 rfl)) ?_
  refine ASL.q (v := (.list 1 (List.map AV.bool p1))) rfl rfl (Light.quiet (opMove rfl rfl)) ?_
  refine ASL.q (v := (.int .i64 (p1.length : Int))) rfl rfl (Light.quiet (opLenMap (f := AV.bool) rfl rfl rfl lenT_56 rfl)) ?_
  refine ASL.q (v := (.bool (decide (((p0.length : Int)) ≠ ((p1.length : Int)))))) rfl rfl (Light.quiet (opInt rfl rfl rfl rfl)) ?_
  refine ASL.done ?_
  refine AWP.ifP hF rfl (fun hc1 hF => ?_) (fun hc1 hF => ?_)
  · skip
    refine AWP.seqR rfl ?_
    refine ASL.q (v := (.bool false)) rfl rfl (Light.quiet (opAssign rfl rfl)) ?_
    refine ASL.done ?_
    refine AWP.ret ?_
    refine QThen.rt ?_
    obtain rfl := someE hF
    exact QRet.sole (v := (.bool false)) ⟨rfl, trivial⟩ rfl
  · skip
    refine AWP.skip ?_
    refine QThen.nrm ?_
    refine AWP.seqM (fun e H => E.Told e [] ∧ E.Sep H [] ∧ laws_eqBoolS.k0 = some r) ?_ ?_
    · rintro e0 G2 ⟨hT, hS, hF⟩; refine AWP.only _ hT ?_; unfold laws_eqBoolS.k0 at hF
      refine AWP.seqR rfl ?_
      refine ASL.q (v := (.bool true)) rfl rfl (Light.quiet (opAssign rfl rfl)) ?_
      refine ASL.done ?_
      refine AWP.ret ?_
      obtain rfl := someE hF
      exact QRet.sole (v := (.bool true)) ⟨rfl, trivial⟩ rfl
    · skip
      refine AWP.seqR rfl ?_
      refine ASL.q (v := (.int .i64 0)) rfl rfl (Light.quiet (opAssign rfl rfl)) ?_
      refine ASL.done ?_
      refine AWP.block ?_
      obtain ⟨o6, hL5, hR7⟩ := bindE hF
      refine AWP.loopF (ω := Unit) hL5 (fun s w => [(0, (.list 1 (List.map AV.bool p0))), (1, (.list 1 (List.map AV.bool p1))), (5, (.int .i64 s))]) (fun s w => []) () ⟨rfl, rfl, rfl, trivial⟩ (hS.pick [] rfl rfl) ?_
      rintro x5_l0 _ G8 hS x3 hF hx4
      try dsimp only at hS ⊢
      have hF : laws_eqBoolS.b0 p0 p1 x5_l0 = some x3 := hF; unfold laws_eqBoolS.b0 at hF
      refine AWP.seq ?_
      refine AWP.seqR rfl ?_
      refine ASL.q (v := (.int .i64 x5_l0)) rfl rfl (Light.quiet (opMove rfl rfl)) ?_
      refine ASL.q (v := (.list 1 (List.map AV.bool p0))) rfl rfl (Light.quiet (opMove rfl rfl)) ?_
      refine ASL.q (v := (.int .i64 (p0.length : Int))) rfl rfl (Light.quiet (opLenMap (f := AV.bool) rfl rfl rfl lenT_56 rfl)) ?_
      refine ASL.q (v := (.bool (decide (x5_l0 < ((p0.length : Int)))))) rfl rfl (Light.quiet (opInt rfl rfl rfl rfl)) ?_
      refine ASL.done ?_
      refine AWP.ifP hF rfl (fun hc9 hF => ?_) (fun hc9 hF => ?_)
      · skip
        refine AWP.skip ?_
        refine QThen.nrm ?_
        refine AWP.seq ?_
        refine AWP.block ?_
        refine AWP.seqD [(0, false), (1, false), (2, false), (3, false), (4, false), (5, false), (6, false), (7, false), (8, false)] mixed (by kernel_rfl) rfl ?_
        refine ARL.q0 (v := (.list 1 (List.map AV.bool p0))) rfl rfl (Light.quiet (opMove rfl rfl)) ?_
        refine ARL.q0 (v := (.int .i64 x5_l0)) rfl rfl (Light.quiet (opMove rfl rfl)) ?_
        obtain ⟨a19, ha19, hF⟩ := bindE hF
        refine ARL.q0 (v := (.rptr [(.bool a19)])) rfl rfl (Light.quiet (kIx (f := AV.bool) ha19 rfl rfl rfl elemA_56 sizeA_4 rfl)) ?_
        refine ARL.q0 (v := (.bool a19)) rfl rfl (Light.quiet (opLoadR rfl aggA_4 rfl rfl)) ?_
        refine ARL.q0 (v := (.list 1 (List.map AV.bool p1))) rfl rfl (Light.quiet (opMove rfl rfl)) ?_
        refine ARL.q0 (v := (.int .i64 x5_l0)) rfl rfl (Light.quiet (opMove rfl rfl)) ?_
        obtain ⟨a23, ha23, hF⟩ := bindE hF
        refine ARL.q0 (v := (.rptr [(.bool a23)])) rfl rfl (Light.quiet (kIx (f := AV.bool) ha23 rfl rfl rfl elemA_56 sizeA_4 rfl)) ?_
        refine ARL.q0 (v := (.bool a23)) rfl rfl (Light.quiet (opLoadR rfl aggA_4 rfl rfl)) ?_
        refine ARL.q0 (v := (.bool (!(a19 == a23)))) rfl rfl (Light.quiet (opBoolEq rfl rfl rfl und_4 rfl)) ?_
        refine ARL.done ?_
        refine AWP.ifB hF rfl (fun hc10 hF => ?_) (fun hc10 hF => ?_)
        · skip
          refine AWP.seqR rfl ?_
          refine ASL.q (v := (.bool false)) rfl rfl (Light.quiet (opAssign rfl rfl)) ?_
          refine ASL.done ?_
          refine AWP.ret ?_
          refine QBlock.ret ?_
          refine QThen.rt ?_
          refine QThen.rt ?_
          refine QBlock.ret ?_
          refine QThen.rt ?_
          obtain rfl := (hx4 _ (someE hF).symm)
          have hF := hR7
          have hF := sumR hF
          obtain rfl := someE hF
          exact QRet.sole (v := (.bool false)) ⟨rfl, trivial⟩ rfl
        · skip
          refine AWP.skip ?_
          refine QBlock.nrm ?_
          refine QThen.nrm ?_
          refine AWP.lastR rfl ?_
          refine ASL.q (v := (.int .i64 x5_l0)) rfl rfl (Light.quiet (opMove rfl rfl)) ?_
          refine ASL.q (v := (.int .i64 (W (x5_l0 + 1)))) rfl rfl (Light.quiet (opInt rfl rfl rfl rfl)) ?_
          refine ASL.q (v := (.int .i64 (W (x5_l0 + 1)))) rfl rfl (Light.quiet (opAssign rfl rfl)) ?_
          refine ASL.done ?_
          refine QThen.nrm ?_
          exact ⟨(W (x5_l0 + 1)), (), (someE hF).symm, ⟨rfl, rfl, rfl, trivial⟩, (hS.pick [] rfl rfl)⟩
      · skip
        refine AWP.exit ?_
        refine QThen.ext ?_
        refine QThen.ext ?_
        refine QBlock.hit ?_
        obtain rfl := (hx4 _ (someE hF).symm)
        have hF := hR7
        have hF := sumL hF
        refine QThen.nrm ?_
        exact ⟨trivial, (hS.pick [] rfl rfl), hF⟩

set_option maxRecDepth 10000 in
theorem laws_eqBoolSS_ok {p0 : (List (List Bool))} {p1 : (List (List Bool))} {r : Bool} (hF : laws_eqBoolSS p0 p1 = some r) : PC Try.prog 32 [(.list 1 (List.map (fun xs : (List Bool) => AV.list 1 (List.map AV.bool xs)) p0)), (.list 1 (List.map (fun xs : (List Bool) => AV.list 1 (List.map AV.bool xs)) p1))] fun v => v = (.bool r) := by
  refine PC.enter Try.func32 rfl Try.ntmps32 (by simp) ?_
  have hS := Sep.void; unfold laws_eqBoolSS at hF
  refine AWP.seqR rfl ?_
  refine ASL.q (v := (.bool false)) rfl rfl (Light.quiet (opAssign rfl rfl)) ?_
  refine ASL.done ?_
  refine AWP.seq ?_
  refine AWP.seqR rfl ?_
  refine ASL.q (v := (.list 1 (List.map (fun xs : (List Bool) => AV.list 1 (List.map AV.bool xs)) p0))) rfl rfl (Light.quiet (opMove rfl rfl)) ?_
  refine ASL.q (v := (.int .i64 (p0.length : Int))) rfl rfl (Light.quiet (opLenMap (f := (fun xs : (List Bool) => AV.list 1 (List.map AV.bool xs))) rfl rfl rfl lenT_48 rfl)) ?_
  refine ASL.q (v := (.list 1 (List.map (fun xs : (List Bool) => AV.list 1 (List.map AV.bool xs)) p1))) rfl rfl (Light.quiet (opMove rfl rfl)) ?_
  refine ASL.q (v := (.int .i64 (p1.length : Int))) rfl rfl (Light.quiet (opLenMap (f := (fun xs : (List Bool) => AV.list 1 (List.map AV.bool xs))) rfl rfl rfl lenT_48 rfl)) ?_
  refine ASL.q (v := (.bool (decide (((p0.length : Int)) ≠ ((p1.length : Int)))))) rfl rfl (Light.quiet (opInt rfl rfl rfl rfl)) ?_
  refine ASL.done ?_
  refine AWP.ifP hF rfl (fun hc1 hF => ?_) (fun hc1 hF => ?_)
  · skip
    refine AWP.seqR rfl ?_
    refine ASL.q (v := (.bool false)) rfl rfl (Light.quiet (opAssign rfl rfl)) ?_
    refine ASL.done ?_
    refine AWP.ret ?_
    refine QThen.rt ?_
    obtain rfl := someE hF
    exact QRet.sole (v := (.bool false)) ⟨rfl, trivial⟩ rfl
  · skip
    refine AWP.skip ?_
    refine QThen.nrm ?_
    refine AWP.seqM (fun e H => E.Told e [] ∧ E.Sep H [] ∧ laws_eqBoolSS.k0 = some r) ?_ ?_
    · rintro e0 G2 ⟨hT, hS, hF⟩; refine AWP.only _ hT ?_; unfold laws_eqBoolSS.k0 at hF
      refine AWP.seqR rfl ?_
      refine ASL.q (v := (.bool true)) rfl rfl (Light.quiet (opAssign rfl rfl)) ?_
      refine ASL.done ?_
      refine AWP.ret ?_
      obtain rfl := someE hF
      exact QRet.sole (v := (.bool true)) ⟨rfl, trivial⟩ rfl
    · skip
      refine AWP.seqR rfl ?_
      refine ASL.q (v := (.int .i64 0)) rfl rfl (Light.quiet (opAssign rfl rfl)) ?_
      refine ASL.done ?_
      refine AWP.block ?_
      obtain ⟨o6, hL5, hR7⟩ := bindE hF
      refine AWP.loopF (ω := Unit) hL5 (fun s w => [(0, (.list 1 (List.map (fun xs : (List Bool) => AV.list 1 (List.map AV.bool xs)) p0))), (1, (.list 1 (List.map (fun xs : (List Bool) => AV.list 1 (List.map AV.bool xs)) p1))), (5, (.int .i64 s))]) (fun s w => []) () ⟨rfl, rfl, rfl, trivial⟩ (hS.pick [] rfl rfl) ?_
      rintro x5_l0 _ G8 hS x3 hF hx4
      try dsimp only at hS ⊢
      have hF : laws_eqBoolSS.b0 p0 p1 x5_l0 = some x3 := hF; unfold laws_eqBoolSS.b0 at hF
      refine AWP.seq ?_
      refine AWP.seqR rfl ?_
      refine ASL.q (v := (.int .i64 x5_l0)) rfl rfl (Light.quiet (opMove rfl rfl)) ?_
      refine ASL.q (v := (.list 1 (List.map (fun xs : (List Bool) => AV.list 1 (List.map AV.bool xs)) p0))) rfl rfl (Light.quiet (opMove rfl rfl)) ?_
      refine ASL.q (v := (.int .i64 (p0.length : Int))) rfl rfl (Light.quiet (opLenMap (f := (fun xs : (List Bool) => AV.list 1 (List.map AV.bool xs))) rfl rfl rfl lenT_48 rfl)) ?_
      refine ASL.q (v := (.bool (decide (x5_l0 < ((p0.length : Int)))))) rfl rfl (Light.quiet (opInt rfl rfl rfl rfl)) ?_
      refine ASL.done ?_
      refine AWP.ifP hF rfl (fun hc9 hF => ?_) (fun hc9 hF => ?_)
      · skip
        refine AWP.skip ?_
        refine QThen.nrm ?_
        refine AWP.seq ?_
        refine AWP.block ?_
        refine AWP.seqD [(0, false), (1, false), (2, false), (3, false), (4, false), (5, false), (6, false), (7, false), (8, false), (9, false)] mixed (by kernel_rfl) rfl ?_
        refine ARL.q0 (v := (.list 1 (List.map (fun xs : (List Bool) => AV.list 1 (List.map AV.bool xs)) p0))) rfl rfl (Light.quiet (opMove rfl rfl)) ?_
        refine ARL.q0 (v := (.int .i64 x5_l0)) rfl rfl (Light.quiet (opMove rfl rfl)) ?_
        obtain ⟨a19, ha19, hF⟩ := bindE hF
        refine ARL.q0 (v := (.rptr [(.list 1 (List.map AV.bool a19))])) rfl rfl (Light.quiet (kIx (f := (fun xs : (List Bool) => AV.list 1 (List.map AV.bool xs))) ha19 rfl rfl rfl elemA_48 sizeA_56 rfl)) ?_
        refine ARL.q0 (v := (.list 1 (List.map AV.bool a19))) rfl rfl (Light.quiet (opLoadR rfl aggA_56 rfl rfl)) ?_
        refine ARL.q0 (v := (.list 1 (List.map (fun xs : (List Bool) => AV.list 1 (List.map AV.bool xs)) p1))) rfl rfl (Light.quiet (opMove rfl rfl)) ?_
        refine ARL.q0 (v := (.int .i64 x5_l0)) rfl rfl (Light.quiet (opMove rfl rfl)) ?_
        obtain ⟨a23, ha23, hF⟩ := bindE hF
        refine ARL.q0 (v := (.rptr [(.list 1 (List.map AV.bool a23))])) rfl rfl (Light.quiet (kIx (f := (fun xs : (List Bool) => AV.list 1 (List.map AV.bool xs))) ha23 rfl rfl rfl elemA_48 sizeA_56 rfl)) ?_
        refine ARL.q0 (v := (.list 1 (List.map AV.bool a23))) rfl rfl (Light.quiet (opLoadR rfl aggA_56 rfl rfl)) ?_
        obtain ⟨a25, ha25, hF⟩ := bindE hF
        refine ARL.q0 (v := (.bool a25)) rfl rfl ((qCall rfl rfl call_74 (laws_eqBoolS_ok ha25) rfl)) ?_
        refine ARL.q0 (v := (.bool (!a25))) rfl rfl (Light.quiet (opNot rfl rfl)) ?_
        refine ARL.done ?_
        refine AWP.ifB hF rfl (fun hc10 hF => ?_) (fun hc10 hF => ?_)
        · skip
          refine AWP.seqR rfl ?_
          refine ASL.q (v := (.bool false)) rfl rfl (Light.quiet (opAssign rfl rfl)) ?_
          refine ASL.done ?_
          refine AWP.ret ?_
          refine QBlock.ret ?_
          refine QThen.rt ?_
          refine QThen.rt ?_
          refine QBlock.ret ?_
          refine QThen.rt ?_
          obtain rfl := (hx4 _ (someE hF).symm)
          have hF := hR7
          have hF := sumR hF
          obtain rfl := someE hF
          exact QRet.sole (v := (.bool false)) ⟨rfl, trivial⟩ rfl
        · skip
          refine AWP.skip ?_
          refine QBlock.nrm ?_
          refine QThen.nrm ?_
          refine AWP.lastR rfl ?_
          refine ASL.q (v := (.int .i64 x5_l0)) rfl rfl (Light.quiet (opMove rfl rfl)) ?_
          refine ASL.q (v := (.int .i64 (W (x5_l0 + 1)))) rfl rfl (Light.quiet (opInt rfl rfl rfl rfl)) ?_
          refine ASL.q (v := (.int .i64 (W (x5_l0 + 1)))) rfl rfl (Light.quiet (opAssign rfl rfl)) ?_
          refine ASL.done ?_
          refine QThen.nrm ?_
          exact ⟨(W (x5_l0 + 1)), (), (someE hF).symm, ⟨rfl, rfl, rfl, trivial⟩, (hS.pick [] rfl rfl)⟩
      · skip
        refine AWP.exit ?_
        refine QThen.ext ?_
        refine QThen.ext ?_
        refine QBlock.hit ?_
        obtain rfl := (hx4 _ (someE hF).symm)
        have hF := hR7
        have hF := sumL hF
        refine QThen.nrm ?_
        exact ⟨trivial, (hS.pick [] rfl rfl), hF⟩

set_option maxRecDepth 10000 in
theorem laws_eqNode_ok (p0 : TNode) (p1 : TNode) : PC Try.prog 70 [(TNode.av p0), (TNode.av p1)] fun v => v = (.bool (laws_eqNode p0 p1)) := by
  generalize hF : laws_eqNode p0 p1 = r
  refine PC.enter Try.func70 rfl Try.ntmps70 (by simp) ?_
  have hS := Sep.void; unfold laws_eqNode at hF
  refine AWP.seqR rfl ?_
  refine ASL.q (v := (.rptr [(.int .i64 p0.kind), (.int .i64 p0.a), (.int .i64 p0.b)])) rfl rfl ((qBoxI (v := (TNode.av p0)) rfl rfl rfl rfl)) ?_
  refine ASL.q (v := (.rptr [(.int .i64 p1.kind), (.int .i64 p1.a), (.int .i64 p1.b)])) rfl rfl ((qBoxI (v := (TNode.av p1)) rfl rfl rfl rfl)) ?_
  refine ASL.q (v := (.bool false)) rfl rfl (Light.quiet (opAssign rfl rfl)) ?_
  refine ASL.done ?_
  refine AWP.seq ?_
  refine AWP.seqR rfl ?_
  refine ASL.q (v := (.rptr [(.int .i64 p0.kind), (.int .i64 p0.a), (.int .i64 p0.b)])) rfl rfl (Light.quiet (opFieldAddrR rfl fieldA_59_0 rfl rfl)) ?_
  refine ASL.q (v := (.int .i64 p0.kind)) rfl rfl (Light.quiet (opLoadR rfl aggA_3 rfl rfl)) ?_
  refine ASL.q (v := (.rptr [(.int .i64 p1.kind), (.int .i64 p1.a), (.int .i64 p1.b)])) rfl rfl (Light.quiet (opFieldAddrR rfl fieldA_59_0 rfl rfl)) ?_
  refine ASL.q (v := (.int .i64 p1.kind)) rfl rfl (Light.quiet (opLoadR rfl aggA_3 rfl rfl)) ?_
  refine ASL.q (v := (.bool (decide (p0.kind ≠ p1.kind)))) rfl rfl (Light.quiet (opInt rfl rfl rfl rfl)) ?_
  refine ASL.done ?_
  refine AWP.ifP hF rfl (fun hc1 hF => ?_) (fun hc1 hF => ?_)
  · skip
    refine AWP.seqR rfl ?_
    refine ASL.q (v := (.bool false)) rfl rfl (Light.quiet (opAssign rfl rfl)) ?_
    refine ASL.done ?_
    refine AWP.ret ?_
    refine QThen.rt ?_
    obtain rfl := hF
    exact QRet.sole (v := (.bool false)) ⟨rfl, trivial⟩ rfl
  · skip
    refine AWP.skip ?_
    refine QThen.nrm ?_
    refine AWP.seq ?_
    refine AWP.seqR rfl ?_
    refine ASL.q (v := (.rptr [(.int .i64 p0.a), (.int .i64 p0.b)])) rfl rfl (Light.quiet (opFieldAddrR rfl fieldA_59_1 rfl rfl)) ?_
    refine ASL.q (v := (.int .i64 p0.a)) rfl rfl (Light.quiet (opLoadR rfl aggA_3 rfl rfl)) ?_
    refine ASL.q (v := (.rptr [(.int .i64 p1.a), (.int .i64 p1.b)])) rfl rfl (Light.quiet (opFieldAddrR rfl fieldA_59_1 rfl rfl)) ?_
    refine ASL.q (v := (.int .i64 p1.a)) rfl rfl (Light.quiet (opLoadR rfl aggA_3 rfl rfl)) ?_
    refine ASL.q (v := (.bool (decide (p0.a ≠ p1.a)))) rfl rfl (Light.quiet (opInt rfl rfl rfl rfl)) ?_
    refine ASL.done ?_
    refine AWP.ifP hF rfl (fun hc2 hF => ?_) (fun hc2 hF => ?_)
    · skip
      refine AWP.seqR rfl ?_
      refine ASL.q (v := (.bool false)) rfl rfl (Light.quiet (opAssign rfl rfl)) ?_
      refine ASL.done ?_
      refine AWP.ret ?_
      refine QThen.rt ?_
      obtain rfl := hF
      exact QRet.sole (v := (.bool false)) ⟨rfl, trivial⟩ rfl
    · skip
      refine AWP.skip ?_
      refine QThen.nrm ?_
      refine AWP.seq ?_
      refine AWP.seqR rfl ?_
      refine ASL.q (v := (.rptr [(.int .i64 p0.b)])) rfl rfl (Light.quiet (opFieldAddrR rfl fieldA_59_2 rfl rfl)) ?_
      refine ASL.q (v := (.int .i64 p0.b)) rfl rfl (Light.quiet (opLoadR rfl aggA_3 rfl rfl)) ?_
      refine ASL.q (v := (.rptr [(.int .i64 p1.b)])) rfl rfl (Light.quiet (opFieldAddrR rfl fieldA_59_2 rfl rfl)) ?_
      refine ASL.q (v := (.int .i64 p1.b)) rfl rfl (Light.quiet (opLoadR rfl aggA_3 rfl rfl)) ?_
      refine ASL.q (v := (.bool (decide (p0.b ≠ p1.b)))) rfl rfl (Light.quiet (opInt rfl rfl rfl rfl)) ?_
      refine ASL.done ?_
      refine AWP.ifP hF rfl (fun hc3 hF => ?_) (fun hc3 hF => ?_)
      · skip
        refine AWP.seqR rfl ?_
        refine ASL.q (v := (.bool false)) rfl rfl (Light.quiet (opAssign rfl rfl)) ?_
        refine ASL.done ?_
        refine AWP.ret ?_
        refine QThen.rt ?_
        obtain rfl := hF
        exact QRet.sole (v := (.bool false)) ⟨rfl, trivial⟩ rfl
      · skip
        refine AWP.skip ?_
        refine QThen.nrm ?_
        refine AWP.seqR rfl ?_
        refine ASL.q (v := (.bool true)) rfl rfl (Light.quiet (opAssign rfl rfl)) ?_
        refine ASL.done ?_
        refine AWP.ret ?_
        obtain rfl := hF
        exact QRet.sole (v := (.bool true)) ⟨rfl, trivial⟩ rfl

set_option maxRecDepth 10000 in
theorem laws_eqNodeS_ok {p0 : (List TNode)} {p1 : (List TNode)} {r : Bool} (hF : laws_eqNodeS p0 p1 = some r) : PC Try.prog 26 [(.list 3 (List.map TNode.av p0)), (.list 3 (List.map TNode.av p1))] fun v => v = (.bool r) := by
  refine PC.enter Try.func26 rfl Try.ntmps26 (by simp) ?_
  have hS := Sep.void; unfold laws_eqNodeS at hF
  refine AWP.seqR rfl ?_
  refine ASL.q (v := (.bool false)) rfl rfl (Light.quiet (opAssign rfl rfl)) ?_
  refine ASL.done ?_
  refine AWP.seq ?_
  refine AWP.seqR rfl ?_
  refine ASL.q (v := (.list 3 (List.map TNode.av p0))) rfl rfl (Light.quiet (opMove rfl rfl)) ?_
  refine ASL.q (v := (.int .i64 (p0.length : Int))) rfl rfl (Light.quiet (opLenMap (f := TNode.av) rfl rfl rfl lenT_24 rfl)) ?_
  refine ASL.q (v := (.list 3 (List.map TNode.av p1))) rfl rfl (Light.quiet (opMove rfl rfl)) ?_
  refine ASL.q (v := (.int .i64 (p1.length : Int))) rfl rfl (Light.quiet (opLenMap (f := TNode.av) rfl rfl rfl lenT_24 rfl)) ?_
  refine ASL.q (v := (.bool (decide (((p0.length : Int)) ≠ ((p1.length : Int)))))) rfl rfl (Light.quiet (opInt rfl rfl rfl rfl)) ?_
  refine ASL.done ?_
  refine AWP.ifP hF rfl (fun hc1 hF => ?_) (fun hc1 hF => ?_)
  · skip
    refine AWP.seqR rfl ?_
    refine ASL.q (v := (.bool false)) rfl rfl (Light.quiet (opAssign rfl rfl)) ?_
    refine ASL.done ?_
    refine AWP.ret ?_
    refine QThen.rt ?_
    obtain rfl := someE hF
    exact QRet.sole (v := (.bool false)) ⟨rfl, trivial⟩ rfl
  · skip
    refine AWP.skip ?_
    refine QThen.nrm ?_
    refine AWP.seqM (fun e H => E.Told e [] ∧ E.Sep H [] ∧ laws_eqNodeS.k0 = some r) ?_ ?_
    · rintro e0 G2 ⟨hT, hS, hF⟩; refine AWP.only _ hT ?_; unfold laws_eqNodeS.k0 at hF
      refine AWP.seqR rfl ?_
      refine ASL.q (v := (.bool true)) rfl rfl (Light.quiet (opAssign rfl rfl)) ?_
      refine ASL.done ?_
      refine AWP.ret ?_
      obtain rfl := someE hF
      exact QRet.sole (v := (.bool true)) ⟨rfl, trivial⟩ rfl
    · skip
      refine AWP.seqR rfl ?_
      refine ASL.q (v := (.int .i64 0)) rfl rfl (Light.quiet (opAssign rfl rfl)) ?_
      refine ASL.done ?_
      refine AWP.block ?_
      obtain ⟨o6, hL5, hR7⟩ := bindE hF
      refine AWP.loopF (ω := Unit) hL5 (fun s w => [(0, (.list 3 (List.map TNode.av p0))), (1, (.list 3 (List.map TNode.av p1))), (5, (.int .i64 s))]) (fun s w => []) () ⟨rfl, rfl, rfl, trivial⟩ (hS.pick [] rfl rfl) ?_
      rintro x5_l0 _ G8 hS x3 hF hx4
      try dsimp only at hS ⊢
      have hF : laws_eqNodeS.b0 p0 p1 x5_l0 = some x3 := hF; unfold laws_eqNodeS.b0 at hF
      refine AWP.seq ?_
      refine AWP.seqR rfl ?_
      refine ASL.q (v := (.int .i64 x5_l0)) rfl rfl (Light.quiet (opMove rfl rfl)) ?_
      refine ASL.q (v := (.list 3 (List.map TNode.av p0))) rfl rfl (Light.quiet (opMove rfl rfl)) ?_
      refine ASL.q (v := (.int .i64 (p0.length : Int))) rfl rfl (Light.quiet (opLenMap (f := TNode.av) rfl rfl rfl lenT_24 rfl)) ?_
      refine ASL.q (v := (.bool (decide (x5_l0 < ((p0.length : Int)))))) rfl rfl (Light.quiet (opInt rfl rfl rfl rfl)) ?_
      refine ASL.done ?_
      refine AWP.ifP hF rfl (fun hc9 hF => ?_) (fun hc9 hF => ?_)
      · skip
        refine AWP.skip ?_
        refine QThen.nrm ?_
        refine AWP.seq ?_
        refine AWP.block ?_
        refine AWP.seqD [(0, false), (1, false), (2, false), (3, false), (4, false), (5, false), (6, false), (7, false), (8, false), (9, false)] mixed (by kernel_rfl) rfl ?_
        refine ARL.q0 (v := (.list 3 (List.map TNode.av p0))) rfl rfl (Light.quiet (opMove rfl rfl)) ?_
        refine ARL.q0 (v := (.int .i64 x5_l0)) rfl rfl (Light.quiet (opMove rfl rfl)) ?_
        obtain ⟨a19, ha19, hF⟩ := bindE hF
        refine ARL.q0 (v := (.rptr [(.int .i64 a19.kind), (.int .i64 a19.a), (.int .i64 a19.b)])) rfl rfl (Light.quiet (kIx (f := TNode.av) ha19 rfl rfl rfl elemA_24 sizeA_59 rfl)) ?_
        refine ARL.q0 (v := (TNode.av a19)) rfl rfl (Light.quiet (opLoadRA rfl aggA_59 sizeA_59 rfl (nlt rfl) rfl)) ?_
        refine ARL.q0 (v := (.list 3 (List.map TNode.av p1))) rfl rfl (Light.quiet (opMove rfl rfl)) ?_
        refine ARL.q0 (v := (.int .i64 x5_l0)) rfl rfl (Light.quiet (opMove rfl rfl)) ?_
        obtain ⟨a23, ha23, hF⟩ := bindE hF
        refine ARL.q0 (v := (.rptr [(.int .i64 a23.kind), (.int .i64 a23.a), (.int .i64 a23.b)])) rfl rfl (Light.quiet (kIx (f := TNode.av) ha23 rfl rfl rfl elemA_24 sizeA_59 rfl)) ?_
        refine ARL.q0 (v := (TNode.av a23)) rfl rfl (Light.quiet (opLoadRA rfl aggA_59 sizeA_59 rfl (nlt rfl) rfl)) ?_
        refine ARL.q0 (v := (.bool (laws_eqNode a19 a23))) rfl rfl ((qCall rfl rfl call_70 (laws_eqNode_ok a19 a23) rfl)) ?_
        refine ARL.q0 (v := (.bool (!(laws_eqNode a19 a23)))) rfl rfl (Light.quiet (opNot rfl rfl)) ?_
        refine ARL.done ?_
        refine AWP.ifB hF rfl (fun hc10 hF => ?_) (fun hc10 hF => ?_)
        · skip
          refine AWP.seqR rfl ?_
          refine ASL.q (v := (.bool false)) rfl rfl (Light.quiet (opAssign rfl rfl)) ?_
          refine ASL.done ?_
          refine AWP.ret ?_
          refine QBlock.ret ?_
          refine QThen.rt ?_
          refine QThen.rt ?_
          refine QBlock.ret ?_
          refine QThen.rt ?_
          obtain rfl := (hx4 _ (someE hF).symm)
          have hF := hR7
          have hF := sumR hF
          obtain rfl := someE hF
          exact QRet.sole (v := (.bool false)) ⟨rfl, trivial⟩ rfl
        · skip
          refine AWP.skip ?_
          refine QBlock.nrm ?_
          refine QThen.nrm ?_
          refine AWP.lastR rfl ?_
          refine ASL.q (v := (.int .i64 x5_l0)) rfl rfl (Light.quiet (opMove rfl rfl)) ?_
          refine ASL.q (v := (.int .i64 (W (x5_l0 + 1)))) rfl rfl (Light.quiet (opInt rfl rfl rfl rfl)) ?_
          refine ASL.q (v := (.int .i64 (W (x5_l0 + 1)))) rfl rfl (Light.quiet (opAssign rfl rfl)) ?_
          refine ASL.done ?_
          refine QThen.nrm ?_
          exact ⟨(W (x5_l0 + 1)), (), (someE hF).symm, ⟨rfl, rfl, rfl, trivial⟩, (hS.pick [] rfl rfl)⟩
      · skip
        refine AWP.exit ?_
        refine QThen.ext ?_
        refine QThen.ext ?_
        refine QBlock.hit ?_
        obtain rfl := (hx4 _ (someE hF).symm)
        have hF := hR7
        have hF := sumL hF
        refine QThen.nrm ?_
        exact ⟨trivial, (hS.pick [] rfl rfl), hF⟩

set_option maxRecDepth 10000 in
theorem laws_eqIntS_ok {p0 : (List Int)} {p1 : (List Int)} {r : Bool} (hF : laws_eqIntS p0 p1 = some r) : PC Try.prog 71 [(.list 1 (List.map (AV.int .i64) p0)), (.list 1 (List.map (AV.int .i64) p1))] fun v => v = (.bool r) := by
  refine PC.enter Try.func71 rfl Try.ntmps71 (by simp) ?_
  have hS := Sep.void; unfold laws_eqIntS at hF
  refine AWP.seqR rfl ?_
  refine ASL.q (v := (.bool false)) rfl rfl (Light.quiet (opAssign rfl rfl)) ?_
  refine ASL.done ?_
  refine AWP.seq ?_
  refine AWP.seqR rfl ?_
  refine ASL.q (v := (.list 1 (List.map (AV.int .i64) p0))) rfl rfl (Light.quiet (opMove rfl rfl)) ?_
  refine ASL.q (v := (.int .i64 (p0.length : Int))) rfl rfl (Light.quiet (opLenMap (f := (AV.int .i64)) rfl rfl rfl lenT_32 rfl)) ?_
  refine ASL.q (v := (.list 1 (List.map (AV.int .i64) p1))) rfl rfl (Light.quiet (opMove rfl rfl)) ?_
  refine ASL.q (v := (.int .i64 (p1.length : Int))) rfl rfl (Light.quiet (opLenMap (f := (AV.int .i64)) rfl rfl rfl lenT_32 rfl)) ?_
  refine ASL.q (v := (.bool (decide (((p0.length : Int)) ≠ ((p1.length : Int)))))) rfl rfl (Light.quiet (opInt rfl rfl rfl rfl)) ?_
  refine ASL.done ?_
  refine AWP.ifP hF rfl (fun hc1 hF => ?_) (fun hc1 hF => ?_)
  · skip
    refine AWP.seqR rfl ?_
    refine ASL.q (v := (.bool false)) rfl rfl (Light.quiet (opAssign rfl rfl)) ?_
    refine ASL.done ?_
    refine AWP.ret ?_
    refine QThen.rt ?_
    obtain rfl := someE hF
    exact QRet.sole (v := (.bool false)) ⟨rfl, trivial⟩ rfl
  · skip
    refine AWP.skip ?_
    refine QThen.nrm ?_
    refine AWP.seqM (fun e H => E.Told e [] ∧ E.Sep H [] ∧ laws_eqIntS.k0 = some r) ?_ ?_
    · rintro e0 G2 ⟨hT, hS, hF⟩; refine AWP.only _ hT ?_; unfold laws_eqIntS.k0 at hF
      refine AWP.seqR rfl ?_
      refine ASL.q (v := (.bool true)) rfl rfl (Light.quiet (opAssign rfl rfl)) ?_
      refine ASL.done ?_
      refine AWP.ret ?_
      obtain rfl := someE hF
      exact QRet.sole (v := (.bool true)) ⟨rfl, trivial⟩ rfl
    · skip
      refine AWP.seqR rfl ?_
      refine ASL.q (v := (.int .i64 0)) rfl rfl (Light.quiet (opAssign rfl rfl)) ?_
      refine ASL.done ?_
      refine AWP.block ?_
      obtain ⟨o6, hL5, hR7⟩ := bindE hF
      refine AWP.loopF (ω := Unit) hL5 (fun s w => [(0, (.list 1 (List.map (AV.int .i64) p0))), (1, (.list 1 (List.map (AV.int .i64) p1))), (5, (.int .i64 s))]) (fun s w => []) () ⟨rfl, rfl, rfl, trivial⟩ (hS.pick [] rfl rfl) ?_
      rintro x5_l0 _ G8 hS x3 hF hx4
      try dsimp only at hS ⊢
      have hF : laws_eqIntS.b0 p0 p1 x5_l0 = some x3 := hF; unfold laws_eqIntS.b0 at hF
      refine AWP.seq ?_
      refine AWP.seqR rfl ?_
      refine ASL.q (v := (.int .i64 x5_l0)) rfl rfl (Light.quiet (opMove rfl rfl)) ?_
      refine ASL.q (v := (.list 1 (List.map (AV.int .i64) p0))) rfl rfl (Light.quiet (opMove rfl rfl)) ?_
      refine ASL.q (v := (.int .i64 (p0.length : Int))) rfl rfl (Light.quiet (opLenMap (f := (AV.int .i64)) rfl rfl rfl lenT_32 rfl)) ?_
      refine ASL.q (v := (.bool (decide (x5_l0 < ((p0.length : Int)))))) rfl rfl (Light.quiet (opInt rfl rfl rfl rfl)) ?_
      refine ASL.done ?_
      refine AWP.ifP hF rfl (fun hc9 hF => ?_) (fun hc9 hF => ?_)
      · skip
        refine AWP.skip ?_
        refine QThen.nrm ?_
        refine AWP.seq ?_
        refine AWP.block ?_
        refine AWP.seqD [(0, false), (1, false), (2, false), (3, false), (4, false), (5, false), (6, false), (7, false), (8, false)] mixed (by kernel_rfl) rfl ?_
        refine ARL.q0 (v := (.list 1 (List.map (AV.int .i64) p0))) rfl rfl (Light.quiet (opMove rfl rfl)) ?_
        refine ARL.q0 (v := (.int .i64 x5_l0)) rfl rfl (Light.quiet (opMove rfl rfl)) ?_
        obtain ⟨a19, ha19, hF⟩ := bindE hF
        refine ARL.q0 (v := (.rptr [(.int .i64 a19)])) rfl rfl (Light.quiet (kIx (f := (AV.int .i64)) ha19 rfl rfl rfl elemA_32 sizeA_3 rfl)) ?_
        refine ARL.q0 (v := (.int .i64 a19)) rfl rfl (Light.quiet (opLoadR rfl aggA_3 rfl rfl)) ?_
        refine ARL.q0 (v := (.list 1 (List.map (AV.int .i64) p1))) rfl rfl (Light.quiet (opMove rfl rfl)) ?_
        refine ARL.q0 (v := (.int .i64 x5_l0)) rfl rfl (Light.quiet (opMove rfl rfl)) ?_
        obtain ⟨a23, ha23, hF⟩ := bindE hF
        refine ARL.q0 (v := (.rptr [(.int .i64 a23)])) rfl rfl (Light.quiet (kIx (f := (AV.int .i64)) ha23 rfl rfl rfl elemA_32 sizeA_3 rfl)) ?_
        refine ARL.q0 (v := (.int .i64 a23)) rfl rfl (Light.quiet (opLoadR rfl aggA_3 rfl rfl)) ?_
        refine ARL.q0 (v := (.bool (decide (a19 ≠ a23)))) rfl rfl (Light.quiet (opInt rfl rfl rfl rfl)) ?_
        refine ARL.done ?_
        refine AWP.ifP hF rfl (fun hc10 hF => ?_) (fun hc10 hF => ?_)
        · skip
          refine AWP.seqR rfl ?_
          refine ASL.q (v := (.bool false)) rfl rfl (Light.quiet (opAssign rfl rfl)) ?_
          refine ASL.done ?_
          refine AWP.ret ?_
          refine QBlock.ret ?_
          refine QThen.rt ?_
          refine QThen.rt ?_
          refine QBlock.ret ?_
          refine QThen.rt ?_
          obtain rfl := (hx4 _ (someE hF).symm)
          have hF := hR7
          have hF := sumR hF
          obtain rfl := someE hF
          exact QRet.sole (v := (.bool false)) ⟨rfl, trivial⟩ rfl
        · skip
          refine AWP.skip ?_
          refine QBlock.nrm ?_
          refine QThen.nrm ?_
          refine AWP.lastR rfl ?_
          refine ASL.q (v := (.int .i64 x5_l0)) rfl rfl (Light.quiet (opMove rfl rfl)) ?_
          refine ASL.q (v := (.int .i64 (W (x5_l0 + 1)))) rfl rfl (Light.quiet (opInt rfl rfl rfl rfl)) ?_
          refine ASL.q (v := (.int .i64 (W (x5_l0 + 1)))) rfl rfl (Light.quiet (opAssign rfl rfl)) ?_
          refine ASL.done ?_
          refine QThen.nrm ?_
          exact ⟨(W (x5_l0 + 1)), (), (someE hF).symm, ⟨rfl, rfl, rfl, trivial⟩, (hS.pick [] rfl rfl)⟩
      · skip
        refine AWP.exit ?_
        refine QThen.ext ?_
        refine QThen.ext ?_
        refine QBlock.hit ?_
        obtain rfl := (hx4 _ (someE hF).symm)
        have hF := hR7
        have hF := sumL hF
        refine QThen.nrm ?_
        exact ⟨trivial, (hS.pick [] rfl rfl), hF⟩

set_option maxRecDepth 10000 in
theorem laws_eqWord_ok {p0 : TWord} {p1 : TWord} {r : Bool} (hF : laws_eqWord p0 p1 = some r) : PC Try.prog 27 [(TWord.av p0), (TWord.av p1)] fun v => v = (.bool r) := by
  refine PC.enter Try.func27 rfl Try.ntmps27 (by simp) ?_
  have hS := Sep.void; unfold laws_eqWord at hF
  refine AWP.seqR rfl ?_
  refine ASL.q (v := (.rptr [(.list 1 (List.map (AV.int .i64) p0.stem)), (.list 1 (List.map (AV.int .i64) p0.loop))])) rfl rfl ((qBoxI (v := (TWord.av p0)) rfl rfl rfl rfl)) ?_
  refine ASL.q (v := (.rptr [(.list 1 (List.map (AV.int .i64) p1.stem)), (.list 1 (List.map (AV.int .i64) p1.loop))])) rfl rfl ((qBoxI (v := (TWord.av p1)) rfl rfl rfl rfl)) ?_
  refine ASL.q (v := (.bool false)) rfl rfl (Light.quiet (opAssign rfl rfl)) ?_
  refine ASL.done ?_
  refine AWP.seq ?_
  refine AWP.seqR rfl ?_
  refine ASL.q (v := (.rptr [(.list 1 (List.map (AV.int .i64) p0.stem)), (.list 1 (List.map (AV.int .i64) p0.loop))])) rfl rfl (Light.quiet (opFieldAddrR rfl fieldA_41_0 rfl rfl)) ?_
  refine ASL.q (v := (.list 1 (List.map (AV.int .i64) p0.stem))) rfl rfl (Light.quiet (opLoadR rfl aggA_32 rfl rfl)) ?_
  refine ASL.q (v := (.rptr [(.list 1 (List.map (AV.int .i64) p1.stem)), (.list 1 (List.map (AV.int .i64) p1.loop))])) rfl rfl (Light.quiet (opFieldAddrR rfl fieldA_41_0 rfl rfl)) ?_
  refine ASL.q (v := (.list 1 (List.map (AV.int .i64) p1.stem))) rfl rfl (Light.quiet (opLoadR rfl aggA_32 rfl rfl)) ?_
  obtain ⟨a9, ha9, hF⟩ := bindE hF
  refine ASL.q (v := (.bool a9)) rfl rfl ((qCall rfl rfl call_71 (laws_eqIntS_ok ha9) rfl)) ?_
  refine ASL.q (v := (.bool (!a9))) rfl rfl (Light.quiet (opNot rfl rfl)) ?_
  refine ASL.done ?_
  refine AWP.ifB hF rfl (fun hc1 hF => ?_) (fun hc1 hF => ?_)
  · skip
    refine AWP.seqR rfl ?_
    refine ASL.q (v := (.bool false)) rfl rfl (Light.quiet (opAssign rfl rfl)) ?_
    refine ASL.done ?_
    refine AWP.ret ?_
    refine QThen.rt ?_
    obtain rfl := someE hF
    exact QRet.sole (v := (.bool false)) ⟨rfl, trivial⟩ rfl
  · skip
    refine AWP.skip ?_
    refine QThen.nrm ?_
    refine AWP.seq ?_
    refine AWP.seqR rfl ?_
    refine ASL.q (v := (.rptr [(.list 1 (List.map (AV.int .i64) p0.loop))])) rfl rfl (Light.quiet (opFieldAddrR rfl fieldA_41_1 rfl rfl)) ?_
    refine ASL.q (v := (.list 1 (List.map (AV.int .i64) p0.loop))) rfl rfl (Light.quiet (opLoadR rfl aggA_32 rfl rfl)) ?_
    refine ASL.q (v := (.rptr [(.list 1 (List.map (AV.int .i64) p1.loop))])) rfl rfl (Light.quiet (opFieldAddrR rfl fieldA_41_1 rfl rfl)) ?_
    refine ASL.q (v := (.list 1 (List.map (AV.int .i64) p1.loop))) rfl rfl (Light.quiet (opLoadR rfl aggA_32 rfl rfl)) ?_
    obtain ⟨a15, ha15, hF⟩ := bindE hF
    refine ASL.q (v := (.bool a15)) rfl rfl ((qCall rfl rfl call_71 (laws_eqIntS_ok ha15) rfl)) ?_
    refine ASL.q (v := (.bool (!a15))) rfl rfl (Light.quiet (opNot rfl rfl)) ?_
    refine ASL.done ?_
    refine AWP.ifB hF rfl (fun hc2 hF => ?_) (fun hc2 hF => ?_)
    · skip
      refine AWP.seqR rfl ?_
      refine ASL.q (v := (.bool false)) rfl rfl (Light.quiet (opAssign rfl rfl)) ?_
      refine ASL.done ?_
      refine AWP.ret ?_
      refine QThen.rt ?_
      obtain rfl := someE hF
      exact QRet.sole (v := (.bool false)) ⟨rfl, trivial⟩ rfl
    · skip
      refine AWP.skip ?_
      refine QThen.nrm ?_
      refine AWP.seqR rfl ?_
      refine ASL.q (v := (.bool true)) rfl rfl (Light.quiet (opAssign rfl rfl)) ?_
      refine ASL.done ?_
      refine AWP.ret ?_
      obtain rfl := someE hF
      exact QRet.sole (v := (.bool true)) ⟨rfl, trivial⟩ rfl

set_option maxRecDepth 10000 in
theorem laws_markNodeS_ok {p0 : (List TNode)} {p1 : Int} {r : (Int × (List TNode))} {vp0 : AV} (hF : laws_markNodeS p0 p1 = some r) : HS Try.prog 33 [vp0, (.int .i64 p1)] [.row 3 vp0 (List.map TNode.av p0)] fun v L' => v = (.int .i64 r.1) ∧ L' = [.row 3 vp0 (List.map TNode.av r.2)] := by
  intro H S hS
  refine HC.enter Try.func33 rfl Try.ntmps33 (by simp) ?_
  simp only [List.cons_append, List.nil_append] at hS
  unfold laws_markNodeS at hF
  refine AWP.seqR rfl ?_
  refine ASL.q (v := (.int .i64 0)) rfl rfl (Light.quiet (opAssign rfl rfl)) ?_
  refine ASL.done ?_
  refine AWP.seqM (fun e H => ∃ x1_1 : Int, ∃ y2 : (List TNode), E.Told e [(1, (.int .i64 x1_1))] ∧ E.Sep H [.row 3 vp0 (List.map TNode.av y2), .snap S] ∧ laws_markNodeS.k0 x1_1 y2 = some r) ?_ ?_
  · rintro e0 G3 ⟨x1_1, y2, hT, hS, hF⟩; refine AWP.only _ hT ?_; unfold laws_markNodeS.k0 at hF
    refine AWP.seqR rfl ?_
    refine ASL.q (v := (.int .i64 x1_1)) rfl rfl (Light.quiet (opMove rfl rfl)) ?_
    refine ASL.q (v := (.int .i64 x1_1)) rfl rfl (Light.quiet (opAssign rfl rfl)) ?_
    refine ASL.done ?_
    refine AWP.ret ?_
    obtain rfl := someE hF
    exact QRet.sole (v := (.int .i64 x1_1)) ⟨rfl, trivial⟩ ⟨_, ⟨rfl, rfl⟩, hS.pick [0, 1] rfl rfl⟩
  · skip
    refine AWP.seqR rfl ?_
    refine ASL.q (v := (.int .i64 0)) rfl rfl (Light.quiet (opAssign rfl rfl)) ?_
    refine ASL.done ?_
    refine AWP.block ?_
    obtain ⟨o8, hL7, hR9⟩ := bindE hF
    refine AWP.loopF (ω := Unit) hL7 (fun s w => [(0, vp0), (1, (.int .i64 s.2.1)), (5, (.int .i64 s.2.2))]) (fun s w => [.row 3 vp0 (List.map TNode.av s.1), .snap S]) () ⟨rfl, rfl, rfl, trivial⟩ (hS.pick [0, 1] rfl rfl) ?_
    rintro ⟨y4, x1_l0, x5_l0⟩ _ G10 hS x5 hF hx6
    try dsimp only at hS ⊢
    have hF : laws_markNodeS.b0 y4 x1_l0 x5_l0 = some x5 := hF; unfold laws_markNodeS.b0 at hF
    refine AWP.seq ?_
    refine AWP.seqR rfl ?_
    refine ASL.q (v := (.int .i64 x5_l0)) rfl rfl (Light.quiet (opMove rfl rfl)) ?_
    refine ASL.q (v := vp0) rfl rfl (Light.quiet (opMove rfl rfl)) ?_
    refine ASL.q (v := (.int .i64 (y4.length : Int))) rfl rfl (Light.quiet (kLen hS (j := 0) rfl rfl rfl rfl lenT_24 rfl)) ?_
    refine ASL.q (v := (.bool (decide (x5_l0 < ((y4.length : Int)))))) rfl rfl (Light.quiet (opInt rfl rfl rfl rfl)) ?_
    refine ASL.done ?_
    refine AWP.ifP hF rfl (fun hc11 hF => ?_) (fun hc11 hF => ?_)
    · skip
      refine AWP.skip ?_
      refine QThen.nrm ?_
      refine AWP.seq ?_
      refine AWP.block ?_
      refine AWP.seqR rfl ?_
      refine ASL.q (v := vp0) rfl rfl (Light.quiet (opMove rfl rfl)) ?_
      refine ASL.q (v := (.int .i64 x5_l0)) rfl rfl (Light.quiet (opMove rfl rfl)) ?_
      refine ASL.q (v := (.int .i64 x1_l0)) rfl rfl (Light.quiet (opMove rfl rfl)) ?_
      obtain ⟨m15, hm15, hF⟩ := bindE hF
      refine ASL.q (v := (ptrTo vp0 m15 3)) rfl rfl (Light.quiet (kIxO hS (j := 0) rfl hm15 rfl rfl rfl elemA_24 sizeA_59)) ?_
      refine ASL.q (v := (ptrOff vp0 m15 3 0)) rfl rfl (Light.quiet (kFldC (p := 0) hS (j := 0) rfl hm15 rfl fieldA_59_0 rfl)) ?_
      refine ASL.n rfl rfl (hStF (f := TNode.av) (g := (fun q : TNode => { q with kind := x1_l0 })) (p := 0) hS (j := 0) rfl hm15 rfl sizeA_3 rfl rfl (fun _ => ⟨_, rfl, nlt rfl, rfl⟩) rfl ?_); rintro G12 hS
      refine ASL.done ?_
      refine AWP.seqR rfl ?_
      refine ASL.q (v := (.int .i64 x1_l0)) rfl rfl (Light.quiet (opMove rfl rfl)) ?_
      refine ASL.q (v := (.int .i64 (W (x1_l0 + 1)))) rfl rfl (Light.quiet (opInt rfl rfl rfl rfl)) ?_
      refine ASL.q (v := (.int .i64 (W (x1_l0 + 1)))) rfl rfl (Light.quiet (opAssign rfl rfl)) ?_
      refine ASL.done ?_
      refine AWP.seqR rfl ?_
      refine ASL.q (v := vp0) rfl rfl (Light.quiet (opMove rfl rfl)) ?_
      refine ASL.q (v := (.int .i64 x5_l0)) rfl rfl (Light.quiet (opMove rfl rfl)) ?_
      refine ASL.q (v := (.int .i64 (W (x1_l0 + 1)))) rfl rfl (Light.quiet (opMove rfl rfl)) ?_
      obtain ⟨m22, hm22, hF⟩ := bindE hF
      refine ASL.q (v := (ptrTo vp0 m22 3)) rfl rfl (Light.quiet (kIxO hS (j := 0) rfl hm22 rfl rfl rfl elemA_24 sizeA_59)) ?_
      refine ASL.q (v := (ptrOff vp0 m22 3 1)) rfl rfl (Light.quiet (kFldC (p := 1) hS (j := 0) rfl hm22 rfl fieldA_59_1 rfl)) ?_
      refine ASL.n rfl rfl (hStF (f := TNode.av) (g := (fun q : TNode => { q with a := (W (x1_l0 + 1)) })) (p := 1) hS (j := 0) rfl hm22 rfl sizeA_3 rfl rfl (fun _ => ⟨_, rfl, nlt rfl, rfl⟩) rfl ?_); rintro G13 hS
      refine ASL.done ?_
      refine AWP.seqR rfl ?_
      refine ASL.q (v := (.int .i64 (W (x1_l0 + 1)))) rfl rfl (Light.quiet (opMove rfl rfl)) ?_
      refine ASL.q (v := (.int .i64 (W (((W (x1_l0 + 1))) + 1)))) rfl rfl (Light.quiet (opInt rfl rfl rfl rfl)) ?_
      refine ASL.q (v := (.int .i64 (W (((W (x1_l0 + 1))) + 1)))) rfl rfl (Light.quiet (opAssign rfl rfl)) ?_
      refine ASL.done ?_
      refine AWP.seqR rfl ?_
      refine ASL.q (v := vp0) rfl rfl (Light.quiet (opMove rfl rfl)) ?_
      refine ASL.q (v := (.int .i64 x5_l0)) rfl rfl (Light.quiet (opMove rfl rfl)) ?_
      refine ASL.q (v := (.int .i64 (W (((W (x1_l0 + 1))) + 1)))) rfl rfl (Light.quiet (opMove rfl rfl)) ?_
      obtain ⟨m29, hm29, hF⟩ := bindE hF
      refine ASL.q (v := (ptrTo vp0 m29 3)) rfl rfl (Light.quiet (kIxO hS (j := 0) rfl hm29 rfl rfl rfl elemA_24 sizeA_59)) ?_
      refine ASL.q (v := (ptrOff vp0 m29 3 2)) rfl rfl (Light.quiet (kFldC (p := 2) hS (j := 0) rfl hm29 rfl fieldA_59_2 rfl)) ?_
      refine ASL.n rfl rfl (hStF (f := TNode.av) (g := (fun q : TNode => { q with b := (W (((W (x1_l0 + 1))) + 1)) })) (p := 2) hS (j := 0) rfl hm29 rfl sizeA_3 rfl rfl (fun _ => ⟨_, rfl, nlt rfl, rfl⟩) rfl ?_); rintro G14 hS
      refine ASL.done ?_
      refine AWP.lastR rfl ?_
      refine ASL.q (v := (.int .i64 (W (((W (x1_l0 + 1))) + 1)))) rfl rfl (Light.quiet (opMove rfl rfl)) ?_
      refine ASL.q (v := (.int .i64 (W (((W (((W (x1_l0 + 1))) + 1))) + 1)))) rfl rfl (Light.quiet (opInt rfl rfl rfl rfl)) ?_
      refine ASL.q (v := (.int .i64 (W (((W (((W (x1_l0 + 1))) + 1))) + 1)))) rfl rfl (Light.quiet (opAssign rfl rfl)) ?_
      refine ASL.done ?_
      refine QBlock.nrm ?_
      refine QThen.nrm ?_
      refine AWP.lastR rfl ?_
      refine ASL.q (v := (.int .i64 x5_l0)) rfl rfl (Light.quiet (opMove rfl rfl)) ?_
      refine ASL.q (v := (.int .i64 (W (x5_l0 + 1)))) rfl rfl (Light.quiet (opInt rfl rfl rfl rfl)) ?_
      refine ASL.q (v := (.int .i64 (W (x5_l0 + 1)))) rfl rfl (Light.quiet (opAssign rfl rfl)) ?_
      refine ASL.done ?_
      refine QThen.nrm ?_
      exact ⟨((((((y4.set m15 ((fun q : TNode => { q with kind := x1_l0 }) (y4.getD m15 default)))).set m22 ((fun q : TNode => { q with a := (W (x1_l0 + 1)) }) (((y4.set m15 ((fun q : TNode => { q with kind := x1_l0 }) (y4.getD m15 default)))).getD m22 default)))).set m29 ((fun q : TNode => { q with b := (W (((W (x1_l0 + 1))) + 1)) }) (((((y4.set m15 ((fun q : TNode => { q with kind := x1_l0 }) (y4.getD m15 default)))).set m22 ((fun q : TNode => { q with a := (W (x1_l0 + 1)) }) (((y4.set m15 ((fun q : TNode => { q with kind := x1_l0 }) (y4.getD m15 default)))).getD m22 default)))).getD m29 default))), (W (((W (((W (x1_l0 + 1))) + 1))) + 1)), (W (x5_l0 + 1))), (), (someE hF).symm, ⟨rfl, rfl, rfl, trivial⟩, (hS.pick [0, 1] rfl rfl)⟩
    · skip
      refine AWP.exit ?_
      refine QThen.ext ?_
      refine QThen.ext ?_
      refine QBlock.hit ?_
      obtain rfl := (hx6 _ (someE hF).symm)
      have hF := hR9
      refine QThen.nrm ?_
      exact ⟨x1_l0, y4, ⟨rfl, trivial⟩, (hS.pick [0, 1] rfl rfl), hF⟩

set_option maxRecDepth 10000 in
theorem laws_markIntS_ok {p0 : (List Int)} {p1 : Int} {r : (Int × (List Int))} {vp0 : AV} (hF : laws_markIntS p0 p1 = some r) : HS Try.prog 75 [vp0, (.int .i64 p1)] [.row 1 vp0 (List.map (AV.int .i64) p0)] fun v L' => v = (.int .i64 r.1) ∧ L' = [.row 1 vp0 (List.map (AV.int .i64) r.2)] := by
  intro H S hS
  refine HC.enter Try.func75 rfl Try.ntmps75 (by simp) ?_
  simp only [List.cons_append, List.nil_append] at hS
  unfold laws_markIntS at hF
  refine AWP.seqR rfl ?_
  refine ASL.q (v := (.int .i64 0)) rfl rfl (Light.quiet (opAssign rfl rfl)) ?_
  refine ASL.done ?_
  refine AWP.seqM (fun e H => ∃ x1_1 : Int, ∃ y2 : (List Int), E.Told e [(1, (.int .i64 x1_1))] ∧ E.Sep H [.row 1 vp0 (List.map (AV.int .i64) y2), .snap S] ∧ laws_markIntS.k0 x1_1 y2 = some r) ?_ ?_
  · rintro e0 G3 ⟨x1_1, y2, hT, hS, hF⟩; refine AWP.only _ hT ?_; unfold laws_markIntS.k0 at hF
    refine AWP.seqR rfl ?_
    refine ASL.q (v := (.int .i64 x1_1)) rfl rfl (Light.quiet (opMove rfl rfl)) ?_
    refine ASL.q (v := (.int .i64 x1_1)) rfl rfl (Light.quiet (opAssign rfl rfl)) ?_
    refine ASL.done ?_
    refine AWP.ret ?_
    obtain rfl := someE hF
    exact QRet.sole (v := (.int .i64 x1_1)) ⟨rfl, trivial⟩ ⟨_, ⟨rfl, rfl⟩, hS.pick [0, 1] rfl rfl⟩
  · skip
    refine AWP.seqR rfl ?_
    refine ASL.q (v := (.int .i64 0)) rfl rfl (Light.quiet (opAssign rfl rfl)) ?_
    refine ASL.done ?_
    refine AWP.block ?_
    obtain ⟨o8, hL7, hR9⟩ := bindE hF
    refine AWP.loopF (ω := Unit) hL7 (fun s w => [(0, vp0), (1, (.int .i64 s.2.1)), (5, (.int .i64 s.2.2))]) (fun s w => [.row 1 vp0 (List.map (AV.int .i64) s.1), .snap S]) () ⟨rfl, rfl, rfl, trivial⟩ (hS.pick [0, 1] rfl rfl) ?_
    rintro ⟨y4, x1_l0, x5_l0⟩ _ G10 hS x5 hF hx6
    try dsimp only at hS ⊢
    have hF : laws_markIntS.b0 y4 x1_l0 x5_l0 = some x5 := hF; unfold laws_markIntS.b0 at hF
    refine AWP.seq ?_
    refine AWP.seqR rfl ?_
    refine ASL.q (v := (.int .i64 x5_l0)) rfl rfl (Light.quiet (opMove rfl rfl)) ?_
    refine ASL.q (v := vp0) rfl rfl (Light.quiet (opMove rfl rfl)) ?_
    refine ASL.q (v := (.int .i64 (y4.length : Int))) rfl rfl (Light.quiet (kLen hS (j := 0) rfl rfl rfl rfl lenT_32 rfl)) ?_
    refine ASL.q (v := (.bool (decide (x5_l0 < ((y4.length : Int)))))) rfl rfl (Light.quiet (opInt rfl rfl rfl rfl)) ?_
    refine ASL.done ?_
    refine AWP.ifP hF rfl (fun hc11 hF => ?_) (fun hc11 hF => ?_)
    · skip
      refine AWP.skip ?_
      refine QThen.nrm ?_
      refine AWP.seq ?_
      refine AWP.block ?_
      refine AWP.seqR rfl ?_
      refine ASL.q (v := vp0) rfl rfl (Light.quiet (opMove rfl rfl)) ?_
      refine ASL.q (v := (.int .i64 x5_l0)) rfl rfl (Light.quiet (opMove rfl rfl)) ?_
      refine ASL.q (v := (.int .i64 x1_l0)) rfl rfl (Light.quiet (opMove rfl rfl)) ?_
      obtain ⟨m15, hm15, hF⟩ := bindE hF
      refine ASL.q (v := (ptrTo vp0 m15 1)) rfl rfl (Light.quiet (kIxO hS (j := 0) rfl hm15 rfl rfl rfl elemA_32 sizeA_3)) ?_
      refine ASL.n rfl rfl (hSt (f := (AV.int .i64)) (a := x1_l0) hS (j := 0) rfl hm15 rfl sizeA_3 rfl rfl ⟨rfl, rfl, rfl⟩ ?_); rintro G12 hS
      refine ASL.done ?_
      refine AWP.lastR rfl ?_
      refine ASL.q (v := (.int .i64 x1_l0)) rfl rfl (Light.quiet (opMove rfl rfl)) ?_
      refine ASL.q (v := (.int .i64 (W (x1_l0 + 1)))) rfl rfl (Light.quiet (opInt rfl rfl rfl rfl)) ?_
      refine ASL.q (v := (.int .i64 (W (x1_l0 + 1)))) rfl rfl (Light.quiet (opAssign rfl rfl)) ?_
      refine ASL.done ?_
      refine QBlock.nrm ?_
      refine QThen.nrm ?_
      refine AWP.lastR rfl ?_
      refine ASL.q (v := (.int .i64 x5_l0)) rfl rfl (Light.quiet (opMove rfl rfl)) ?_
      refine ASL.q (v := (.int .i64 (W (x5_l0 + 1)))) rfl rfl (Light.quiet (opInt rfl rfl rfl rfl)) ?_
      refine ASL.q (v := (.int .i64 (W (x5_l0 + 1)))) rfl rfl (Light.quiet (opAssign rfl rfl)) ?_
      refine ASL.done ?_
      refine QThen.nrm ?_
      exact ⟨((y4.set m15 x1_l0), (W (x1_l0 + 1)), (W (x5_l0 + 1))), (), (someE hF).symm, ⟨rfl, rfl, rfl, trivial⟩, (hS.pick [0, 1] rfl rfl)⟩
    · skip
      refine AWP.exit ?_
      refine QThen.ext ?_
      refine QThen.ext ?_
      refine QBlock.hit ?_
      obtain rfl := (hx6 _ (someE hF).symm)
      have hF := hR9
      refine QThen.nrm ?_
      exact ⟨x1_l0, y4, ⟨rfl, trivial⟩, (hS.pick [0, 1] rfl rfl), hF⟩

set_option maxRecDepth 10000 in
theorem laws_markWord_ok {p0 : TWord} {p1 : Int} {r : (Int × TWord)} {vp0_Stem : AV} {vp0_Loop : AV} (hF : laws_markWord p0 p1 = some r) : HS Try.prog 34 [(.agg [vp0_Stem, vp0_Loop]), (.int .i64 p1)] [.row 1 vp0_Stem (List.map (AV.int .i64) p0.stem), .row 1 vp0_Loop (List.map (AV.int .i64) p0.loop)] fun v L' => v = (.int .i64 r.1) ∧ L' = [.row 1 vp0_Stem (List.map (AV.int .i64) r.2.stem), .row 1 vp0_Loop (List.map (AV.int .i64) r.2.loop)] := by
  intro H S hS
  refine HC.enter Try.func34 rfl Try.ntmps34 (by simp) ?_
  simp only [List.cons_append, List.nil_append] at hS
  unfold laws_markWord at hF
  refine AWP.seqR rfl ?_
  refine ASL.x rfl rfl (hBox hS rfl rfl rfl ?_); rintro b2 G3 hK hS
  refine ASL.q (v := (.int .i64 0)) rfl rfl (Light.quiet (opAssign rfl rfl)) ?_
  refine ASL.done ?_
  refine AWP.seqR rfl ?_
  refine ASL.q (v := (.ptr b2 0)) rfl rfl (Light.quiet (opFieldAddr rfl fieldA_41_0 rfl rfl)) ?_
  refine ASL.q (v := vp0_Stem) rfl rfl (Light.quiet (kAt hS (j := 0) rfl rfl aggA_32 rfl rfl)) ?_
  refine ASL.q (v := (.int .i64 p1)) rfl rfl (Light.quiet (opMove rfl rfl)) ?_
  obtain ⟨a8, ha8, hF⟩ := bindE hF
  refine ASL.x rfl rfl (hCallS hS [1, 0, 2, 3] (F := [.cell b2 [vp0_Stem, vp0_Loop], .row 1 vp0_Loop (List.map (AV.int .i64) p0.loop), .snap S]) rfl rfl rfl call_75 (laws_markIntS_ok ha8) rfl rfl ?_); rintro _ _ G5 ⟨rfl, rfl⟩ hS
  refine ASL.q (v := (.int .i64 a8.1)) rfl rfl (Light.quiet (opAssign rfl rfl)) ?_
  refine ASL.done ?_
  refine AWP.seqR rfl ?_
  refine ASL.q (v := (.ptr b2 1)) rfl rfl (Light.quiet (opFieldAddr rfl fieldA_41_1 rfl rfl)) ?_
  refine ASL.q (v := vp0_Loop) rfl rfl (Light.quiet (kAt hS (j := 1) rfl rfl aggA_32 rfl rfl)) ?_
  refine ASL.q (v := (.int .i64 a8.1)) rfl rfl (Light.quiet (opMove rfl rfl)) ?_
  obtain ⟨a12, ha12, hF⟩ := bindE hF
  refine ASL.x rfl rfl (hCallS hS [2, 0, 1, 3] (F := [.row 1 vp0_Stem (List.map (AV.int .i64) a8.2), .cell b2 [vp0_Stem, vp0_Loop], .snap S]) rfl rfl rfl call_75 (laws_markIntS_ok ha12) rfl rfl ?_); rintro _ _ G6 ⟨rfl, rfl⟩ hS
  refine ASL.q (v := (.int .i64 a12.1)) rfl rfl (Light.quiet (opAssign rfl rfl)) ?_
  refine ASL.done ?_
  refine AWP.seqR rfl ?_
  refine ASL.q (v := (.int .i64 a12.1)) rfl rfl (Light.quiet (opMove rfl rfl)) ?_
  refine ASL.q (v := (.int .i64 a12.1)) rfl rfl (Light.quiet (opAssign rfl rfl)) ?_
  refine ASL.done ?_
  refine AWP.ret ?_
  obtain rfl := someE hF
  exact QRet.sole (v := (.int .i64 a12.1)) ⟨rfl, trivial⟩ ⟨_, ⟨rfl, rfl⟩, hS.pick [1, 0, 3] rfl rfl⟩

set_option maxRecDepth 10000 in
theorem laws_markBoolS_ok {p0 : (List Bool)} {p1 : Int} {r : (Int × (List Bool))} {vp0 : AV} (hF : laws_markBoolS p0 p1 = some r) : HS Try.prog 76 [vp0, (.int .i64 p1)] [.row 1 vp0 (List.map AV.bool p0)] fun v L' => v = (.int .i64 r.1) ∧ L' = [.row 1 vp0 (List.map AV.bool r.2)] := by
  intro H S hS
  refine HC.enter Try.func76 rfl Try.ntmps76 (by simp) ?_
  simp only [List.cons_append, List.nil_append] at hS
  unfold laws_markBoolS at hF
  refine AWP.seqR rfl ?_
  refine ASL.q (v := (.int .i64 0)) rfl rfl (Light.quiet (opAssign rfl rfl)) ?_
  refine ASL.done ?_
  refine AWP.seqM (fun e H => ∃ x1_1 : Int, ∃ y2 : (List Bool), E.Told e [(1, (.int .i64 x1_1))] ∧ E.Sep H [.row 1 vp0 (List.map AV.bool y2), .snap S] ∧ laws_markBoolS.k0 x1_1 y2 = some r) ?_ ?_
  · rintro e0 G3 ⟨x1_1, y2, hT, hS, hF⟩; refine AWP.only _ hT ?_; unfold laws_markBoolS.k0 at hF
    refine AWP.seqR rfl ?_
    refine ASL.q (v := (.int .i64 x1_1)) rfl rfl (Light.quiet (opMove rfl rfl)) ?_
    refine ASL.q (v := (.int .i64 x1_1)) rfl rfl (Light.quiet (opAssign rfl rfl)) ?_
    refine ASL.done ?_
    refine AWP.ret ?_
    obtain rfl := someE hF
    exact QRet.sole (v := (.int .i64 x1_1)) ⟨rfl, trivial⟩ ⟨_, ⟨rfl, rfl⟩, hS.pick [0, 1] rfl rfl⟩
  · skip
    refine AWP.seqR rfl ?_
    refine ASL.q (v := (.int .i64 0)) rfl rfl (Light.quiet (opAssign rfl rfl)) ?_
    refine ASL.done ?_
    refine AWP.block ?_
    obtain ⟨o8, hL7, hR9⟩ := bindE hF
    refine AWP.loopF (ω := Unit) hL7 (fun s w => [(0, vp0), (1, (.int .i64 s.2.1)), (5, (.int .i64 s.2.2))]) (fun s w => [.row 1 vp0 (List.map AV.bool s.1), .snap S]) () ⟨rfl, rfl, rfl, trivial⟩ (hS.pick [0, 1] rfl rfl) ?_
    rintro ⟨y4, x1_l0, x5_l0⟩ _ G10 hS x5 hF hx6
    try dsimp only at hS ⊢
    have hF : laws_markBoolS.b0 y4 x1_l0 x5_l0 = some x5 := hF; unfold laws_markBoolS.b0 at hF
    refine AWP.seq ?_
    refine AWP.seqR rfl ?_
    refine ASL.q (v := (.int .i64 x5_l0)) rfl rfl (Light.quiet (opMove rfl rfl)) ?_
    refine ASL.q (v := vp0) rfl rfl (Light.quiet (opMove rfl rfl)) ?_
    refine ASL.q (v := (.int .i64 (y4.length : Int))) rfl rfl (Light.quiet (kLen hS (j := 0) rfl rfl rfl rfl lenT_56 rfl)) ?_
    refine ASL.q (v := (.bool (decide (x5_l0 < ((y4.length : Int)))))) rfl rfl (Light.quiet (opInt rfl rfl rfl rfl)) ?_
    refine ASL.done ?_
    refine AWP.ifP hF rfl (fun hc11 hF => ?_) (fun hc11 hF => ?_)
    · skip
      refine AWP.skip ?_
      refine QThen.nrm ?_
      refine AWP.seq ?_
      refine AWP.block ?_
      refine AWP.seqR rfl ?_
      refine ASL.q (v := vp0) rfl rfl (Light.quiet (opMove rfl rfl)) ?_
      refine ASL.q (v := (.int .i64 x5_l0)) rfl rfl (Light.quiet (opMove rfl rfl)) ?_
      refine ASL.q (v := (.int .i64 x1_l0)) rfl rfl (Light.quiet (opMove rfl rfl)) ?_
      refine ASL.q (v := (.int .i64 (Int.tmod x1_l0 3))) rfl rfl (Light.quiet (opRem rfl rfl rfl (by decide) rfl)) ?_
      refine ASL.q (v := (.bool (decide (((Int.tmod x1_l0 3)) = 0)))) rfl rfl (Light.quiet (opInt rfl rfl rfl rfl)) ?_
      obtain ⟨m17, hm17, hF⟩ := bindE hF
      refine ASL.q (v := (ptrTo vp0 m17 1)) rfl rfl (Light.quiet (kIxO hS (j := 0) rfl hm17 rfl rfl rfl elemA_56 sizeA_4)) ?_
      refine ASL.n rfl rfl (hSt (f := AV.bool) (a := (decide (((Int.tmod x1_l0 3)) = 0))) hS (j := 0) rfl hm17 rfl sizeA_4 rfl rfl ⟨rfl, rfl, rfl⟩ ?_); rintro G12 hS
      refine ASL.done ?_
      refine AWP.lastR rfl ?_
      refine ASL.q (v := (.int .i64 x1_l0)) rfl rfl (Light.quiet (opMove rfl rfl)) ?_
      refine ASL.q (v := (.int .i64 (W (x1_l0 + 1)))) rfl rfl (Light.quiet (opInt rfl rfl rfl rfl)) ?_
      refine ASL.q (v := (.int .i64 (W (x1_l0 + 1)))) rfl rfl (Light.quiet (opAssign rfl rfl)) ?_
      refine ASL.done ?_
      refine QBlock.nrm ?_
      refine QThen.nrm ?_
      refine AWP.lastR rfl ?_
      refine ASL.q (v := (.int .i64 x5_l0)) rfl rfl (Light.quiet (opMove rfl rfl)) ?_
      refine ASL.q (v := (.int .i64 (W (x5_l0 + 1)))) rfl rfl (Light.quiet (opInt rfl rfl rfl rfl)) ?_
      refine ASL.q (v := (.int .i64 (W (x5_l0 + 1)))) rfl rfl (Light.quiet (opAssign rfl rfl)) ?_
      refine ASL.done ?_
      refine QThen.nrm ?_
      exact ⟨((y4.set m17 ((decide (((Int.tmod x1_l0 3)) = 0)))), (W (x1_l0 + 1)), (W (x5_l0 + 1))), (), (someE hF).symm, ⟨rfl, rfl, rfl, trivial⟩, (hS.pick [0, 1] rfl rfl)⟩
    · skip
      refine AWP.exit ?_
      refine QThen.ext ?_
      refine QThen.ext ?_
      refine QBlock.hit ?_
      obtain rfl := (hx6 _ (someE hF).symm)
      have hF := hR9
      refine QThen.nrm ?_
      exact ⟨x1_l0, y4, ⟨rfl, trivial⟩, (hS.pick [0, 1] rfl rfl), hF⟩

set_option maxRecDepth 10000 in
theorem laws_markBoolSS_ok {p0 : (List (List Bool))} {p1 : Int} {r : (Int × (List (List Bool)))} {vp0 : AV} {vp0_s : List AV} (hF : laws_markBoolSS p0 p1 = some r) : HS Try.prog 35 [vp0, (.int .i64 p1)] [.rows 1 vp0 vp0_s (List.map (List.map AV.bool) p0) none] fun v L' => v = (.int .i64 r.1) ∧ L' = [.rows 1 vp0 vp0_s (List.map (List.map AV.bool) r.2) none] := by
  intro H S hS
  refine HC.enter Try.func35 rfl Try.ntmps35 (by simp) ?_
  simp only [List.cons_append, List.nil_append] at hS
  unfold laws_markBoolSS at hF
  refine AWP.seqR rfl ?_
  refine ASL.q (v := (.int .i64 0)) rfl rfl (Light.quiet (opAssign rfl rfl)) ?_
  refine ASL.done ?_
  refine AWP.seqM (fun e H => ∃ x1_1 : Int, ∃ y2 : (List (List Bool)), E.Told e [(1, (.int .i64 x1_1))] ∧ E.Sep H [.rows 1 vp0 vp0_s (List.map (List.map AV.bool) y2) none, .snap S] ∧ laws_markBoolSS.k0 x1_1 y2 = some r) ?_ ?_
  · rintro e0 G3 ⟨x1_1, y2, hT, hS, hF⟩; refine AWP.only _ hT ?_; unfold laws_markBoolSS.k0 at hF
    refine AWP.seqR rfl ?_
    refine ASL.q (v := (.int .i64 x1_1)) rfl rfl (Light.quiet (opMove rfl rfl)) ?_
    refine ASL.q (v := (.int .i64 x1_1)) rfl rfl (Light.quiet (opAssign rfl rfl)) ?_
    refine ASL.done ?_
    refine AWP.ret ?_
    obtain rfl := someE hF
    exact QRet.sole (v := (.int .i64 x1_1)) ⟨rfl, trivial⟩ ⟨_, ⟨rfl, rfl⟩, hS.pick [0, 1] rfl rfl⟩
  · skip
    refine AWP.seqR rfl ?_
    refine ASL.q (v := (.int .i64 0)) rfl rfl (Light.quiet (opAssign rfl rfl)) ?_
    refine ASL.done ?_
    refine AWP.block ?_
    obtain ⟨o8, hL7, hR9⟩ := bindE hF
    refine AWP.loopF (ω := Unit) hL7 (fun s w => [(0, vp0), (1, (.int .i64 s.2.1)), (5, (.int .i64 s.2.2))]) (fun s w => [.rows 1 vp0 vp0_s (List.map (List.map AV.bool) s.1) none, .snap S]) () ⟨rfl, rfl, rfl, trivial⟩ (hS.pick [0, 1] rfl rfl) ?_
    rintro ⟨y4, x1_l0, x5_l0⟩ _ G10 hS x5 hF hx6
    try dsimp only at hS ⊢
    have hF : laws_markBoolSS.b0 y4 x1_l0 x5_l0 = some x5 := hF; unfold laws_markBoolSS.b0 at hF
    refine AWP.seq ?_
    refine AWP.seqR rfl ?_
    refine ASL.q (v := (.int .i64 x5_l0)) rfl rfl (Light.quiet (opMove rfl rfl)) ?_
    refine ASL.q (v := vp0) rfl rfl (Light.quiet (opMove rfl rfl)) ?_
    refine ASL.q (v := (.int .i64 (y4.length : Int))) rfl rfl (Light.quiet (kLenRows hS (j := 0) rfl rfl rfl rfl lenT_48 rfl)) ?_
    refine ASL.q (v := (.bool (decide (x5_l0 < ((y4.length : Int)))))) rfl rfl (Light.quiet (opInt rfl rfl rfl rfl)) ?_
    refine ASL.done ?_
    refine AWP.ifP hF rfl (fun hc11 hF => ?_) (fun hc11 hF => ?_)
    · skip
      refine AWP.skip ?_
      refine QThen.nrm ?_
      refine AWP.seq ?_
      refine AWP.block ?_
      refine AWP.lastR rfl ?_
      refine ASL.q (v := vp0) rfl rfl (Light.quiet (opMove rfl rfl)) ?_
      refine ASL.q (v := (.int .i64 x5_l0)) rfl rfl (Light.quiet (opMove rfl rfl)) ?_
      obtain ⟨m14, hm14, hF⟩ := bindE hF
      refine ASL.q (v := (ptrTo vp0 m14 1)) rfl rfl (Light.quiet (kIxRows hS (j := 0) rfl hm14 rfl rfl rfl elemA_48 sizeA_56)) ?_
      refine ASL.q (v := (vp0_s.getD m14 .undef)) rfl rfl (Light.quiet (kLdRows hS (j := 0) rfl hm14 rfl aggA_56 rfl)) ?_
      have hS := hS.lend (k := 0) rfl hm14
      refine ASL.q (v := (.int .i64 x1_l0)) rfl rfl (Light.quiet (opMove rfl rfl)) ?_
      obtain ⟨a17, ha17, hF⟩ := bindE hF
      refine ASL.x rfl rfl (hCallS hS [0, 1, 2] (F := [.rows 1 vp0 vp0_s (List.map (List.map AV.bool) y4) (some m14), .snap S]) rfl rfl rfl call_76 (laws_markBoolS_ok ha17) rfl rfl ?_); rintro _ _ G13 ⟨rfl, rfl⟩ hS
      refine ASL.q (v := (.int .i64 a17.1)) rfl rfl (Light.quiet (opAssign rfl rfl)) ?_
      refine ASL.done ?_
      refine QBlock.nrm ?_
      refine QThen.nrm ?_
      refine AWP.lastR rfl ?_
      refine ASL.q (v := (.int .i64 x5_l0)) rfl rfl (Light.quiet (opMove rfl rfl)) ?_
      refine ASL.q (v := (.int .i64 (W (x5_l0 + 1)))) rfl rfl (Light.quiet (opInt rfl rfl rfl rfl)) ?_
      refine ASL.q (v := (.int .i64 (W (x5_l0 + 1)))) rfl rfl (Light.quiet (opAssign rfl rfl)) ?_
      refine ASL.done ?_
      refine QThen.nrm ?_
      have hS := (hS.pick (L' := [.row 1 (vp0_s.getD m14 .undef) (List.map AV.bool a17.2), .rows 1 vp0 vp0_s (List.map (List.map AV.bool) y4) (some m14), .snap S]) [0, 1, 2] rfl rfl).unlend hm14
      exact ⟨((y4.set m14 a17.2), a17.1, (W (x5_l0 + 1))), (), (someE hF).symm, ⟨rfl, rfl, rfl, trivial⟩, (hS.pick [0, 1] rfl rfl)⟩
    · skip
      refine AWP.exit ?_
      refine QThen.ext ?_
      refine QThen.ext ?_
      refine QBlock.hit ?_
      obtain rfl := (hx6 _ (someE hF).symm)
      have hF := hR9
      refine QThen.nrm ?_
      exact ⟨x1_l0, y4, ⟨rfl, trivial⟩, (hS.pick [0, 1] rfl rfl), hF⟩

set_option maxRecDepth 10000 in
theorem laws_heldBoolS_ok {p0 : (List Bool)} {p1 : Int} {r : Int} (hF : laws_heldBoolS p0 p1 = some r) : PC Try.prog 77 [(.list 1 (List.map AV.bool p0)), (.int .i64 p1)] fun v => v = (.int .i64 r) := by
  refine PC.enter Try.func77 rfl Try.ntmps77 (by simp) ?_
  have hS := Sep.void; unfold laws_heldBoolS at hF
  refine AWP.seqR rfl ?_
  refine ASL.q (v := (.int .i64 0)) rfl rfl (Light.quiet (opAssign rfl rfl)) ?_
  refine ASL.done ?_
  refine AWP.seqM (fun e H => ∃ x1_1 : Int, E.Told e [(1, (.int .i64 x1_1))] ∧ E.Sep H [] ∧ laws_heldBoolS.k0 x1_1 = some r) ?_ ?_
  · rintro e0 G1 ⟨x1_1, hT, hS, hF⟩; refine AWP.only _ hT ?_; unfold laws_heldBoolS.k0 at hF
    refine AWP.seqR rfl ?_
    refine ASL.q (v := (.int .i64 x1_1)) rfl rfl (Light.quiet (opMove rfl rfl)) ?_
    refine ASL.q (v := (.int .i64 x1_1)) rfl rfl (Light.quiet (opAssign rfl rfl)) ?_
    refine ASL.done ?_
    refine AWP.ret ?_
    obtain rfl := someE hF
    exact QRet.sole (v := (.int .i64 x1_1)) ⟨rfl, trivial⟩ rfl
  · skip
    refine AWP.seqR rfl ?_
    refine ASL.q (v := (.int .i64 0)) rfl rfl (Light.quiet (opAssign rfl rfl)) ?_
    refine ASL.done ?_
    refine AWP.block ?_
    obtain ⟨o5, hL4, hR6⟩ := bindE hF
    refine AWP.loopF (ω := Unit) hL4 (fun s w => [(0, (.list 1 (List.map AV.bool p0))), (1, (.int .i64 s.1)), (5, (.int .i64 s.2))]) (fun s w => []) () ⟨rfl, rfl, rfl, trivial⟩ (hS.pick [] rfl rfl) ?_
    rintro ⟨x1_l0, x5_l0⟩ _ G7 hS x2 hF hx3
    try dsimp only at hS ⊢
    have hF : laws_heldBoolS.b0 p0 x1_l0 x5_l0 = some x2 := hF; unfold laws_heldBoolS.b0 at hF
    refine AWP.seq ?_
    refine AWP.seqR rfl ?_
    refine ASL.q (v := (.int .i64 x5_l0)) rfl rfl (Light.quiet (opMove rfl rfl)) ?_
    refine ASL.q (v := (.list 1 (List.map AV.bool p0))) rfl rfl (Light.quiet (opMove rfl rfl)) ?_
    refine ASL.q (v := (.int .i64 (p0.length : Int))) rfl rfl (Light.quiet (opLenMap (f := AV.bool) rfl rfl rfl lenT_56 rfl)) ?_
    refine ASL.q (v := (.bool (decide (x5_l0 < ((p0.length : Int)))))) rfl rfl (Light.quiet (opInt rfl rfl rfl rfl)) ?_
    refine ASL.done ?_
    refine AWP.ifP hF rfl (fun hc8 hF => ?_) (fun hc8 hF => ?_)
    · skip
      refine AWP.skip ?_
      refine QThen.nrm ?_
      refine AWP.seq ?_
      refine AWP.block ?_
      refine AWP.seq ?_
      refine AWP.seqR rfl ?_
      refine ASL.q (v := (.list 1 (List.map AV.bool p0))) rfl rfl (Light.quiet (opMove rfl rfl)) ?_
      refine ASL.q (v := (.int .i64 x5_l0)) rfl rfl (Light.quiet (opMove rfl rfl)) ?_
      obtain ⟨a14, ha14, hF⟩ := bindE hF
      refine ASL.q (v := (.rptr [(.bool a14)])) rfl rfl (Light.quiet (kIx (f := AV.bool) ha14 rfl rfl rfl elemA_56 sizeA_4 rfl)) ?_
      refine ASL.q (v := (.bool a14)) rfl rfl (Light.quiet (opLoadR rfl aggA_4 rfl rfl)) ?_
      refine ASL.q (v := (.int .i64 x1_l0)) rfl rfl (Light.quiet (opMove rfl rfl)) ?_
      refine ASL.q (v := (.int .i64 (Int.tmod x1_l0 3))) rfl rfl (Light.quiet (opRem rfl rfl rfl (by decide) rfl)) ?_
      refine ASL.q (v := (.bool (decide (((Int.tmod x1_l0 3)) = 0)))) rfl rfl (Light.quiet (opInt rfl rfl rfl rfl)) ?_
      refine ASL.q (v := (.bool (!(a14 == (decide (((Int.tmod x1_l0 3)) = 0)))))) rfl rfl (Light.quiet (opBoolEq rfl rfl rfl und_4 rfl)) ?_
      refine ASL.done ?_
      refine AWP.ifB hF rfl (fun hc9 hF => ?_) (fun hc9 hF => ?_)
      · skip
        refine AWP.seqR rfl ?_
        refine ASL.q (v := (.int .i64 (-1))) rfl rfl (Light.quiet (opAssign rfl rfl)) ?_
        refine ASL.done ?_
        refine AWP.ret ?_
        refine QThen.rt ?_
        refine QBlock.ret ?_
        refine QThen.rt ?_
        refine QThen.rt ?_
        refine QBlock.ret ?_
        refine QThen.rt ?_
        obtain rfl := (hx3 _ (someE hF).symm)
        have hF := hR6
        have hF := sumR hF
        obtain rfl := someE hF
        exact QRet.sole (v := (.int .i64 (-1))) ⟨rfl, trivial⟩ rfl
      · skip
        refine AWP.skip ?_
        refine QThen.nrm ?_
        refine AWP.lastR rfl ?_
        refine ASL.q (v := (.int .i64 x1_l0)) rfl rfl (Light.quiet (opMove rfl rfl)) ?_
        refine ASL.q (v := (.int .i64 (W (x1_l0 + 1)))) rfl rfl (Light.quiet (opInt rfl rfl rfl rfl)) ?_
        refine ASL.q (v := (.int .i64 (W (x1_l0 + 1)))) rfl rfl (Light.quiet (opAssign rfl rfl)) ?_
        refine ASL.done ?_
        refine QBlock.nrm ?_
        refine QThen.nrm ?_
        refine AWP.lastR rfl ?_
        refine ASL.q (v := (.int .i64 x5_l0)) rfl rfl (Light.quiet (opMove rfl rfl)) ?_
        refine ASL.q (v := (.int .i64 (W (x5_l0 + 1)))) rfl rfl (Light.quiet (opInt rfl rfl rfl rfl)) ?_
        refine ASL.q (v := (.int .i64 (W (x5_l0 + 1)))) rfl rfl (Light.quiet (opAssign rfl rfl)) ?_
        refine ASL.done ?_
        refine QThen.nrm ?_
        exact ⟨((W (x1_l0 + 1)), (W (x5_l0 + 1))), (), (someE hF).symm, ⟨rfl, rfl, rfl, trivial⟩, (hS.pick [] rfl rfl)⟩
    · skip
      refine AWP.exit ?_
      refine QThen.ext ?_
      refine QThen.ext ?_
      refine QBlock.hit ?_
      obtain rfl := (hx3 _ (someE hF).symm)
      have hF := hR6
      have hF := sumL hF
      refine QThen.nrm ?_
      exact ⟨x1_l0, ⟨rfl, trivial⟩, (hS.pick [] rfl rfl), hF⟩

set_option maxRecDepth 10000 in
theorem laws_heldBoolSS_ok {p0 : (List (List Bool))} {p1 : Int} {r : Int} (hF : laws_heldBoolSS p0 p1 = some r) : PC Try.prog 36 [(.list 1 (List.map (fun xs : (List Bool) => AV.list 1 (List.map AV.bool xs)) p0)), (.int .i64 p1)] fun v => v = (.int .i64 r) := by
  refine PC.enter Try.func36 rfl Try.ntmps36 (by simp) ?_
  have hS := Sep.void; unfold laws_heldBoolSS at hF
  refine AWP.seqR rfl ?_
  refine ASL.q (v := (.int .i64 0)) rfl rfl (Light.quiet (opAssign rfl rfl)) ?_
  refine ASL.done ?_
  refine AWP.seqM (fun e H => ∃ x1_1 : Int, E.Told e [(1, (.int .i64 x1_1))] ∧ E.Sep H [] ∧ laws_heldBoolSS.k0 x1_1 = some r) ?_ ?_
  · rintro e0 G1 ⟨x1_1, hT, hS, hF⟩; refine AWP.only _ hT ?_; unfold laws_heldBoolSS.k0 at hF
    refine AWP.seqR rfl ?_
    refine ASL.q (v := (.int .i64 x1_1)) rfl rfl (Light.quiet (opMove rfl rfl)) ?_
    refine ASL.q (v := (.int .i64 x1_1)) rfl rfl (Light.quiet (opAssign rfl rfl)) ?_
    refine ASL.done ?_
    refine AWP.ret ?_
    obtain rfl := someE hF
    exact QRet.sole (v := (.int .i64 x1_1)) ⟨rfl, trivial⟩ rfl
  · skip
    refine AWP.seqR rfl ?_
    refine ASL.q (v := (.int .i64 0)) rfl rfl (Light.quiet (opAssign rfl rfl)) ?_
    refine ASL.done ?_
    refine AWP.block ?_
    obtain ⟨o5, hL4, hR6⟩ := bindE hF
    refine AWP.loopF (ω := Unit) hL4 (fun s w => [(0, (.list 1 (List.map (fun xs : (List Bool) => AV.list 1 (List.map AV.bool xs)) p0))), (1, (.int .i64 s.1)), (5, (.int .i64 s.2))]) (fun s w => []) () ⟨rfl, rfl, rfl, trivial⟩ (hS.pick [] rfl rfl) ?_
    rintro ⟨x1_l0, x5_l0⟩ _ G7 hS x2 hF hx3
    try dsimp only at hS ⊢
    have hF : laws_heldBoolSS.b0 p0 x1_l0 x5_l0 = some x2 := hF; unfold laws_heldBoolSS.b0 at hF
    refine AWP.seq ?_
    refine AWP.seqR rfl ?_
    refine ASL.q (v := (.int .i64 x5_l0)) rfl rfl (Light.quiet (opMove rfl rfl)) ?_
    refine ASL.q (v := (.list 1 (List.map (fun xs : (List Bool) => AV.list 1 (List.map AV.bool xs)) p0))) rfl rfl (Light.quiet (opMove rfl rfl)) ?_
    refine ASL.q (v := (.int .i64 (p0.length : Int))) rfl rfl (Light.quiet (opLenMap (f := (fun xs : (List Bool) => AV.list 1 (List.map AV.bool xs))) rfl rfl rfl lenT_48 rfl)) ?_
    refine ASL.q (v := (.bool (decide (x5_l0 < ((p0.length : Int)))))) rfl rfl (Light.quiet (opInt rfl rfl rfl rfl)) ?_
    refine ASL.done ?_
    refine AWP.ifP hF rfl (fun hc8 hF => ?_) (fun hc8 hF => ?_)
    · skip
      refine AWP.skip ?_
      refine QThen.nrm ?_
      refine AWP.seq ?_
      refine AWP.block ?_
      refine AWP.seqR rfl ?_
      refine ASL.q (v := (.list 1 (List.map (fun xs : (List Bool) => AV.list 1 (List.map AV.bool xs)) p0))) rfl rfl (Light.quiet (opMove rfl rfl)) ?_
      refine ASL.q (v := (.int .i64 x5_l0)) rfl rfl (Light.quiet (opMove rfl rfl)) ?_
      obtain ⟨a14, ha14, hF⟩ := bindE hF
      refine ASL.q (v := (.rptr [(.list 1 (List.map AV.bool a14))])) rfl rfl (Light.quiet (kIx (f := (fun xs : (List Bool) => AV.list 1 (List.map AV.bool xs))) ha14 rfl rfl rfl elemA_48 sizeA_56 rfl)) ?_
      refine ASL.q (v := (.list 1 (List.map AV.bool a14))) rfl rfl (Light.quiet (opLoadR rfl aggA_56 rfl rfl)) ?_
      refine ASL.q (v := (.int .i64 x1_l0)) rfl rfl (Light.quiet (opMove rfl rfl)) ?_
      obtain ⟨a17, ha17, hF⟩ := bindE hF
      refine ASL.q (v := (.int .i64 a17)) rfl rfl ((qCall rfl rfl call_77 (laws_heldBoolS_ok ha17) rfl)) ?_
      refine ASL.q (v := (.int .i64 a17)) rfl rfl (Light.quiet (opAssign rfl rfl)) ?_
      refine ASL.done ?_
      refine AWP.seqR rfl ?_
      refine ASL.q (v := (.int .i64 a17)) rfl rfl (Light.quiet (opMove rfl rfl)) ?_
      refine ASL.q (v := (.bool (decide (a17 < 0)))) rfl rfl (Light.quiet (opInt rfl rfl rfl rfl)) ?_
      refine ASL.done ?_
      refine AWP.ifP hF rfl (fun hc9 hF => ?_) (fun hc9 hF => ?_)
      · skip
        refine AWP.seqR rfl ?_
        refine ASL.q (v := (.int .i64 (-1))) rfl rfl (Light.quiet (opAssign rfl rfl)) ?_
        refine ASL.done ?_
        refine AWP.ret ?_
        refine QBlock.ret ?_
        refine QThen.rt ?_
        refine QThen.rt ?_
        refine QBlock.ret ?_
        refine QThen.rt ?_
        obtain rfl := (hx3 _ (someE hF).symm)
        have hF := hR6
        have hF := sumR hF
        obtain rfl := someE hF
        exact QRet.sole (v := (.int .i64 (-1))) ⟨rfl, trivial⟩ rfl
      · skip
        refine AWP.skip ?_
        refine QBlock.nrm ?_
        refine QThen.nrm ?_
        refine AWP.lastR rfl ?_
        refine ASL.q (v := (.int .i64 x5_l0)) rfl rfl (Light.quiet (opMove rfl rfl)) ?_
        refine ASL.q (v := (.int .i64 (W (x5_l0 + 1)))) rfl rfl (Light.quiet (opInt rfl rfl rfl rfl)) ?_
        refine ASL.q (v := (.int .i64 (W (x5_l0 + 1)))) rfl rfl (Light.quiet (opAssign rfl rfl)) ?_
        refine ASL.done ?_
        refine QThen.nrm ?_
        exact ⟨(a17, (W (x5_l0 + 1))), (), (someE hF).symm, ⟨rfl, rfl, rfl, trivial⟩, (hS.pick [] rfl rfl)⟩
    · skip
      refine AWP.exit ?_
      refine QThen.ext ?_
      refine QThen.ext ?_
      refine QBlock.hit ?_
      obtain rfl := (hx3 _ (someE hF).symm)
      have hF := hR6
      have hF := sumL hF
      refine QThen.nrm ?_
      exact ⟨x1_l0, ⟨rfl, trivial⟩, (hS.pick [] rfl rfl), hF⟩

set_option maxRecDepth 10000 in
theorem laws_FnExactLtlTable_ok {p0 : (List TNode)} {p1 : TWord} {r : Bool} (hF : laws_FnExactLtlTable p0 p1 = some r) : PC Try.prog 6 [(.list 3 (List.map TNode.av p0)), (TWord.av p1)] fun v => v = (.bool r) := by
  refine PC.enter Try.func6 rfl Try.ntmps6 (by simp) ?_
  have hS := Sep.void; unfold laws_FnExactLtlTable at hF
  refine AWP.seqR rfl ?_
  refine ASL.q (v := (.rptr [(.list 1 (List.map (AV.int .i64) p1.stem)), (.list 1 (List.map (AV.int .i64) p1.loop))])) rfl rfl ((qBoxI (v := (TWord.av p1)) rfl rfl rfl rfl)) ?_
  refine ASL.q (v := (.bool false)) rfl rfl (Light.quiet (opAssign rfl rfl)) ?_
  refine ASL.done ?_
  refine AWP.seqR rfl ?_
  refine ASL.q (v := (.int .i64 1048576)) rfl rfl (Light.quiet (opAssign rfl rfl)) ?_
  refine ASL.done ?_
  refine AWP.seqR rfl ?_
  refine ASL.q (v := (.list 3 (List.map TNode.av p0))) rfl rfl (Light.quiet (opMove rfl rfl)) ?_
  refine ASL.q (v := (.int .i64 1048576)) rfl rfl (Light.quiet (opMove rfl rfl)) ?_
  refine ASL.q (v := (.int .i64 (laws_szNodeS p0 1048576))) rfl rfl ((qCall rfl rfl call_20 (laws_szNodeS_ok p0 1048576) rfl)) ?_
  refine ASL.q (v := (.int .i64 (laws_szNodeS p0 1048576))) rfl rfl (Light.quiet (opAssign rfl rfl)) ?_
  refine ASL.done ?_
  refine AWP.seq ?_
  refine AWP.seqR rfl ?_
  refine ASL.q (v := (.int .i64 (laws_szNodeS p0 1048576))) rfl rfl (Light.quiet (opMove rfl rfl)) ?_
  refine ASL.q (v := (.bool (decide (((laws_szNodeS p0 1048576)) < 0)))) rfl rfl (Light.quiet (opInt rfl rfl rfl rfl)) ?_
  refine ASL.done ?_
  refine AWP.ifP hF rfl (fun hc1 hF => ?_) (fun hc1 hF => ?_)
  · skip
    refine AWP.seqR rfl ?_
    refine ASL.q (v := (.bool true)) rfl rfl (Light.quiet (opAssign rfl rfl)) ?_
    refine ASL.done ?_
    refine AWP.ret ?_
    refine QThen.rt ?_
    obtain rfl := someE hF
    exact QRet.sole (v := (.bool true)) ⟨rfl, trivial⟩ rfl
  · skip
    refine AWP.skip ?_
    refine QThen.nrm ?_
    refine AWP.seqR rfl ?_
    refine ASL.q (v := (TWord.av p1)) rfl rfl (Light.quiet (opLoadRA rfl aggA_36 sizeA_36 rfl (nlt rfl) rfl)) ?_
    refine ASL.q (v := (.int .i64 (laws_szNodeS p0 1048576))) rfl rfl (Light.quiet (opMove rfl rfl)) ?_
    refine ASL.q (v := (.int .i64 (laws_szWord p1 ((laws_szNodeS p0 1048576))))) rfl rfl ((qCall rfl rfl call_21 (laws_szWord_ok p1 ((laws_szNodeS p0 1048576))) rfl)) ?_
    refine ASL.q (v := (.int .i64 (laws_szWord p1 ((laws_szNodeS p0 1048576))))) rfl rfl (Light.quiet (opAssign rfl rfl)) ?_
    refine ASL.done ?_
    refine AWP.seq ?_
    refine AWP.seqR rfl ?_
    refine ASL.q (v := (.int .i64 (laws_szWord p1 ((laws_szNodeS p0 1048576))))) rfl rfl (Light.quiet (opMove rfl rfl)) ?_
    refine ASL.q (v := (.bool (decide (((laws_szWord p1 ((laws_szNodeS p0 1048576)))) < 0)))) rfl rfl (Light.quiet (opInt rfl rfl rfl rfl)) ?_
    refine ASL.done ?_
    refine AWP.ifP hF rfl (fun hc2 hF => ?_) (fun hc2 hF => ?_)
    · skip
      refine AWP.seqR rfl ?_
      refine ASL.q (v := (.bool true)) rfl rfl (Light.quiet (opAssign rfl rfl)) ?_
      refine ASL.done ?_
      refine AWP.ret ?_
      refine QThen.rt ?_
      obtain rfl := someE hF
      exact QRet.sole (v := (.bool true)) ⟨rfl, trivial⟩ rfl
    · skip
      refine AWP.skip ?_
      refine QThen.nrm ?_
      refine AWP.seqD [(0, false), (1, false), (2, false), (3, true), (4, true), (5, false)] mixed (by kernel_rfl) rfl ?_
      refine ARL.q0 (v := (.list 3 (List.map TNode.av p0))) rfl rfl (Light.quiet (opMove rfl rfl)) ?_
      obtain ⟨a25, ha25, hF⟩ := bindE hF
      refine ARL.q0 (v := (.list 3 (List.map TNode.av a25))) rfl rfl ((qCall rfl rfl call_23 (PO.list (laws_toNodeS_ok ha25)) rfl)) ?_
      refine ARL.q0 (v := (TWord.av p1)) rfl rfl (Light.quiet (opLoadRA rfl aggA_36 sizeA_36 rfl (nlt rfl) rfl)) ?_
      obtain ⟨a27, ha27, hF⟩ := bindE hF
      refine ARL.x rfl rfl rfl (hCallSR hS rfl rfl call_24 (laws_toWord_ok ha27) ⟨.same _, trivial⟩ (by rintro _ _ G ⟨w3, w5, rfl, rfl⟩ hG; exact ⟨(Scal.agg (ScalC.cons (hG.scR (k := 0) rfl) (ScalC.cons (hG.scR (k := 1) rfl) ScalC.nil))), ⟨(Scal.ints _ _), (Scal.ints _ _), trivial⟩⟩) ?_); rintro _ _ G7 ⟨w3, w5, rfl, rfl⟩ hK hS; refine ⟨hK, ?_⟩
      obtain ⟨a28, ha28, hF⟩ := bindE hF
      refine ARL.x rfl rfl rfl (hCallSR hS rfl rfl call_30 (spec_LtlTable_ok ha28) ⟨.same _, .aggL ⟨.row (k := 0) rfl, .row (k := 1) rfl, trivial⟩, trivial⟩ (by rintro w8 _ G ⟨_, w9, rfl, rfl⟩ hG; exact ⟨(hG.scRs (k := 0) rfl), ⟨⟨rfl, rowsScal (fun _ => by intro c hc; simp only [cells, List.mem_singleton] at hc; subst hc; constructor) _⟩, trivial⟩⟩) ?_); rintro w8 _ G11 ⟨_, w9, rfl, rfl⟩ hK hS; refine ⟨hK, ?_⟩
      refine ARL.q0 (v := w8) rfl rfl (Light.quiet (opAssign rfl rfl)) ?_
      refine ARL.done ?_
      refine AWP.seqR rfl ?_
      refine ASL.q (v := (.list 3 (List.map TNode.av p0))) rfl rfl (Light.quiet (opMove rfl rfl)) ?_
      obtain ⟨a30, ha30, hF⟩ := bindE hF
      refine ASL.x rfl rfl (hCallO hS rfl rfl call_23 (laws_toNodeS_ok ha30) rfl ?_); rintro v30 G12 hK hS
      refine ASL.q (v := v30) rfl rfl (Light.quiet (opAssign rfl rfl)) ?_
      refine ASL.done ?_
      refine AWP.seqR rfl ?_
      refine ASL.q (v := (TWord.av p1)) rfl rfl (Light.quiet (opLoadRA rfl aggA_36 sizeA_36 rfl (nlt rfl) rfl)) ?_
      obtain ⟨a32, ha32, hF⟩ := bindE hF
      refine ASL.x rfl rfl (hCallSR hS rfl rfl call_24 (laws_toWord_ok ha32) ⟨.same _, trivial⟩ (by rintro _ _ G ⟨w14, w16, rfl, rfl⟩ hG; exact ⟨(Scal.agg (ScalC.cons (hG.scR (k := 0) rfl) (ScalC.cons (hG.scR (k := 1) rfl) ScalC.nil))), ⟨(Scal.ints _ _), (Scal.ints _ _), trivial⟩⟩) ?_); rintro _ _ G18 ⟨w14, w16, rfl, rfl⟩ hK hS
      have hS := hNil (s := 1) (f := (AV.int .i64)) hS
      have hS := hNil (s := 1) (f := (AV.int .i64)) hS
      refine ASL.x rfl rfl (hNewZ hS [.nil, .nil] rfl zeroA_41 ⟨.inl rfl, .inl rfl, trivial⟩ ?_); rintro b8 G19 hK hS
      refine ASL.n rfl rfl (hPutA hS (j := 0) rfl rfl sizeA_41 rfl rfl rfl rfl (allC (hS.one (k := 3) rfl) (allC (hS.one (k := 4) rfl) rfl)) (nlt rfl) ?_); rintro G23 hS
      refine ASL.done ?_
      refine AWP.seqR rfl ?_
      refine ASL.q (v := v30) rfl rfl (Light.quiet (opMove rfl rfl)) ?_
      refine ASL.q (v := (.agg [w14, w16])) rfl rfl (Light.quiet (kAtA hS (j := 0) rfl rfl aggA_41 sizeA_41 rfl (nlt rfl) rfl)) ?_
      obtain ⟨a35, ha35, hF⟩ := bindE hF
      refine ASL.x rfl rfl (hCallSR hS rfl rfl call_31 (impl_LtlTable_ok ha35) ⟨.row (k := 5) rfl, .aggL ⟨.row (k := 3) rfl, .row (k := 4) rfl, trivial⟩, trivial⟩ (by rintro w24 _ G ⟨_, w25, rfl, rfl⟩ hG; exact ⟨(hG.scRs (k := 0) rfl), ⟨⟨rfl, rowsScal (fun _ => by intro c hc; simp only [cells, List.mem_singleton] at hc; subst hc; constructor) _⟩, trivial⟩⟩) ?_); rintro w24 _ G27 ⟨_, w25, rfl, rfl⟩ hK hS
      refine ASL.q (v := w24) rfl rfl (Light.quiet (opAssign rfl rfl)) ?_
      refine ASL.done ?_
      refine AWP.seq ?_
      refine AWP.seqR rfl ?_
      refine ASL.q (v := w24) rfl rfl (Light.quiet (opMove rfl rfl)) ?_
      refine ASL.q (v := w8) rfl rfl (Light.quiet (opMove rfl rfl)) ?_
      obtain ⟨a38, ha38, hF⟩ := bindE hF
      refine ASL.q (v := (.bool a38)) rfl rfl ((qCallR hS rfl rfl call_32 (laws_eqBoolSS_ok ha38) ⟨RAS.rowsF (k := 0) rfl, RAS.rowsF (k := 7) rfl, trivial⟩ (by constructor))) ?_
      refine ASL.q (v := (.bool (!a38))) rfl rfl (Light.quiet (opNot rfl rfl)) ?_
      refine ASL.done ?_
      refine AWP.ifB hF rfl (fun hc28 hF => ?_) (fun hc28 hF => ?_)
      · skip
        refine AWP.seqR rfl ?_
        refine ASL.q (v := (.bool false)) rfl rfl (Light.quiet (opAssign rfl rfl)) ?_
        refine ASL.done ?_
        refine AWP.ret ?_
        refine QThen.rt ?_
        obtain rfl := someE hF
        exact QRet.sole (v := (.bool false)) ⟨rfl, trivial⟩ rfl
      · skip
        refine AWP.skip ?_
        refine QThen.nrm ?_
        refine AWP.seq ?_
        refine AWP.seqR rfl ?_
        refine ASL.q (v := v30) rfl rfl (Light.quiet (opMove rfl rfl)) ?_
        refine ASL.q (v := (.list 3 (List.map TNode.av p0))) rfl rfl (Light.quiet (opMove rfl rfl)) ?_
        obtain ⟨a42, ha42, hF⟩ := bindE hF
        refine ASL.q (v := (.list 3 (List.map TNode.av a42))) rfl rfl ((qCall rfl rfl call_23 (PO.list (laws_toNodeS_ok ha42)) rfl)) ?_
        obtain ⟨a43, ha43, hF⟩ := bindE hF
        refine ASL.q (v := (.bool a43)) rfl rfl ((qCallR hS rfl rfl call_26 (laws_eqNodeS_ok ha43) ⟨.row (k := 6) rfl, .same _, trivial⟩ (by constructor))) ?_
        refine ASL.q (v := (.bool (!a43))) rfl rfl (Light.quiet (opNot rfl rfl)) ?_
        refine ASL.done ?_
        refine AWP.ifB hF rfl (fun hc29 hF => ?_) (fun hc29 hF => ?_)
        · skip
          refine AWP.seqR rfl ?_
          refine ASL.q (v := (.bool false)) rfl rfl (Light.quiet (opAssign rfl rfl)) ?_
          refine ASL.done ?_
          refine AWP.ret ?_
          refine QThen.rt ?_
          obtain rfl := someE hF
          exact QRet.sole (v := (.bool false)) ⟨rfl, trivial⟩ rfl
        · skip
          refine AWP.skip ?_
          refine QThen.nrm ?_
          refine AWP.seq ?_
          refine AWP.seqD [(0, false), (1, false), (2, true), (3, false), (4, false)] mixed (by kernel_rfl) rfl ?_
          refine ARL.q (v := (.agg [w14, w16])) rfl rfl (hS.aliveC (k := 1) rfl) (Light.quiet (kAtA hS (j := 1) rfl rfl aggA_41 sizeA_41 rfl (nlt rfl) rfl)) ?_
          refine ARL.q0 (v := (TWord.av p1)) rfl rfl (Light.quiet (opLoadRA rfl aggA_36 sizeA_36 rfl (nlt rfl) rfl)) ?_
          obtain ⟨a47, ha47, hF⟩ := bindE hF
          refine ARL.x rfl rfl rfl (hCallSR hS rfl rfl call_24 (laws_toWord_ok ha47) ⟨.same _, trivial⟩ (by rintro _ _ G ⟨w30, w32, rfl, rfl⟩ hG; exact ⟨(Scal.agg (ScalC.cons (hG.scR (k := 0) rfl) (ScalC.cons (hG.scR (k := 1) rfl) ScalC.nil))), ⟨(Scal.ints _ _), (Scal.ints _ _), trivial⟩⟩) ?_); rintro _ _ G34 ⟨w30, w32, rfl, rfl⟩ hK hS; refine ⟨hK, ?_⟩
          obtain ⟨a48, ha48, hF⟩ := bindE hF
          refine ARL.q (v := (.bool a48)) rfl rfl (hS.aliveAll) ((qCallR hS rfl rfl call_27 (laws_eqWord_ok ha48) ⟨.aggL ⟨.row (k := 6) rfl, .row (k := 7) rfl, trivial⟩, .aggL ⟨.row (k := 0) rfl, .row (k := 1) rfl, trivial⟩, trivial⟩ (by constructor))) ?_
          refine ARL.q0 (v := (.bool (!a48))) rfl rfl (Light.quiet (opNot rfl rfl)) ?_
          refine ARL.done ?_
          refine AWP.ifB hF rfl (fun hc35 hF => ?_) (fun hc35 hF => ?_)
          · skip
            refine AWP.seqR rfl ?_
            refine ASL.q (v := (.bool false)) rfl rfl (Light.quiet (opAssign rfl rfl)) ?_
            refine ASL.done ?_
            refine AWP.ret ?_
            refine QThen.rt ?_
            obtain rfl := someE hF
            exact QRet.sole (v := (.bool false)) ⟨rfl, trivial⟩ rfl
          · skip
            refine AWP.skip ?_
            refine QThen.nrm ?_
            refine AWP.seqR rfl ?_
            refine ASL.q (v := (.int .i64 1)) rfl rfl (Light.quiet (opAssign rfl rfl)) ?_
            refine ASL.done ?_
            refine AWP.seqR rfl ?_
            refine ASL.q (v := v30) rfl rfl (Light.quiet (opMove rfl rfl)) ?_
            refine ASL.q (v := (.int .i64 1)) rfl rfl (Light.quiet (opMove rfl rfl)) ?_
            obtain ⟨a52, ha52, hF⟩ := bindE hF
            refine ASL.x rfl rfl (hCallS hS [8, 0, 1, 2, 3, 4, 5, 6, 7, 9, 10, 11] (F := [.row 1 w30 (List.map (AV.int .i64) a47.stem), .row 1 w32 (List.map (AV.int .i64) a47.loop), .rows 1 w24 w25 (List.map (List.map AV.bool) a35) none, .cell b8 [w14, w16], .row 1 .nil (List.map (AV.int .i64) ([])), .row 1 .nil (List.map (AV.int .i64) ([])), .row 1 w14 (List.map (AV.int .i64) a32.stem), .row 1 w16 (List.map (AV.int .i64) a32.loop), .rows 1 w8 w9 (List.map (List.map AV.bool) a28) none, .row 1 w3 (List.map (AV.int .i64) a27.stem), .row 1 w5 (List.map (AV.int .i64) a27.loop)]) rfl rfl rfl call_33 (laws_markNodeS_ok ha52) rfl rfl ?_); rintro _ _ G36 ⟨rfl, rfl⟩ hS
            refine ASL.q (v := (.int .i64 a52.1)) rfl rfl (Light.quiet (opAssign rfl rfl)) ?_
            refine ASL.done ?_
            refine AWP.seqR rfl ?_
            refine ASL.q (v := (.agg [w14, w16])) rfl rfl (Light.quiet (kAtA hS (j := 4) rfl rfl aggA_41 sizeA_41 rfl (nlt rfl) rfl)) ?_
            refine ASL.q (v := (.int .i64 a52.1)) rfl rfl (Light.quiet (opMove rfl rfl)) ?_
            obtain ⟨a55, ha55, hF⟩ := bindE hF
            refine ASL.x rfl rfl (hCallS hS [7, 8, 0, 1, 2, 3, 4, 5, 6, 9, 10, 11] (F := [.row 3 v30 (List.map TNode.av a52.2), .row 1 w30 (List.map (AV.int .i64) a47.stem), .row 1 w32 (List.map (AV.int .i64) a47.loop), .rows 1 w24 w25 (List.map (List.map AV.bool) a35) none, .cell b8 [w14, w16], .row 1 .nil (List.map (AV.int .i64) ([])), .row 1 .nil (List.map (AV.int .i64) ([])), .rows 1 w8 w9 (List.map (List.map AV.bool) a28) none, .row 1 w3 (List.map (AV.int .i64) a27.stem), .row 1 w5 (List.map (AV.int .i64) a27.loop)]) rfl rfl rfl call_34 (laws_markWord_ok ha55) rfl rfl ?_); rintro _ _ G37 ⟨rfl, rfl⟩ hS
            refine ASL.q (v := (.int .i64 a55.1)) rfl rfl (Light.quiet (opAssign rfl rfl)) ?_
            refine ASL.done ?_
            refine AWP.seq ?_
            refine AWP.seqR rfl ?_
            refine ASL.q (v := (.int .i64 a55.1)) rfl rfl (Light.quiet (opMove rfl rfl)) ?_
            refine ASL.q (v := (.bool (decide (a55.1 < 0)))) rfl rfl (Light.quiet (opInt rfl rfl rfl rfl)) ?_
            obtain ⟨c58, hc58, hF⟩ := bndE hF
            refine ASL.q (v := (.bool c58)) rfl rfl ((Quiet.cast (Light.quiet (opMove rfl rfl)) (congrArg AV.bool hc58.symm))) ?_
            refine ASL.g (v := w24) (.bool c58) false rfl (wF _) rfl (fun hG => by have q0 := gN hG; subst q0; exact Light.quiet (opMove rfl rfl)) ?_
            refine ASL.g (v := w8) (.bool c58) false rfl (wF _) rfl (fun hG => by have q0 := gN hG; subst q0; exact Light.quiet (opMove rfl rfl)) ?_
            obtain ⟨a61, ha61, hF⟩ := bindE hF
            refine ASL.g (v := (.bool a61)) (.bool c58) false rfl (wF _) rfl (fun hG => by have q0 := gN hG; subst q0; exact (qCallR hS rfl rfl call_32 (laws_eqBoolSS_ok (whenE ha61)) ⟨RAS.rowsF (k := 5) rfl, RAS.rowsF (k := 9) rfl, trivial⟩ (by constructor))) ?_
            refine ASL.g (v := (.bool (!a61))) (.bool c58) false rfl (wF _) rfl (fun hG => by have q0 := gN hG; subst q0; exact Light.quiet (opNot rfl rfl)) ?_
            refine ASL.q (v := (.bool (c58 || (!a61)))) rfl rfl (Light.quiet (opPick (b := c58) rfl rfl (by cases c58 <;> rfl))) ?_
            refine ASL.done ?_
            refine AWP.ifB hF rfl (fun hc38 hF => ?_) (fun hc38 hF => ?_)
            · skip
              refine AWP.seqR rfl ?_
              refine ASL.q (v := (.bool false)) rfl rfl (Light.quiet (opAssign rfl rfl)) ?_
              refine ASL.done ?_
              refine AWP.ret ?_
              refine QThen.rt ?_
              obtain rfl := someE hF
              exact QRet.sole (v := (.bool false)) ⟨rfl, trivial⟩ rfl
            · skip
              refine AWP.skip ?_
              refine QThen.nrm ?_
              refine AWP.seqR rfl ?_
              refine ASL.q (v := (.int .i64 1)) rfl rfl (Light.quiet (opAssign rfl rfl)) ?_
              refine ASL.done ?_
              refine AWP.seqR rfl ?_
              refine ASL.q (v := w24) rfl rfl (Light.quiet (opMove rfl rfl)) ?_
              refine ASL.q (v := (.int .i64 1)) rfl rfl (Light.quiet (opMove rfl rfl)) ?_
              obtain ⟨a66, ha66, hF⟩ := bindE hF
              refine ASL.x rfl rfl (hCallS hS [5, 0, 1, 2, 3, 4, 6, 7, 8, 9, 10, 11] (F := [.row 1 w14 (List.map (AV.int .i64) a55.2.stem), .row 1 w16 (List.map (AV.int .i64) a55.2.loop), .row 3 v30 (List.map TNode.av a52.2), .row 1 w30 (List.map (AV.int .i64) a47.stem), .row 1 w32 (List.map (AV.int .i64) a47.loop), .cell b8 [w14, w16], .row 1 .nil (List.map (AV.int .i64) ([])), .row 1 .nil (List.map (AV.int .i64) ([])), .rows 1 w8 w9 (List.map (List.map AV.bool) a28) none, .row 1 w3 (List.map (AV.int .i64) a27.stem), .row 1 w5 (List.map (AV.int .i64) a27.loop)]) rfl rfl rfl call_35 (laws_markBoolSS_ok ha66) rfl rfl ?_); rintro _ _ G39 ⟨rfl, rfl⟩ hS
              refine ASL.q (v := (.int .i64 a66.1)) rfl rfl (Light.quiet (opAssign rfl rfl)) ?_
              refine ASL.done ?_
              refine AWP.seqR rfl ?_
              refine ASL.q (v := (.int .i64 1)) rfl rfl (Light.quiet (opAssign rfl rfl)) ?_
              refine ASL.done ?_
              refine AWP.seqR rfl ?_
              refine ASL.q (v := w24) rfl rfl (Light.quiet (opMove rfl rfl)) ?_
              refine ASL.q (v := (.int .i64 1)) rfl rfl (Light.quiet (opMove rfl rfl)) ?_
              obtain ⟨a69, ha69, hF⟩ := bindE hF
              refine ASL.q (v := (.int .i64 a69)) rfl rfl ((qCallR hS rfl rfl call_36 (laws_heldBoolSS_ok ha69) ⟨RAS.rowsF (k := 0) rfl, .same _, trivial⟩ (by constructor))) ?_
              refine ASL.q (v := (.int .i64 a69)) rfl rfl (Light.quiet (opAssign rfl rfl)) ?_
              refine ASL.done ?_
              refine AWP.seq ?_
              refine AWP.seqR rfl ?_
              refine ASL.q (v := (.int .i64 a69)) rfl rfl (Light.quiet (opMove rfl rfl)) ?_
              refine ASL.q (v := (.bool (decide (a69 < 0)))) rfl rfl (Light.quiet (opInt rfl rfl rfl rfl)) ?_
              refine ASL.done ?_
              refine AWP.ifP hF rfl (fun hc40 hF => ?_) (fun hc40 hF => ?_)
              · skip
                refine AWP.seqR rfl ?_
                refine ASL.q (v := (.bool false)) rfl rfl (Light.quiet (opAssign rfl rfl)) ?_
                refine ASL.done ?_
                refine AWP.ret ?_
                refine QThen.rt ?_
                obtain rfl := someE hF
                exact QRet.sole (v := (.bool false)) ⟨rfl, trivial⟩ rfl
              · skip
                refine AWP.skip ?_
                refine QThen.nrm ?_
                refine AWP.seq ?_
                refine AWP.seqR rfl ?_
                refine ASL.q (v := (.int .i64 a69)) rfl rfl (Light.quiet (opMove rfl rfl)) ?_
                refine ASL.q (v := (.int .i64 a66.1)) rfl rfl (Light.quiet (opMove rfl rfl)) ?_
                refine ASL.q (v := (.bool (decide (a69 ≠ a66.1)))) rfl rfl (Light.quiet (opInt rfl rfl rfl rfl)) ?_
                refine ASL.done ?_
                refine AWP.ifP hF rfl (fun hc41 hF => ?_) (fun hc41 hF => ?_)
                · skip
                  refine AWP.seqR rfl ?_
                  refine ASL.q (v := (.bool false)) rfl rfl (Light.quiet (opAssign rfl rfl)) ?_
                  refine ASL.done ?_
                  refine AWP.ret ?_
                  refine QThen.rt ?_
                  obtain rfl := someE hF
                  exact QRet.sole (v := (.bool false)) ⟨rfl, trivial⟩ rfl
                · skip
                  refine AWP.skip ?_
                  refine QThen.nrm ?_
                  refine AWP.seqD [(0, false), (1, false), (2, false), (3, true), (4, true), (5, false)] mixed (by kernel_rfl) rfl ?_
                  refine ARL.q0 (v := (.list 3 (List.map TNode.av p0))) rfl rfl (Light.quiet (opMove rfl rfl)) ?_
                  obtain ⟨a76, ha76, hF⟩ := bindE hF
                  refine ARL.q0 (v := (.list 3 (List.map TNode.av a76))) rfl rfl ((qCall rfl rfl call_23 (PO.list (laws_toNodeS_ok ha76)) rfl)) ?_
                  refine ARL.q0 (v := (TWord.av p1)) rfl rfl (Light.quiet (opLoadRA rfl aggA_36 sizeA_36 rfl (nlt rfl) rfl)) ?_
                  obtain ⟨a78, ha78, hF⟩ := bindE hF
                  refine ARL.x rfl rfl rfl (hCallSR hS rfl rfl call_24 (laws_toWord_ok ha78) ⟨.same _, trivial⟩ (by rintro _ _ G ⟨w42, w44, rfl, rfl⟩ hG; exact ⟨(Scal.agg (ScalC.cons (hG.scR (k := 0) rfl) (ScalC.cons (hG.scR (k := 1) rfl) ScalC.nil))), ⟨(Scal.ints _ _), (Scal.ints _ _), trivial⟩⟩) ?_); rintro _ _ G46 ⟨w42, w44, rfl, rfl⟩ hK hS; refine ⟨hK, ?_⟩
                  obtain ⟨a79, ha79, hF⟩ := bindE hF
                  refine ARL.x rfl rfl rfl (hCallSR hS rfl rfl call_31 (impl_LtlTable_ok ha79) ⟨.same _, .aggL ⟨.row (k := 0) rfl, .row (k := 1) rfl, trivial⟩, trivial⟩ (by rintro w47 _ G ⟨_, w48, rfl, rfl⟩ hG; exact ⟨(hG.scRs (k := 0) rfl), ⟨⟨rfl, rowsScal (fun _ => by intro c hc; simp only [cells, List.mem_singleton] at hc; subst hc; constructor) _⟩, trivial⟩⟩) ?_); rintro w47 _ G50 ⟨_, w48, rfl, rfl⟩ hK hS; refine ⟨hK, ?_⟩
                  refine ARL.q0 (v := w47) rfl rfl (Light.quiet (opAssign rfl rfl)) ?_
                  refine ARL.done ?_
                  refine AWP.seq ?_
                  refine AWP.seqR rfl ?_
                  refine ASL.q (v := w47) rfl rfl (Light.quiet (opMove rfl rfl)) ?_
                  refine ASL.q (v := w8) rfl rfl (Light.quiet (opMove rfl rfl)) ?_
                  obtain ⟨a82, ha82, hF⟩ := bindE hF
                  refine ASL.q (v := (.bool a82)) rfl rfl ((qCallR hS rfl rfl call_32 (laws_eqBoolSS_ok ha82) ⟨RAS.rowsF (k := 0) rfl, RAS.rowsF (k := 12) rfl, trivial⟩ (by constructor))) ?_
                  refine ASL.q (v := (.bool (!a82))) rfl rfl (Light.quiet (opNot rfl rfl)) ?_
                  refine ASL.done ?_
                  refine AWP.ifB hF rfl (fun hc51 hF => ?_) (fun hc51 hF => ?_)
                  · skip
                    refine AWP.seqR rfl ?_
                    refine ASL.q (v := (.bool false)) rfl rfl (Light.quiet (opAssign rfl rfl)) ?_
                    refine ASL.done ?_
                    refine AWP.ret ?_
                    refine QThen.rt ?_
                    obtain rfl := someE hF
                    exact QRet.sole (v := (.bool false)) ⟨rfl, trivial⟩ rfl
                  · skip
                    refine AWP.skip ?_
                    refine QThen.nrm ?_
                    refine AWP.seqR rfl ?_
                    refine ASL.q (v := (.int .i64 1)) rfl rfl (Light.quiet (opAssign rfl rfl)) ?_
                    refine ASL.done ?_
                    refine AWP.seqR rfl ?_
                    refine ASL.q (v := w24) rfl rfl (Light.quiet (opMove rfl rfl)) ?_
                    refine ASL.q (v := (.int .i64 1)) rfl rfl (Light.quiet (opMove rfl rfl)) ?_
                    obtain ⟨a86, ha86, hF⟩ := bindE hF
                    refine ASL.q (v := (.int .i64 a86)) rfl rfl ((qCallR hS rfl rfl call_36 (laws_heldBoolSS_ok ha86) ⟨RAS.rowsF (k := 3) rfl, .same _, trivial⟩ (by constructor))) ?_
                    refine ASL.q (v := (.int .i64 a86)) rfl rfl (Light.quiet (opAssign rfl rfl)) ?_
                    refine ASL.done ?_
                    refine AWP.seq ?_
                    refine AWP.seqR rfl ?_
                    refine ASL.q (v := (.int .i64 a86)) rfl rfl (Light.quiet (opMove rfl rfl)) ?_
                    refine ASL.q (v := (.bool (decide (a86 < 0)))) rfl rfl (Light.quiet (opInt rfl rfl rfl rfl)) ?_
                    refine ASL.done ?_
                    refine AWP.ifP hF rfl (fun hc52 hF => ?_) (fun hc52 hF => ?_)
                    · skip
                      refine AWP.seqR rfl ?_
                      refine ASL.q (v := (.bool false)) rfl rfl (Light.quiet (opAssign rfl rfl)) ?_
                      refine ASL.done ?_
                      refine AWP.ret ?_
                      refine QThen.rt ?_
                      obtain rfl := someE hF
                      exact QRet.sole (v := (.bool false)) ⟨rfl, trivial⟩ rfl
                    · skip
                      refine AWP.skip ?_
                      refine QThen.nrm ?_
                      refine AWP.seq ?_
                      refine AWP.seqR rfl ?_
                      refine ASL.q (v := (.int .i64 a86)) rfl rfl (Light.quiet (opMove rfl rfl)) ?_
                      refine ASL.q (v := (.int .i64 a66.1)) rfl rfl (Light.quiet (opMove rfl rfl)) ?_
                      refine ASL.q (v := (.bool (decide (a86 ≠ a66.1)))) rfl rfl (Light.quiet (opInt rfl rfl rfl rfl)) ?_
                      refine ASL.done ?_
                      refine AWP.ifP hF rfl (fun hc53 hF => ?_) (fun hc53 hF => ?_)
                      · skip
                        refine AWP.seqR rfl ?_
                        refine ASL.q (v := (.bool false)) rfl rfl (Light.quiet (opAssign rfl rfl)) ?_
                        refine ASL.done ?_
                        refine AWP.ret ?_
                        refine QThen.rt ?_
                        obtain rfl := someE hF
                        exact QRet.sole (v := (.bool false)) ⟨rfl, trivial⟩ rfl
                      · skip
                        refine AWP.skip ?_
                        refine QThen.nrm ?_
                        refine AWP.seqR rfl ?_
                        refine ASL.q (v := (.bool true)) rfl rfl (Light.quiet (opAssign rfl rfl)) ?_
                        refine ASL.done ?_
                        refine AWP.ret ?_
                        obtain rfl := someE hF
                        exact QRet.sole (v := (.bool true)) ⟨rfl, trivial⟩ rfl

end Go.Proofs.Ytjjlkncefgfljaa
