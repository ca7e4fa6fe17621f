/- Each of these functions of the program comes to just what its plain function says: FnReText. -/
import Derived.Test.YtmmgpcnngaekoaaDReText
import Derived.Test.YtmmgpcnngaekoaaFa
import Derived.Test.YtmmgpcnngaekoaaKReParts
import Derived.Test.YtmmgpcnngaekoaaKOmegaPrint
namespace Go.Proofs.Ytmmgpcnngaekoaa
open Go Go.RowKit E
set_option linter.unusedVariables false
set_option maxRecDepth 10000 in
theorem spec_DrawRePrint_ok {K : Nat} {p0 : (List Int)} {r : (List TNode)} (hF : spec_DrawRePrint K p0 = some r) : PO Try.prog 18 [(.list 1 (List.map (AV.int .u8) p0))] 3 (List.map TNode.av r) := by
  refine HC.enter Try.func18 rfl Try.ntmps18 (by simp) ?_
  have hS := Sep.void; unfold spec_DrawRePrint at hF
  refine AWP.seqR rfl ?_
  have hS := hNil (s := 3) (f := TNode.av) hS
  refine ASL.q (v := .nil) rfl rfl (Light.quiet (opAssign rfl rfl)) ?_
  refine ASL.done ?_
  refine AWP.seqR rfl ?_
  refine ASL.q (v := (.list 1 (List.map (AV.int .u8) p0))) rfl rfl (Light.quiet (opMove rfl rfl)) ?_
  obtain ⟨a4, ha4, hF⟩ := bindE hF
  refine ASL.x rfl rfl (hCallS hS [0] (F := [.row 3 .nil (List.map TNode.av ([]))]) rfl rfl rfl call_31 (spec_l1New_ok ha4) rfl rfl ?_); rintro _ _ G4 ⟨bq2, rfl, rfl⟩ hS
  obtain ⟨a5, ha5, hF⟩ := bindE hF
  refine ASL.x rfl rfl (hCallS hS [0, 1] (F := [.row 3 .nil (List.map TNode.av ([]))]) rfl rfl rfl call_32 (spec_l11DrawAny_ok ha5) rfl rfl ?_); rintro w5 _ G7 ⟨_, rfl, rfl⟩ hS
  refine ASL.q (v := w5) rfl rfl (Light.quiet (opAssign rfl rfl)) ?_
  refine ASL.done ?_
  refine AWP.ret ?_
  obtain rfl := someE hF
  exact QRet.sole (v := w5) ⟨rfl, trivial⟩ (hS.get (k := 0) rfl)

set_option maxRecDepth 10000 in
theorem slices_Clip_impl_Node_impl_Node_ok {p0 : (List TNode)} {r : (List TNode)} {vp0 : AV} (hF : slices_Clip_impl_Node_impl_Node p0 = some r) : HS Try.prog 79 [vp0] [.row 3 vp0 (List.map TNode.av p0)] fun v L' => ∃ o0 : AV, v = o0 ∧ L' = [.row 3 o0 (List.map TNode.av r)] := by
  intro H S hS
  refine HC.enter Try.func79 rfl Try.ntmps79 (by simp) ?_
  simp only [List.cons_append, List.nil_append] at hS
  unfold slices_Clip_impl_Node_impl_Node at hF
  refine AWP.seqR rfl ?_
  have hS := hNil (s := 3) (f := TNode.av) hS
  refine ASL.q (v := .nil) rfl rfl (Light.quiet (opAssign rfl rfl)) ?_
  refine ASL.done ?_
  refine AWP.seqR rfl ?_
  refine ASL.q (v := vp0) rfl rfl (Light.quiet (opMove rfl rfl)) ?_
  refine ASL.q (v := vp0) rfl rfl (Light.quiet (opMove rfl rfl)) ?_
  refine ASL.q (v := (.int .i64 (p0.length : Int))) rfl rfl (Light.quiet (kLen hS (j := 1) rfl rfl rfl rfl lenT_24 rfl)) ?_
  refine ASL.q (v := vp0) rfl rfl (Light.quiet (opMove rfl rfl)) ?_
  refine ASL.q (v := (.int .i64 (p0.length : Int))) rfl rfl (Light.quiet (kLen hS (j := 1) rfl rfl rfl rfl lenT_24 rfl)) ?_
  obtain ⟨a8, ha8, hF⟩ := bindE hF
  refine ASL.x rfl rfl (hCutO (f := TNode.av) hS (j := 1) rfl ha8 rfl elemA_24 sizeA_31 rfl (.inl ⟨rfl, rfl⟩) (.inr ⟨_, _, rfl, rfl, .inr ⟨_, _, rfl, rfl⟩⟩) ?_); rintro v8 G3 hS
  refine ASL.q (v := v8) rfl rfl (Light.quiet (opAssign rfl rfl)) ?_
  refine ASL.done ?_
  refine AWP.ret ?_
  obtain rfl := someE hF
  exact QRet.sole (v := v8) ⟨rfl, trivial⟩ ⟨_, ⟨v8, rfl, rfl⟩, hS.pick [1, 2] rfl rfl⟩

set_option maxRecDepth 10000 in
theorem impl_parsed_ok {p0 : ByteArray} {g1 : (Treader → Option (Treader))} {r : ((List TNode) × Int × Int)} {k1 : Nat} (hcal1 : callable Try.prog k1 = true) (hg1 : ∀ q0 y bq0 wq0_list, g1 q0 = some y → HS Try.prog k1 [(.ptr bq0 0)] [.cell bq0 [(.str q0.s), (.int .i64 q0.at_), (.int .i64 q0.code), wq0_list, .undef], .row 3 wq0_list (List.map TNode.av q0.list)] fun v L' => ∃ uq0_list : AV, v = .tup [] ∧ L' = [.cell bq0 [(.str y.s), (.int .i64 y.at_), (.int .i64 y.code), uq0_list, .undef], .row 3 uq0_list (List.map TNode.av y.list)]) (hF : impl_parsed p0 g1 = some r) : HS Try.prog 52 [(.str p0), (.fn (.func k1) [] [])] [] fun v L' => ∃ o0 : AV, v = .tup [o0, (.int .i64 r.2.1), (.int .i64 r.2.2)] ∧ L' = [.row 3 o0 (List.map TNode.av r.1)] := by
  intro H S hS
  refine HC.enter Try.func52 rfl Try.ntmps52 (by simp) ?_
  simp only [List.cons_append, List.nil_append] at hS
  unfold impl_parsed at hF
  refine AWP.seqR rfl ?_
  have hS := hNil (s := 3) (f := TNode.av) hS
  refine ASL.q (v := .nil) rfl rfl (Light.quiet (opAssign rfl rfl)) ?_
  refine ASL.q (v := (.int .i64 0)) rfl rfl (Light.quiet (opAssign rfl rfl)) ?_
  refine ASL.q (v := (.int .i64 0)) rfl rfl (Light.quiet (opAssign rfl rfl)) ?_
  refine ASL.done ?_
  refine AWP.seq ?_
  refine AWP.seqR rfl ?_
  refine ASL.q (v := (.str p0)) rfl rfl (Light.quiet (opMove rfl rfl)) ?_
  refine ASL.q (v := (.int .i64 (p0.size : Int))) rfl rfl (Light.quiet (opLenOf rfl rfl rfl lenT_9 rfl rfl)) ?_
  refine ASL.q (v := (.bool (decide (((p0.size : Int)) > 200)))) rfl rfl (Light.quiet (opInt rfl rfl rfl rfl)) ?_
  refine ASL.done ?_
  refine AWP.ifP hF rfl (fun hc2 hF => ?_) (fun hc2 hF => ?_)
  · skip
    refine AWP.seqR rfl ?_
    have hS := hNil (s := 3) (f := TNode.av) hS
    refine ASL.q (v := .nil) rfl rfl (Light.quiet (opAssign rfl rfl)) ?_
    refine ASL.q (v := (.int .i64 0)) rfl rfl (Light.quiet (opAssign rfl rfl)) ?_
    refine ASL.q (v := (.int .i64 1)) rfl rfl (Light.quiet (opAssign rfl rfl)) ?_
    refine ASL.done ?_
    refine AWP.ret ?_
    refine QThen.rt ?_
    obtain rfl := someE hF
    exact QRet.many (vs := [.nil, (.int .i64 0), (.int .i64 1)]) ⟨rfl, rfl, rfl, trivial⟩ (by simp) ⟨_, ⟨.nil, rfl, rfl⟩, hS.pick [0, 2] rfl rfl⟩
  · skip
    refine AWP.skip ?_
    refine QThen.nrm ?_
    refine AWP.seqR rfl ?_
    refine ASL.q (v := (.str p0)) rfl rfl (Light.quiet (opMove rfl rfl)) ?_
    refine ASL.q (v := (.agg [(.str p0), (.int .i64 0), (.int .i64 0), .nil, .undef])) rfl rfl (Light.quiet (opBuildZ (zs := [(.str ⟨#[]⟩), (.int .i64 0), (.int .i64 0), .nil, .undef]) rfl plan_104 zeroA_104 ⟨.inl rfl, .inl rfl, .inl rfl, .inl rfl, .inl rfl, trivial⟩ rfl)) ?_
    have hS := hNil (s := 3) (f := TNode.av) hS
    refine ASL.x rfl rfl (hBox hS rfl rfl rfl ?_); rintro b13 G4 hK hS
    refine ASL.q (v := (.ptr b13 0)) rfl rfl (Light.quiet (opAssign rfl rfl)) ?_
    refine ASL.done ?_
    refine AWP.seqR rfl ?_
    refine ASL.q (v := (.fn (.func k1) [] [])) rfl rfl (Light.quiet (opMove rfl rfl)) ?_
    refine ASL.q (v := (.ptr b13 0)) rfl rfl (Light.quiet (opMove rfl rfl)) ?_
    obtain ⟨a16, ha16, hF⟩ := bindE hF
    refine ASL.x rfl rfl (hCallS hS [0, 1, 2, 3] (F := [.row 3 .nil (List.map TNode.av ([])), .snap S]) rfl rfl rfl hcal1 ((hg1 _ _ _ _) ha16) rfl rfl ?_); rintro _ _ G9 ⟨w7, rfl, rfl⟩ hS
    refine ASL.done ?_
    refine AWP.seq ?_
    refine AWP.block ?_
    refine AWP.seqR rfl ?_
    refine ASL.q (v := (.ptr b13 0)) rfl rfl (Light.quiet (opMove rfl rfl)) ?_
    refine ASL.q (v := (.ptr b13 0)) rfl rfl (Light.quiet (opNil rfl rfl rfl)) ?_
    refine ASL.q (v := (.ptr b13 2)) rfl rfl (Light.quiet (opFieldAddr rfl fieldA_104_2 rfl rfl)) ?_
    refine ASL.q (v := (.int .i64 a16.code)) rfl rfl (Light.quiet (kAt hS (j := 0) rfl rfl aggA_3 rfl rfl)) ?_
    refine ASL.q (v := (.bool (decide (a16.code ≠ 0)))) rfl rfl (Light.quiet (opInt rfl rfl rfl rfl)) ?_
    refine ASL.q (v := (.bool (decide (a16.code ≠ 0)))) rfl rfl (Light.quiet (opAssign rfl rfl)) ?_
    refine ASL.done ?_
    refine AWP.ifP hF rfl (fun hc10 hF => ?_) (fun hc10 hF => ?_)
    · skip
      refine AWP.seqD [(0, false), (1, false), (2, false), (3, false), (4, false), (5, false), (6, false), (7, false), (8, false), (9, false), (10, false)] mixed (by kernel_rfl) rfl ?_
      refine ARL.q0 (v := (.ptr b13 0)) rfl rfl (Light.quiet (opMove rfl rfl)) ?_
      refine ARL.q0 (v := (.ptr b13 0)) rfl rfl (Light.quiet (opNil rfl rfl rfl)) ?_
      refine ARL.q0 (v := (.ptr b13 1)) rfl rfl (Light.quiet (opFieldAddr rfl fieldA_104_1 rfl rfl)) ?_
      refine ARL.q (v := (.int .i64 a16.at_)) rfl rfl (hS.aliveC (k := 0) rfl) (Light.quiet (kAt hS (j := 0) rfl rfl aggA_3 rfl rfl)) ?_
      refine ARL.q0 (v := (.ptr b13 0)) rfl rfl (Light.quiet (opMove rfl rfl)) ?_
      refine ARL.q0 (v := (.ptr b13 0)) rfl rfl (Light.quiet (opNil rfl rfl rfl)) ?_
      refine ARL.q0 (v := (.ptr b13 2)) rfl rfl (Light.quiet (opFieldAddr rfl fieldA_104_2 rfl rfl)) ?_
      refine ARL.q (v := (.int .i64 a16.code)) rfl rfl (hS.aliveC (k := 0) rfl) (Light.quiet (kAt hS (j := 0) rfl rfl aggA_3 rfl rfl)) ?_
      have hS := hNil (s := 3) (f := TNode.av) hS
      refine ARL.q0 (v := .nil) rfl rfl (Light.quiet (opAssign rfl rfl)) ?_
      refine ARL.q0 (v := (.int .i64 a16.at_)) rfl rfl (Light.quiet (opAssign rfl rfl)) ?_
      refine ARL.q0 (v := (.int .i64 a16.code)) rfl rfl (Light.quiet (opAssign rfl rfl)) ?_
      refine ARL.done ?_
      refine AWP.ret ?_
      refine QBlock.ret ?_
      refine QThen.rt ?_
      obtain rfl := someE hF
      exact QRet.many (vs := [.nil, (.int .i64 a16.at_), (.int .i64 a16.code)]) ⟨rfl, rfl, rfl, trivial⟩ (by simp) ⟨_, ⟨.nil, rfl, rfl⟩, hS.pick [0, 4] rfl rfl⟩
    · skip
      refine AWP.seqR rfl ?_
      refine ASL.q (v := (.ptr b13 0)) rfl rfl (Light.quiet (opMove rfl rfl)) ?_
      refine ASL.q (v := (.ptr b13 0)) rfl rfl (Light.quiet (opNil rfl rfl rfl)) ?_
      refine ASL.q (v := (.ptr b13 1)) rfl rfl (Light.quiet (opFieldAddr rfl fieldA_104_1 rfl rfl)) ?_
      refine ASL.q (v := (.int .i64 a16.at_)) rfl rfl (Light.quiet (kAt hS (j := 0) rfl rfl aggA_3 rfl rfl)) ?_
      refine ASL.q (v := (.str p0)) rfl rfl (Light.quiet (opMove rfl rfl)) ?_
      refine ASL.q (v := (.int .i64 (p0.size : Int))) rfl rfl (Light.quiet (opLenOf rfl rfl rfl lenT_9 rfl rfl)) ?_
      refine ASL.q (v := (.bool (decide (a16.at_ < ((p0.size : Int)))))) rfl rfl (Light.quiet (opInt rfl rfl rfl rfl)) ?_
      refine ASL.q (v := (.bool (decide (a16.at_ < ((p0.size : Int)))))) rfl rfl (Light.quiet (opAssign rfl rfl)) ?_
      refine ASL.done ?_
      refine AWP.ifP hF rfl (fun hc12 hF => ?_) (fun hc12 hF => ?_)
      · skip
        refine AWP.seqD [(0, false), (1, false), (2, false), (3, false), (4, false), (5, false), (6, false)] mixed (by kernel_rfl) rfl ?_
        refine ARL.q0 (v := (.ptr b13 0)) rfl rfl (Light.quiet (opMove rfl rfl)) ?_
        refine ARL.q0 (v := (.ptr b13 0)) rfl rfl (Light.quiet (opNil rfl rfl rfl)) ?_
        refine ARL.q0 (v := (.ptr b13 1)) rfl rfl (Light.quiet (opFieldAddr rfl fieldA_104_1 rfl rfl)) ?_
        refine ARL.q (v := (.int .i64 a16.at_)) rfl rfl (hS.aliveC (k := 0) rfl) (Light.quiet (kAt hS (j := 0) rfl rfl aggA_3 rfl rfl)) ?_
        have hS := hNil (s := 3) (f := TNode.av) hS
        refine ARL.q0 (v := .nil) rfl rfl (Light.quiet (opAssign rfl rfl)) ?_
        refine ARL.q0 (v := (.int .i64 a16.at_)) rfl rfl (Light.quiet (opAssign rfl rfl)) ?_
        refine ARL.q0 (v := (.int .i64 5)) rfl rfl (Light.quiet (opAssign rfl rfl)) ?_
        refine ARL.done ?_
        refine AWP.ret ?_
        refine QBlock.ret ?_
        refine QThen.rt ?_
        obtain rfl := someE hF
        exact QRet.many (vs := [.nil, (.int .i64 a16.at_), (.int .i64 5)]) ⟨rfl, rfl, rfl, trivial⟩ (by simp) ⟨_, ⟨.nil, rfl, rfl⟩, hS.pick [0, 4] rfl rfl⟩
      · skip
        refine AWP.seqR rfl ?_
        refine ASL.q (v := (.ptr b13 0)) rfl rfl (Light.quiet (opMove rfl rfl)) ?_
        refine ASL.q (v := (.ptr b13 0)) rfl rfl (Light.quiet (opNil rfl rfl rfl)) ?_
        refine ASL.q (v := (.ptr b13 3)) rfl rfl (Light.quiet (opFieldAddr rfl fieldA_104_3 rfl rfl)) ?_
        refine ASL.q (v := w7) rfl rfl (Light.quiet (kAt hS (j := 0) rfl rfl aggA_24 rfl rfl)) ?_
        refine ASL.q (v := (.int .i64 (a16.list.length : Int))) rfl rfl (Light.quiet (kLen hS (j := 1) rfl rfl rfl rfl lenT_24 rfl)) ?_
        refine ASL.q (v := (.bool (decide (((a16.list.length : Int)) > 31)))) rfl rfl (Light.quiet (opInt rfl rfl rfl rfl)) ?_
        refine ASL.q (v := (.bool (decide (((a16.list.length : Int)) > 31)))) rfl rfl (Light.quiet (opAssign rfl rfl)) ?_
        refine ASL.done ?_
        refine AWP.ifP hF rfl (fun hc14 hF => ?_) (fun hc14 hF => ?_)
        · skip
          refine AWP.seqR rfl ?_
          have hS := hNil (s := 3) (f := TNode.av) hS
          refine ASL.q (v := .nil) rfl rfl (Light.quiet (opAssign rfl rfl)) ?_
          refine ASL.q (v := (.int .i64 0)) rfl rfl (Light.quiet (opAssign rfl rfl)) ?_
          refine ASL.q (v := (.int .i64 4)) rfl rfl (Light.quiet (opAssign rfl rfl)) ?_
          refine ASL.done ?_
          refine AWP.ret ?_
          refine QBlock.ret ?_
          refine QThen.rt ?_
          obtain rfl := someE hF
          exact QRet.many (vs := [.nil, (.int .i64 0), (.int .i64 4)]) ⟨rfl, rfl, rfl, trivial⟩ (by simp) ⟨_, ⟨.nil, rfl, rfl⟩, hS.pick [0, 4] rfl rfl⟩
        · skip
          refine AWP.skip ?_
          refine QBlock.nrm ?_
          refine QThen.nrm ?_
          refine AWP.seqR rfl ?_
          refine ASL.q (v := (.ptr b13 0)) rfl rfl (Light.quiet (opMove rfl rfl)) ?_
          refine ASL.q (v := (.ptr b13 0)) rfl rfl (Light.quiet (opNil rfl rfl rfl)) ?_
          refine ASL.q (v := (.ptr b13 3)) rfl rfl (Light.quiet (opFieldAddr rfl fieldA_104_3 rfl rfl)) ?_
          refine ASL.q (v := w7) rfl rfl (Light.quiet (kAt hS (j := 0) rfl rfl aggA_24 rfl rfl)) ?_
          obtain ⟨a54, ha54, hF⟩ := bindE hF
          refine ASL.x rfl rfl (hCallS hS [1, 0, 2, 3] (F := [.cell b13 [(.str a16.s), (.int .i64 a16.at_), (.int .i64 a16.code), w7, .undef], .row 3 .nil (List.map TNode.av ([])), .snap S]) rfl rfl rfl call_79 (slices_Clip_impl_Node_impl_Node_ok ha54) rfl rfl ?_); rintro w16 _ G18 ⟨_, rfl, rfl⟩ hS
          refine ASL.q (v := (.str p0)) rfl rfl (Light.quiet (opMove rfl rfl)) ?_
          refine ASL.q (v := (.int .i64 (p0.size : Int))) rfl rfl (Light.quiet (opLenOf rfl rfl rfl lenT_9 rfl rfl)) ?_
          refine ASL.q (v := w16) rfl rfl (Light.quiet (opAssign rfl rfl)) ?_
          refine ASL.q (v := (.int .i64 (p0.size : Int))) rfl rfl (Light.quiet (opAssign rfl rfl)) ?_
          refine ASL.q (v := (.int .i64 0)) rfl rfl (Light.quiet (opAssign rfl rfl)) ?_
          refine ASL.done ?_
          refine AWP.ret ?_
          obtain rfl := someE hF
          exact QRet.many (vs := [w16, (.int .i64 (p0.size : Int)), (.int .i64 0)]) ⟨rfl, rfl, rfl, trivial⟩ (by simp) ⟨_, ⟨w16, rfl, rfl⟩, hS.pick [0, 3] rfl rfl⟩

set_option maxRecDepth 10000 in
theorem impl_reader_peek_ok {p0 : Treader} {r : Int} (hF : impl_reader_peek p0 = some r) : PC Try.prog 101 [(.rptr [(.str p0.s), (.int .i64 p0.at_), (.int .i64 p0.code), (.list 3 (List.map TNode.av p0.list)), .undef])] fun v => v = (.int .u8 r) := by
  refine PC.enter Try.func101 rfl Try.ntmps101 (by simp) ?_
  have hS := Sep.void; unfold impl_reader_peek at hF
  refine AWP.seqR rfl ?_
  refine ASL.q (v := (.int .u8 0)) rfl rfl (Light.quiet (opAssign rfl rfl)) ?_
  refine ASL.done ?_
  refine AWP.seq ?_
  refine AWP.seqD [(0, false), (1, false), (2, false), (3, false), (4, false), (5, false), (6, false), (7, false), (8, false), (9, false), (10, false), (11, false), (12, false), (13, false), (14, false), (15, false), (16, false)] mixed (by kernel_rfl) rfl ?_
  refine ARL.q0 (v := (.rptr [(.str p0.s), (.int .i64 p0.at_), (.int .i64 p0.code), (.list 3 (List.map TNode.av p0.list)), .undef])) rfl rfl (Light.quiet (opMove rfl rfl)) ?_
  refine ARL.q0 (v := (.rptr [(.str p0.s), (.int .i64 p0.at_), (.int .i64 p0.code), (.list 3 (List.map TNode.av p0.list)), .undef])) rfl rfl (Light.quiet (opNil rfl rfl rfl)) ?_
  refine ARL.q0 (v := (.rptr [(.int .i64 p0.code), (.list 3 (List.map TNode.av p0.list)), .undef])) rfl rfl (Light.quiet (opFieldAddrR rfl fieldA_104_2 rfl rfl)) ?_
  refine ARL.q0 (v := (.int .i64 p0.code)) rfl rfl (Light.quiet (opLoadR rfl aggA_3 rfl rfl)) ?_
  refine ARL.q0 (v := (.bool (decide (p0.code ≠ 0)))) rfl rfl (Light.quiet (opInt rfl rfl rfl rfl)) ?_
  obtain ⟨c8, hc8, hF⟩ := bndE hF
  refine ARL.q0 (v := (.bool c8)) rfl rfl ((Quiet.cast (Light.quiet (opMove rfl rfl)) (congrArg AV.bool hc8.symm))) ?_
  refine ARL.g (v := (.rptr [(.str p0.s), (.int .i64 p0.at_), (.int .i64 p0.code), (.list 3 (List.map TNode.av p0.list)), .undef])) (.bool c8) false rfl (wF _) rfl noneAlive (fun hG => by have q0 := gN hG; subst q0; exact Light.quiet (opMove rfl rfl)) ?_
  refine ARL.g (v := (.rptr [(.str p0.s), (.int .i64 p0.at_), (.int .i64 p0.code), (.list 3 (List.map TNode.av p0.list)), .undef])) (.bool c8) false rfl (wF _) rfl noneAlive (fun hG => by have q0 := gN hG; subst q0; exact Light.quiet (opNil rfl rfl rfl)) ?_
  refine ARL.g (v := (.rptr [(.int .i64 p0.at_), (.int .i64 p0.code), (.list 3 (List.map TNode.av p0.list)), .undef])) (.bool c8) false rfl (wF _) rfl noneAlive (fun hG => by have q0 := gN hG; subst q0; exact Light.quiet (opFieldAddrR rfl fieldA_104_1 rfl rfl)) ?_
  refine ARL.g (v := (.int .i64 p0.at_)) (.bool c8) false rfl (wF _) rfl noneAlive (fun hG => by have q0 := gN hG; subst q0; exact Light.quiet (opLoadR rfl aggA_3 rfl rfl)) ?_
  refine ARL.g (v := (.rptr [(.str p0.s), (.int .i64 p0.at_), (.int .i64 p0.code), (.list 3 (List.map TNode.av p0.list)), .undef])) (.bool c8) false rfl (wF _) rfl noneAlive (fun hG => by have q0 := gN hG; subst q0; exact Light.quiet (opMove rfl rfl)) ?_
  refine ARL.g (v := (.rptr [(.str p0.s), (.int .i64 p0.at_), (.int .i64 p0.code), (.list 3 (List.map TNode.av p0.list)), .undef])) (.bool c8) false rfl (wF _) rfl noneAlive (fun hG => by have q0 := gN hG; subst q0; exact Light.quiet (opNil rfl rfl rfl)) ?_
  refine ARL.g (v := (.rptr [(.str p0.s), (.int .i64 p0.at_), (.int .i64 p0.code), (.list 3 (List.map TNode.av p0.list)), .undef])) (.bool c8) false rfl (wF _) rfl noneAlive (fun hG => by have q0 := gN hG; subst q0; exact Light.quiet (opFieldAddrR rfl fieldA_104_0 rfl rfl)) ?_
  refine ARL.g (v := (.str p0.s)) (.bool c8) false rfl (wF _) rfl noneAlive (fun hG => by have q0 := gN hG; subst q0; exact Light.quiet (opLoadR rfl aggA_9 rfl rfl)) ?_
  refine ARL.g (v := (.int .i64 (p0.s.size : Int))) (.bool c8) false rfl (wF _) rfl noneAlive (fun hG => by have q0 := gN hG; subst q0; exact Light.quiet (opLenOf rfl rfl rfl lenT_9 rfl rfl)) ?_
  refine ARL.g (v := (.bool (decide (p0.at_ ≥ ((p0.s.size : Int)))))) (.bool c8) false rfl (wF _) rfl noneAlive (fun hG => by have q0 := gN hG; subst q0; exact Light.quiet (opInt rfl rfl rfl rfl)) ?_
  refine ARL.q0 (v := (.bool (c8 || (decide (p0.at_ ≥ ((p0.s.size : Int))))))) rfl rfl (Light.quiet (opPick (b := c8) rfl rfl (by cases c8 <;> rfl))) ?_
  refine ARL.done ?_
  refine AWP.ifB hF rfl (fun hc1 hF => ?_) (fun hc1 hF => ?_)
  · skip
    refine AWP.seqR rfl ?_
    refine ASL.q (v := (.int .u8 0)) rfl rfl (Light.quiet (opAssign rfl rfl)) ?_
    refine ASL.done ?_
    refine AWP.ret ?_
    refine QThen.rt ?_
    obtain rfl := someE hF
    exact QRet.sole (v := (.int .u8 0)) ⟨rfl, trivial⟩ rfl
  · skip
    refine AWP.skip ?_
    refine QThen.nrm ?_
    refine AWP.seqD [(0, false), (1, false), (2, false), (3, false), (4, false), (5, false), (6, false), (7, false), (8, false), (9, false)] mixed (by kernel_rfl) rfl ?_
    refine ARL.q0 (v := (.rptr [(.str p0.s), (.int .i64 p0.at_), (.int .i64 p0.code), (.list 3 (List.map TNode.av p0.list)), .undef])) rfl rfl (Light.quiet (opMove rfl rfl)) ?_
    refine ARL.q0 (v := (.rptr [(.str p0.s), (.int .i64 p0.at_), (.int .i64 p0.code), (.list 3 (List.map TNode.av p0.list)), .undef])) rfl rfl (Light.quiet (opNil rfl rfl rfl)) ?_
    refine ARL.q0 (v := (.rptr [(.str p0.s), (.int .i64 p0.at_), (.int .i64 p0.code), (.list 3 (List.map TNode.av p0.list)), .undef])) rfl rfl (Light.quiet (opFieldAddrR rfl fieldA_104_0 rfl rfl)) ?_
    refine ARL.q0 (v := (.str p0.s)) rfl rfl (Light.quiet (opLoadR rfl aggA_9 rfl rfl)) ?_
    refine ARL.q0 (v := (.rptr [(.str p0.s), (.int .i64 p0.at_), (.int .i64 p0.code), (.list 3 (List.map TNode.av p0.list)), .undef])) rfl rfl (Light.quiet (opMove rfl rfl)) ?_
    refine ARL.q0 (v := (.rptr [(.str p0.s), (.int .i64 p0.at_), (.int .i64 p0.code), (.list 3 (List.map TNode.av p0.list)), .undef])) rfl rfl (Light.quiet (opNil rfl rfl rfl)) ?_
    refine ARL.q0 (v := (.rptr [(.int .i64 p0.at_), (.int .i64 p0.code), (.list 3 (List.map TNode.av p0.list)), .undef])) rfl rfl (Light.quiet (opFieldAddrR rfl fieldA_104_1 rfl rfl)) ?_
    refine ARL.q0 (v := (.int .i64 p0.at_)) rfl rfl (Light.quiet (opLoadR rfl aggA_3 rfl rfl)) ?_
    obtain ⟨a28, ha28, hF⟩ := bindE hF
    refine ARL.q0 (v := (.int .u8 a28)) rfl rfl (Light.quiet (kIxS ha28 rfl und_9 rfl rfl)) ?_
    refine ARL.q0 (v := (.int .u8 a28)) rfl rfl (Light.quiet (opAssign rfl rfl)) ?_
    refine ARL.done ?_
    refine AWP.ret ?_
    obtain rfl := someE hF
    exact QRet.sole (v := (.int .u8 a28)) ⟨rfl, trivial⟩ rfl

set_option maxRecDepth 10000 in
theorem impl_reader_skip_ok {p0 : Treader} {p1 : Int} {r : (Bool × Treader)} {bp0 : Nat} {wp0_list : AV} (hF : impl_reader_skip p0 p1 = some r) : HS Try.prog 95 [(.ptr bp0 0), (.int .u8 p1)] [.cell bp0 [(.str p0.s), (.int .i64 p0.at_), (.int .i64 p0.code), wp0_list, .undef], .row 3 wp0_list (List.map TNode.av p0.list)] fun v L' => ∃ up0_list : AV, v = (.bool r.1) ∧ L' = [.cell bp0 [(.str r.2.s), (.int .i64 r.2.at_), (.int .i64 r.2.code), up0_list, .undef], .row 3 up0_list (List.map TNode.av r.2.list)] := by
  intro H S hS
  refine HC.enter Try.func95 rfl Try.ntmps95 (by simp) ?_
  simp only [List.cons_append, List.nil_append] at hS
  unfold impl_reader_skip at hF
  refine AWP.seqR rfl ?_
  refine ASL.q (v := (.bool false)) rfl rfl (Light.quiet (opAssign rfl rfl)) ?_
  refine ASL.done ?_
  refine AWP.seq ?_
  refine AWP.seqD [(0, false), (1, false), (2, false), (3, false), (4, false), (5, false), (6, false), (7, false), (8, false), (9, false), (10, false), (11, false), (12, false), (13, false), (14, false), (15, false), (16, false), (17, false), (18, false), (19, false), (20, false), (21, false), (22, false)] mixed (by kernel_rfl) rfl ?_
  refine ARL.q0 (v := (.ptr bp0 0)) rfl rfl (Light.quiet (opMove rfl rfl)) ?_
  obtain ⟨a6, ha6, hF⟩ := bindE hF
  refine ARL.q (v := (.int .u8 a6)) rfl rfl (hS.aliveAll) ((qCallR hS rfl rfl call_101 (impl_reader_peek_ok ha6) ⟨RAS.cellL (k := 0) rfl ⟨.same _, .same _, .same _, .row (k := 1) rfl, .same _, trivial⟩, trivial⟩ (by constructor))) ?_
  refine ARL.q0 (v := (.int .u8 p1)) rfl rfl (Light.quiet (opMove rfl rfl)) ?_
  refine ARL.q0 (v := (.bool (decide (a6 ≠ p1)))) rfl rfl (Light.quiet (opInt rfl rfl rfl rfl)) ?_
  obtain ⟨c9, hc9, hF⟩ := bndE hF
  refine ARL.q0 (v := (.bool c9)) rfl rfl ((Quiet.cast (Light.quiet (opMove rfl rfl)) (congrArg AV.bool hc9.symm))) ?_
  refine ARL.g (v := (.ptr bp0 0)) (.bool c9) false rfl (wF _) rfl noneAlive (fun hG => by have q0 := gN hG; subst q0; exact Light.quiet (opMove rfl rfl)) ?_
  refine ARL.g (v := (.ptr bp0 0)) (.bool c9) false rfl (wF _) rfl noneAlive (fun hG => by have q0 := gN hG; subst q0; exact Light.quiet (opNil rfl rfl rfl)) ?_
  refine ARL.g (v := (.ptr bp0 1)) (.bool c9) false rfl (wF _) rfl noneAlive (fun hG => by have q0 := gN hG; subst q0; exact Light.quiet (opFieldAddr rfl fieldA_104_1 rfl rfl)) ?_
  refine ARL.g (v := (.int .i64 p0.at_)) (.bool c9) false rfl (wF _) rfl (hS.aliveC (k := 0) rfl) (fun hG => by have q0 := gN hG; subst q0; exact Light.quiet (kAt hS (j := 0) rfl rfl aggA_3 rfl rfl)) ?_
  refine ARL.g (v := (.ptr bp0 0)) (.bool c9) false rfl (wF _) rfl noneAlive (fun hG => by have q0 := gN hG; subst q0; exact Light.quiet (opMove rfl rfl)) ?_
  refine ARL.g (v := (.ptr bp0 0)) (.bool c9) false rfl (wF _) rfl noneAlive (fun hG => by have q0 := gN hG; subst q0; exact Light.quiet (opNil rfl rfl rfl)) ?_
  refine ARL.g (v := (.ptr bp0 0)) (.bool c9) false rfl (wF _) rfl noneAlive (fun hG => by have q0 := gN hG; subst q0; exact Light.quiet (opFieldAddr rfl fieldA_104_0 rfl rfl)) ?_
  refine ARL.g (v := (.str p0.s)) (.bool c9) false rfl (wF _) rfl (hS.aliveC (k := 0) rfl) (fun hG => by have q0 := gN hG; subst q0; exact Light.quiet (kAt hS (j := 0) rfl rfl aggA_9 rfl rfl)) ?_
  refine ARL.g (v := (.int .i64 (p0.s.size : Int))) (.bool c9) false rfl (wF _) rfl noneAlive (fun hG => by have q0 := gN hG; subst q0; exact Light.quiet (opLenOf rfl rfl rfl lenT_9 rfl rfl)) ?_
  refine ARL.g (v := (.bool (decide (p0.at_ ≥ ((p0.s.size : Int)))))) (.bool c9) false rfl (wF _) rfl noneAlive (fun hG => by have q0 := gN hG; subst q0; exact Light.quiet (opInt rfl rfl rfl rfl)) ?_
  refine ARL.q0 (v := (.bool (c9 || (decide (p0.at_ ≥ ((p0.s.size : Int))))))) rfl rfl (Light.quiet (opPick (b := c9) rfl rfl (by cases c9 <;> rfl))) ?_
  obtain ⟨c21, hc21, hF⟩ := bndE hF
  refine ARL.q0 (v := (.bool c21)) rfl rfl ((Quiet.cast (Light.quiet (opMove rfl rfl)) (congrArg AV.bool hc21.symm))) ?_
  refine ARL.g (v := (.ptr bp0 0)) (.bool c21) false rfl (wF _) rfl noneAlive (fun hG => by have q0 := gN hG; subst q0; exact Light.quiet (opMove rfl rfl)) ?_
  refine ARL.g (v := (.ptr bp0 0)) (.bool c21) false rfl (wF _) rfl noneAlive (fun hG => by have q0 := gN hG; subst q0; exact Light.quiet (opNil rfl rfl rfl)) ?_
  refine ARL.g (v := (.ptr bp0 2)) (.bool c21) false rfl (wF _) rfl noneAlive (fun hG => by have q0 := gN hG; subst q0; exact Light.quiet (opFieldAddr rfl fieldA_104_2 rfl rfl)) ?_
  refine ARL.g (v := (.int .i64 p0.code)) (.bool c21) false rfl (wF _) rfl (hS.aliveC (k := 0) rfl) (fun hG => by have q0 := gN hG; subst q0; exact Light.quiet (kAt hS (j := 0) rfl rfl aggA_3 rfl rfl)) ?_
  refine ARL.g (v := (.bool (decide (p0.code ≠ 0)))) (.bool c21) false rfl (wF _) rfl noneAlive (fun hG => by have q0 := gN hG; subst q0; exact Light.quiet (opInt rfl rfl rfl rfl)) ?_
  refine ARL.q0 (v := (.bool (c21 || (decide (p0.code ≠ 0))))) rfl rfl (Light.quiet (opPick (b := c21) rfl rfl (by cases c21 <;> rfl))) ?_
  refine ARL.done ?_
  refine AWP.ifB hF rfl (fun hc3 hF => ?_) (fun hc3 hF => ?_)
  · skip
    refine AWP.seqR rfl ?_
    refine ASL.q (v := (.bool false)) rfl rfl (Light.quiet (opAssign rfl rfl)) ?_
    refine ASL.done ?_
    refine AWP.ret ?_
    refine QThen.rt ?_
    obtain rfl := someE hF
    exact QRet.sole (v := (.bool false)) ⟨rfl, trivial⟩ ⟨_, ⟨wp0_list, rfl, rfl⟩, hS.pick [0, 1, 2] rfl rfl⟩
  · skip
    refine AWP.skip ?_
    refine QThen.nrm ?_
    refine AWP.seqR rfl ?_
    refine ASL.q (v := (.ptr bp0 0)) rfl rfl (Light.quiet (opMove rfl rfl)) ?_
    refine ASL.q (v := (.ptr bp0 0)) rfl rfl (Light.quiet (opNil rfl rfl rfl)) ?_
    refine ASL.q (v := (.ptr bp0 1)) rfl rfl (Light.quiet (opFieldAddr rfl fieldA_104_1 rfl rfl)) ?_
    refine ASL.q (v := (.int .i64 p0.at_)) rfl rfl (Light.quiet (kAt hS (j := 0) rfl rfl aggA_3 rfl rfl)) ?_
    refine ASL.q (v := (.int .i64 (W (p0.at_ + 1)))) rfl rfl (Light.quiet (opInt rfl rfl rfl rfl)) ?_
    refine ASL.q (v := (.ptr bp0 0)) rfl rfl (Light.quiet (opNil rfl rfl rfl)) ?_
    refine ASL.q (v := (.ptr bp0 1)) rfl rfl (Light.quiet (opFieldAddr rfl fieldA_104_1 rfl rfl)) ?_
    refine ASL.n rfl rfl (hPut hS (j := 0) rfl rfl sizeA_3 rfl rfl rfl (nlt rfl) ?_); rintro G4 hS
    refine ASL.done ?_
    refine AWP.seqR rfl ?_
    refine ASL.q (v := (.bool true)) rfl rfl (Light.quiet (opAssign rfl rfl)) ?_
    refine ASL.done ?_
    refine AWP.ret ?_
    obtain rfl := someE hF
    exact QRet.sole (v := (.bool true)) ⟨rfl, trivial⟩ ⟨_, ⟨wp0_list, rfl, rfl⟩, hS.pick [0, 1, 2] rfl rfl⟩

set_option maxRecDepth 10000 in
theorem impl_reader_two_ok {p0 : Treader} {p1 : Int} {p2 : Int} {r : Treader} {bp0 : Nat} {wp0_list : AV} (hF : impl_reader_two p0 p1 p2 = some r) : HS Try.prog 96 [(.ptr bp0 0), (.int .i64 p1), (.int .i64 p2)] [.cell bp0 [(.str p0.s), (.int .i64 p0.at_), (.int .i64 p0.code), wp0_list, .undef], .row 3 wp0_list (List.map TNode.av p0.list)] fun v L' => ∃ up0_list : AV, v = .tup [] ∧ L' = [.cell bp0 [(.str r.s), (.int .i64 r.at_), (.int .i64 r.code), up0_list, .undef], .row 3 up0_list (List.map TNode.av r.list)] := by
  intro H S hS
  refine HC.enter Try.func96 rfl Try.ntmps96 (by simp) ?_
  simp only [List.cons_append, List.nil_append] at hS
  unfold impl_reader_two at hF
  refine AWP.lastD [(0, false), (1, false), (2, false), (3, false), (4, false), (5, false), (6, false), (7, false), (8, false), (9, false), (10, false), (11, false), (12, false), (13, false), (14, false), (15, true), (16, false), (17, false), (18, true)] mixed (by kernel_rfl) rfl ?_
  refine ARL.q0 (v := (.ptr bp0 0)) rfl rfl (Light.quiet (opMove rfl rfl)) ?_
  refine ARL.q0 (v := (.ptr bp0 0)) rfl rfl (Light.quiet (opMove rfl rfl)) ?_
  refine ARL.q0 (v := (.ptr bp0 0)) rfl rfl (Light.quiet (opNil rfl rfl rfl)) ?_
  refine ARL.q0 (v := (.ptr bp0 3)) rfl rfl (Light.quiet (opFieldAddr rfl fieldA_104_3 rfl rfl)) ?_
  refine ARL.q (v := wp0_list) rfl rfl (hS.aliveC (k := 0) rfl) (Light.quiet (kAt hS (j := 0) rfl rfl aggA_24 rfl rfl)) ?_
  refine ARL.q0 (v := (.int .i64 p1)) rfl rfl (Light.quiet (opMove rfl rfl)) ?_
  refine ARL.q0 (v := (.int .i64 p2)) rfl rfl (Light.quiet (opMove rfl rfl)) ?_
  refine ARL.q0 (v := (.ptr bp0 0)) rfl rfl (Light.quiet (opMove rfl rfl)) ?_
  refine ARL.q0 (v := (.ptr bp0 0)) rfl rfl (Light.quiet (opNil rfl rfl rfl)) ?_
  refine ARL.q0 (v := (.ptr bp0 3)) rfl rfl (Light.quiet (opFieldAddr rfl fieldA_104_3 rfl rfl)) ?_
  refine ARL.q (v := wp0_list) rfl rfl (hS.aliveC (k := 0) rfl) (Light.quiet (kAt hS (j := 0) rfl rfl aggA_24 rfl rfl)) ?_
  refine ARL.q0 (v := (.int .i64 (p0.list.length : Int))) rfl rfl (Light.quiet (kLen hS (j := 1) rfl rfl rfl rfl lenT_24 rfl)) ?_
  refine ARL.q0 (v := (.int .i64 (W (((p0.list.length : Int)) - 1)))) rfl rfl (Light.quiet (opInt rfl rfl rfl rfl)) ?_
  refine ARL.q0 (v := (.agg [(.int .i64 p1), (.int .i64 p2), (.int .i64 (W (((p0.list.length : Int)) - 1)))])) rfl rfl (Light.quiet (opBuildZ (zs := [(.int .i64 0), (.int .i64 0), (.int .i64 0)]) rfl plan_31 zeroA_31 ⟨.inl rfl, .inl rfl, .inl rfl, trivial⟩ rfl)) ?_
  refine ARL.q0 (v := (.list 3 (List.map TNode.av [(TNode.mk p1 p2 ((W (((p0.list.length : Int)) - 1))))]))) rfl rfl ((qLit (xs := [(.agg [(.int .i64 p1), (.int .i64 p2), (.int .i64 (W (((p0.list.length : Int)) - 1)))])]) rfl elemA_24 sizeA_31 zeroA_31 rfl rfl rfl rfl (by simp [cells, TNode.av]) (nlt rfl))) ?_
  obtain ⟨z21, hz21, hF⟩ := bindE hF
  refine ARL.y rfl rfl rfl rfl (hApp (f := TNode.av) (ws := [(TNode.mk p1 p2 ((W (((p0.list.length : Int)) - 1))))]) hS (j := 1) rfl hz21 rfl elemA_24 rfl sizeA_31 bytesA_31 zeroA_31 rfl rfl rfl (fun _ => rfl) ?_); rintro v21 G3 hS
  refine ARL.q0 (v := (.ptr bp0 0)) rfl rfl (Light.quiet (opNil rfl rfl rfl)) ?_
  refine ARL.q0 (v := (.ptr bp0 3)) rfl rfl (Light.quiet (opFieldAddr rfl fieldA_104_3 rfl rfl)) ?_
  refine ARL.n rfl rfl rfl rfl (hPut hS (j := 0) rfl rfl sizeA_24 rfl rfl (hS.one (k := 1) rfl) (nlt rfl) ?_); rintro G5 hS
  refine ARL.done ?_
  refine QRet.end ?_
  obtain rfl := someE hF
  exact QRet.many (vs := []) trivial (by simp) ⟨_, ⟨v21, rfl, rfl⟩, hS.pick [0, 1, 2] rfl rfl⟩

set_option maxRecDepth 10000 in
theorem impl_reader_row_ok {p0 : Treader} {p1 : Int} {p2 : Int} {g3 : (Treader → Option (Treader))} {r : Treader} {bp0 : Nat} {wp0_list : AV} {k3 : Nat} (hcal3 : callable Try.prog k3 = true) (hg3 : ∀ q0 y bq0 wq0_list, g3 q0 = some y → HS Try.prog k3 [(.ptr bq0 0)] [.cell bq0 [(.str q0.s), (.int .i64 q0.at_), (.int .i64 q0.code), wq0_list, .undef], .row 3 wq0_list (List.map TNode.av q0.list)] fun v L' => ∃ uq0_list : AV, v = .tup [] ∧ L' = [.cell bq0 [(.str y.s), (.int .i64 y.at_), (.int .i64 y.code), uq0_list, .undef], .row 3 uq0_list (List.map TNode.av y.list)]) (hF : impl_reader_row p0 p1 p2 g3 = some r) : HS Try.prog 80 [(.ptr bp0 0), (.int .u8 p1), (.int .i64 p2), (.fn (.func k3) [] [])] [.cell bp0 [(.str p0.s), (.int .i64 p0.at_), (.int .i64 p0.code), wp0_list, .undef], .row 3 wp0_list (List.map TNode.av p0.list)] fun v L' => ∃ up0_list : AV, v = .tup [] ∧ L' = [.cell bp0 [(.str r.s), (.int .i64 r.at_), (.int .i64 r.code), up0_list, .undef], .row 3 up0_list (List.map TNode.av r.list)] := by
  intro H S hS
  refine HC.enter Try.func80 rfl Try.ntmps80 (by simp) ?_
  simp only [List.cons_append, List.nil_append] at hS
  unfold impl_reader_row at hF
  refine AWP.seqR rfl ?_
  refine ASL.q (v := (.fn (.func k3) [] [])) rfl rfl (Light.quiet (opMove rfl rfl)) ?_
  refine ASL.q (v := (.ptr bp0 0)) rfl rfl (Light.quiet (opMove rfl rfl)) ?_
  obtain ⟨a11, ha11, hF⟩ := bindE hF
  refine ASL.x rfl rfl (hCallS hS [0, 1, 2] (F := [.snap S]) rfl rfl rfl hcal3 ((hg3 _ _ _ _) ha11) rfl rfl ?_); rintro _ _ G5 ⟨w3, rfl, rfl⟩ hS
  refine ASL.done ?_
  refine AWP.block ?_
  obtain ⟨o15, hL14, hR16⟩ := bindE hF
  refine AWP.loopF (ω := AV) hL14 (fun s w => [(0, (.ptr bp0 0)), (1, (.int .u8 p1)), (2, (.int .i64 p2)), (3, (.fn (.func k3) [] []))]) (fun s w => [.row 3 w (List.map TNode.av s.2.2.2), .cell bp0 [(.str s.1), (.int .i64 s.2.1), (.int .i64 s.2.2.1), w, .undef], .snap S]) w3 ⟨rfl, rfl, rfl, rfl, trivial⟩ (hS.pick [1, 0, 2] rfl rfl) ?_
  rintro ⟨y6, y7, y8, y9⟩ w10 G17 hS x12 hF hx13
  try dsimp only at hS ⊢
  have hF : impl_reader_row.b0 p1 g3 p2 y6 y7 y8 y9 = some x12 := hF; unfold impl_reader_row.b0 at hF
  refine AWP.seq ?_
  refine AWP.seqR rfl ?_
  refine ASL.q (v := (.ptr bp0 0)) rfl rfl (Light.quiet (opMove rfl rfl)) ?_
  refine ASL.q (v := (.int .u8 p1)) rfl rfl (Light.quiet (opMove rfl rfl)) ?_
  obtain ⟨a14, ha14, hF⟩ := bindE hF
  refine ASL.x rfl rfl (hCallS hS [1, 0, 2] (F := [.snap S]) rfl rfl rfl call_95 (impl_reader_skip_ok ha14) rfl rfl ?_); rintro _ _ G20 ⟨w18, rfl, rfl⟩ hS
  refine ASL.done ?_
  refine AWP.ifB hF rfl (fun hc21 hF => ?_) (fun hc21 hF => ?_)
  · skip
    refine AWP.skip ?_
    refine QThen.nrm ?_
    refine AWP.block ?_
    refine AWP.seqR rfl ?_
    refine ASL.q (v := (.ptr bp0 0)) rfl rfl (Light.quiet (opMove rfl rfl)) ?_
    refine ASL.q (v := (.ptr bp0 0)) rfl rfl (Light.quiet (opNil rfl rfl rfl)) ?_
    refine ASL.q (v := (.ptr bp0 3)) rfl rfl (Light.quiet (opFieldAddr rfl fieldA_104_3 rfl rfl)) ?_
    refine ASL.q (v := w18) rfl rfl (Light.quiet (kAt hS (j := 0) rfl rfl aggA_24 rfl rfl)) ?_
    refine ASL.q (v := (.int .i64 (a14.2.list.length : Int))) rfl rfl (Light.quiet (kLen hS (j := 1) rfl rfl rfl rfl lenT_24 rfl)) ?_
    refine ASL.q (v := (.int .i64 (W (((a14.2.list.length : Int)) - 1)))) rfl rfl (Light.quiet (opInt rfl rfl rfl rfl)) ?_
    refine ASL.q (v := (.int .i64 (W (((a14.2.list.length : Int)) - 1)))) rfl rfl (Light.quiet (opAssign rfl rfl)) ?_
    refine ASL.done ?_
    refine AWP.seqR rfl ?_
    refine ASL.q (v := (.fn (.func k3) [] [])) rfl rfl (Light.quiet (opMove rfl rfl)) ?_
    refine ASL.q (v := (.ptr bp0 0)) rfl rfl (Light.quiet (opMove rfl rfl)) ?_
    obtain ⟨a23, ha23, hF⟩ := bindE hF
    refine ASL.x rfl rfl (hCallS hS [0, 1, 2] (F := [.snap S]) rfl rfl rfl hcal3 ((hg3 _ _ _ _) ha23) rfl rfl ?_); rintro _ _ G24 ⟨w22, rfl, rfl⟩ hS
    refine ASL.done ?_
    refine AWP.lastR rfl ?_
    refine ASL.q (v := (.ptr bp0 0)) rfl rfl (Light.quiet (opMove rfl rfl)) ?_
    refine ASL.q (v := (.int .i64 p2)) rfl rfl (Light.quiet (opMove rfl rfl)) ?_
    refine ASL.q (v := (.int .i64 (W (((a14.2.list.length : Int)) - 1)))) rfl rfl (Light.quiet (opMove rfl rfl)) ?_
    obtain ⟨a27, ha27, hF⟩ := bindE hF
    refine ASL.x rfl rfl (hCallS hS [0, 1, 2] (F := [.snap S]) rfl rfl rfl call_96 (impl_reader_two_ok ha27) rfl rfl ?_); rintro _ _ G27 ⟨w25, rfl, rfl⟩ hS
    refine ASL.done ?_
    refine QBlock.nrm ?_
    refine QThen.nrm ?_
    exact ⟨(a27.s, a27.at_, a27.code, a27.list), w25, (someE hF).symm, ⟨rfl, rfl, rfl, rfl, trivial⟩, (hS.pick [1, 0, 2] rfl rfl)⟩
  · skip
    refine AWP.exit ?_
    refine QThen.ext ?_
    refine QThen.ext ?_
    refine QBlock.hit ?_
    obtain rfl := (hx13 _ (someE hF).symm)
    have hF := hR16
    refine QRet.end ?_
    obtain rfl := someE hF
    exact QRet.many (vs := []) trivial (by simp) ⟨_, ⟨w18, rfl, rfl⟩, hS.pick [0, 1, 2] rfl rfl⟩

set_option maxRecDepth 10000 in
theorem impl_reader_fail_ok {p0 : Treader} {r : Treader} {bp0 : Nat} {wp0_list : AV} (hF : impl_reader_fail p0 = some r) : HS Try.prog 104 [(.ptr bp0 0)] [.cell bp0 [(.str p0.s), (.int .i64 p0.at_), (.int .i64 p0.code), wp0_list, .undef], .row 3 wp0_list (List.map TNode.av p0.list)] fun v L' => ∃ up0_list : AV, v = .tup [] ∧ L' = [.cell bp0 [(.str r.s), (.int .i64 r.at_), (.int .i64 r.code), up0_list, .undef], .row 3 up0_list (List.map TNode.av r.list)] := by
  intro H S hS
  refine HC.enter Try.func104 rfl Try.ntmps104 (by simp) ?_
  simp only [List.cons_append, List.nil_append] at hS
  unfold impl_reader_fail at hF
  refine AWP.block ?_
  refine AWP.seqR rfl ?_
  refine ASL.q (v := (.ptr bp0 0)) rfl rfl (Light.quiet (opMove rfl rfl)) ?_
  refine ASL.q (v := (.ptr bp0 0)) rfl rfl (Light.quiet (opNil rfl rfl rfl)) ?_
  refine ASL.q (v := (.ptr bp0 2)) rfl rfl (Light.quiet (opFieldAddr rfl fieldA_104_2 rfl rfl)) ?_
  refine ASL.q (v := (.int .i64 p0.code)) rfl rfl (Light.quiet (kAt hS (j := 0) rfl rfl aggA_3 rfl rfl)) ?_
  refine ASL.q (v := (.bool (decide (p0.code ≠ 0)))) rfl rfl (Light.quiet (opInt rfl rfl rfl rfl)) ?_
  refine ASL.q (v := (.bool (decide (p0.code ≠ 0)))) rfl rfl (Light.quiet (opAssign rfl rfl)) ?_
  refine ASL.done ?_
  refine AWP.ifP hF rfl (fun hc3 hF => ?_) (fun hc3 hF => ?_)
  · skip
    refine AWP.skip ?_
    refine QBlock.nrm ?_
    refine QRet.end ?_
    obtain rfl := someE hF
    exact QRet.many (vs := []) trivial (by simp) ⟨_, ⟨wp0_list, rfl, rfl⟩, hS.pick [0, 1, 2] rfl rfl⟩
  · skip
    refine AWP.seqD [(0, false), (1, false), (2, false), (3, false), (4, false), (5, false), (6, false), (7, false), (8, false), (9, false), (10, false)] mixed (by kernel_rfl) rfl ?_
    refine ARL.q0 (v := (.ptr bp0 0)) rfl rfl (Light.quiet (opMove rfl rfl)) ?_
    refine ARL.q0 (v := (.ptr bp0 0)) rfl rfl (Light.quiet (opNil rfl rfl rfl)) ?_
    refine ARL.q0 (v := (.ptr bp0 1)) rfl rfl (Light.quiet (opFieldAddr rfl fieldA_104_1 rfl rfl)) ?_
    refine ARL.q (v := (.int .i64 p0.at_)) rfl rfl (hS.aliveC (k := 0) rfl) (Light.quiet (kAt hS (j := 0) rfl rfl aggA_3 rfl rfl)) ?_
    refine ARL.q0 (v := (.ptr bp0 0)) rfl rfl (Light.quiet (opMove rfl rfl)) ?_
    refine ARL.q0 (v := (.ptr bp0 0)) rfl rfl (Light.quiet (opNil rfl rfl rfl)) ?_
    refine ARL.q0 (v := (.ptr bp0 0)) rfl rfl (Light.quiet (opFieldAddr rfl fieldA_104_0 rfl rfl)) ?_
    refine ARL.q (v := (.str p0.s)) rfl rfl (hS.aliveC (k := 0) rfl) (Light.quiet (kAt hS (j := 0) rfl rfl aggA_9 rfl rfl)) ?_
    refine ARL.q0 (v := (.int .i64 (p0.s.size : Int))) rfl rfl (Light.quiet (opLenOf rfl rfl rfl lenT_9 rfl rfl)) ?_
    refine ARL.q0 (v := (.bool (decide (p0.at_ ≥ ((p0.s.size : Int)))))) rfl rfl (Light.quiet (opInt rfl rfl rfl rfl)) ?_
    refine ARL.q0 (v := (.bool (decide (p0.at_ ≥ ((p0.s.size : Int)))))) rfl rfl (Light.quiet (opAssign rfl rfl)) ?_
    refine ARL.done ?_
    refine AWP.ifP hF rfl (fun hc4 hF => ?_) (fun hc4 hF => ?_)
    · skip
      refine AWP.lastR rfl ?_
      refine ASL.q (v := (.ptr bp0 0)) rfl rfl (Light.quiet (opMove rfl rfl)) ?_
      refine ASL.q (v := (.ptr bp0 0)) rfl rfl (Light.quiet (opNil rfl rfl rfl)) ?_
      refine ASL.q (v := (.ptr bp0 2)) rfl rfl (Light.quiet (opFieldAddr rfl fieldA_104_2 rfl rfl)) ?_
      refine ASL.n rfl rfl (hPut hS (j := 0) rfl rfl sizeA_3 rfl rfl rfl (nlt rfl) ?_); rintro G5 hS
      refine ASL.done ?_
      refine QBlock.nrm ?_
      refine QRet.end ?_
      obtain rfl := someE hF
      exact QRet.many (vs := []) trivial (by simp) ⟨_, ⟨wp0_list, rfl, rfl⟩, hS.pick [0, 1, 2] rfl rfl⟩
    · skip
      refine AWP.lastR rfl ?_
      refine ASL.q (v := (.ptr bp0 0)) rfl rfl (Light.quiet (opMove rfl rfl)) ?_
      refine ASL.q (v := (.ptr bp0 0)) rfl rfl (Light.quiet (opNil rfl rfl rfl)) ?_
      refine ASL.q (v := (.ptr bp0 2)) rfl rfl (Light.quiet (opFieldAddr rfl fieldA_104_2 rfl rfl)) ?_
      refine ASL.n rfl rfl (hPut hS (j := 0) rfl rfl sizeA_3 rfl rfl rfl (nlt rfl) ?_); rintro G6 hS
      refine ASL.done ?_
      refine QBlock.nrm ?_
      refine QRet.end ?_
      obtain rfl := someE hF
      exact QRet.many (vs := []) trivial (by simp) ⟨_, ⟨wp0_list, rfl, rfl⟩, hS.pick [0, 1, 2] rfl rfl⟩

set_option maxRecDepth 10000 in
theorem impl_reader_bracket_ok {p0 : Treader} {g1 : (Treader → Option (Treader))} {r : Treader} {bp0 : Nat} {wp0_list : AV} {k1 : Nat} (hcal1 : callable Try.prog k1 = true) (hg1 : ∀ q0 y bq0 wq0_list, g1 q0 = some y → HS Try.prog k1 [(.ptr bq0 0)] [.cell bq0 [(.str q0.s), (.int .i64 q0.at_), (.int .i64 q0.code), wq0_list, .undef], .row 3 wq0_list (List.map TNode.av q0.list)] fun v L' => ∃ uq0_list : AV, v = .tup [] ∧ L' = [.cell bq0 [(.str y.s), (.int .i64 y.at_), (.int .i64 y.code), uq0_list, .undef], .row 3 uq0_list (List.map TNode.av y.list)]) (hF : impl_reader_bracket p0 g1 = some r) : HS Try.prog 102 [(.ptr bp0 0), (.fn (.func k1) [] [])] [.cell bp0 [(.str p0.s), (.int .i64 p0.at_), (.int .i64 p0.code), wp0_list, .undef], .row 3 wp0_list (List.map TNode.av p0.list)] fun v L' => ∃ up0_list : AV, v = .tup [] ∧ L' = [.cell bp0 [(.str r.s), (.int .i64 r.at_), (.int .i64 r.code), up0_list, .undef], .row 3 up0_list (List.map TNode.av r.list)] := by
  intro H S hS
  refine HC.enter Try.func102 rfl Try.ntmps102 (by simp) ?_
  simp only [List.cons_append, List.nil_append] at hS
  unfold impl_reader_bracket at hF
  refine AWP.seqR rfl ?_
  refine ASL.q (v := (.fn (.func k1) [] [])) rfl rfl (Light.quiet (opMove rfl rfl)) ?_
  refine ASL.q (v := (.ptr bp0 0)) rfl rfl (Light.quiet (opMove rfl rfl)) ?_
  obtain ⟨a6, ha6, hF⟩ := bindE hF
  refine ASL.x rfl rfl (hCallS hS [0, 1, 2] (F := [.snap S]) rfl rfl rfl hcal1 ((hg1 _ _ _ _) ha6) rfl rfl ?_); rintro _ _ G5 ⟨w3, rfl, rfl⟩ hS
  refine ASL.done ?_
  refine AWP.seqR rfl ?_
  refine ASL.q (v := (.ptr bp0 0)) rfl rfl (Light.quiet (opMove rfl rfl)) ?_
  obtain ⟨a8, ha8, hF⟩ := bindE hF
  refine ASL.x rfl rfl (hCallS hS [0, 1, 2] (F := [.snap S]) rfl rfl rfl call_95 (impl_reader_skip_ok ha8) rfl rfl ?_); rintro _ _ G8 ⟨w6, rfl, rfl⟩ hS
  refine ASL.q (v := (.bool (!a8.1))) rfl rfl (Light.quiet (opNot rfl rfl)) ?_
  refine ASL.done ?_
  refine AWP.ifB hF rfl (fun hc9 hF => ?_) (fun hc9 hF => ?_)
  · skip
    refine AWP.lastR rfl ?_
    refine ASL.q (v := (.ptr bp0 0)) rfl rfl (Light.quiet (opMove rfl rfl)) ?_
    obtain ⟨a11, ha11, hF⟩ := bindE hF
    refine ASL.x rfl rfl (hCallS hS [0, 1, 2] (F := [.snap S]) rfl rfl rfl call_104 (impl_reader_fail_ok ha11) rfl rfl ?_); rintro _ _ G12 ⟨w10, rfl, rfl⟩ hS
    refine ASL.done ?_
    refine QRet.end ?_
    obtain rfl := someE hF
    exact QRet.many (vs := []) trivial (by simp) ⟨_, ⟨w10, rfl, rfl⟩, hS.pick [0, 1, 2] rfl rfl⟩
  · skip
    refine AWP.skip ?_
    refine QRet.end ?_
    obtain rfl := someE hF
    exact QRet.many (vs := []) trivial (by simp) ⟨_, ⟨w6, rfl, rfl⟩, hS.pick [0, 1, 2] rfl rfl⟩

set_option maxRecDepth 10000 in
theorem impl_reader_leaf_ok {p0 : Treader} {p1 : Int} {p2 : Int} {r : Treader} {bp0 : Nat} {wp0_list : AV} (hF : impl_reader_leaf p0 p1 p2 = some r) : HS Try.prog 103 [(.ptr bp0 0), (.int .i64 p1), (.int .i64 p2)] [.cell bp0 [(.str p0.s), (.int .i64 p0.at_), (.int .i64 p0.code), wp0_list, .undef], .row 3 wp0_list (List.map TNode.av p0.list)] fun v L' => ∃ up0_list : AV, v = .tup [] ∧ L' = [.cell bp0 [(.str r.s), (.int .i64 r.at_), (.int .i64 r.code), up0_list, .undef], .row 3 up0_list (List.map TNode.av r.list)] := by
  intro H S hS
  refine HC.enter Try.func103 rfl Try.ntmps103 (by simp) ?_
  simp only [List.cons_append, List.nil_append] at hS
  unfold impl_reader_leaf at hF
  refine AWP.lastR rfl ?_
  refine ASL.q (v := (.ptr bp0 0)) rfl rfl (Light.quiet (opMove rfl rfl)) ?_
  refine ASL.q (v := (.ptr bp0 0)) rfl rfl (Light.quiet (opMove rfl rfl)) ?_
  refine ASL.q (v := (.ptr bp0 0)) rfl rfl (Light.quiet (opNil rfl rfl rfl)) ?_
  refine ASL.q (v := (.ptr bp0 3)) rfl rfl (Light.quiet (opFieldAddr rfl fieldA_104_3 rfl rfl)) ?_
  refine ASL.q (v := wp0_list) rfl rfl (Light.quiet (kAt hS (j := 0) rfl rfl aggA_24 rfl rfl)) ?_
  refine ASL.q (v := (.int .i64 p1)) rfl rfl (Light.quiet (opMove rfl rfl)) ?_
  refine ASL.q (v := (.int .i64 p2)) rfl rfl (Light.quiet (opMove rfl rfl)) ?_
  refine ASL.q (v := (.agg [(.int .i64 p1), (.int .i64 p2), (.int .i64 0)])) rfl rfl (Light.quiet (opBuildZ (zs := [(.int .i64 0), (.int .i64 0), (.int .i64 0)]) rfl plan_31 zeroA_31 ⟨.inl rfl, .inl rfl, .inl rfl, trivial⟩ rfl)) ?_
  refine ASL.q (v := (.list 3 (List.map TNode.av [(TNode.mk p1 p2 0)]))) rfl rfl ((qLit (xs := [(.agg [(.int .i64 p1), (.int .i64 p2), (.int .i64 0)])]) rfl elemA_24 sizeA_31 zeroA_31 rfl rfl rfl rfl (by simp [cells, TNode.av]) (nlt rfl))) ?_
  obtain ⟨z15, hz15, hF⟩ := bindE hF
  refine ASL.x rfl rfl (hApp (f := TNode.av) (ws := [(TNode.mk p1 p2 0)]) hS (j := 1) rfl hz15 rfl elemA_24 rfl sizeA_31 bytesA_31 zeroA_31 rfl rfl rfl (fun _ => rfl) ?_); rintro v15 G3 hS
  refine ASL.q (v := (.ptr bp0 0)) rfl rfl (Light.quiet (opNil rfl rfl rfl)) ?_
  refine ASL.q (v := (.ptr bp0 3)) rfl rfl (Light.quiet (opFieldAddr rfl fieldA_104_3 rfl rfl)) ?_
  refine ASL.n rfl rfl (hPut hS (j := 0) rfl rfl sizeA_24 rfl rfl (hS.one (k := 1) rfl) (nlt rfl) ?_); rintro G5 hS
  refine ASL.done ?_
  refine QRet.end ?_
  obtain rfl := someE hF
  exact QRet.many (vs := []) trivial (by simp) ⟨_, ⟨v15, rfl, rfl⟩, hS.pick [0, 1, 2] rfl rfl⟩

set_option maxRecDepth 10000 in
theorem impl_reader_one_ok {p0 : Treader} {p1 : Int} {r : Treader} {bp0 : Nat} {wp0_list : AV} (hF : impl_reader_one p0 p1 = some r) : HS Try.prog 105 [(.ptr bp0 0), (.int .i64 p1)] [.cell bp0 [(.str p0.s), (.int .i64 p0.at_), (.int .i64 p0.code), wp0_list, .undef], .row 3 wp0_list (List.map TNode.av p0.list)] fun v L' => ∃ up0_list : AV, v = .tup [] ∧ L' = [.cell bp0 [(.str r.s), (.int .i64 r.at_), (.int .i64 r.code), up0_list, .undef], .row 3 up0_list (List.map TNode.av r.list)] := by
  intro H S hS
  refine HC.enter Try.func105 rfl Try.ntmps105 (by simp) ?_
  simp only [List.cons_append, List.nil_append] at hS
  unfold impl_reader_one at hF
  refine AWP.lastD [(0, false), (1, false), (2, false), (3, false), (4, false), (5, false), (6, false), (7, false), (8, false), (9, false), (10, false), (11, false), (12, false), (13, false), (14, true), (15, false), (16, false), (17, true)] mixed (by kernel_rfl) rfl ?_
  refine ARL.q0 (v := (.ptr bp0 0)) rfl rfl (Light.quiet (opMove rfl rfl)) ?_
  refine ARL.q0 (v := (.ptr bp0 0)) rfl rfl (Light.quiet (opMove rfl rfl)) ?_
  refine ARL.q0 (v := (.ptr bp0 0)) rfl rfl (Light.quiet (opNil rfl rfl rfl)) ?_
  refine ARL.q0 (v := (.ptr bp0 3)) rfl rfl (Light.quiet (opFieldAddr rfl fieldA_104_3 rfl rfl)) ?_
  refine ARL.q (v := wp0_list) rfl rfl (hS.aliveC (k := 0) rfl) (Light.quiet (kAt hS (j := 0) rfl rfl aggA_24 rfl rfl)) ?_
  refine ARL.q0 (v := (.int .i64 p1)) rfl rfl (Light.quiet (opMove rfl rfl)) ?_
  refine ARL.q0 (v := (.ptr bp0 0)) rfl rfl (Light.quiet (opMove rfl rfl)) ?_
  refine ARL.q0 (v := (.ptr bp0 0)) rfl rfl (Light.quiet (opNil rfl rfl rfl)) ?_
  refine ARL.q0 (v := (.ptr bp0 3)) rfl rfl (Light.quiet (opFieldAddr rfl fieldA_104_3 rfl rfl)) ?_
  refine ARL.q (v := wp0_list) rfl rfl (hS.aliveC (k := 0) rfl) (Light.quiet (kAt hS (j := 0) rfl rfl aggA_24 rfl rfl)) ?_
  refine ARL.q0 (v := (.int .i64 (p0.list.length : Int))) rfl rfl (Light.quiet (kLen hS (j := 1) rfl rfl rfl rfl lenT_24 rfl)) ?_
  refine ARL.q0 (v := (.int .i64 (W (((p0.list.length : Int)) - 1)))) rfl rfl (Light.quiet (opInt rfl rfl rfl rfl)) ?_
  refine ARL.q0 (v := (.agg [(.int .i64 p1), (.int .i64 (W (((p0.list.length : Int)) - 1))), (.int .i64 0)])) rfl rfl (Light.quiet (opBuildZ (zs := [(.int .i64 0), (.int .i64 0), (.int .i64 0)]) rfl plan_31 zeroA_31 ⟨.inl rfl, .inl rfl, .inl rfl, trivial⟩ rfl)) ?_
  refine ARL.q0 (v := (.list 3 (List.map TNode.av [(TNode.mk p1 ((W (((p0.list.length : Int)) - 1))) 0)]))) rfl rfl ((qLit (xs := [(.agg [(.int .i64 p1), (.int .i64 (W (((p0.list.length : Int)) - 1))), (.int .i64 0)])]) rfl elemA_24 sizeA_31 zeroA_31 rfl rfl rfl rfl (by simp [cells, TNode.av]) (nlt rfl))) ?_
  obtain ⟨z18, hz18, hF⟩ := bindE hF
  refine ARL.y rfl rfl rfl rfl (hApp (f := TNode.av) (ws := [(TNode.mk p1 ((W (((p0.list.length : Int)) - 1))) 0)]) hS (j := 1) rfl hz18 rfl elemA_24 rfl sizeA_31 bytesA_31 zeroA_31 rfl rfl rfl (fun _ => rfl) ?_); rintro v18 G3 hS
  refine ARL.q0 (v := (.ptr bp0 0)) rfl rfl (Light.quiet (opNil rfl rfl rfl)) ?_
  refine ARL.q0 (v := (.ptr bp0 3)) rfl rfl (Light.quiet (opFieldAddr rfl fieldA_104_3 rfl rfl)) ?_
  refine ARL.n rfl rfl rfl rfl (hPut hS (j := 0) rfl rfl sizeA_24 rfl rfl (hS.one (k := 1) rfl) (nlt rfl) ?_); rintro G5 hS
  refine ARL.done ?_
  refine QRet.end ?_
  obtain rfl := someE hF
  exact QRet.many (vs := []) trivial (by simp) ⟨_, ⟨v18, rfl, rfl⟩, hS.pick [0, 1, 2] rfl rfl⟩

set_option maxRecDepth 10000 in
theorem impl_reSum.body_ok {p0 : Treader} {r : Treader} {bp0 : Nat} {wp0_list : AV} {rec_impl_reSum : Treader → Option Treader} {rec_impl_reProduct : Treader → Option Treader} {rec_impl_reAtom : Treader → Option Treader} (ih_impl_reSum : ∀ {p0 : Treader} {r : Treader} {bp0 : Nat} {wp0_list : AV} , rec_impl_reSum p0 = some r → HS Try.prog 53 [(.ptr bp0 0)] [.cell bp0 [(.str p0.s), (.int .i64 p0.at_), (.int .i64 p0.code), wp0_list, .undef], .row 3 wp0_list (List.map TNode.av p0.list)] fun v L' => ∃ up0_list : AV, v = .tup [] ∧ L' = [.cell bp0 [(.str r.s), (.int .i64 r.at_), (.int .i64 r.code), up0_list, .undef], .row 3 up0_list (List.map TNode.av r.list)]) (ih_impl_reProduct : ∀ {p0 : Treader} {r : Treader} {bp0 : Nat} {wp0_list : AV} , rec_impl_reProduct p0 = some r → HS Try.prog 81 [(.ptr bp0 0)] [.cell bp0 [(.str p0.s), (.int .i64 p0.at_), (.int .i64 p0.code), wp0_list, .undef], .row 3 wp0_list (List.map TNode.av p0.list)] fun v L' => ∃ up0_list : AV, v = .tup [] ∧ L' = [.cell bp0 [(.str r.s), (.int .i64 r.at_), (.int .i64 r.code), up0_list, .undef], .row 3 up0_list (List.map TNode.av r.list)]) (ih_impl_reAtom : ∀ {p0 : Treader} {r : Treader} {bp0 : Nat} {wp0_list : AV} , rec_impl_reAtom p0 = some r → HS Try.prog 97 [(.ptr bp0 0)] [.cell bp0 [(.str p0.s), (.int .i64 p0.at_), (.int .i64 p0.code), wp0_list, .undef], .row 3 wp0_list (List.map TNode.av p0.list)] fun v L' => ∃ up0_list : AV, v = .tup [] ∧ L' = [.cell bp0 [(.str r.s), (.int .i64 r.at_), (.int .i64 r.code), up0_list, .undef], .row 3 up0_list (List.map TNode.av r.list)]) (hF : impl_reSum.body rec_impl_reSum rec_impl_reProduct rec_impl_reAtom p0 = some r) : HS Try.prog 53 [(.ptr bp0 0)] [.cell bp0 [(.str p0.s), (.int .i64 p0.at_), (.int .i64 p0.code), wp0_list, .undef], .row 3 wp0_list (List.map TNode.av p0.list)] fun v L' => ∃ up0_list : AV, v = .tup [] ∧ L' = [.cell bp0 [(.str r.s), (.int .i64 r.at_), (.int .i64 r.code), up0_list, .undef], .row 3 up0_list (List.map TNode.av r.list)] := by
  intro H S hS
  refine HC.enter Try.func53 rfl Try.ntmps53 (by simp) ?_
  simp only [List.cons_append, List.nil_append] at hS
  unfold impl_reSum.body at hF
  refine AWP.lastR rfl ?_
  refine ASL.q (v := (.ptr bp0 0)) rfl rfl (Light.quiet (opMove rfl rfl)) ?_
  obtain ⟨a3, ha3, hF⟩ := bindE hF
  refine ASL.x rfl rfl (hCallS hS [0, 1, 2] (F := [.snap S]) rfl rfl rfl call_80 (impl_reader_row_ok call_81 (fun _ _ _ _ h => ih_impl_reProduct h) ha3) rfl rfl ?_); rintro _ _ G5 ⟨w3, rfl, rfl⟩ hS
  refine ASL.done ?_
  refine QRet.end ?_
  obtain rfl := someE hF
  exact QRet.many (vs := []) trivial (by simp) ⟨_, ⟨w3, rfl, rfl⟩, hS.pick [0, 1, 2] rfl rfl⟩

set_option maxRecDepth 10000 in
theorem impl_reProduct.body_ok {p0 : Treader} {r : Treader} {bp0 : Nat} {wp0_list : AV} {rec_impl_reSum : Treader → Option Treader} {rec_impl_reProduct : Treader → Option Treader} {rec_impl_reAtom : Treader → Option Treader} (ih_impl_reSum : ∀ {p0 : Treader} {r : Treader} {bp0 : Nat} {wp0_list : AV} , rec_impl_reSum p0 = some r → HS Try.prog 53 [(.ptr bp0 0)] [.cell bp0 [(.str p0.s), (.int .i64 p0.at_), (.int .i64 p0.code), wp0_list, .undef], .row 3 wp0_list (List.map TNode.av p0.list)] fun v L' => ∃ up0_list : AV, v = .tup [] ∧ L' = [.cell bp0 [(.str r.s), (.int .i64 r.at_), (.int .i64 r.code), up0_list, .undef], .row 3 up0_list (List.map TNode.av r.list)]) (ih_impl_reProduct : ∀ {p0 : Treader} {r : Treader} {bp0 : Nat} {wp0_list : AV} , rec_impl_reProduct p0 = some r → HS Try.prog 81 [(.ptr bp0 0)] [.cell bp0 [(.str p0.s), (.int .i64 p0.at_), (.int .i64 p0.code), wp0_list, .undef], .row 3 wp0_list (List.map TNode.av p0.list)] fun v L' => ∃ up0_list : AV, v = .tup [] ∧ L' = [.cell bp0 [(.str r.s), (.int .i64 r.at_), (.int .i64 r.code), up0_list, .undef], .row 3 up0_list (List.map TNode.av r.list)]) (ih_impl_reAtom : ∀ {p0 : Treader} {r : Treader} {bp0 : Nat} {wp0_list : AV} , rec_impl_reAtom p0 = some r → HS Try.prog 97 [(.ptr bp0 0)] [.cell bp0 [(.str p0.s), (.int .i64 p0.at_), (.int .i64 p0.code), wp0_list, .undef], .row 3 wp0_list (List.map TNode.av p0.list)] fun v L' => ∃ up0_list : AV, v = .tup [] ∧ L' = [.cell bp0 [(.str r.s), (.int .i64 r.at_), (.int .i64 r.code), up0_list, .undef], .row 3 up0_list (List.map TNode.av r.list)]) (hF : impl_reProduct.body rec_impl_reSum rec_impl_reProduct rec_impl_reAtom p0 = some r) : HS Try.prog 81 [(.ptr bp0 0)] [.cell bp0 [(.str p0.s), (.int .i64 p0.at_), (.int .i64 p0.code), wp0_list, .undef], .row 3 wp0_list (List.map TNode.av p0.list)] fun v L' => ∃ up0_list : AV, v = .tup [] ∧ L' = [.cell bp0 [(.str r.s), (.int .i64 r.at_), (.int .i64 r.code), up0_list, .undef], .row 3 up0_list (List.map TNode.av r.list)] := by
  intro H S hS
  refine HC.enter Try.func81 rfl Try.ntmps81 (by simp) ?_
  simp only [List.cons_append, List.nil_append] at hS
  unfold impl_reProduct.body at hF
  refine AWP.lastR rfl ?_
  refine ASL.q (v := (.ptr bp0 0)) rfl rfl (Light.quiet (opMove rfl rfl)) ?_
  obtain ⟨a3, ha3, hF⟩ := bindE hF
  refine ASL.x rfl rfl (hCallS hS [0, 1, 2] (F := [.snap S]) rfl rfl rfl call_80 (impl_reader_row_ok call_97 (fun _ _ _ _ h => ih_impl_reAtom h) ha3) rfl rfl ?_); rintro _ _ G5 ⟨w3, rfl, rfl⟩ hS
  refine ASL.done ?_
  refine QRet.end ?_
  obtain rfl := someE hF
  exact QRet.many (vs := []) trivial (by simp) ⟨_, ⟨w3, rfl, rfl⟩, hS.pick [0, 1, 2] rfl rfl⟩

set_option maxRecDepth 10000 in
theorem impl_reAtom.body_ok {p0 : Treader} {r : Treader} {bp0 : Nat} {wp0_list : AV} {rec_impl_reSum : Treader → Option Treader} {rec_impl_reProduct : Treader → Option Treader} {rec_impl_reAtom : Treader → Option Treader} (ih_impl_reSum : ∀ {p0 : Treader} {r : Treader} {bp0 : Nat} {wp0_list : AV} , rec_impl_reSum p0 = some r → HS Try.prog 53 [(.ptr bp0 0)] [.cell bp0 [(.str p0.s), (.int .i64 p0.at_), (.int .i64 p0.code), wp0_list, .undef], .row 3 wp0_list (List.map TNode.av p0.list)] fun v L' => ∃ up0_list : AV, v = .tup [] ∧ L' = [.cell bp0 [(.str r.s), (.int .i64 r.at_), (.int .i64 r.code), up0_list, .undef], .row 3 up0_list (List.map TNode.av r.list)]) (ih_impl_reProduct : ∀ {p0 : Treader} {r : Treader} {bp0 : Nat} {wp0_list : AV} , rec_impl_reProduct p0 = some r → HS Try.prog 81 [(.ptr bp0 0)] [.cell bp0 [(.str p0.s), (.int .i64 p0.at_), (.int .i64 p0.code), wp0_list, .undef], .row 3 wp0_list (List.map TNode.av p0.list)] fun v L' => ∃ up0_list : AV, v = .tup [] ∧ L' = [.cell bp0 [(.str r.s), (.int .i64 r.at_), (.int .i64 r.code), up0_list, .undef], .row 3 up0_list (List.map TNode.av r.list)]) (ih_impl_reAtom : ∀ {p0 : Treader} {r : Treader} {bp0 : Nat} {wp0_list : AV} , rec_impl_reAtom p0 = some r → HS Try.prog 97 [(.ptr bp0 0)] [.cell bp0 [(.str p0.s), (.int .i64 p0.at_), (.int .i64 p0.code), wp0_list, .undef], .row 3 wp0_list (List.map TNode.av p0.list)] fun v L' => ∃ up0_list : AV, v = .tup [] ∧ L' = [.cell bp0 [(.str r.s), (.int .i64 r.at_), (.int .i64 r.code), up0_list, .undef], .row 3 up0_list (List.map TNode.av r.list)]) (hF : impl_reAtom.body rec_impl_reSum rec_impl_reProduct rec_impl_reAtom p0 = some r) : HS Try.prog 97 [(.ptr bp0 0)] [.cell bp0 [(.str p0.s), (.int .i64 p0.at_), (.int .i64 p0.code), wp0_list, .undef], .row 3 wp0_list (List.map TNode.av p0.list)] fun v L' => ∃ up0_list : AV, v = .tup [] ∧ L' = [.cell bp0 [(.str r.s), (.int .i64 r.at_), (.int .i64 r.code), up0_list, .undef], .row 3 up0_list (List.map TNode.av r.list)] := by
  intro H S hS
  refine HC.enter Try.func97 rfl Try.ntmps97 (by simp) ?_
  simp only [List.cons_append, List.nil_append] at hS
  unfold impl_reAtom.body at hF
  refine AWP.seqR rfl ?_
  refine ASL.q (v := (.ptr bp0 0)) rfl rfl (Light.quiet (opMove rfl rfl)) ?_
  obtain ⟨a4, ha4, hF⟩ := bindE hF
  refine ASL.q (v := (.int .u8 a4)) rfl rfl ((qCallR hS rfl rfl call_101 (impl_reader_peek_ok ha4) ⟨RAS.cellL (k := 0) rfl ⟨.same _, .same _, .same _, .row (k := 1) rfl, .same _, trivial⟩, trivial⟩ (by constructor))) ?_
  refine ASL.q (v := (.int .u8 a4)) rfl rfl (Light.quiet (opAssign rfl rfl)) ?_
  refine ASL.done ?_
  refine AWP.seqM (fun e H => ∃ y3 : ByteArray, ∃ y4 : Int, ∃ y5 : Int, ∃ y6 : (List TNode), ∃ w7 : AV, E.Told e [(0, (.ptr bp0 0))] ∧ E.Sep H [.row 3 w7 (List.map TNode.av y6), .cell bp0 [(.str y3), (.int .i64 y4), (.int .i64 y5), w7, .undef], .snap S] ∧ impl_reAtom.k0 y3 y4 y5 y6 = some r) ?_ ?_
  · rintro e0 G28 ⟨y3, y4, y5, y6, w7, hT, hS, hF⟩; refine AWP.only _ hT ?_; unfold impl_reAtom.k0 at hF
    refine AWP.block ?_
    obtain ⟨o18, hL17, hR19⟩ := bindE hF
    refine AWP.loopF (ω := AV) hL17 (fun s w => [(0, (.ptr bp0 0))]) (fun s w => [.row 3 w (List.map TNode.av s.2.2.2), .cell bp0 [(.str s.1), (.int .i64 s.2.1), (.int .i64 s.2.2.1), w, .undef], .snap S]) w7 ⟨rfl, trivial⟩ (hS.pick [0, 1, 2] rfl rfl) ?_
    rintro ⟨y9, y10, y11, y12⟩ w13 G20 hS x15 hF hx16
    try dsimp only at hS ⊢
    have hF : impl_reAtom.b0 y9 y10 y11 y12 = some x15 := hF; unfold impl_reAtom.b0 at hF
    refine AWP.seq ?_
    refine AWP.seqR rfl ?_
    refine ASL.q (v := (.ptr bp0 0)) rfl rfl (Light.quiet (opMove rfl rfl)) ?_
    obtain ⟨a42, ha42, hF⟩ := bindE hF
    refine ASL.x rfl rfl (hCallS hS [1, 0, 2] (F := [.snap S]) rfl rfl rfl call_95 (impl_reader_skip_ok ha42) rfl rfl ?_); rintro _ _ G23 ⟨w21, rfl, rfl⟩ hS
    refine ASL.done ?_
    refine AWP.ifB hF rfl (fun hc24 hF => ?_) (fun hc24 hF => ?_)
    · skip
      refine AWP.skip ?_
      refine QThen.nrm ?_
      refine AWP.block ?_
      refine AWP.lastR rfl ?_
      refine ASL.q (v := (.ptr bp0 0)) rfl rfl (Light.quiet (opMove rfl rfl)) ?_
      obtain ⟨a44, ha44, hF⟩ := bindE hF
      refine ASL.x rfl rfl (hCallS hS [0, 1, 2] (F := [.snap S]) rfl rfl rfl call_105 (impl_reader_one_ok ha44) rfl rfl ?_); rintro _ _ G27 ⟨w25, rfl, rfl⟩ hS
      refine ASL.done ?_
      refine QBlock.nrm ?_
      refine QThen.nrm ?_
      exact ⟨(a44.s, a44.at_, a44.code, a44.list), w25, (someE hF).symm, ⟨rfl, trivial⟩, (hS.pick [1, 0, 2] rfl rfl)⟩
    · skip
      refine AWP.exit ?_
      refine QThen.ext ?_
      refine QThen.ext ?_
      refine QBlock.hit ?_
      obtain rfl := (hx16 _ (someE hF).symm)
      have hF := hR19
      refine QRet.end ?_
      obtain rfl := someE hF
      exact QRet.many (vs := []) trivial (by simp) ⟨_, ⟨w21, rfl, rfl⟩, hS.pick [0, 1, 2] rfl rfl⟩
  · skip
    refine AWP.block ?_
    refine AWP.seqR rfl ?_
    refine ASL.q (v := (.ptr bp0 0)) rfl rfl (Light.quiet (opMove rfl rfl)) ?_
    obtain ⟨a9, ha9, hF⟩ := bindE hF
    refine ASL.x rfl rfl (hCallS hS [0, 1, 2] (F := [.snap S]) rfl rfl rfl call_95 (impl_reader_skip_ok ha9) rfl rfl ?_); rintro _ _ G31 ⟨w29, rfl, rfl⟩ hS
    refine ASL.q (v := (.bool a9.1)) rfl rfl (Light.quiet (opAssign rfl rfl)) ?_
    refine ASL.done ?_
    refine AWP.ifB hF rfl (fun hc32 hF => ?_) (fun hc32 hF => ?_)
    · skip
      refine AWP.lastR rfl ?_
      refine ASL.q (v := (.ptr bp0 0)) rfl rfl (Light.quiet (opMove rfl rfl)) ?_
      obtain ⟨a11, ha11, hF⟩ := bindE hF
      refine ASL.x rfl rfl (hCallS hS [0, 1, 2] (F := [.snap S]) rfl rfl rfl call_102 (impl_reader_bracket_ok call_53 (fun _ _ _ _ h => ih_impl_reSum h) ha11) rfl rfl ?_); rintro _ _ G35 ⟨w33, rfl, rfl⟩ hS
      refine ASL.done ?_
      refine QBlock.nrm ?_
      refine QThen.nrm ?_
      exact ⟨a11.s, a11.at_, a11.code, a11.list, w33, ⟨rfl, trivial⟩, (hS.pick [1, 0, 2] rfl rfl), hF⟩
    · skip
      refine AWP.seqR rfl ?_
      refine ASL.q (v := (.ptr bp0 0)) rfl rfl (Light.quiet (opMove rfl rfl)) ?_
      obtain ⟨a14, ha14, hF⟩ := bindE hF
      refine ASL.x rfl rfl (hCallS hS [0, 1, 2] (F := [.snap S]) rfl rfl rfl call_95 (impl_reader_skip_ok ha14) rfl rfl ?_); rintro _ _ G38 ⟨w36, rfl, rfl⟩ hS
      refine ASL.q (v := (.bool a14.1)) rfl rfl (Light.quiet (opAssign rfl rfl)) ?_
      refine ASL.done ?_
      refine AWP.ifB hF rfl (fun hc39 hF => ?_) (fun hc39 hF => ?_)
      · skip
        refine AWP.lastR rfl ?_
        refine ASL.q (v := (.ptr bp0 0)) rfl rfl (Light.quiet (opMove rfl rfl)) ?_
        obtain ⟨a16, ha16, hF⟩ := bindE hF
        refine ASL.x rfl rfl (hCallS hS [0, 1, 2] (F := [.snap S]) rfl rfl rfl call_103 (impl_reader_leaf_ok ha16) rfl rfl ?_); rintro _ _ G42 ⟨w40, rfl, rfl⟩ hS
        refine ASL.done ?_
        refine QBlock.nrm ?_
        refine QThen.nrm ?_
        exact ⟨a16.s, a16.at_, a16.code, a16.list, w40, ⟨rfl, trivial⟩, (hS.pick [1, 0, 2] rfl rfl), hF⟩
      · skip
        refine AWP.seqR rfl ?_
        refine ASL.q (v := (.ptr bp0 0)) rfl rfl (Light.quiet (opMove rfl rfl)) ?_
        obtain ⟨a19, ha19, hF⟩ := bindE hF
        refine ASL.x rfl rfl (hCallS hS [0, 1, 2] (F := [.snap S]) rfl rfl rfl call_95 (impl_reader_skip_ok ha19) rfl rfl ?_); rintro _ _ G45 ⟨w43, rfl, rfl⟩ hS
        refine ASL.q (v := (.bool a19.1)) rfl rfl (Light.quiet (opAssign rfl rfl)) ?_
        refine ASL.done ?_
        refine AWP.ifB hF rfl (fun hc46 hF => ?_) (fun hc46 hF => ?_)
        · skip
          refine AWP.lastR rfl ?_
          refine ASL.q (v := (.ptr bp0 0)) rfl rfl (Light.quiet (opMove rfl rfl)) ?_
          obtain ⟨a21, ha21, hF⟩ := bindE hF
          refine ASL.x rfl rfl (hCallS hS [0, 1, 2] (F := [.snap S]) rfl rfl rfl call_103 (impl_reader_leaf_ok ha21) rfl rfl ?_); rintro _ _ G49 ⟨w47, rfl, rfl⟩ hS
          refine ASL.done ?_
          refine QBlock.nrm ?_
          refine QThen.nrm ?_
          exact ⟨a21.s, a21.at_, a21.code, a21.list, w47, ⟨rfl, trivial⟩, (hS.pick [1, 0, 2] rfl rfl), hF⟩
        · skip
          refine AWP.seqR rfl ?_
          refine ASL.q (v := (.int .u8 a4)) rfl rfl (Light.quiet (opMove rfl rfl)) ?_
          refine ASL.q (v := (.bool (decide (a4 ≥ 48)))) rfl rfl (Light.quiet (opInt rfl rfl rfl rfl)) ?_
          obtain ⟨c25, hc25, hF⟩ := bndE hF
          refine ASL.q (v := (.bool c25)) rfl rfl ((Quiet.cast (Light.quiet (opMove rfl rfl)) (congrArg AV.bool hc25.symm))) ?_
          refine ASL.g (v := (.int .u8 a4)) (.bool c25) true rfl (wT _) rfl (fun hG => by have q0 := hG; subst q0; exact Light.quiet (opMove rfl rfl)) ?_
          refine ASL.g (v := (.bool (decide (a4 < 56)))) (.bool c25) true rfl (wT _) rfl (fun hG => by have q0 := hG; subst q0; exact Light.quiet (opInt rfl rfl rfl rfl)) ?_
          refine ASL.q (v := (.bool (c25 && (decide (a4 < 56))))) rfl rfl (Light.quiet (opPick (b := c25) rfl rfl (by cases c25 <;> rfl))) ?_
          refine ASL.q (v := (.bool (c25 && (decide (a4 < 56))))) rfl rfl (Light.quiet (opAssign rfl rfl)) ?_
          refine ASL.done ?_
          refine AWP.ifB hF rfl (fun hc50 hF => ?_) (fun hc50 hF => ?_)
          · skip
            refine AWP.seqR rfl ?_
            refine ASL.q (v := (.ptr bp0 0)) rfl rfl (Light.quiet (opMove rfl rfl)) ?_
            refine ASL.q (v := (.ptr bp0 0)) rfl rfl (Light.quiet (opNil rfl rfl rfl)) ?_
            refine ASL.q (v := (.ptr bp0 1)) rfl rfl (Light.quiet (opFieldAddr rfl fieldA_104_1 rfl rfl)) ?_
            refine ASL.q (v := (.int .i64 a19.2.at_)) rfl rfl (Light.quiet (kAt hS (j := 0) rfl rfl aggA_3 rfl rfl)) ?_
            refine ASL.q (v := (.int .i64 (W (a19.2.at_ + 1)))) rfl rfl (Light.quiet (opInt rfl rfl rfl rfl)) ?_
            refine ASL.q (v := (.ptr bp0 0)) rfl rfl (Light.quiet (opNil rfl rfl rfl)) ?_
            refine ASL.q (v := (.ptr bp0 1)) rfl rfl (Light.quiet (opFieldAddr rfl fieldA_104_1 rfl rfl)) ?_
            refine ASL.n rfl rfl (hPut hS (j := 0) rfl rfl sizeA_3 rfl rfl rfl (nlt rfl) ?_); rintro G51 hS
            refine ASL.done ?_
            refine AWP.lastR rfl ?_
            refine ASL.q (v := (.ptr bp0 0)) rfl rfl (Light.quiet (opMove rfl rfl)) ?_
            refine ASL.q (v := (.int .u8 a4)) rfl rfl (Light.quiet (opMove rfl rfl)) ?_
            refine ASL.q (v := (.int .u8 (IntKind.u8.wrap (a4 - 48)))) rfl rfl (Light.quiet (opInt rfl rfl rfl rfl)) ?_
            refine ASL.q (v := (.int .i64 (IntKind.i64.wrap ((IntKind.u8.wrap (a4 - 48)))))) rfl rfl (Light.quiet (opConv rfl rfl und_5 und_3 rfl)) ?_
            obtain ⟨a40, ha40, hF⟩ := bindE hF
            refine ASL.x rfl rfl (hCallS hS [0, 1, 2] (F := [.snap S]) rfl rfl rfl call_103 (impl_reader_leaf_ok ha40) rfl rfl ?_); rintro _ _ G54 ⟨w52, rfl, rfl⟩ hS
            refine ASL.done ?_
            refine QBlock.nrm ?_
            refine QThen.nrm ?_
            exact ⟨a40.s, a40.at_, a40.code, a40.list, w52, ⟨rfl, trivial⟩, (hS.pick [1, 0, 2] rfl rfl), hF⟩
          · skip
            refine AWP.lastR rfl ?_
            refine ASL.q (v := (.ptr bp0 0)) rfl rfl (Light.quiet (opMove rfl rfl)) ?_
            obtain ⟨a6, ha6, hF⟩ := bindE hF
            refine ASL.x rfl rfl (hCallS hS [0, 1, 2] (F := [.snap S]) rfl rfl rfl call_104 (impl_reader_fail_ok ha6) rfl rfl ?_); rintro _ _ G57 ⟨w55, rfl, rfl⟩ hS
            refine ASL.done ?_
            refine QBlock.nrm ?_
            refine QThen.nrm ?_
            exact ⟨a6.s, a6.at_, a6.code, a6.list, w55, ⟨rfl, trivial⟩, (hS.pick [1, 0, 2] rfl rfl), hF⟩
theorem impl_reSum.grp_ok {K : Nat} : (∀ {p0 : Treader} {r : Treader} {bp0 : Nat} {wp0_list : AV} , impl_reSum K p0 = some r → HS Try.prog 53 [(.ptr bp0 0)] [.cell bp0 [(.str p0.s), (.int .i64 p0.at_), (.int .i64 p0.code), wp0_list, .undef], .row 3 wp0_list (List.map TNode.av p0.list)] fun v L' => ∃ up0_list : AV, v = .tup [] ∧ L' = [.cell bp0 [(.str r.s), (.int .i64 r.at_), (.int .i64 r.code), up0_list, .undef], .row 3 up0_list (List.map TNode.av r.list)]) ∧ (∀ {p0 : Treader} {r : Treader} {bp0 : Nat} {wp0_list : AV} , impl_reProduct K p0 = some r → HS Try.prog 81 [(.ptr bp0 0)] [.cell bp0 [(.str p0.s), (.int .i64 p0.at_), (.int .i64 p0.code), wp0_list, .undef], .row 3 wp0_list (List.map TNode.av p0.list)] fun v L' => ∃ up0_list : AV, v = .tup [] ∧ L' = [.cell bp0 [(.str r.s), (.int .i64 r.at_), (.int .i64 r.code), up0_list, .undef], .row 3 up0_list (List.map TNode.av r.list)]) ∧ (∀ {p0 : Treader} {r : Treader} {bp0 : Nat} {wp0_list : AV} , impl_reAtom K p0 = some r → HS Try.prog 97 [(.ptr bp0 0)] [.cell bp0 [(.str p0.s), (.int .i64 p0.at_), (.int .i64 p0.code), wp0_list, .undef], .row 3 wp0_list (List.map TNode.av p0.list)] fun v L' => ∃ up0_list : AV, v = .tup [] ∧ L' = [.cell bp0 [(.str r.s), (.int .i64 r.at_), (.int .i64 r.code), up0_list, .undef], .row 3 up0_list (List.map TNode.av r.list)]) := by
  induction K with
  | zero => exact ⟨(by intros; rename_i h; cases h), (by intros; rename_i h; cases h), (by intros; rename_i h; cases h)⟩
  | succ K ih => exact ⟨(by intros; rename_i h; exact impl_reSum.body_ok ih.1 ih.2.1 ih.2.2 h), (by intros; rename_i h; exact impl_reProduct.body_ok ih.1 ih.2.1 ih.2.2 h), (by intros; rename_i h; exact impl_reAtom.body_ok ih.1 ih.2.1 ih.2.2 h)⟩

theorem impl_reSum_ok {K : Nat} : (∀ {p0 : Treader} {r : Treader} {bp0 : Nat} {wp0_list : AV} , impl_reSum K p0 = some r → HS Try.prog 53 [(.ptr bp0 0)] [.cell bp0 [(.str p0.s), (.int .i64 p0.at_), (.int .i64 p0.code), wp0_list, .undef], .row 3 wp0_list (List.map TNode.av p0.list)] fun v L' => ∃ up0_list : AV, v = .tup [] ∧ L' = [.cell bp0 [(.str r.s), (.int .i64 r.at_), (.int .i64 r.code), up0_list, .undef], .row 3 up0_list (List.map TNode.av r.list)]) := impl_reSum.grp_ok.1

theorem impl_reProduct_ok {K : Nat} : (∀ {p0 : Treader} {r : Treader} {bp0 : Nat} {wp0_list : AV} , impl_reProduct K p0 = some r → HS Try.prog 81 [(.ptr bp0 0)] [.cell bp0 [(.str p0.s), (.int .i64 p0.at_), (.int .i64 p0.code), wp0_list, .undef], .row 3 wp0_list (List.map TNode.av p0.list)] fun v L' => ∃ up0_list : AV, v = .tup [] ∧ L' = [.cell bp0 [(.str r.s), (.int .i64 r.at_), (.int .i64 r.code), up0_list, .undef], .row 3 up0_list (List.map TNode.av r.list)]) := impl_reSum.grp_ok.2.1

theorem impl_reAtom_ok {K : Nat} : (∀ {p0 : Treader} {r : Treader} {bp0 : Nat} {wp0_list : AV} , impl_reAtom K p0 = some r → HS Try.prog 97 [(.ptr bp0 0)] [.cell bp0 [(.str p0.s), (.int .i64 p0.at_), (.int .i64 p0.code), wp0_list, .undef], .row 3 wp0_list (List.map TNode.av p0.list)] fun v L' => ∃ up0_list : AV, v = .tup [] ∧ L' = [.cell bp0 [(.str r.s), (.int .i64 r.at_), (.int .i64 r.code), up0_list, .undef], .row 3 up0_list (List.map TNode.av r.list)]) := impl_reSum.grp_ok.2.2

set_option maxRecDepth 10000 in
theorem impl_ReParse_ok {K : Nat} {p0 : ByteArray} {r : ((List TNode) × Int × Int)} (hF : impl_ReParse K p0 = some r) : HS Try.prog 20 [(.str p0)] [] fun v L' => ∃ o0 : AV, v = .tup [o0, (.int .i64 r.2.1), (.int .i64 r.2.2)] ∧ L' = [.row 3 o0 (List.map TNode.av r.1)] := by
  intro H S hS
  refine HC.enter Try.func20 rfl Try.ntmps20 (by simp) ?_
  simp only [List.cons_append, List.nil_append] at hS
  unfold impl_ReParse at hF
  refine AWP.seqR rfl ?_
  have hS := hNil (s := 3) (f := TNode.av) hS
  refine ASL.q (v := .nil) rfl rfl (Light.quiet (opAssign rfl rfl)) ?_
  refine ASL.q (v := (.int .i64 0)) rfl rfl (Light.quiet (opAssign rfl rfl)) ?_
  refine ASL.q (v := (.int .i64 0)) rfl rfl (Light.quiet (opAssign rfl rfl)) ?_
  refine ASL.done ?_
  refine AWP.seqR rfl ?_
  refine ASL.q (v := (.str p0)) rfl rfl (Light.quiet (opMove rfl rfl)) ?_
  obtain ⟨a6, ha6, hF⟩ := bindE hF
  refine ASL.x rfl rfl (hCallSR hS rfl rfl call_52 (impl_parsed_ok call_53 (fun _ _ _ _ h => impl_reSum_ok h) ha6) ⟨.same _, .same _, trivial⟩ (by rintro _ _ G ⟨w2, rfl, rfl⟩ hG; exact ⟨(Scal.tup (ScalC.cons (hG.scR (k := 0) rfl) (ScalC.cons (by constructor) (ScalC.cons (by constructor) ScalC.nil)))), ⟨(Scal.row (fun _ => by simp only [TNode.av, cells, List.mem_cons, List.not_mem_nil, or_false]; rintro c hc; rcases hc with rfl | rfl | rfl <;> constructor)), trivial⟩⟩) ?_); rintro _ _ G4 ⟨w2, rfl, rfl⟩ hK hS
  refine ASL.q (v := w2) rfl rfl (Light.quiet (opExtract rfl rfl rfl)) ?_
  refine ASL.q (v := (.int .i64 a6.2.1)) rfl rfl (Light.quiet (opExtract rfl rfl rfl)) ?_
  refine ASL.q (v := (.int .i64 a6.2.2)) rfl rfl (Light.quiet (opExtract rfl rfl rfl)) ?_
  refine ASL.q (v := w2) rfl rfl (Light.quiet (opAssign rfl rfl)) ?_
  refine ASL.q (v := (.int .i64 a6.2.1)) rfl rfl (Light.quiet (opAssign rfl rfl)) ?_
  refine ASL.q (v := (.int .i64 a6.2.2)) rfl rfl (Light.quiet (opAssign rfl rfl)) ?_
  refine ASL.done ?_
  refine AWP.ret ?_
  obtain rfl := someE hF
  exact QRet.many (vs := [w2, (.int .i64 a6.2.1), (.int .i64 a6.2.2)]) ⟨rfl, rfl, rfl, trivial⟩ (by simp) ⟨_, ⟨w2, rfl, rfl⟩, hS.pick [0, 2] rfl rfl⟩

set_option maxRecDepth 10000 in
theorem laws_sameNodes_ok {p0 : (List TNode)} {p1 : (List TNode)} {r : Bool} (hF : laws_sameNodes p0 p1 = some r) : PC Try.prog 21 [(.list 3 (List.map TNode.av p0)), (.list 3 (List.map TNode.av p1))] fun v => v = (.bool r) := by
  refine PC.enter Try.func21 rfl Try.ntmps21 (by simp) ?_
  have hS := Sep.void; unfold laws_sameNodes at hF
  refine AWP.seqR rfl ?_
  refine ASL.q (v := (.bool false)) rfl rfl (Light.quiet (opAssign rfl rfl)) ?_
  refine ASL.done ?_
  refine AWP.seq ?_
  refine AWP.seqR rfl ?_
  refine ASL.q (v := (.list 3 (List.map TNode.av p0))) rfl rfl (Light.quiet (opMove rfl rfl)) ?_
  refine ASL.q (v := (.int .i64 (p0.length : Int))) rfl rfl (Light.quiet (opLenMap (f := TNode.av) rfl rfl rfl lenT_24 rfl)) ?_
  refine ASL.q (v := (.list 3 (List.map TNode.av p1))) rfl rfl (Light.quiet (opMove rfl rfl)) ?_
  refine ASL.q (v := (.int .i64 (p1.length : Int))) rfl rfl (Light.quiet (opLenMap (f := TNode.av) rfl rfl rfl lenT_24 rfl)) ?_
  refine ASL.q (v := (.bool (decide (((p0.length : Int)) ≠ ((p1.length : Int)))))) rfl rfl (Light.quiet (opInt rfl rfl rfl rfl)) ?_
  refine ASL.done ?_
  refine AWP.ifP hF rfl (fun hc1 hF => ?_) (fun hc1 hF => ?_)
  · skip
    refine AWP.seqR rfl ?_
    refine ASL.q (v := (.bool false)) rfl rfl (Light.quiet (opAssign rfl rfl)) ?_
    refine ASL.done ?_
    refine AWP.ret ?_
    refine QThen.rt ?_
    obtain rfl := someE hF
    exact QRet.sole (v := (.bool false)) ⟨rfl, trivial⟩ rfl
  · skip
    refine AWP.skip ?_
    refine QThen.nrm ?_
    refine AWP.seqM (fun e H => E.Told e [] ∧ E.Sep H [] ∧ laws_sameNodes.k0 = some r) ?_ ?_
    · rintro e0 G2 ⟨hT, hS, hF⟩; refine AWP.only _ hT ?_; unfold laws_sameNodes.k0 at hF
      refine AWP.seqR rfl ?_
      refine ASL.q (v := (.bool true)) rfl rfl (Light.quiet (opAssign rfl rfl)) ?_
      refine ASL.done ?_
      refine AWP.ret ?_
      obtain rfl := someE hF
      exact QRet.sole (v := (.bool true)) ⟨rfl, trivial⟩ rfl
    · skip
      refine AWP.seqR rfl ?_
      refine ASL.q (v := (.int .i64 0)) rfl rfl (Light.quiet (opAssign rfl rfl)) ?_
      refine ASL.done ?_
      refine AWP.block ?_
      obtain ⟨o6, hL5, hR7⟩ := bindE hF
      refine AWP.loopF (ω := Unit) hL5 (fun s w => [(0, (.list 3 (List.map TNode.av p0))), (1, (.list 3 (List.map TNode.av p1))), (5, (.int .i64 s))]) (fun s w => []) () ⟨rfl, rfl, rfl, trivial⟩ (hS.pick [] rfl rfl) ?_
      rintro x5_l0 _ G8 hS x3 hF hx4
      try dsimp only at hS ⊢
      have hF : laws_sameNodes.b0 p0 p1 x5_l0 = some x3 := hF; unfold laws_sameNodes.b0 at hF
      refine AWP.seq ?_
      refine AWP.seqR rfl ?_
      refine ASL.q (v := (.int .i64 x5_l0)) rfl rfl (Light.quiet (opMove rfl rfl)) ?_
      refine ASL.q (v := (.list 3 (List.map TNode.av p0))) rfl rfl (Light.quiet (opMove rfl rfl)) ?_
      refine ASL.q (v := (.int .i64 (p0.length : Int))) rfl rfl (Light.quiet (opLenMap (f := TNode.av) rfl rfl rfl lenT_24 rfl)) ?_
      refine ASL.q (v := (.bool (decide (x5_l0 < ((p0.length : Int)))))) rfl rfl (Light.quiet (opInt rfl rfl rfl rfl)) ?_
      refine ASL.done ?_
      refine AWP.ifP hF rfl (fun hc9 hF => ?_) (fun hc9 hF => ?_)
      · skip
        refine AWP.skip ?_
        refine QThen.nrm ?_
        refine AWP.seq ?_
        refine AWP.block ?_
        refine AWP.seqD [(0, false), (1, false), (2, false), (3, false), (4, false), (5, false), (6, false), (7, false), (8, false)] mixed (by kernel_rfl) rfl ?_
        refine ARL.q0 (v := (.list 3 (List.map TNode.av p0))) rfl rfl (Light.quiet (opMove rfl rfl)) ?_
        refine ARL.q0 (v := (.int .i64 x5_l0)) rfl rfl (Light.quiet (opMove rfl rfl)) ?_
        obtain ⟨a19, ha19, hF⟩ := bindE hF
        refine ARL.q0 (v := (.rptr [(.int .i64 a19.kind), (.int .i64 a19.a), (.int .i64 a19.b)])) rfl rfl (Light.quiet (kIx (f := TNode.av) ha19 rfl rfl rfl elemA_24 sizeA_31 rfl)) ?_
        refine ARL.q0 (v := (TNode.av a19)) rfl rfl (Light.quiet (opLoadRA rfl aggA_31 sizeA_31 rfl (nlt rfl) rfl)) ?_
        refine ARL.q0 (v := (.list 3 (List.map TNode.av p1))) rfl rfl (Light.quiet (opMove rfl rfl)) ?_
        refine ARL.q0 (v := (.int .i64 x5_l0)) rfl rfl (Light.quiet (opMove rfl rfl)) ?_
        obtain ⟨a23, ha23, hF⟩ := bindE hF
        refine ARL.q0 (v := (.rptr [(.int .i64 a23.kind), (.int .i64 a23.a), (.int .i64 a23.b)])) rfl rfl (Light.quiet (kIx (f := TNode.av) ha23 rfl rfl rfl elemA_24 sizeA_31 rfl)) ?_
        refine ARL.q0 (v := (TNode.av a23)) rfl rfl (Light.quiet (opLoadRA rfl aggA_31 sizeA_31 rfl (nlt rfl) rfl)) ?_
        refine ARL.q0 (v := (.bool (!(decide (a19.kind = a23.kind ∧ a19.a = a23.a ∧ a19.b = a23.b))))) rfl rfl (Light.quiet (opAgg3Eq rfl rfl rfl eqG_31 (eqT_31 _ _ _ _ _ _) rfl)) ?_
        refine ARL.done ?_
        refine AWP.ifB hF rfl (fun hc10 hF => ?_) (fun hc10 hF => ?_)
        · skip
          refine AWP.seqR rfl ?_
          refine ASL.q (v := (.bool false)) rfl rfl (Light.quiet (opAssign rfl rfl)) ?_
          refine ASL.done ?_
          refine AWP.ret ?_
          refine QBlock.ret ?_
          refine QThen.rt ?_
          refine QThen.rt ?_
          refine QBlock.ret ?_
          refine QThen.rt ?_
          obtain rfl := (hx4 _ (someE hF).symm)
          have hF := hR7
          have hF := sumR hF
          obtain rfl := someE hF
          exact QRet.sole (v := (.bool false)) ⟨rfl, trivial⟩ rfl
        · skip
          refine AWP.skip ?_
          refine QBlock.nrm ?_
          refine QThen.nrm ?_
          refine AWP.lastR rfl ?_
          refine ASL.q (v := (.int .i64 x5_l0)) rfl rfl (Light.quiet (opMove rfl rfl)) ?_
          refine ASL.q (v := (.int .i64 (W (x5_l0 + 1)))) rfl rfl (Light.quiet (opInt rfl rfl rfl rfl)) ?_
          refine ASL.q (v := (.int .i64 (W (x5_l0 + 1)))) rfl rfl (Light.quiet (opAssign rfl rfl)) ?_
          refine ASL.done ?_
          refine QThen.nrm ?_
          exact ⟨(W (x5_l0 + 1)), (), (someE hF).symm, ⟨rfl, rfl, rfl, trivial⟩, (hS.pick [] rfl rfl)⟩
      · skip
        refine AWP.exit ?_
        refine QThen.ext ?_
        refine QThen.ext ?_
        refine QBlock.hit ?_
        obtain rfl := (hx4 _ (someE hF).symm)
        have hF := hR7
        have hF := sumL hF
        refine QThen.nrm ?_
        exact ⟨trivial, (hS.pick [] rfl rfl), hF⟩

set_option maxRecDepth 10000 in
theorem spec_l1Pick_ok {p0 : Tl1Cur} {p1 : (List ByteArray)} {r : (ByteArray × Tl1Cur)} {bp0 : Nat} (hF : spec_l1Pick p0 p1 = some r) : HS Try.prog 56 [(.ptr bp0 0), (.list 1 (List.map AV.str p1))] [.cell bp0 [(.list 1 (List.map (AV.int .u8) p0.b)), (.int .i64 p0.i), (.int .i64 p0.h)]] fun v L' => v = (.str r.1) ∧ L' = [.cell bp0 [(.list 1 (List.map (AV.int .u8) r.2.b)), (.int .i64 r.2.i), (.int .i64 r.2.h)]] := by
  intro H S hS
  refine HC.enter Try.func56 rfl Try.ntmps56 (by simp) ?_
  simp only [List.cons_append, List.nil_append] at hS
  unfold spec_l1Pick at hF
  refine AWP.seqR rfl ?_
  refine ASL.q (v := (.str { data := #[] })) rfl rfl (Light.quiet (opAssign rfl rfl)) ?_
  refine ASL.done ?_
  refine AWP.seqR rfl ?_
  refine ASL.q (v := (.list 1 (List.map AV.str p1))) rfl rfl (Light.quiet (opMove rfl rfl)) ?_
  refine ASL.q (v := (.ptr bp0 0)) rfl rfl (Light.quiet (opMove rfl rfl)) ?_
  refine ASL.q (v := (.list 1 (List.map AV.str p1))) rfl rfl (Light.quiet (opMove rfl rfl)) ?_
  refine ASL.q (v := (.int .i64 (p1.length : Int))) rfl rfl (Light.quiet (opLenMap (f := AV.str) rfl rfl rfl lenT_71 rfl)) ?_
  obtain ⟨a9, ha9, hF⟩ := bindE hF
  refine ASL.x rfl rfl (hCallS hS [0, 1] (F := [.snap S]) rfl rfl rfl call_34 (spec_l1Below_ok ha9) rfl rfl ?_); rintro _ _ G2 ⟨rfl, rfl⟩ hS
  obtain ⟨a10, ha10, hF⟩ := bindE hF
  refine ASL.q (v := (.rptr [(.str a10)])) rfl rfl (Light.quiet (kIx (f := AV.str) ha10 rfl rfl rfl elemA_71 sizeA_9 rfl)) ?_
  refine ASL.q (v := (.str a10)) rfl rfl (Light.quiet (opLoadR rfl aggA_9 rfl rfl)) ?_
  refine ASL.q (v := (.str a10)) rfl rfl (Light.quiet (opAssign rfl rfl)) ?_
  refine ASL.done ?_
  refine AWP.ret ?_
  obtain rfl := someE hF
  exact QRet.sole (v := (.str a10)) ⟨rfl, trivial⟩ ⟨_, ⟨rfl, rfl⟩, hS.pick [0, 1] rfl rfl⟩

set_option maxRecDepth 10000 in
theorem spec_l1Min_ok (p0 : Int) (p1 : Int) : PC Try.prog 84 [(.int .i64 p0), (.int .i64 p1)] fun v => v = (.int .i64 (spec_l1Min p0 p1)) := by
  generalize hF : spec_l1Min p0 p1 = r
  refine PC.enter Try.func84 rfl Try.ntmps84 (by simp) ?_
  have hS := Sep.void; unfold spec_l1Min at hF
  refine AWP.seqR rfl ?_
  refine ASL.q (v := (.int .i64 0)) rfl rfl (Light.quiet (opAssign rfl rfl)) ?_
  refine ASL.done ?_
  refine AWP.seq ?_
  refine AWP.seqR rfl ?_
  refine ASL.q (v := (.int .i64 p0)) rfl rfl (Light.quiet (opMove rfl rfl)) ?_
  refine ASL.q (v := (.int .i64 p1)) rfl rfl (Light.quiet (opMove rfl rfl)) ?_
  refine ASL.q (v := (.bool (decide (p0 < p1)))) rfl rfl (Light.quiet (opInt rfl rfl rfl rfl)) ?_
  refine ASL.done ?_
  refine AWP.ifP hF rfl (fun hc1 hF => ?_) (fun hc1 hF => ?_)
  · skip
    refine AWP.seqR rfl ?_
    refine ASL.q (v := (.int .i64 p0)) rfl rfl (Light.quiet (opMove rfl rfl)) ?_
    refine ASL.q (v := (.int .i64 p0)) rfl rfl (Light.quiet (opAssign rfl rfl)) ?_
    refine ASL.done ?_
    refine AWP.ret ?_
    refine QThen.rt ?_
    obtain rfl := hF
    exact QRet.sole (v := (.int .i64 p0)) ⟨rfl, trivial⟩ rfl
  · skip
    refine AWP.skip ?_
    refine QThen.nrm ?_
    refine AWP.seqR rfl ?_
    refine ASL.q (v := (.int .i64 p1)) rfl rfl (Light.quiet (opMove rfl rfl)) ?_
    refine ASL.q (v := (.int .i64 p1)) rfl rfl (Light.quiet (opAssign rfl rfl)) ?_
    refine ASL.done ?_
    refine AWP.ret ?_
    obtain rfl := hF
    exact QRet.sole (v := (.int .i64 p1)) ⟨rfl, trivial⟩ rfl

set_option maxRecDepth 10000 in
theorem spec_l2Dent_ok {p0 : Tl1Cur} {p1 : ByteArray} {p2 : (List ByteArray)} {r : (ByteArray × Tl1Cur)} {bp0 : Nat} (hF : spec_l2Dent p0 p1 p2 = some r) : HS Try.prog 57 [(.ptr bp0 0), (.str p1), (.list 1 (List.map AV.str p2))] [.cell bp0 [(.list 1 (List.map (AV.int .u8) p0.b)), (.int .i64 p0.i), (.int .i64 p0.h)]] fun v L' => v = (.str r.1) ∧ L' = [.cell bp0 [(.list 1 (List.map (AV.int .u8) r.2.b)), (.int .i64 r.2.i), (.int .i64 r.2.h)]] := by
  intro H S hS
  refine HC.enter Try.func57 rfl Try.ntmps57 (by simp) ?_
  simp only [List.cons_append, List.nil_append] at hS
  unfold spec_l2Dent at hF
  refine AWP.seqR rfl ?_
  refine ASL.q (v := (.str { data := #[] })) rfl rfl (Light.quiet (opAssign rfl rfl)) ?_
  refine ASL.done ?_
  refine AWP.seqR rfl ?_
  refine ASL.q (v := (.ptr bp0 0)) rfl rfl (Light.quiet (opMove rfl rfl)) ?_
  refine ASL.q (v := (.str p1)) rfl rfl (Light.quiet (opMove rfl rfl)) ?_
  refine ASL.q (v := (.int .i64 (p1.size : Int))) rfl rfl (Light.quiet (opLenOf rfl rfl rfl lenT_9 rfl rfl)) ?_
  refine ASL.q (v := (.int .i64 (W (((p1.size : Int)) + 1)))) rfl rfl (Light.quiet (opInt rfl rfl rfl rfl)) ?_
  obtain ⟨a12, ha12, hF⟩ := bindE hF
  refine ASL.x rfl rfl (hCallS hS [0, 1] (F := [.snap S]) rfl rfl rfl call_34 (spec_l1Below_ok ha12) rfl rfl ?_); rintro _ _ G2 ⟨rfl, rfl⟩ hS
  refine ASL.q (v := (.int .i64 a12.1)) rfl rfl (Light.quiet (opAssign rfl rfl)) ?_
  refine ASL.done ?_
  refine AWP.seq ?_
  refine AWP.seqR rfl ?_
  refine ASL.q (v := (.ptr bp0 0)) rfl rfl (Light.quiet (opMove rfl rfl)) ?_
  obtain ⟨a14, ha14, hF⟩ := bindE hF
  refine ASL.x rfl rfl (hCallS hS [0, 1] (F := [.snap S]) rfl rfl rfl call_34 (spec_l1Below_ok ha14) rfl rfl ?_); rintro _ _ G3 ⟨rfl, rfl⟩ hS
  refine ASL.done ?_
  refine AWP.block ?_
  refine AWP.seqR rfl ?_
  refine ASL.q (v := (.bool (decide (a14.1 = 0)))) rfl rfl (Light.quiet (opInt rfl rfl rfl rfl)) ?_
  refine ASL.q (v := (.bool (decide (a14.1 = 0)))) rfl rfl (Light.quiet (opAssign rfl rfl)) ?_
  refine ASL.done ?_
  refine AWP.ifP hF rfl (fun hc4 hF => ?_) (fun hc4 hF => ?_)
  · skip
    refine AWP.seqR rfl ?_
    refine ASL.q (v := (.str p1)) rfl rfl (Light.quiet (opMove rfl rfl)) ?_
    refine ASL.q (v := (.int .i64 a12.1)) rfl rfl (Light.quiet (opMove rfl rfl)) ?_
    obtain ⟨a19, ha19, hF⟩ := bindE hF
    refine ASL.q (v := (.str a19)) rfl rfl (Light.quiet (opCutS ha19 rfl und_9 rfl (.inl ⟨rfl, rfl⟩) (.inr ⟨_, _, rfl, rfl⟩))) ?_
    refine ASL.q (v := (.str a19)) rfl rfl (Light.quiet (opAssign rfl rfl)) ?_
    refine ASL.done ?_
    refine AWP.ret ?_
    refine QBlock.ret ?_
    refine QThen.rt ?_
    obtain rfl := someE hF
    exact QRet.sole (v := (.str a19)) ⟨rfl, trivial⟩ ⟨_, ⟨rfl, rfl⟩, hS.pick [0, 1] rfl rfl⟩
  · skip
    refine AWP.seqR rfl ?_
    refine ASL.q (v := (.bool (decide (a14.1 = 1)))) rfl rfl (Light.quiet (opInt rfl rfl rfl rfl)) ?_
    refine ASL.q (v := (.bool (decide (a14.1 = 1)))) rfl rfl (Light.quiet (opAssign rfl rfl)) ?_
    refine ASL.done ?_
    refine AWP.ifP hF rfl (fun hc5 hF => ?_) (fun hc5 hF => ?_)
    · skip
      refine AWP.seqD [(0, false), (1, false), (2, false), (3, false), (4, false), (7, false), (8, false), (9, false), (10, false), (11, false), (5, true), (6, false), (12, false), (13, false), (14, false), (15, false)] mixed (by kernel_rfl) rfl ?_
      refine ARL.q0 (v := (.str p1)) rfl rfl (Light.quiet (opMove rfl rfl)) ?_
      refine ARL.q0 (v := (.int .i64 a12.1)) rfl rfl (Light.quiet (opMove rfl rfl)) ?_
      obtain ⟨a24, ha24, hF⟩ := bindE hF
      refine ARL.q0 (v := (.str a24)) rfl rfl (Light.quiet (opCutS ha24 rfl und_9 rfl (.inl ⟨rfl, rfl⟩) (.inr ⟨_, _, rfl, rfl⟩))) ?_
      refine ARL.q0 (v := (.ptr bp0 0)) rfl rfl (Light.quiet (opMove rfl rfl)) ?_
      refine ARL.q0 (v := (.list 1 (List.map AV.str p2))) rfl rfl (Light.quiet (opMove rfl rfl)) ?_
      refine ARL.q0 (v := (.str p1)) rfl rfl (Light.quiet (opMove rfl rfl)) ?_
      refine ARL.q0 (v := (.int .i64 a12.1)) rfl rfl (Light.quiet (opMove rfl rfl)) ?_
      refine ARL.q0 (v := (.int .i64 (W (a12.1 + 1)))) rfl rfl (Light.quiet (opInt rfl rfl rfl rfl)) ?_
      refine ARL.q0 (v := (.str p1)) rfl rfl (Light.quiet (opMove rfl rfl)) ?_
      refine ARL.q0 (v := (.int .i64 (p1.size : Int))) rfl rfl (Light.quiet (opLenOf rfl rfl rfl lenT_9 rfl rfl)) ?_
      obtain ⟨a27, ha27, hF⟩ := bindE hF
      refine ARL.y rfl rfl rfl rfl (hCallS hS [0, 1] (F := [.snap S]) rfl rfl rfl call_56 (spec_l1Pick_ok ha27) rfl rfl ?_); rintro _ _ G6 ⟨rfl, rfl⟩ hS
      obtain ⟨a28, ha28, hF⟩ := bindE hF
      refine ARL.q0 (v := (.str a28)) rfl rfl (Light.quiet (opCat ha28 rfl rfl rfl)) ?_
      refine ARL.q0 (v := (.int .i64 (spec_l1Min ((W (a12.1 + 1))) ((p1.size : Int))))) rfl rfl ((qCall rfl rfl call_84 (spec_l1Min_ok ((W (a12.1 + 1))) ((p1.size : Int))) rfl)) ?_
      obtain ⟨a35, ha35, hF⟩ := bindE hF
      refine ARL.q0 (v := (.str a35)) rfl rfl (Light.quiet (opCutS ha35 rfl und_9 rfl (.inr ⟨_, _, rfl, rfl⟩) (.inl ⟨rfl, rfl⟩))) ?_
      obtain ⟨a36, ha36, hF⟩ := bindE hF
      refine ARL.q0 (v := (.str a36)) rfl rfl (Light.quiet (opCat ha36 rfl rfl rfl)) ?_
      refine ARL.q0 (v := (.str a36)) rfl rfl (Light.quiet (opAssign rfl rfl)) ?_
      refine ARL.done ?_
      refine AWP.ret ?_
      refine QBlock.ret ?_
      refine QThen.rt ?_
      obtain rfl := someE hF
      exact QRet.sole (v := (.str a36)) ⟨rfl, trivial⟩ ⟨_, ⟨rfl, rfl⟩, hS.pick [0, 1] rfl rfl⟩
    · skip
      refine AWP.skip ?_
      refine QBlock.nrm ?_
      refine QThen.nrm ?_
      refine AWP.seqD [(0, false), (1, false), (2, false), (3, false), (4, false), (7, false), (8, false), (9, false), (5, true), (6, false), (10, false), (11, false)] mixed (by kernel_rfl) rfl ?_
      refine ARL.q0 (v := (.str p1)) rfl rfl (Light.quiet (opMove rfl rfl)) ?_
      refine ARL.q0 (v := (.int .i64 a12.1)) rfl rfl (Light.quiet (opMove rfl rfl)) ?_
      obtain ⟨a39, ha39, hF⟩ := bindE hF
      refine ARL.q0 (v := (.str a39)) rfl rfl (Light.quiet (opCutS ha39 rfl und_9 rfl (.inl ⟨rfl, rfl⟩) (.inr ⟨_, _, rfl, rfl⟩))) ?_
      refine ARL.q0 (v := (.ptr bp0 0)) rfl rfl (Light.quiet (opMove rfl rfl)) ?_
      refine ARL.q0 (v := (.list 1 (List.map AV.str p2))) rfl rfl (Light.quiet (opMove rfl rfl)) ?_
      refine ARL.q0 (v := (.str p1)) rfl rfl (Light.quiet (opMove rfl rfl)) ?_
      refine ARL.q0 (v := (.int .i64 a12.1)) rfl rfl (Light.quiet (opMove rfl rfl)) ?_
      obtain ⟨a46, ha46, hF⟩ := bindE hF
      refine ARL.q0 (v := (.str a46)) rfl rfl (Light.quiet (opCutS ha46 rfl und_9 rfl (.inr ⟨_, _, rfl, rfl⟩) (.inl ⟨rfl, rfl⟩))) ?_
      obtain ⟨a42, ha42, hF⟩ := bindE hF
      refine ARL.y rfl rfl rfl rfl (hCallS hS [0, 1] (F := [.snap S]) rfl rfl rfl call_56 (spec_l1Pick_ok ha42) rfl rfl ?_); rintro _ _ G7 ⟨rfl, rfl⟩ hS
      obtain ⟨a43, ha43, hF⟩ := bindE hF
      refine ARL.q0 (v := (.str a43)) rfl rfl (Light.quiet (opCat ha43 rfl rfl rfl)) ?_
      obtain ⟨a47, ha47, hF⟩ := bindE hF
      refine ARL.q0 (v := (.str a47)) rfl rfl (Light.quiet (opCat ha47 rfl rfl rfl)) ?_
      refine ARL.q0 (v := (.str a47)) rfl rfl (Light.quiet (opAssign rfl rfl)) ?_
      refine ARL.done ?_
      refine AWP.ret ?_
      obtain rfl := someE hF
      exact QRet.sole (v := (.str a47)) ⟨rfl, trivial⟩ ⟨_, ⟨rfl, rfl⟩, hS.pick [0, 1] rfl rfl⟩

set_option maxRecDepth 10000 in
theorem spec_DrawReParse_ok {K : Nat} {p0 : (List Int)} {r : ByteArray} (hF : spec_DrawReParse K p0 = some r) : PC Try.prog 22 [(.list 1 (List.map (AV.int .u8) p0))] fun v => v = (.str r) := by
  refine PC.enter Try.func22 rfl Try.ntmps22 (by simp) ?_
  have hS := Sep.void; unfold spec_DrawReParse at hF
  refine AWP.seqR rfl ?_
  refine ASL.q (v := (.str { data := #[] })) rfl rfl (Light.quiet (opAssign rfl rfl)) ?_
  refine ASL.done ?_
  refine AWP.seqR rfl ?_
  refine ASL.q (v := (.list 1 (List.map (AV.int .u8) p0))) rfl rfl (Light.quiet (opMove rfl rfl)) ?_
  obtain ⟨a7, ha7, hF⟩ := bindE hF
  refine ASL.x rfl rfl (hCallS hS [] (F := []) rfl rfl rfl call_31 (spec_l1New_ok ha7) rfl rfl ?_); rintro _ _ G3 ⟨bq1, rfl, rfl⟩ hS
  refine ASL.q (v := (.ptr bq1 0)) rfl rfl (Light.quiet (opAssign rfl rfl)) ?_
  refine ASL.done ?_
  refine AWP.seqR rfl ?_
  refine ASL.q (v := (.ptr bq1 0)) rfl rfl (Light.quiet (opMove rfl rfl)) ?_
  obtain ⟨a9, ha9, hF⟩ := bindE hF
  refine ASL.x rfl rfl (hCallS hS [0] (F := []) rfl rfl rfl call_54 (spec_l11DrawRight_ok ha9) rfl rfl ?_); rintro w4 _ G6 ⟨_, rfl, rfl⟩ hS
  refine ASL.q (v := w4) rfl rfl (Light.quiet (opAssign rfl rfl)) ?_
  refine ASL.done ?_
  refine AWP.seqR rfl ?_
  refine ASL.q (v := w4) rfl rfl (Light.quiet (opMove rfl rfl)) ?_
  refine ASL.q (v := w4) rfl rfl (Light.quiet (opMove rfl rfl)) ?_
  refine ASL.q (v := (.int .i64 (a9.1.length : Int))) rfl rfl (Light.quiet (kLen hS (j := 0) rfl rfl rfl rfl lenT_24 rfl)) ?_
  refine ASL.q (v := (.int .i64 (W (((a9.1.length : Int)) - 1)))) rfl rfl (Light.quiet (opInt rfl rfl rfl rfl)) ?_
  obtain ⟨a14, ha14, hF⟩ := bindE hF
  refine ASL.q (v := (.str a14)) rfl rfl ((qCallR hS rfl rfl call_55 (spec_l11Print_ok ha14) ⟨.row (k := 0) rfl, .same _, trivial⟩ (by constructor))) ?_
  refine ASL.q (v := (.str a14)) rfl rfl (Light.quiet (opAssign rfl rfl)) ?_
  refine ASL.done ?_
  refine AWP.seqM (fun e H => ∃ y7 : (List Int), ∃ y8 : Int, ∃ y9 : Int, ∃ x5_1 : ByteArray, E.Told e [(3, (.ptr bq1 0)), (5, (.str x5_1))] ∧ E.Sep H [.cell bq1 [(.list 1 (List.map (AV.int .u8) y7)), (.int .i64 y8), (.int .i64 y9)]] ∧ spec_DrawReParse.k0 y7 y8 y9 x5_1 = some r) ?_ ?_
  · rintro e0 G31 ⟨y7, y8, y9, x5_1, hT, hS, hF⟩; refine AWP.only _ hT ?_; unfold spec_DrawReParse.k0 at hF
    refine AWP.seqM (fun e H => ∃ y10 : (List Int), ∃ y11 : Int, ∃ y12 : Int, ∃ x5_2 : ByteArray, E.Told e [(3, (.ptr bq1 0)), (5, (.str x5_2))] ∧ E.Sep H [.cell bq1 [(.list 1 (List.map (AV.int .u8) y10)), (.int .i64 y11), (.int .i64 y12)]] ∧ spec_DrawReParse.k1 y10 y11 y12 x5_2 = some r) ?_ ?_
    · rintro e0 G27 ⟨y10, y11, y12, x5_2, hT, hS, hF⟩; refine AWP.only _ hT ?_; unfold spec_DrawReParse.k1 at hF
      refine AWP.seqM (fun e H => ∃ x5_3 : ByteArray, E.Told e [(5, (.str x5_3))] ∧ E.Sep H [] ∧ spec_DrawReParse.k2 x5_3 = some r) ?_ ?_
      · rintro e0 G13 ⟨x5_3, hT, hS, hF⟩; refine AWP.only _ hT ?_; unfold spec_DrawReParse.k2 at hF
        refine AWP.seqR rfl ?_
        refine ASL.q (v := (.str x5_3)) rfl rfl (Light.quiet (opMove rfl rfl)) ?_
        refine ASL.q (v := (.str x5_3)) rfl rfl (Light.quiet (opAssign rfl rfl)) ?_
        refine ASL.done ?_
        refine AWP.ret ?_
        obtain rfl := someE hF
        exact QRet.sole (v := (.str x5_3)) ⟨rfl, trivial⟩ rfl
      · skip
        refine AWP.seqR rfl ?_
        refine ASL.q (v := (.ptr bq1 0)) rfl rfl (Light.quiet (opMove rfl rfl)) ?_
        obtain ⟨a27, ha27, hF⟩ := bindE hF
        refine ASL.x rfl rfl (hCallS hS [0] (F := []) rfl rfl rfl call_33 (spec_l1Once_ok ha27) rfl rfl ?_); rintro _ _ G14 ⟨rfl, rfl⟩ hS
        refine ASL.done ?_
        refine AWP.ifB hF rfl (fun hc15 hF => ?_) (fun hc15 hF => ?_)
        · skip
          refine AWP.block ?_
          obtain ⟨o22, hL21, hR23⟩ := bindE hF
          refine AWP.loopF (ω := Unit) hL21 (fun s w => [(3, (.ptr bq1 0)), (5, (.str s.2.2.2))]) (fun s w => [.cell bq1 [(.list 1 (List.map (AV.int .u8) s.1)), (.int .i64 s.2.1), (.int .i64 s.2.2.1)]]) () ⟨rfl, rfl, trivial⟩ (hS.pick [0] rfl rfl) ?_
          rintro ⟨y16, y17, y18, x5_l0⟩ _ G24 hS x19 hF hx20
          try dsimp only at hS ⊢
          have hF : spec_DrawReParse.b0 y16 y17 y18 x5_l0 = some x19 := hF; unfold spec_DrawReParse.b0 at hF
          refine AWP.seq ?_
          refine AWP.seqR rfl ?_
          refine ASL.q (v := (.str x5_l0)) rfl rfl (Light.quiet (opMove rfl rfl)) ?_
          refine ASL.q (v := (.int .i64 (x5_l0.size : Int))) rfl rfl (Light.quiet (opLenOf rfl rfl rfl lenT_9 rfl rfl)) ?_
          refine ASL.q (v := (.ptr bq1 0)) rfl rfl (Light.quiet (opMove rfl rfl)) ?_
          obtain ⟨a31, ha31, hF⟩ := bindE hF
          refine ASL.x rfl rfl (hCallS hS [0] (F := []) rfl rfl rfl call_34 (spec_l1Below_ok ha31) rfl rfl ?_); rintro _ _ G25 ⟨rfl, rfl⟩ hS
          refine ASL.q (v := (.int .i64 (W (199 + a31.1)))) rfl rfl (Light.quiet (opInt rfl rfl rfl rfl)) ?_
          refine ASL.q (v := (.bool (decide (((x5_l0.size : Int)) < ((W (199 + a31.1))))))) rfl rfl (Light.quiet (opInt rfl rfl rfl rfl)) ?_
          refine ASL.done ?_
          refine AWP.ifP hF rfl (fun hc26 hF => ?_) (fun hc26 hF => ?_)
          · skip
            refine AWP.skip ?_
            refine QThen.nrm ?_
            refine AWP.block ?_
            refine AWP.lastR rfl ?_
            refine ASL.q (v := (.str x5_l0)) rfl rfl (Light.quiet (opMove rfl rfl)) ?_
            obtain ⟨a35, ha35, hF⟩ := bindE hF
            refine ASL.q (v := (.str a35)) rfl rfl (Light.quiet (opCat ha35 rfl rfl rfl)) ?_
            refine ASL.q (v := (.str a35)) rfl rfl (Light.quiet (opAssign rfl rfl)) ?_
            refine ASL.done ?_
            refine QBlock.nrm ?_
            refine QThen.nrm ?_
            exact ⟨(a31.2.b, a31.2.i, a31.2.h, a35), (), (someE hF).symm, ⟨rfl, rfl, trivial⟩, (hS.pick [0] rfl rfl)⟩
          · skip
            refine AWP.exit ?_
            refine QThen.ext ?_
            refine QThen.ext ?_
            refine QBlock.hit ?_
            obtain rfl := (hx20 _ (someE hF).symm)
            have hF := hR23
            refine QThen.nrm ?_
            exact ⟨x5_l0, ⟨rfl, trivial⟩, (hS.pick [] rfl rfl), hF⟩
        · skip
          refine AWP.skip ?_
          refine QThen.nrm ?_
          exact ⟨x5_2, ⟨rfl, trivial⟩, (hS.pick [] rfl rfl), hF⟩
    · skip
      refine AWP.seqR rfl ?_
      refine ASL.q (v := (.ptr bq1 0)) rfl rfl (Light.quiet (opMove rfl rfl)) ?_
      obtain ⟨a21, ha21, hF⟩ := bindE hF
      refine ASL.x rfl rfl (hCallS hS [0] (F := []) rfl rfl rfl call_33 (spec_l1Once_ok ha21) rfl rfl ?_); rintro _ _ G28 ⟨rfl, rfl⟩ hS
      refine ASL.done ?_
      refine AWP.ifB hF rfl (fun hc29 hF => ?_) (fun hc29 hF => ?_)
      · skip
        refine AWP.lastR rfl ?_
        refine ASL.q (v := (.ptr bq1 0)) rfl rfl (Light.quiet (opMove rfl rfl)) ?_
        refine ASL.q (v := (.str x5_1)) rfl rfl (Light.quiet (opMove rfl rfl)) ?_
        refine ASL.q (v := (.list 1 (List.map AV.str [{ data := #[42] }, { data := #[40] }, { data := #[41] }, { data := #[46] }, { data := #[124] }, { data := #[48] }, { data := #[56] }, { data := #[64] }, { data := #[95] }, { data := #[32] }]))) rfl rfl ((qLit (xs := [(.str { data := #[42] }), (.str { data := #[40] }), (.str { data := #[41] }), (.str { data := #[46] }), (.str { data := #[124] }), (.str { data := #[48] }), (.str { data := #[56] }), (.str { data := #[64] }), (.str { data := #[95] }), (.str { data := #[32] })]) rfl elemA_71 sizeA_9 zeroA_9 rfl rfl rfl rfl (by simp [cells]) (nlt rfl))) ?_
        obtain ⟨a25, ha25, hF⟩ := bindE hF
        refine ASL.x rfl rfl (hCallS hS [0] (F := []) rfl rfl rfl call_57 (spec_l2Dent_ok ha25) rfl rfl ?_); rintro _ _ G30 ⟨rfl, rfl⟩ hS
        refine ASL.q (v := (.str a25.1)) rfl rfl (Light.quiet (opAssign rfl rfl)) ?_
        refine ASL.done ?_
        refine QThen.nrm ?_
        exact ⟨a25.2.b, a25.2.i, a25.2.h, a25.1, ⟨rfl, rfl, trivial⟩, (hS.pick [0] rfl rfl), hF⟩
      · skip
        refine AWP.skip ?_
        refine QThen.nrm ?_
        exact ⟨a21.2.b, a21.2.i, a21.2.h, x5_1, ⟨rfl, rfl, trivial⟩, (hS.pick [0] rfl rfl), hF⟩
  · skip
    refine AWP.seqR rfl ?_
    refine ASL.q (v := (.ptr bq1 0)) rfl rfl (Light.quiet (opMove rfl rfl)) ?_
    obtain ⟨a16, ha16, hF⟩ := bindE hF
    refine ASL.x rfl rfl (hCallS hS [1, 0] (F := [.row 3 w4 (List.map TNode.av a9.1)]) rfl rfl rfl call_33 (spec_l1Once_ok ha16) rfl rfl ?_); rintro _ _ G32 ⟨rfl, rfl⟩ hS
    refine ASL.done ?_
    refine AWP.ifB hF rfl (fun hc33 hF => ?_) (fun hc33 hF => ?_)
    · skip
      refine AWP.lastR rfl ?_
      refine ASL.q (v := (.ptr bq1 0)) rfl rfl (Light.quiet (opMove rfl rfl)) ?_
      refine ASL.q (v := (.list 1 (List.map AV.str [{ data := #[48, 46, 49, 124, 48, 42] }, { data := #[40, 48, 124, 49, 41, 42, 46, 48] }, { data := #[48, 42, 42] }, { data := #[95, 124, 64] }, { data := #[48, 124, 49, 124, 48, 46, 49, 46, 48] }, { data := #[40, 40, 48, 41, 41, 42] }]))) rfl rfl ((qLit (xs := [(.str { data := #[48, 46, 49, 124, 48, 42] }), (.str { data := #[40, 48, 124, 49, 41, 42, 46, 48] }), (.str { data := #[48, 42, 42] }), (.str { data := #[95, 124, 64] }), (.str { data := #[48, 124, 49, 124, 48, 46, 49, 46, 48] }), (.str { data := #[40, 40, 48, 41, 41, 42] })]) rfl elemA_71 sizeA_9 zeroA_9 rfl rfl rfl rfl (by simp [cells]) (nlt rfl))) ?_
      obtain ⟨a19, ha19, hF⟩ := bindE hF
      refine ASL.x rfl rfl (hCallS hS [0, 1] (F := [.row 3 w4 (List.map TNode.av a9.1)]) rfl rfl rfl call_56 (spec_l1Pick_ok ha19) rfl rfl ?_); rintro _ _ G34 ⟨rfl, rfl⟩ hS
      refine ASL.q (v := (.str a19.1)) rfl rfl (Light.quiet (opAssign rfl rfl)) ?_
      refine ASL.done ?_
      refine QThen.nrm ?_
      exact ⟨a19.2.b, a19.2.i, a19.2.h, a19.1, ⟨rfl, rfl, trivial⟩, (hS.pick [0] rfl rfl), hF⟩
    · skip
      refine AWP.skip ?_
      refine QThen.nrm ?_
      exact ⟨a16.2.b, a16.2.i, a16.2.h, a14, ⟨rfl, rfl, trivial⟩, (hS.pick [0] rfl rfl), hF⟩

set_option maxRecDepth 10000 in
theorem spec_l11Read.body_ok {p0 : ByteArray} {p1 : Int} {p2 : Int} {p3 : (List TNode)} {r : ((List TNode) × Int × Int)} {vp3 : AV} {rec_spec_l11Read : ByteArray → Int → Int → (List TNode) → Option ((List TNode) × Int × Int)} {rec_spec_l11Atom : ByteArray → Int → (List TNode) → Option ((List TNode) × Int × Int)} (ih_spec_l11Read : ∀ {p0 : ByteArray} {p1 : Int} {p2 : Int} {p3 : (List TNode)} {r : ((List TNode) × Int × Int)} {vp3 : AV} , rec_spec_l11Read p0 p1 p2 p3 = some r → HS Try.prog 58 [(.str p0), (.int .i64 p1), (.int .i64 p2), vp3] [.row 3 vp3 (List.map TNode.av p3)] fun v L' => ∃ o0 : AV, v = .tup [o0, (.int .i64 r.2.1), (.int .i64 r.2.2)] ∧ L' = [.row 3 o0 (List.map TNode.av r.1)]) (ih_spec_l11Atom : ∀ {p0 : ByteArray} {p1 : Int} {p2 : (List TNode)} {r : ((List TNode) × Int × Int)} {vp2 : AV} , rec_spec_l11Atom p0 p1 p2 = some r → HS Try.prog 85 [(.str p0), (.int .i64 p1), vp2] [.row 3 vp2 (List.map TNode.av p2)] fun v L' => ∃ o0 : AV, v = .tup [o0, (.int .i64 r.2.1), (.int .i64 r.2.2)] ∧ L' = [.row 3 o0 (List.map TNode.av r.1)]) (hF : spec_l11Read.body rec_spec_l11Read rec_spec_l11Atom p0 p1 p2 p3 = some r) : HS Try.prog 58 [(.str p0), (.int .i64 p1), (.int .i64 p2), vp3] [.row 3 vp3 (List.map TNode.av p3)] fun v L' => ∃ o0 : AV, v = .tup [o0, (.int .i64 r.2.1), (.int .i64 r.2.2)] ∧ L' = [.row 3 o0 (List.map TNode.av r.1)] := by
  intro H S hS
  refine HC.enter Try.func58 rfl Try.ntmps58 (by simp) ?_
  simp only [List.cons_append, List.nil_append] at hS
  unfold spec_l11Read.body at hF
  refine AWP.seqR rfl ?_
  have hS := hNil (s := 3) (f := TNode.av) hS
  refine ASL.q (v := .nil) rfl rfl (Light.quiet (opAssign rfl rfl)) ?_
  refine ASL.q (v := (.int .i64 0)) rfl rfl (Light.quiet (opAssign rfl rfl)) ?_
  refine ASL.q (v := (.int .i64 0)) rfl rfl (Light.quiet (opAssign rfl rfl)) ?_
  refine ASL.done ?_
  refine AWP.seq ?_
  refine AWP.seqR rfl ?_
  refine ASL.q (v := (.int .i64 p2)) rfl rfl (Light.quiet (opMove rfl rfl)) ?_
  refine ASL.q (v := (.bool (decide (p2 = 2)))) rfl rfl (Light.quiet (opInt rfl rfl rfl rfl)) ?_
  refine ASL.done ?_
  refine AWP.ifP hF rfl (fun hc3 hF => ?_) (fun hc3 hF => ?_)
  · skip
    refine AWP.seqR rfl ?_
    refine ASL.q (v := (.str p0)) rfl rfl (Light.quiet (opMove rfl rfl)) ?_
    refine ASL.q (v := (.int .i64 p1)) rfl rfl (Light.quiet (opMove rfl rfl)) ?_
    refine ASL.q (v := vp3) rfl rfl (Light.quiet (opMove rfl rfl)) ?_
    obtain ⟨a22, ha22, hF⟩ := bindE hF
    refine ASL.x rfl rfl (hCallS hS [1, 0, 2] (F := [.row 3 .nil (List.map TNode.av ([])), .snap S]) rfl rfl rfl call_85 (ih_spec_l11Atom ha22) rfl rfl ?_); rintro _ _ G6 ⟨w4, rfl, rfl⟩ hS
    refine ASL.q (v := w4) rfl rfl (Light.quiet (opExtract rfl rfl rfl)) ?_
    refine ASL.q (v := (.int .i64 a22.2.1)) rfl rfl (Light.quiet (opExtract rfl rfl rfl)) ?_
    refine ASL.q (v := (.int .i64 a22.2.2)) rfl rfl (Light.quiet (opExtract rfl rfl rfl)) ?_
    refine ASL.q (v := w4) rfl rfl (Light.quiet (opAssign rfl rfl)) ?_
    refine ASL.q (v := (.int .i64 a22.2.1)) rfl rfl (Light.quiet (opAssign rfl rfl)) ?_
    refine ASL.q (v := (.int .i64 a22.2.2)) rfl rfl (Light.quiet (opAssign rfl rfl)) ?_
    refine ASL.done ?_
    refine AWP.ret ?_
    refine QThen.rt ?_
    obtain rfl := someE hF
    exact QRet.many (vs := [w4, (.int .i64 a22.2.1), (.int .i64 a22.2.2)]) ⟨rfl, rfl, rfl, trivial⟩ (by simp) ⟨_, ⟨w4, rfl, rfl⟩, hS.pick [0, 2] rfl rfl⟩
  · skip
    refine AWP.skip ?_
    refine QThen.nrm ?_
    refine AWP.seqR rfl ?_
    refine ASL.q (v := (.list 1 (List.map (AV.int .u8) [124, 46]))) rfl rfl ((qLit (xs := [(.int .u8 124), (.int .u8 46)]) rfl elemA_22 sizeA_5 zeroA_5 rfl rfl rfl rfl (by simp [cells]) (nlt rfl))) ?_
    refine ASL.q (v := (.int .i64 p2)) rfl rfl (Light.quiet (opMove rfl rfl)) ?_
    obtain ⟨a28, ha28, hF⟩ := bindE hF
    refine ASL.q (v := (.rptr [(.int .u8 a28)])) rfl rfl (Light.quiet (kIx (f := (AV.int .u8)) ha28 rfl rfl rfl elemA_22 sizeA_5 rfl)) ?_
    refine ASL.q (v := (.int .u8 a28)) rfl rfl (Light.quiet (opLoadR rfl aggA_5 rfl rfl)) ?_
    refine ASL.q (v := (.int .u8 a28)) rfl rfl (Light.quiet (opAssign rfl rfl)) ?_
    refine ASL.done ?_
    refine AWP.seqR rfl ?_
    refine ASL.q (v := (.list 1 (List.map (AV.int .i64) [6, 5]))) rfl rfl ((qLit (xs := [(.int .i64 6), (.int .i64 5)]) rfl elemA_25 sizeA_3 zeroA_3 rfl rfl rfl rfl (by simp [cells]) (nlt rfl))) ?_
    refine ASL.q (v := (.int .i64 p2)) rfl rfl (Light.quiet (opMove rfl rfl)) ?_
    obtain ⟨a32, ha32, hF⟩ := bindE hF
    refine ASL.q (v := (.rptr [(.int .i64 a32)])) rfl rfl (Light.quiet (kIx (f := (AV.int .i64)) ha32 rfl rfl rfl elemA_25 sizeA_3 rfl)) ?_
    refine ASL.q (v := (.int .i64 a32)) rfl rfl (Light.quiet (opLoadR rfl aggA_3 rfl rfl)) ?_
    refine ASL.q (v := (.int .i64 a32)) rfl rfl (Light.quiet (opAssign rfl rfl)) ?_
    refine ASL.done ?_
    refine AWP.seqR rfl ?_
    refine ASL.q (v := (.str p0)) rfl rfl (Light.quiet (opMove rfl rfl)) ?_
    refine ASL.q (v := (.int .i64 p1)) rfl rfl (Light.quiet (opMove rfl rfl)) ?_
    refine ASL.q (v := (.int .i64 p2)) rfl rfl (Light.quiet (opMove rfl rfl)) ?_
    refine ASL.q (v := (.int .i64 (W (p2 + 1)))) rfl rfl (Light.quiet (opInt rfl rfl rfl rfl)) ?_
    refine ASL.q (v := vp3) rfl rfl (Light.quiet (opMove rfl rfl)) ?_
    obtain ⟨a40, ha40, hF⟩ := bindE hF
    refine ASL.x rfl rfl (hCallS hS [1, 0, 2] (F := [.row 3 .nil (List.map TNode.av ([])), .snap S]) rfl rfl rfl call_58 (ih_spec_l11Read ha40) rfl rfl ?_); rintro _ _ G9 ⟨w7, rfl, rfl⟩ hS
    refine ASL.q (v := (.tup [w7, (.int .i64 a40.2.1), (.int .i64 a40.2.2)])) rfl rfl (Light.quiet (opMove rfl rfl)) ?_
    refine ASL.q (v := w7) rfl rfl (Light.quiet (opExtract rfl rfl rfl)) ?_
    refine ASL.q (v := (.int .i64 a40.2.1)) rfl rfl (Light.quiet (opExtract rfl rfl rfl)) ?_
    refine ASL.q (v := (.int .i64 a40.2.2)) rfl rfl (Light.quiet (opExtract rfl rfl rfl)) ?_
    refine ASL.q (v := w7) rfl rfl (Light.quiet (opAssign rfl rfl)) ?_
    refine ASL.q (v := (.int .i64 a40.2.1)) rfl rfl (Light.quiet (opAssign rfl rfl)) ?_
    refine ASL.q (v := (.int .i64 a40.2.2)) rfl rfl (Light.quiet (opAssign rfl rfl)) ?_
    refine ASL.done ?_
    refine AWP.seqM (fun e H => ∃ y10 : (List TNode), ∃ x14_1 : Int, ∃ x15_1 : Int, ∃ w11 : AV, E.Told e [(13, w11), (14, (.int .i64 x14_1)), (15, (.int .i64 x15_1))] ∧ E.Sep H [.row 3 w11 (List.map TNode.av y10), .snap S] ∧ spec_l11Read.k0 y10 x14_1 x15_1 = some r) ?_ ?_
    · rintro e0 G13 ⟨y10, x14_1, x15_1, w11, hT, hS, hF⟩; refine AWP.only _ hT ?_; unfold spec_l11Read.k0 at hF
      refine AWP.seqR rfl ?_
      refine ASL.q (v := w11) rfl rfl (Light.quiet (opMove rfl rfl)) ?_
      refine ASL.q (v := (.int .i64 x14_1)) rfl rfl (Light.quiet (opMove rfl rfl)) ?_
      refine ASL.q (v := (.int .i64 x15_1)) rfl rfl (Light.quiet (opMove rfl rfl)) ?_
      refine ASL.q (v := w11) rfl rfl (Light.quiet (opAssign rfl rfl)) ?_
      refine ASL.q (v := (.int .i64 x14_1)) rfl rfl (Light.quiet (opAssign rfl rfl)) ?_
      refine ASL.q (v := (.int .i64 x15_1)) rfl rfl (Light.quiet (opAssign rfl rfl)) ?_
      refine ASL.done ?_
      refine AWP.ret ?_
      obtain rfl := someE hF
      exact QRet.many (vs := [w11, (.int .i64 x14_1), (.int .i64 x15_1)]) ⟨rfl, rfl, rfl, trivial⟩ (by simp) ⟨_, ⟨w11, rfl, rfl⟩, hS.pick [0, 1] rfl rfl⟩
    · skip
      refine AWP.block ?_
      obtain ⟨o20, hL19, hR21⟩ := bindE hF
      refine AWP.loopF (ω := AV) hL19 (fun s w => [(0, (.str p0)), (2, (.int .i64 p2)), (11, (.int .u8 a28)), (12, (.int .i64 a32)), (13, w), (14, (.int .i64 s.2.1)), (15, (.int .i64 s.2.2))]) (fun s w => [.row 3 w (List.map TNode.av s.1), .snap S]) w7 ⟨rfl, rfl, rfl, rfl, rfl, rfl, rfl, trivial⟩ (hS.pick [0, 2] rfl rfl) ?_
      rintro ⟨y14, x14_l0, x15_l0⟩ w15 G22 hS x17 hF hx18
      try dsimp only at hS ⊢
      have hF : spec_l11Read.b0 p0 a28 rec_spec_l11Read p2 a32 y14 x14_l0 x15_l0 = some x17 := hF; unfold spec_l11Read.b0 at hF
      refine AWP.seq ?_
      refine AWP.seqR rfl ?_
      refine ASL.q (v := (.int .i64 x15_l0)) rfl rfl (Light.quiet (opMove rfl rfl)) ?_
      refine ASL.q (v := (.bool (decide (x15_l0 = 0)))) rfl rfl (Light.quiet (opInt rfl rfl rfl rfl)) ?_
      obtain ⟨c46, hc46, hF⟩ := bndE hF
      refine ASL.q (v := (.bool c46)) rfl rfl ((Quiet.cast (Light.quiet (opMove rfl rfl)) (congrArg AV.bool hc46.symm))) ?_
      refine ASL.g (v := (.int .i64 x14_l0)) (.bool c46) true rfl (wT _) rfl (fun hG => by have q0 := hG; subst q0; exact Light.quiet (opMove rfl rfl)) ?_
      refine ASL.g (v := (.str p0)) (.bool c46) true rfl (wT _) rfl (fun hG => by have q0 := hG; subst q0; exact Light.quiet (opMove rfl rfl)) ?_
      refine ASL.g (v := (.int .i64 (p0.size : Int))) (.bool c46) true rfl (wT _) rfl (fun hG => by have q0 := hG; subst q0; exact Light.quiet (opLenOf rfl rfl rfl lenT_9 rfl rfl)) ?_
      refine ASL.g (v := (.bool (decide (x14_l0 < ((p0.size : Int)))))) (.bool c46) true rfl (wT _) rfl (fun hG => by have q0 := hG; subst q0; exact Light.quiet (opInt rfl rfl rfl rfl)) ?_
      refine ASL.q (v := (.bool (c46 && (decide (x14_l0 < ((p0.size : Int))))))) rfl rfl (Light.quiet (opPick (b := c46) rfl rfl (by cases c46 <;> rfl))) ?_
      obtain ⟨c52, hc52, hF⟩ := bndE hF
      refine ASL.q (v := (.bool c52)) rfl rfl ((Quiet.cast (Light.quiet (opMove rfl rfl)) (congrArg AV.bool hc52.symm))) ?_
      refine ASL.g (v := (.str p0)) (.bool c52) true rfl (wT _) rfl (fun hG => by have q0 := hG; subst q0; exact Light.quiet (opMove rfl rfl)) ?_
      refine ASL.g (v := (.int .i64 x14_l0)) (.bool c52) true rfl (wT _) rfl (fun hG => by have q0 := hG; subst q0; exact Light.quiet (opMove rfl rfl)) ?_
      obtain ⟨a55, ha55, hF⟩ := bindE hF
      refine ASL.g (v := (.int .u8 a55)) (.bool c52) true rfl (wT _) rfl (fun hG => by have q0 := hG; subst q0; exact Light.quiet (kIxS (whenE ha55) rfl und_9 rfl rfl)) ?_
      refine ASL.g (v := (.int .u8 a28)) (.bool c52) true rfl (wT _) rfl (fun hG => by have q0 := hG; subst q0; exact Light.quiet (opMove rfl rfl)) ?_
      refine ASL.g (v := (.bool (decide (a55 = a28)))) (.bool c52) true rfl (wT _) rfl (fun hG => by have q0 := hG; subst q0; exact Light.quiet (opInt rfl rfl rfl rfl)) ?_
      refine ASL.q (v := (.bool (c52 && (decide (a55 = a28))))) rfl rfl (Light.quiet (opPick (b := c52) rfl rfl (by cases c52 <;> rfl))) ?_
      refine ASL.done ?_
      refine AWP.ifB hF rfl (fun hc23 hF => ?_) (fun hc23 hF => ?_)
      · skip
        refine AWP.skip ?_
        refine QThen.nrm ?_
        refine AWP.block ?_
        refine AWP.seqR rfl ?_
        refine ASL.q (v := w15) rfl rfl (Light.quiet (opMove rfl rfl)) ?_
        refine ASL.q (v := (.int .i64 (y14.length : Int))) rfl rfl (Light.quiet (kLen hS (j := 0) rfl rfl rfl rfl lenT_24 rfl)) ?_
        refine ASL.q (v := (.int .i64 (W (((y14.length : Int)) - 1)))) rfl rfl (Light.quiet (opInt rfl rfl rfl rfl)) ?_
        refine ASL.q (v := (.int .i64 (W (((y14.length : Int)) - 1)))) rfl rfl (Light.quiet (opAssign rfl rfl)) ?_
        refine ASL.done ?_
        refine AWP.seqR rfl ?_
        refine ASL.q (v := (.str p0)) rfl rfl (Light.quiet (opMove rfl rfl)) ?_
        refine ASL.q (v := (.int .i64 x14_l0)) rfl rfl (Light.quiet (opMove rfl rfl)) ?_
        refine ASL.q (v := (.int .i64 (W (x14_l0 + 1)))) rfl rfl (Light.quiet (opInt rfl rfl rfl rfl)) ?_
        refine ASL.q (v := (.int .i64 p2)) rfl rfl (Light.quiet (opMove rfl rfl)) ?_
        refine ASL.q (v := (.int .i64 (W (p2 + 1)))) rfl rfl (Light.quiet (opInt rfl rfl rfl rfl)) ?_
        refine ASL.q (v := w15) rfl rfl (Light.quiet (opMove rfl rfl)) ?_
        obtain ⟨a69, ha69, hF⟩ := bindE hF
        refine ASL.x rfl rfl (hCallS hS [0, 1] (F := [.snap S]) rfl rfl rfl call_58 (ih_spec_l11Read ha69) rfl rfl ?_); rintro _ _ G26 ⟨w24, rfl, rfl⟩ hS
        refine ASL.q (v := (.tup [w24, (.int .i64 a69.2.1), (.int .i64 a69.2.2)])) rfl rfl (Light.quiet (opMove rfl rfl)) ?_
        refine ASL.q (v := w24) rfl rfl (Light.quiet (opExtract rfl rfl rfl)) ?_
        refine ASL.q (v := (.int .i64 a69.2.1)) rfl rfl (Light.quiet (opExtract rfl rfl rfl)) ?_
        refine ASL.q (v := (.int .i64 a69.2.2)) rfl rfl (Light.quiet (opExtract rfl rfl rfl)) ?_
        refine ASL.q (v := w24) rfl rfl (Light.quiet (opAssign rfl rfl)) ?_
        refine ASL.q (v := (.int .i64 a69.2.1)) rfl rfl (Light.quiet (opAssign rfl rfl)) ?_
        refine ASL.q (v := (.int .i64 a69.2.2)) rfl rfl (Light.quiet (opAssign rfl rfl)) ?_
        refine ASL.done ?_
        refine AWP.seqR rfl ?_
        refine ASL.q (v := (.int .i64 a69.2.2)) rfl rfl (Light.quiet (opMove rfl rfl)) ?_
        refine ASL.q (v := (.bool (decide (a69.2.2 = 0)))) rfl rfl (Light.quiet (opInt rfl rfl rfl rfl)) ?_
        refine ASL.done ?_
        refine AWP.ifP hF rfl (fun hc27 hF => ?_) (fun hc27 hF => ?_)
        · skip
          refine AWP.lastR rfl ?_
          refine ASL.q (v := w24) rfl rfl (Light.quiet (opMove rfl rfl)) ?_
          refine ASL.q (v := (.int .i64 a32)) rfl rfl (Light.quiet (opMove rfl rfl)) ?_
          refine ASL.q (v := (.int .i64 (W (((y14.length : Int)) - 1)))) rfl rfl (Light.quiet (opMove rfl rfl)) ?_
          refine ASL.q (v := w24) rfl rfl (Light.quiet (opMove rfl rfl)) ?_
          refine ASL.q (v := (.int .i64 (a69.1.length : Int))) rfl rfl (Light.quiet (kLen hS (j := 0) rfl rfl rfl rfl lenT_24 rfl)) ?_
          refine ASL.q (v := (.int .i64 (W (((a69.1.length : Int)) - 1)))) rfl rfl (Light.quiet (opInt rfl rfl rfl rfl)) ?_
          refine ASL.q (v := (.agg [(.int .i64 a32), (.int .i64 (W (((y14.length : Int)) - 1))), (.int .i64 (W (((a69.1.length : Int)) - 1)))])) rfl rfl (Light.quiet (opBuildZ (zs := [(.int .i64 0), (.int .i64 0), (.int .i64 0)]) rfl plan_31 zeroA_31 ⟨.inl rfl, .inl rfl, .inl rfl, trivial⟩ rfl)) ?_
          refine ASL.q (v := (.list 3 (List.map TNode.av [(TNode.mk a32 ((W (((y14.length : Int)) - 1))) ((W (((a69.1.length : Int)) - 1))))]))) rfl rfl ((qLit (xs := [(.agg [(.int .i64 a32), (.int .i64 (W (((y14.length : Int)) - 1))), (.int .i64 (W (((a69.1.length : Int)) - 1)))])]) rfl elemA_24 sizeA_31 zeroA_31 rfl rfl rfl rfl (by simp [cells, TNode.av]) (nlt rfl))) ?_
          obtain ⟨z83, hz83, hF⟩ := bindE hF
          refine ASL.x rfl rfl (hApp (f := TNode.av) (ws := [(TNode.mk a32 ((W (((y14.length : Int)) - 1))) ((W (((a69.1.length : Int)) - 1))))]) hS (j := 0) rfl hz83 rfl elemA_24 rfl sizeA_31 bytesA_31 zeroA_31 rfl rfl rfl (fun _ => rfl) ?_); rintro v83 G28 hS
          refine ASL.q (v := v83) rfl rfl (Light.quiet (opAssign rfl rfl)) ?_
          refine ASL.done ?_
          refine QBlock.nrm ?_
          refine QThen.nrm ?_
          exact ⟨(z83, a69.2.1, a69.2.2), v83, (someE hF).symm, ⟨rfl, rfl, rfl, rfl, rfl, rfl, rfl, trivial⟩, (hS.pick [0, 1] rfl rfl)⟩
        · skip
          refine AWP.skip ?_
          refine QBlock.nrm ?_
          refine QThen.nrm ?_
          exact ⟨(a69.1, a69.2.1, a69.2.2), w24, (someE hF).symm, ⟨rfl, rfl, rfl, rfl, rfl, rfl, rfl, trivial⟩, (hS.pick [0, 1] rfl rfl)⟩
      · skip
        refine AWP.exit ?_
        refine QThen.ext ?_
        refine QThen.ext ?_
        refine QBlock.hit ?_
        obtain rfl := (hx18 _ (someE hF).symm)
        have hF := hR21
        refine QThen.nrm ?_
        exact ⟨y14, x14_l0, x15_l0, w15, ⟨rfl, rfl, rfl, trivial⟩, (hS.pick [0, 1] rfl rfl), hF⟩

set_option maxRecDepth 10000 in
theorem spec_l11Atom.body_ok {p0 : ByteArray} {p1 : Int} {p2 : (List TNode)} {r : ((List TNode) × Int × Int)} {vp2 : AV} {rec_spec_l11Read : ByteArray → Int → Int → (List TNode) → Option ((List TNode) × Int × Int)} {rec_spec_l11Atom : ByteArray → Int → (List TNode) → Option ((List TNode) × Int × Int)} (ih_spec_l11Read : ∀ {p0 : ByteArray} {p1 : Int} {p2 : Int} {p3 : (List TNode)} {r : ((List TNode) × Int × Int)} {vp3 : AV} , rec_spec_l11Read p0 p1 p2 p3 = some r → HS Try.prog 58 [(.str p0), (.int .i64 p1), (.int .i64 p2), vp3] [.row 3 vp3 (List.map TNode.av p3)] fun v L' => ∃ o0 : AV, v = .tup [o0, (.int .i64 r.2.1), (.int .i64 r.2.2)] ∧ L' = [.row 3 o0 (List.map TNode.av r.1)]) (ih_spec_l11Atom : ∀ {p0 : ByteArray} {p1 : Int} {p2 : (List TNode)} {r : ((List TNode) × Int × Int)} {vp2 : AV} , rec_spec_l11Atom p0 p1 p2 = some r → HS Try.prog 85 [(.str p0), (.int .i64 p1), vp2] [.row 3 vp2 (List.map TNode.av p2)] fun v L' => ∃ o0 : AV, v = .tup [o0, (.int .i64 r.2.1), (.int .i64 r.2.2)] ∧ L' = [.row 3 o0 (List.map TNode.av r.1)]) (hF : spec_l11Atom.body rec_spec_l11Read rec_spec_l11Atom p0 p1 p2 = some r) : HS Try.prog 85 [(.str p0), (.int .i64 p1), vp2] [.row 3 vp2 (List.map TNode.av p2)] fun v L' => ∃ o0 : AV, v = .tup [o0, (.int .i64 r.2.1), (.int .i64 r.2.2)] ∧ L' = [.row 3 o0 (List.map TNode.av r.1)] := by
  intro H S hS
  refine HC.enter Try.func85 rfl Try.ntmps85 (by simp) ?_
  simp only [List.cons_append, List.nil_append] at hS
  unfold spec_l11Atom.body at hF
  refine AWP.seqR rfl ?_
  have hS := hNil (s := 3) (f := TNode.av) hS
  refine ASL.q (v := .nil) rfl rfl (Light.quiet (opAssign rfl rfl)) ?_
  refine ASL.q (v := (.int .i64 0)) rfl rfl (Light.quiet (opAssign rfl rfl)) ?_
  refine ASL.q (v := (.int .i64 0)) rfl rfl (Light.quiet (opAssign rfl rfl)) ?_
  refine ASL.done ?_
  refine AWP.seq ?_
  refine AWP.seqR rfl ?_
  refine ASL.q (v := (.int .i64 p1)) rfl rfl (Light.quiet (opMove rfl rfl)) ?_
  refine ASL.q (v := (.str p0)) rfl rfl (Light.quiet (opMove rfl rfl)) ?_
  refine ASL.q (v := (.int .i64 (p0.size : Int))) rfl rfl (Light.quiet (opLenOf rfl rfl rfl lenT_9 rfl rfl)) ?_
  refine ASL.q (v := (.bool (decide (p1 ≥ ((p0.size : Int)))))) rfl rfl (Light.quiet (opInt rfl rfl rfl rfl)) ?_
  refine ASL.done ?_
  refine AWP.ifP hF rfl (fun hc3 hF => ?_) (fun hc3 hF => ?_)
  · skip
    refine AWP.seqR rfl ?_
    refine ASL.q (v := vp2) rfl rfl (Light.quiet (opMove rfl rfl)) ?_
    refine ASL.q (v := (.str p0)) rfl rfl (Light.quiet (opMove rfl rfl)) ?_
    refine ASL.q (v := (.int .i64 (p0.size : Int))) rfl rfl (Light.quiet (opLenOf rfl rfl rfl lenT_9 rfl rfl)) ?_
    refine ASL.q (v := vp2) rfl rfl (Light.quiet (opAssign rfl rfl)) ?_
    refine ASL.q (v := (.int .i64 (p0.size : Int))) rfl rfl (Light.quiet (opAssign rfl rfl)) ?_
    refine ASL.q (v := (.int .i64 2)) rfl rfl (Light.quiet (opAssign rfl rfl)) ?_
    refine ASL.done ?_
    refine AWP.ret ?_
    refine QThen.rt ?_
    obtain rfl := someE hF
    exact QRet.many (vs := [vp2, (.int .i64 (p0.size : Int)), (.int .i64 2)]) ⟨rfl, rfl, rfl, trivial⟩ (by simp) ⟨_, ⟨vp2, rfl, rfl⟩, hS.pick [1, 2] rfl rfl⟩
  · skip
    refine AWP.skip ?_
    refine QThen.nrm ?_
    refine AWP.seqR rfl ?_
    refine ASL.q (v := vp2) rfl rfl (Light.quiet (opMove rfl rfl)) ?_
    refine ASL.q (v := (.int .i64 p1)) rfl rfl (Light.quiet (opMove rfl rfl)) ?_
    refine ASL.q (v := (.int .i64 (W (p1 + 1)))) rfl rfl (Light.quiet (opInt rfl rfl rfl rfl)) ?_
    refine ASL.q (v := vp2) rfl rfl (Light.quiet (opAssign rfl rfl)) ?_
    refine ASL.q (v := (.int .i64 (W (p1 + 1)))) rfl rfl (Light.quiet (opAssign rfl rfl)) ?_
    refine ASL.done ?_
    refine AWP.seqM (fun e H => ∃ y4 : (List TNode), ∃ x10_1 : Int, ∃ w5 : AV, E.Told e [(0, (.str p0)), (9, w5), (10, (.int .i64 x10_1))] ∧ E.Sep H [.row 3 w5 (List.map TNode.av y4), .snap S] ∧ spec_l11Atom.k0 p0 y4 x10_1 = some r) ?_ ?_
    · rintro e0 G23 ⟨y4, x10_1, w5, hT, hS, hF⟩; refine AWP.only _ hT ?_; unfold spec_l11Atom.k0 at hF
      refine AWP.seqM (fun e H => ∃ y7 : (List TNode), ∃ x10_2 : Int, ∃ w8 : AV, E.Told e [(9, w8), (10, (.int .i64 x10_2))] ∧ E.Sep H [.row 3 w8 (List.map TNode.av y7), .snap S] ∧ spec_l11Atom.k1 y7 x10_2 = some r) ?_ ?_
      · rintro e0 G10 ⟨y7, x10_2, w8, hT, hS, hF⟩; refine AWP.only _ hT ?_; unfold spec_l11Atom.k1 at hF
        refine AWP.seqR rfl ?_
        refine ASL.q (v := w8) rfl rfl (Light.quiet (opMove rfl rfl)) ?_
        refine ASL.q (v := (.int .i64 x10_2)) rfl rfl (Light.quiet (opMove rfl rfl)) ?_
        refine ASL.q (v := w8) rfl rfl (Light.quiet (opAssign rfl rfl)) ?_
        refine ASL.q (v := (.int .i64 x10_2)) rfl rfl (Light.quiet (opAssign rfl rfl)) ?_
        refine ASL.q (v := (.int .i64 0)) rfl rfl (Light.quiet (opAssign rfl rfl)) ?_
        refine ASL.done ?_
        refine AWP.ret ?_
        obtain rfl := someE hF
        exact QRet.many (vs := [w8, (.int .i64 x10_2), (.int .i64 0)]) ⟨rfl, rfl, rfl, trivial⟩ (by simp) ⟨_, ⟨w8, rfl, rfl⟩, hS.pick [0, 1] rfl rfl⟩
      · skip
        refine AWP.block ?_
        obtain ⟨o17, hL16, hR18⟩ := bindE hF
        refine AWP.loopF (ω := AV) hL16 (fun s w => [(0, (.str p0)), (9, w), (10, (.int .i64 s.2))]) (fun s w => [.row 3 w (List.map TNode.av s.1), .snap S]) w5 ⟨rfl, rfl, rfl, trivial⟩ (hS.pick [0, 1] rfl rfl) ?_
        rintro ⟨y11, x10_l0⟩ w12 G19 hS x14 hF hx15
        try dsimp only at hS ⊢
        have hF : spec_l11Atom.b0 p0 y11 x10_l0 = some x14 := hF; unfold spec_l11Atom.b0 at hF
        refine AWP.seq ?_
        refine AWP.seqR rfl ?_
        refine ASL.q (v := (.int .i64 x10_l0)) rfl rfl (Light.quiet (opMove rfl rfl)) ?_
        refine ASL.q (v := (.str p0)) rfl rfl (Light.quiet (opMove rfl rfl)) ?_
        refine ASL.q (v := (.int .i64 (p0.size : Int))) rfl rfl (Light.quiet (opLenOf rfl rfl rfl lenT_9 rfl rfl)) ?_
        refine ASL.q (v := (.bool (decide (x10_l0 < ((p0.size : Int)))))) rfl rfl (Light.quiet (opInt rfl rfl rfl rfl)) ?_
        obtain ⟨c107, hc107, hF⟩ := bndE hF
        refine ASL.q (v := (.bool c107)) rfl rfl ((Quiet.cast (Light.quiet (opMove rfl rfl)) (congrArg AV.bool hc107.symm))) ?_
        refine ASL.g (v := (.str p0)) (.bool c107) true rfl (wT _) rfl (fun hG => by have q0 := hG; subst q0; exact Light.quiet (opMove rfl rfl)) ?_
        refine ASL.g (v := (.int .i64 x10_l0)) (.bool c107) true rfl (wT _) rfl (fun hG => by have q0 := hG; subst q0; exact Light.quiet (opMove rfl rfl)) ?_
        obtain ⟨a110, ha110, hF⟩ := bindE hF
        refine ASL.g (v := (.int .u8 a110)) (.bool c107) true rfl (wT _) rfl (fun hG => by have q0 := hG; subst q0; exact Light.quiet (kIxS (whenE ha110) rfl und_9 rfl rfl)) ?_
        refine ASL.g (v := (.bool (decide (a110 = 42)))) (.bool c107) true rfl (wT _) rfl (fun hG => by have q0 := hG; subst q0; exact Light.quiet (opInt rfl rfl rfl rfl)) ?_
        refine ASL.q (v := (.bool (c107 && (decide (a110 = 42))))) rfl rfl (Light.quiet (opPick (b := c107) rfl rfl (by cases c107 <;> rfl))) ?_
        refine ASL.done ?_
        refine AWP.ifB hF rfl (fun hc20 hF => ?_) (fun hc20 hF => ?_)
        · skip
          refine AWP.skip ?_
          refine QThen.nrm ?_
          refine AWP.block ?_
          refine AWP.seqR rfl ?_
          refine ASL.q (v := w12) rfl rfl (Light.quiet (opMove rfl rfl)) ?_
          refine ASL.q (v := w12) rfl rfl (Light.quiet (opMove rfl rfl)) ?_
          refine ASL.q (v := (.int .i64 (y11.length : Int))) rfl rfl (Light.quiet (kLen hS (j := 0) rfl rfl rfl rfl lenT_24 rfl)) ?_
          refine ASL.q (v := (.int .i64 (W (((y11.length : Int)) - 1)))) rfl rfl (Light.quiet (opInt rfl rfl rfl rfl)) ?_
          refine ASL.q (v := (.agg [(.int .i64 4), (.int .i64 (W (((y11.length : Int)) - 1))), (.int .i64 0)])) rfl rfl (Light.quiet (opBuildZ (zs := [(.int .i64 0), (.int .i64 0), (.int .i64 0)]) rfl plan_31 zeroA_31 ⟨.inl rfl, .inl rfl, .inl rfl, trivial⟩ rfl)) ?_
          refine ASL.q (v := (.list 3 (List.map TNode.av [(TNode.mk 4 ((W (((y11.length : Int)) - 1))) 0)]))) rfl rfl ((qLit (xs := [(.agg [(.int .i64 4), (.int .i64 (W (((y11.length : Int)) - 1))), (.int .i64 0)])]) rfl elemA_24 sizeA_31 zeroA_31 rfl rfl rfl rfl (by simp [cells, TNode.av]) (nlt rfl))) ?_
          obtain ⟨z119, hz119, hF⟩ := bindE hF
          refine ASL.x rfl rfl (hApp (f := TNode.av) (ws := [(TNode.mk 4 ((W (((y11.length : Int)) - 1))) 0)]) hS (j := 0) rfl hz119 rfl elemA_24 rfl sizeA_31 bytesA_31 zeroA_31 rfl rfl rfl (fun _ => rfl) ?_); rintro v119 G21 hS
          refine ASL.q (v := v119) rfl rfl (Light.quiet (opAssign rfl rfl)) ?_
          refine ASL.done ?_
          refine AWP.lastR rfl ?_
          refine ASL.q (v := (.int .i64 x10_l0)) rfl rfl (Light.quiet (opMove rfl rfl)) ?_
          refine ASL.q (v := (.int .i64 (W (x10_l0 + 1)))) rfl rfl (Light.quiet (opInt rfl rfl rfl rfl)) ?_
          refine ASL.q (v := (.int .i64 (W (x10_l0 + 1)))) rfl rfl (Light.quiet (opAssign rfl rfl)) ?_
          refine ASL.done ?_
          refine QBlock.nrm ?_
          refine QThen.nrm ?_
          exact ⟨(z119, (W (x10_l0 + 1))), v119, (someE hF).symm, ⟨rfl, rfl, rfl, trivial⟩, (hS.pick [0, 1] rfl rfl)⟩
        · skip
          refine AWP.exit ?_
          refine QThen.ext ?_
          refine QThen.ext ?_
          refine QBlock.hit ?_
          obtain rfl := (hx15 _ (someE hF).symm)
          have hF := hR18
          refine QThen.nrm ?_
          exact ⟨y11, x10_l0, w12, ⟨rfl, rfl, trivial⟩, (hS.pick [0, 1] rfl rfl), hF⟩
    · skip
      refine AWP.block ?_
      refine AWP.seqR rfl ?_
      refine ASL.q (v := (.str p0)) rfl rfl (Light.quiet (opMove rfl rfl)) ?_
      refine ASL.q (v := (.int .i64 p1)) rfl rfl (Light.quiet (opMove rfl rfl)) ?_
      obtain ⟨a29, ha29, hF⟩ := bindE hF
      refine ASL.q (v := (.int .u8 a29)) rfl rfl (Light.quiet (kIxS ha29 rfl und_9 rfl rfl)) ?_
      refine ASL.q (v := (.bool (decide (a29 = 64)))) rfl rfl (Light.quiet (opInt rfl rfl rfl rfl)) ?_
      refine ASL.q (v := (.bool (decide (a29 = 64)))) rfl rfl (Light.quiet (opAssign rfl rfl)) ?_
      refine ASL.done ?_
      refine AWP.ifP hF rfl (fun hc24 hF => ?_) (fun hc24 hF => ?_)
      · skip
        refine AWP.lastR rfl ?_
        refine ASL.q (v := vp2) rfl rfl (Light.quiet (opMove rfl rfl)) ?_
        refine ASL.q (v := (.agg [(.int .i64 1), (.int .i64 0), (.int .i64 0)])) rfl rfl (Light.quiet (opBuildZ (zs := [(.int .i64 0), (.int .i64 0), (.int .i64 0)]) rfl plan_31 zeroA_31 ⟨.inl rfl, .inl rfl, .inl rfl, trivial⟩ rfl)) ?_
        refine ASL.q (v := (.list 3 (List.map TNode.av [(TNode.mk 1 0 0)]))) rfl rfl ((qLit (xs := [(.agg [(.int .i64 1), (.int .i64 0), (.int .i64 0)])]) rfl elemA_24 sizeA_31 zeroA_31 rfl rfl rfl rfl (by simp [cells, TNode.av]) (nlt rfl))) ?_
        obtain ⟨z34, hz34, hF⟩ := bindE hF
        refine ASL.x rfl rfl (hApp (f := TNode.av) (ws := [(TNode.mk 1 0 0)]) hS (j := 1) rfl hz34 rfl elemA_24 rfl sizeA_31 bytesA_31 zeroA_31 rfl rfl rfl (fun _ => rfl) ?_); rintro v34 G25 hS
        refine ASL.q (v := v34) rfl rfl (Light.quiet (opAssign rfl rfl)) ?_
        refine ASL.done ?_
        refine QBlock.nrm ?_
        refine QThen.nrm ?_
        exact ⟨z34, (W (p1 + 1)), v34, ⟨rfl, rfl, rfl, trivial⟩, (hS.pick [1, 2] rfl rfl), hF⟩
      · skip
        refine AWP.seqR rfl ?_
        refine ASL.q (v := (.str p0)) rfl rfl (Light.quiet (opMove rfl rfl)) ?_
        refine ASL.q (v := (.int .i64 p1)) rfl rfl (Light.quiet (opMove rfl rfl)) ?_
        obtain ⟨a38, ha38, hF⟩ := bindE hF
        refine ASL.q (v := (.int .u8 a38)) rfl rfl (Light.quiet (kIxS ha38 rfl und_9 rfl rfl)) ?_
        refine ASL.q (v := (.bool (decide (a38 = 95)))) rfl rfl (Light.quiet (opInt rfl rfl rfl rfl)) ?_
        refine ASL.q (v := (.bool (decide (a38 = 95)))) rfl rfl (Light.quiet (opAssign rfl rfl)) ?_
        refine ASL.done ?_
        refine AWP.ifP hF rfl (fun hc27 hF => ?_) (fun hc27 hF => ?_)
        · skip
          refine AWP.lastR rfl ?_
          refine ASL.q (v := vp2) rfl rfl (Light.quiet (opMove rfl rfl)) ?_
          refine ASL.q (v := (.agg [(.int .i64 2), (.int .i64 0), (.int .i64 0)])) rfl rfl (Light.quiet (opBuildZ (zs := [(.int .i64 0), (.int .i64 0), (.int .i64 0)]) rfl plan_31 zeroA_31 ⟨.inl rfl, .inl rfl, .inl rfl, trivial⟩ rfl)) ?_
          refine ASL.q (v := (.list 3 (List.map TNode.av [(TNode.mk 2 0 0)]))) rfl rfl ((qLit (xs := [(.agg [(.int .i64 2), (.int .i64 0), (.int .i64 0)])]) rfl elemA_24 sizeA_31 zeroA_31 rfl rfl rfl rfl (by simp [cells, TNode.av]) (nlt rfl))) ?_
          obtain ⟨z43, hz43, hF⟩ := bindE hF
          refine ASL.x rfl rfl (hApp (f := TNode.av) (ws := [(TNode.mk 2 0 0)]) hS (j := 1) rfl hz43 rfl elemA_24 rfl sizeA_31 bytesA_31 zeroA_31 rfl rfl rfl (fun _ => rfl) ?_); rintro v43 G28 hS
          refine ASL.q (v := v43) rfl rfl (Light.quiet (opAssign rfl rfl)) ?_
          refine ASL.done ?_
          refine QBlock.nrm ?_
          refine QThen.nrm ?_
          exact ⟨z43, (W (p1 + 1)), v43, ⟨rfl, rfl, rfl, trivial⟩, (hS.pick [1, 2] rfl rfl), hF⟩
        · skip
          refine AWP.seqR rfl ?_
          refine ASL.q (v := (.str p0)) rfl rfl (Light.quiet (opMove rfl rfl)) ?_
          refine ASL.q (v := (.int .i64 p1)) rfl rfl (Light.quiet (opMove rfl rfl)) ?_
          obtain ⟨a47, ha47, hF⟩ := bindE hF
          refine ASL.q (v := (.int .u8 a47)) rfl rfl (Light.quiet (kIxS ha47 rfl und_9 rfl rfl)) ?_
          refine ASL.q (v := (.bool (decide (a47 ≥ 48)))) rfl rfl (Light.quiet (opInt rfl rfl rfl rfl)) ?_
          obtain ⟨c49, hc49, hF⟩ := bndE hF
          refine ASL.q (v := (.bool c49)) rfl rfl ((Quiet.cast (Light.quiet (opMove rfl rfl)) (congrArg AV.bool hc49.symm))) ?_
          refine ASL.g (v := (.str p0)) (.bool c49) true rfl (wT _) rfl (fun hG => by have q0 := hG; subst q0; exact Light.quiet (opMove rfl rfl)) ?_
          refine ASL.g (v := (.int .i64 p1)) (.bool c49) true rfl (wT _) rfl (fun hG => by have q0 := hG; subst q0; exact Light.quiet (opMove rfl rfl)) ?_
          obtain ⟨a52, ha52, hF⟩ := bindE hF
          refine ASL.g (v := (.int .u8 a52)) (.bool c49) true rfl (wT _) rfl (fun hG => by have q0 := hG; subst q0; exact Light.quiet (kIxS (whenE ha52) rfl und_9 rfl rfl)) ?_
          refine ASL.g (v := (.int .i64 (IntKind.i64.wrap a52))) (.bool c49) true rfl (wT _) rfl (fun hG => by have q0 := hG; subst q0; exact Light.quiet (opConv rfl rfl und_5 und_3 rfl)) ?_
          refine ASL.g (v := (.bool (decide (((IntKind.i64.wrap a52)) < 56)))) (.bool c49) true rfl (wT _) rfl (fun hG => by have q0 := hG; subst q0; exact Light.quiet (opInt rfl rfl rfl rfl)) ?_
          refine ASL.q (v := (.bool (c49 && (decide (((IntKind.i64.wrap a52)) < 56))))) rfl rfl (Light.quiet (opPick (b := c49) rfl rfl (by cases c49 <;> rfl))) ?_
          refine ASL.q (v := (.bool (c49 && (decide (((IntKind.i64.wrap a52)) < 56))))) rfl rfl (Light.quiet (opAssign rfl rfl)) ?_
          refine ASL.done ?_
          refine AWP.ifB hF rfl (fun hc30 hF => ?_) (fun hc30 hF => ?_)
          · skip
            refine AWP.lastR rfl ?_
            refine ASL.q (v := vp2) rfl rfl (Light.quiet (opMove rfl rfl)) ?_
            refine ASL.q (v := (.str p0)) rfl rfl (Light.quiet (opMove rfl rfl)) ?_
            refine ASL.q (v := (.int .i64 p1)) rfl rfl (Light.quiet (opMove rfl rfl)) ?_
            obtain ⟨a59, ha59, hF⟩ := bindE hF
            refine ASL.q (v := (.int .u8 a59)) rfl rfl (Light.quiet (kIxS ha59 rfl und_9 rfl rfl)) ?_
            refine ASL.q (v := (.int .i64 (IntKind.i64.wrap a59))) rfl rfl (Light.quiet (opConv rfl rfl und_5 und_3 rfl)) ?_
            refine ASL.q (v := (.int .i64 (W (((IntKind.i64.wrap a59)) - 48)))) rfl rfl (Light.quiet (opInt rfl rfl rfl rfl)) ?_
            refine ASL.q (v := (.agg [(.int .i64 3), (.int .i64 (W (((IntKind.i64.wrap a59)) - 48))), (.int .i64 0)])) rfl rfl (Light.quiet (opBuildZ (zs := [(.int .i64 0), (.int .i64 0), (.int .i64 0)]) rfl plan_31 zeroA_31 ⟨.inl rfl, .inl rfl, .inl rfl, trivial⟩ rfl)) ?_
            refine ASL.q (v := (.list 3 (List.map TNode.av [(TNode.mk 3 ((W (((IntKind.i64.wrap a59)) - 48))) 0)]))) rfl rfl ((qLit (xs := [(.agg [(.int .i64 3), (.int .i64 (W (((IntKind.i64.wrap a59)) - 48))), (.int .i64 0)])]) rfl elemA_24 sizeA_31 zeroA_31 rfl rfl rfl rfl (by simp [cells, TNode.av]) (nlt rfl))) ?_
            obtain ⟨z64, hz64, hF⟩ := bindE hF
            refine ASL.x rfl rfl (hApp (f := TNode.av) (ws := [(TNode.mk 3 ((W (((IntKind.i64.wrap a59)) - 48))) 0)]) hS (j := 1) rfl hz64 rfl elemA_24 rfl sizeA_31 bytesA_31 zeroA_31 rfl rfl rfl (fun _ => rfl) ?_); rintro v64 G31 hS
            refine ASL.q (v := v64) rfl rfl (Light.quiet (opAssign rfl rfl)) ?_
            refine ASL.done ?_
            refine QBlock.nrm ?_
            refine QThen.nrm ?_
            exact ⟨z64, (W (p1 + 1)), v64, ⟨rfl, rfl, rfl, trivial⟩, (hS.pick [1, 2] rfl rfl), hF⟩
          · skip
            refine AWP.seqR rfl ?_
            refine ASL.q (v := (.str p0)) rfl rfl (Light.quiet (opMove rfl rfl)) ?_
            refine ASL.q (v := (.int .i64 p1)) rfl rfl (Light.quiet (opMove rfl rfl)) ?_
            obtain ⟨a68, ha68, hF⟩ := bindE hF
            refine ASL.q (v := (.int .u8 a68)) rfl rfl (Light.quiet (kIxS ha68 rfl und_9 rfl rfl)) ?_
            refine ASL.q (v := (.bool (decide (a68 = 40)))) rfl rfl (Light.quiet (opInt rfl rfl rfl rfl)) ?_
            refine ASL.q (v := (.bool (decide (a68 = 40)))) rfl rfl (Light.quiet (opAssign rfl rfl)) ?_
            refine ASL.done ?_
            refine AWP.ifP hF rfl (fun hc33 hF => ?_) (fun hc33 hF => ?_)
            · skip
              refine AWP.seqR rfl ?_
              refine ASL.q (v := (.str p0)) rfl rfl (Light.quiet (opMove rfl rfl)) ?_
              refine ASL.q (v := (.int .i64 p1)) rfl rfl (Light.quiet (opMove rfl rfl)) ?_
              refine ASL.q (v := (.int .i64 (W (p1 + 1)))) rfl rfl (Light.quiet (opInt rfl rfl rfl rfl)) ?_
              refine ASL.q (v := vp2) rfl rfl (Light.quiet (opMove rfl rfl)) ?_
              obtain ⟨a75, ha75, hF⟩ := bindE hF
              refine ASL.x rfl rfl (hCallS hS [1, 0, 2] (F := [.row 3 .nil (List.map TNode.av ([])), .snap S]) rfl rfl rfl call_58 (ih_spec_l11Read ha75) rfl rfl ?_); rintro _ _ G36 ⟨w34, rfl, rfl⟩ hS
              refine ASL.q (v := (.tup [w34, (.int .i64 a75.2.1), (.int .i64 a75.2.2)])) rfl rfl (Light.quiet (opMove rfl rfl)) ?_
              refine ASL.q (v := w34) rfl rfl (Light.quiet (opExtract rfl rfl rfl)) ?_
              refine ASL.q (v := (.int .i64 a75.2.1)) rfl rfl (Light.quiet (opExtract rfl rfl rfl)) ?_
              refine ASL.q (v := (.int .i64 a75.2.2)) rfl rfl (Light.quiet (opExtract rfl rfl rfl)) ?_
              refine ASL.q (v := w34) rfl rfl (Light.quiet (opAssign rfl rfl)) ?_
              refine ASL.q (v := (.int .i64 a75.2.1)) rfl rfl (Light.quiet (opAssign rfl rfl)) ?_
              refine ASL.q (v := (.int .i64 a75.2.2)) rfl rfl (Light.quiet (opAssign rfl rfl)) ?_
              refine ASL.done ?_
              refine AWP.seq ?_
              refine AWP.block ?_
              refine AWP.seqR rfl ?_
              refine ASL.q (v := (.int .i64 a75.2.2)) rfl rfl (Light.quiet (opMove rfl rfl)) ?_
              refine ASL.q (v := (.bool (decide (a75.2.2 ≠ 0)))) rfl rfl (Light.quiet (opInt rfl rfl rfl rfl)) ?_
              refine ASL.q (v := (.bool (decide (a75.2.2 ≠ 0)))) rfl rfl (Light.quiet (opAssign rfl rfl)) ?_
              refine ASL.done ?_
              refine AWP.ifP hF rfl (fun hc37 hF => ?_) (fun hc37 hF => ?_)
              · skip
                refine AWP.seqR rfl ?_
                refine ASL.q (v := w34) rfl rfl (Light.quiet (opMove rfl rfl)) ?_
                refine ASL.q (v := (.int .i64 a75.2.1)) rfl rfl (Light.quiet (opMove rfl rfl)) ?_
                refine ASL.q (v := (.int .i64 a75.2.2)) rfl rfl (Light.quiet (opMove rfl rfl)) ?_
                refine ASL.q (v := w34) rfl rfl (Light.quiet (opAssign rfl rfl)) ?_
                refine ASL.q (v := (.int .i64 a75.2.1)) rfl rfl (Light.quiet (opAssign rfl rfl)) ?_
                refine ASL.q (v := (.int .i64 a75.2.2)) rfl rfl (Light.quiet (opAssign rfl rfl)) ?_
                refine ASL.done ?_
                refine AWP.ret ?_
                refine QBlock.ret ?_
                refine QThen.rt ?_
                refine QBlock.ret ?_
                refine QThen.rt ?_
                obtain rfl := someE hF
                exact QRet.many (vs := [w34, (.int .i64 a75.2.1), (.int .i64 a75.2.2)]) ⟨rfl, rfl, rfl, trivial⟩ (by simp) ⟨_, ⟨w34, rfl, rfl⟩, hS.pick [0, 2] rfl rfl⟩
              · skip
                refine AWP.seqR rfl ?_
                refine ASL.q (v := (.int .i64 a75.2.1)) rfl rfl (Light.quiet (opMove rfl rfl)) ?_
                refine ASL.q (v := (.str p0)) rfl rfl (Light.quiet (opMove rfl rfl)) ?_
                refine ASL.q (v := (.int .i64 (p0.size : Int))) rfl rfl (Light.quiet (opLenOf rfl rfl rfl lenT_9 rfl rfl)) ?_
                refine ASL.q (v := (.bool (decide (a75.2.1 ≥ ((p0.size : Int)))))) rfl rfl (Light.quiet (opInt rfl rfl rfl rfl)) ?_
                refine ASL.q (v := (.bool (decide (a75.2.1 ≥ ((p0.size : Int)))))) rfl rfl (Light.quiet (opAssign rfl rfl)) ?_
                refine ASL.done ?_
                refine AWP.ifP hF rfl (fun hc38 hF => ?_) (fun hc38 hF => ?_)
                · skip
                  refine AWP.seqR rfl ?_
                  refine ASL.q (v := w34) rfl rfl (Light.quiet (opMove rfl rfl)) ?_
                  refine ASL.q (v := (.str p0)) rfl rfl (Light.quiet (opMove rfl rfl)) ?_
                  refine ASL.q (v := (.int .i64 (p0.size : Int))) rfl rfl (Light.quiet (opLenOf rfl rfl rfl lenT_9 rfl rfl)) ?_
                  refine ASL.q (v := w34) rfl rfl (Light.quiet (opAssign rfl rfl)) ?_
                  refine ASL.q (v := (.int .i64 (p0.size : Int))) rfl rfl (Light.quiet (opAssign rfl rfl)) ?_
                  refine ASL.q (v := (.int .i64 2)) rfl rfl (Light.quiet (opAssign rfl rfl)) ?_
                  refine ASL.done ?_
                  refine AWP.ret ?_
                  refine QBlock.ret ?_
                  refine QThen.rt ?_
                  refine QBlock.ret ?_
                  refine QThen.rt ?_
                  obtain rfl := someE hF
                  exact QRet.many (vs := [w34, (.int .i64 (p0.size : Int)), (.int .i64 2)]) ⟨rfl, rfl, rfl, trivial⟩ (by simp) ⟨_, ⟨w34, rfl, rfl⟩, hS.pick [0, 2] rfl rfl⟩
                · skip
                  refine AWP.seqR rfl ?_
                  refine ASL.q (v := (.str p0)) rfl rfl (Light.quiet (opMove rfl rfl)) ?_
                  refine ASL.q (v := (.int .i64 a75.2.1)) rfl rfl (Light.quiet (opMove rfl rfl)) ?_
                  obtain ⟨a96, ha96, hF⟩ := bindE hF
                  refine ASL.q (v := (.int .u8 a96)) rfl rfl (Light.quiet (kIxS ha96 rfl und_9 rfl rfl)) ?_
                  refine ASL.q (v := (.bool (decide (a96 ≠ 41)))) rfl rfl (Light.quiet (opInt rfl rfl rfl rfl)) ?_
                  refine ASL.q (v := (.bool (decide (a96 ≠ 41)))) rfl rfl (Light.quiet (opAssign rfl rfl)) ?_
                  refine ASL.done ?_
                  refine AWP.ifP hF rfl (fun hc39 hF => ?_) (fun hc39 hF => ?_)
                  · skip
                    refine AWP.seqR rfl ?_
                    refine ASL.q (v := w34) rfl rfl (Light.quiet (opMove rfl rfl)) ?_
                    refine ASL.q (v := (.int .i64 a75.2.1)) rfl rfl (Light.quiet (opMove rfl rfl)) ?_
                    refine ASL.q (v := w34) rfl rfl (Light.quiet (opAssign rfl rfl)) ?_
                    refine ASL.q (v := (.int .i64 a75.2.1)) rfl rfl (Light.quiet (opAssign rfl rfl)) ?_
                    refine ASL.q (v := (.int .i64 3)) rfl rfl (Light.quiet (opAssign rfl rfl)) ?_
                    refine ASL.done ?_
                    refine AWP.ret ?_
                    refine QBlock.ret ?_
                    refine QThen.rt ?_
                    refine QBlock.ret ?_
                    refine QThen.rt ?_
                    obtain rfl := someE hF
                    exact QRet.many (vs := [w34, (.int .i64 a75.2.1), (.int .i64 3)]) ⟨rfl, rfl, rfl, trivial⟩ (by simp) ⟨_, ⟨w34, rfl, rfl⟩, hS.pick [0, 2] rfl rfl⟩
                  · skip
                    refine AWP.skip ?_
                    refine QBlock.nrm ?_
                    refine QThen.nrm ?_
                    refine AWP.seqR rfl ?_
                    refine ASL.q (v := w34) rfl rfl (Light.quiet (opMove rfl rfl)) ?_
                    refine ASL.q (v := w34) rfl rfl (Light.quiet (opAssign rfl rfl)) ?_
                    refine ASL.done ?_
                    refine AWP.lastR rfl ?_
                    refine ASL.q (v := (.int .i64 a75.2.1)) rfl rfl (Light.quiet (opMove rfl rfl)) ?_
                    refine ASL.q (v := (.int .i64 (W (a75.2.1 + 1)))) rfl rfl (Light.quiet (opInt rfl rfl rfl rfl)) ?_
                    refine ASL.q (v := (.int .i64 (W (a75.2.1 + 1)))) rfl rfl (Light.quiet (opAssign rfl rfl)) ?_
                    refine ASL.done ?_
                    refine QBlock.nrm ?_
                    refine QThen.nrm ?_
                    exact ⟨a75.1, (W (a75.2.1 + 1)), w34, ⟨rfl, rfl, rfl, trivial⟩, (hS.pick [0, 2] rfl rfl), hF⟩
            · skip
              refine AWP.seqR rfl ?_
              refine ASL.q (v := vp2) rfl rfl (Light.quiet (opMove rfl rfl)) ?_
              refine ASL.q (v := (.int .i64 p1)) rfl rfl (Light.quiet (opMove rfl rfl)) ?_
              refine ASL.q (v := vp2) rfl rfl (Light.quiet (opAssign rfl rfl)) ?_
              refine ASL.q (v := (.int .i64 p1)) rfl rfl (Light.quiet (opAssign rfl rfl)) ?_
              refine ASL.q (v := (.int .i64 3)) rfl rfl (Light.quiet (opAssign rfl rfl)) ?_
              refine ASL.done ?_
              refine AWP.ret ?_
              refine QBlock.ret ?_
              refine QThen.rt ?_
              obtain rfl := someE hF
              exact QRet.many (vs := [vp2, (.int .i64 p1), (.int .i64 3)]) ⟨rfl, rfl, rfl, trivial⟩ (by simp) ⟨_, ⟨vp2, rfl, rfl⟩, hS.pick [1, 2] rfl rfl⟩
theorem spec_l11Read.grp_ok {K : Nat} : (∀ {p0 : ByteArray} {p1 : Int} {p2 : Int} {p3 : (List TNode)} {r : ((List TNode) × Int × Int)} {vp3 : AV} , spec_l11Read K p0 p1 p2 p3 = some r → HS Try.prog 58 [(.str p0), (.int .i64 p1), (.int .i64 p2), vp3] [.row 3 vp3 (List.map TNode.av p3)] fun v L' => ∃ o0 : AV, v = .tup [o0, (.int .i64 r.2.1), (.int .i64 r.2.2)] ∧ L' = [.row 3 o0 (List.map TNode.av r.1)]) ∧ (∀ {p0 : ByteArray} {p1 : Int} {p2 : (List TNode)} {r : ((List TNode) × Int × Int)} {vp2 : AV} , spec_l11Atom K p0 p1 p2 = some r → HS Try.prog 85 [(.str p0), (.int .i64 p1), vp2] [.row 3 vp2 (List.map TNode.av p2)] fun v L' => ∃ o0 : AV, v = .tup [o0, (.int .i64 r.2.1), (.int .i64 r.2.2)] ∧ L' = [.row 3 o0 (List.map TNode.av r.1)]) := by
  induction K with
  | zero => exact ⟨(by intros; rename_i h; cases h), (by intros; rename_i h; cases h)⟩
  | succ K ih => exact ⟨(by intros; rename_i h; exact spec_l11Read.body_ok ih.1 ih.2 h), (by intros; rename_i h; exact spec_l11Atom.body_ok ih.1 ih.2 h)⟩

theorem spec_l11Read_ok {K : Nat} : (∀ {p0 : ByteArray} {p1 : Int} {p2 : Int} {p3 : (List TNode)} {r : ((List TNode) × Int × Int)} {vp3 : AV} , spec_l11Read K p0 p1 p2 p3 = some r → HS Try.prog 58 [(.str p0), (.int .i64 p1), (.int .i64 p2), vp3] [.row 3 vp3 (List.map TNode.av p3)] fun v L' => ∃ o0 : AV, v = .tup [o0, (.int .i64 r.2.1), (.int .i64 r.2.2)] ∧ L' = [.row 3 o0 (List.map TNode.av r.1)]) := spec_l11Read.grp_ok.1

theorem spec_l11Atom_ok {K : Nat} : (∀ {p0 : ByteArray} {p1 : Int} {p2 : (List TNode)} {r : ((List TNode) × Int × Int)} {vp2 : AV} , spec_l11Atom K p0 p1 p2 = some r → HS Try.prog 85 [(.str p0), (.int .i64 p1), vp2] [.row 3 vp2 (List.map TNode.av p2)] fun v L' => ∃ o0 : AV, v = .tup [o0, (.int .i64 r.2.1), (.int .i64 r.2.2)] ∧ L' = [.row 3 o0 (List.map TNode.av r.1)]) := spec_l11Read.grp_ok.2

set_option maxRecDepth 10000 in
theorem spec_ReParse_ok {K : Nat} {p0 : ByteArray} {r : ((List TNode) × Int × Int)} (hF : spec_ReParse K p0 = some r) : HS Try.prog 23 [(.str p0)] [] fun v L' => ∃ o0 : AV, v = .tup [o0, (.int .i64 r.2.1), (.int .i64 r.2.2)] ∧ L' = [.row 3 o0 (List.map TNode.av r.1)] := by
  intro H S hS
  refine HC.enter Try.func23 rfl Try.ntmps23 (by simp) ?_
  simp only [List.cons_append, List.nil_append] at hS
  unfold spec_ReParse at hF
  refine AWP.seqR rfl ?_
  have hS := hNil (s := 3) (f := TNode.av) hS
  refine ASL.q (v := .nil) rfl rfl (Light.quiet (opAssign rfl rfl)) ?_
  refine ASL.q (v := (.int .i64 0)) rfl rfl (Light.quiet (opAssign rfl rfl)) ?_
  refine ASL.q (v := (.int .i64 0)) rfl rfl (Light.quiet (opAssign rfl rfl)) ?_
  refine ASL.done ?_
  refine AWP.seq ?_
  refine AWP.seqR rfl ?_
  refine ASL.q (v := (.str p0)) rfl rfl (Light.quiet (opMove rfl rfl)) ?_
  refine ASL.q (v := (.int .i64 (p0.size : Int))) rfl rfl (Light.quiet (opLenOf rfl rfl rfl lenT_9 rfl rfl)) ?_
  refine ASL.q (v := (.bool (decide (((p0.size : Int)) > 200)))) rfl rfl (Light.quiet (opInt rfl rfl rfl rfl)) ?_
  refine ASL.done ?_
  refine AWP.ifP hF rfl (fun hc2 hF => ?_) (fun hc2 hF => ?_)
  · skip
    refine AWP.seqR rfl ?_
    refine ASL.x rfl rfl (hLit (f := TNode.av) (zs := []) hS rfl rfl elemA_24 sizeA_31 zeroA_31 rfl rfl rfl rfl (by simp [cells, TNode.av]) (nlt rfl) ?_); rintro v11 G3 hK hS
    refine ASL.q (v := v11) rfl rfl (Light.quiet (opAssign rfl rfl)) ?_
    refine ASL.q (v := (.int .i64 0)) rfl rfl (Light.quiet (opAssign rfl rfl)) ?_
    refine ASL.q (v := (.int .i64 1)) rfl rfl (Light.quiet (opAssign rfl rfl)) ?_
    refine ASL.done ?_
    refine AWP.ret ?_
    refine QThen.rt ?_
    obtain rfl := someE hF
    exact QRet.many (vs := [v11, (.int .i64 0), (.int .i64 1)]) ⟨rfl, rfl, rfl, trivial⟩ (by simp) ⟨_, ⟨v11, rfl, rfl⟩, hS.pick [0, 2] rfl rfl⟩
  · skip
    refine AWP.skip ?_
    refine QThen.nrm ?_
    refine AWP.seqR rfl ?_
    refine ASL.q (v := (.str p0)) rfl rfl (Light.quiet (opMove rfl rfl)) ?_
    refine ASL.x rfl rfl (hLit (f := TNode.av) (zs := []) hS rfl rfl elemA_24 sizeA_31 zeroA_31 rfl rfl rfl rfl (by simp [cells, TNode.av]) (nlt rfl) ?_); rintro v14 G5 hK hS
    obtain ⟨a15, ha15, hF⟩ := bindE hF
    refine ASL.x rfl rfl (hCallS hS [0, 1, 2] (F := [.row 3 .nil (List.map TNode.av ([])), .snap S]) rfl rfl rfl call_58 (spec_l11Read_ok ha15) rfl rfl ?_); rintro _ _ G9 ⟨w7, rfl, rfl⟩ hS
    refine ASL.q (v := (.tup [w7, (.int .i64 a15.2.1), (.int .i64 a15.2.2)])) rfl rfl (Light.quiet (opMove rfl rfl)) ?_
    refine ASL.q (v := w7) rfl rfl (Light.quiet (opExtract rfl rfl rfl)) ?_
    refine ASL.q (v := (.int .i64 a15.2.1)) rfl rfl (Light.quiet (opExtract rfl rfl rfl)) ?_
    refine ASL.q (v := (.int .i64 a15.2.2)) rfl rfl (Light.quiet (opExtract rfl rfl rfl)) ?_
    refine ASL.q (v := w7) rfl rfl (Light.quiet (opAssign rfl rfl)) ?_
    refine ASL.q (v := (.int .i64 a15.2.1)) rfl rfl (Light.quiet (opAssign rfl rfl)) ?_
    refine ASL.q (v := (.int .i64 a15.2.2)) rfl rfl (Light.quiet (opAssign rfl rfl)) ?_
    refine ASL.done ?_
    refine AWP.seq ?_
    refine AWP.block ?_
    refine AWP.seqR rfl ?_
    refine ASL.q (v := (.int .i64 a15.2.2)) rfl rfl (Light.quiet (opMove rfl rfl)) ?_
    refine ASL.q (v := (.bool (decide (a15.2.2 ≠ 0)))) rfl rfl (Light.quiet (opInt rfl rfl rfl rfl)) ?_
    refine ASL.q (v := (.bool (decide (a15.2.2 ≠ 0)))) rfl rfl (Light.quiet (opAssign rfl rfl)) ?_
    refine ASL.done ?_
    refine AWP.ifP hF rfl (fun hc10 hF => ?_) (fun hc10 hF => ?_)
    · skip
      refine AWP.seqR rfl ?_
      refine ASL.x rfl rfl (hLit (f := TNode.av) (zs := []) hS rfl rfl elemA_24 sizeA_31 zeroA_31 rfl rfl rfl rfl (by simp [cells, TNode.av]) (nlt rfl) ?_); rintro v22 G11 hK hS
      refine ASL.q (v := (.int .i64 a15.2.1)) rfl rfl (Light.quiet (opMove rfl rfl)) ?_
      refine ASL.q (v := (.int .i64 a15.2.2)) rfl rfl (Light.quiet (opMove rfl rfl)) ?_
      refine ASL.q (v := v22) rfl rfl (Light.quiet (opAssign rfl rfl)) ?_
      refine ASL.q (v := (.int .i64 a15.2.1)) rfl rfl (Light.quiet (opAssign rfl rfl)) ?_
      refine ASL.q (v := (.int .i64 a15.2.2)) rfl rfl (Light.quiet (opAssign rfl rfl)) ?_
      refine ASL.done ?_
      refine AWP.ret ?_
      refine QBlock.ret ?_
      refine QThen.rt ?_
      obtain rfl := someE hF
      exact QRet.many (vs := [v22, (.int .i64 a15.2.1), (.int .i64 a15.2.2)]) ⟨rfl, rfl, rfl, trivial⟩ (by simp) ⟨_, ⟨v22, rfl, rfl⟩, hS.pick [0, 3] rfl rfl⟩
    · skip
      refine AWP.seqR rfl ?_
      refine ASL.q (v := (.int .i64 a15.2.1)) rfl rfl (Light.quiet (opMove rfl rfl)) ?_
      refine ASL.q (v := (.str p0)) rfl rfl (Light.quiet (opMove rfl rfl)) ?_
      refine ASL.q (v := (.int .i64 (p0.size : Int))) rfl rfl (Light.quiet (opLenOf rfl rfl rfl lenT_9 rfl rfl)) ?_
      refine ASL.q (v := (.bool (decide (a15.2.1 < ((p0.size : Int)))))) rfl rfl (Light.quiet (opInt rfl rfl rfl rfl)) ?_
      refine ASL.q (v := (.bool (decide (a15.2.1 < ((p0.size : Int)))))) rfl rfl (Light.quiet (opAssign rfl rfl)) ?_
      refine ASL.done ?_
      refine AWP.ifP hF rfl (fun hc13 hF => ?_) (fun hc13 hF => ?_)
      · skip
        refine AWP.seqR rfl ?_
        refine ASL.x rfl rfl (hLit (f := TNode.av) (zs := []) hS rfl rfl elemA_24 sizeA_31 zeroA_31 rfl rfl rfl rfl (by simp [cells, TNode.av]) (nlt rfl) ?_); rintro v30 G14 hK hS
        refine ASL.q (v := (.int .i64 a15.2.1)) rfl rfl (Light.quiet (opMove rfl rfl)) ?_
        refine ASL.q (v := v30) rfl rfl (Light.quiet (opAssign rfl rfl)) ?_
        refine ASL.q (v := (.int .i64 a15.2.1)) rfl rfl (Light.quiet (opAssign rfl rfl)) ?_
        refine ASL.q (v := (.int .i64 5)) rfl rfl (Light.quiet (opAssign rfl rfl)) ?_
        refine ASL.done ?_
        refine AWP.ret ?_
        refine QBlock.ret ?_
        refine QThen.rt ?_
        obtain rfl := someE hF
        exact QRet.many (vs := [v30, (.int .i64 a15.2.1), (.int .i64 5)]) ⟨rfl, rfl, rfl, trivial⟩ (by simp) ⟨_, ⟨v30, rfl, rfl⟩, hS.pick [0, 3] rfl rfl⟩
      · skip
        refine AWP.seqR rfl ?_
        refine ASL.q (v := w7) rfl rfl (Light.quiet (opMove rfl rfl)) ?_
        refine ASL.q (v := (.int .i64 (a15.1.length : Int))) rfl rfl (Light.quiet (kLen hS (j := 0) rfl rfl rfl rfl lenT_24 rfl)) ?_
        refine ASL.q (v := (.bool (decide (((a15.1.length : Int)) > 31)))) rfl rfl (Light.quiet (opInt rfl rfl rfl rfl)) ?_
        refine ASL.q (v := (.bool (decide (((a15.1.length : Int)) > 31)))) rfl rfl (Light.quiet (opAssign rfl rfl)) ?_
        refine ASL.done ?_
        refine AWP.ifP hF rfl (fun hc16 hF => ?_) (fun hc16 hF => ?_)
        · skip
          refine AWP.seqR rfl ?_
          refine ASL.x rfl rfl (hLit (f := TNode.av) (zs := []) hS rfl rfl elemA_24 sizeA_31 zeroA_31 rfl rfl rfl rfl (by simp [cells, TNode.av]) (nlt rfl) ?_); rintro v36 G17 hK hS
          refine ASL.q (v := v36) rfl rfl (Light.quiet (opAssign rfl rfl)) ?_
          refine ASL.q (v := (.int .i64 0)) rfl rfl (Light.quiet (opAssign rfl rfl)) ?_
          refine ASL.q (v := (.int .i64 4)) rfl rfl (Light.quiet (opAssign rfl rfl)) ?_
          refine ASL.done ?_
          refine AWP.ret ?_
          refine QBlock.ret ?_
          refine QThen.rt ?_
          obtain rfl := someE hF
          exact QRet.many (vs := [v36, (.int .i64 0), (.int .i64 4)]) ⟨rfl, rfl, rfl, trivial⟩ (by simp) ⟨_, ⟨v36, rfl, rfl⟩, hS.pick [0, 3] rfl rfl⟩
        · skip
          refine AWP.skip ?_
          refine QBlock.nrm ?_
          refine QThen.nrm ?_
          refine AWP.seqR rfl ?_
          refine ASL.q (v := w7) rfl rfl (Light.quiet (opMove rfl rfl)) ?_
          refine ASL.q (v := (.str p0)) rfl rfl (Light.quiet (opMove rfl rfl)) ?_
          refine ASL.q (v := (.int .i64 (p0.size : Int))) rfl rfl (Light.quiet (opLenOf rfl rfl rfl lenT_9 rfl rfl)) ?_
          refine ASL.q (v := w7) rfl rfl (Light.quiet (opAssign rfl rfl)) ?_
          refine ASL.q (v := (.int .i64 (p0.size : Int))) rfl rfl (Light.quiet (opAssign rfl rfl)) ?_
          refine ASL.q (v := (.int .i64 0)) rfl rfl (Light.quiet (opAssign rfl rfl)) ?_
          refine ASL.done ?_
          refine AWP.ret ?_
          obtain rfl := someE hF
          exact QRet.many (vs := [w7, (.int .i64 (p0.size : Int)), (.int .i64 0)]) ⟨rfl, rfl, rfl, trivial⟩ (by simp) ⟨_, ⟨w7, rfl, rfl⟩, hS.pick [0, 2] rfl rfl⟩

set_option maxRecDepth 10000 in
theorem laws_FnReText_ok {K : Nat} {p0 : (List Int)} {r : Bool} (hF : laws_FnReText K p0 = some r) : PC Try.prog 5 [(.list 1 (List.map (AV.int .u8) p0))] fun v => v = (.bool r) := by
  refine PC.enter Try.func5 rfl Try.ntmps5 (by simp) ?_
  have hS := Sep.void; unfold laws_FnReText at hF
  refine AWP.seqR rfl ?_
  refine ASL.q (v := (.bool false)) rfl rfl (Light.quiet (opAssign rfl rfl)) ?_
  refine ASL.done ?_
  refine AWP.seq ?_
  refine AWP.seqR rfl ?_
  refine ASL.q (v := (.list 1 (List.map (AV.int .u8) p0))) rfl rfl (Light.quiet (opMove rfl rfl)) ?_
  refine ASL.q (v := (.bool (laws_big p0))) rfl rfl ((qCall rfl rfl call_7 (laws_big_ok p0) rfl)) ?_
  refine ASL.done ?_
  refine AWP.ifB hF rfl (fun hc1 hF => ?_) (fun hc1 hF => ?_)
  · skip
    refine AWP.seqR rfl ?_
    refine ASL.q (v := (.bool true)) rfl rfl (Light.quiet (opAssign rfl rfl)) ?_
    refine ASL.done ?_
    refine AWP.ret ?_
    refine QThen.rt ?_
    obtain rfl := someE hF
    exact QRet.sole (v := (.bool true)) ⟨rfl, trivial⟩ rfl
  · skip
    refine AWP.skip ?_
    refine QThen.nrm ?_
    refine AWP.seqR rfl ?_
    refine ASL.q (v := (.list 1 (List.map (AV.int .u8) p0))) rfl rfl (Light.quiet (opMove rfl rfl)) ?_
    obtain ⟨a21, ha21, hF⟩ := bindE hF
    refine ASL.q (v := (.list 3 (List.map TNode.av a21))) rfl rfl ((qCall rfl rfl call_18 (PO.list (spec_DrawRePrint_ok ha21)) rfl)) ?_
    refine ASL.q (v := (.list 3 (List.map TNode.av a21))) rfl rfl (Light.quiet (opAssign rfl rfl)) ?_
    refine ASL.done ?_
    refine AWP.seqR rfl ?_
    refine ASL.q (v := (.list 3 (List.map TNode.av a21))) rfl rfl (Light.quiet (opMove rfl rfl)) ?_
    obtain ⟨a23, ha23, hF⟩ := bindE hF
    refine ASL.q (v := (.str a23)) rfl rfl ((qCall rfl rfl call_19 (impl_RePrint_ok ha23) rfl)) ?_
    refine ASL.q (v := (.str a23)) rfl rfl (Light.quiet (opAssign rfl rfl)) ?_
    refine ASL.done ?_
    refine AWP.seq ?_
    refine AWP.seqR rfl ?_
    refine ASL.q (v := (.list 3 (List.map TNode.av a21))) rfl rfl (Light.quiet (opMove rfl rfl)) ?_
    obtain ⟨a25, ha25, hF⟩ := bindE hF
    refine ASL.q (v := (.bool a25)) rfl rfl ((qCall rfl rfl call_9 (spec_ReOk_ok ha25) rfl)) ?_
    refine ASL.q (v := (.bool (!a25))) rfl rfl (Light.quiet (opNot rfl rfl)) ?_
    refine ASL.done ?_
    refine AWP.ifB hF rfl (fun hc2 hF => ?_) (fun hc2 hF => ?_)
    · skip
      refine AWP.seqR rfl ?_
      refine ASL.q (v := (.str a23)) rfl rfl (Light.quiet (opMove rfl rfl)) ?_
      refine ASL.q (v := (.bool (a23.toList == ({ data := #[] } : ByteArray).toList))) rfl rfl (Light.quiet (opStr rfl rfl rfl rfl)) ?_
      obtain ⟨c29, hc29, hF⟩ := bndE hF
      refine ASL.q (v := (.bool c29)) rfl rfl ((Quiet.cast (Light.quiet (opMove rfl rfl)) (congrArg AV.bool hc29.symm))) ?_
      refine ASL.g (v := (.list 3 (List.map TNode.av a21))) (.bool c29) true rfl (wT _) rfl (fun hG => by have q0 := hG; subst q0; exact Light.quiet (opMove rfl rfl)) ?_
      obtain ⟨a31, ha31, hF⟩ := bindE hF
      refine ASL.g (v := (.bool a31)) (.bool c29) true rfl (wT _) rfl (fun hG => by have q0 := hG; subst q0; exact (qCall rfl rfl call_12 (impl_ReOk_ok (whenE ha31)) rfl)) ?_
      refine ASL.g (v := (.bool (!a31))) (.bool c29) true rfl (wT _) rfl (fun hG => by have q0 := hG; subst q0; exact Light.quiet (opNot rfl rfl)) ?_
      refine ASL.q (v := (.bool (c29 && (!a31)))) rfl rfl (Light.quiet (opPick (b := c29) rfl rfl (by cases c29 <;> rfl))) ?_
      refine ASL.q (v := (.bool (c29 && (!a31)))) rfl rfl (Light.quiet (opAssign rfl rfl)) ?_
      refine ASL.done ?_
      refine AWP.ret ?_
      refine QThen.rt ?_
      obtain rfl := someE hF
      exact QRet.sole (v := (.bool (c29 && (!a31)))) ⟨rfl, trivial⟩ rfl
    · skip
      refine AWP.skip ?_
      refine QThen.nrm ?_
      refine AWP.seqR rfl ?_
      refine ASL.q (v := (.str a23)) rfl rfl (Light.quiet (opMove rfl rfl)) ?_
      obtain ⟨a36, ha36, hF⟩ := bindE hF
      refine ASL.x rfl rfl (hCallSR hS rfl rfl call_20 (impl_ReParse_ok ha36) ⟨.same _, trivial⟩ (by rintro _ _ G ⟨w3, rfl, rfl⟩ hG; exact ⟨(Scal.tup (ScalC.cons (hG.scR (k := 0) rfl) (ScalC.cons (by constructor) (ScalC.cons (by constructor) ScalC.nil)))), ⟨(Scal.row (fun _ => by simp only [TNode.av, cells, List.mem_cons, List.not_mem_nil, or_false]; rintro c hc; rcases hc with rfl | rfl | rfl <;> constructor)), trivial⟩⟩) ?_); rintro _ _ G5 ⟨w3, rfl, rfl⟩ hK hS
      refine ASL.q (v := (.tup [w3, (.int .i64 a36.2.1), (.int .i64 a36.2.2)])) rfl rfl (Light.quiet (opMove rfl rfl)) ?_
      refine ASL.q (v := w3) rfl rfl (Light.quiet (opExtract rfl rfl rfl)) ?_
      refine ASL.q (v := (.int .i64 a36.2.1)) rfl rfl (Light.quiet (opExtract rfl rfl rfl)) ?_
      refine ASL.q (v := (.int .i64 a36.2.2)) rfl rfl (Light.quiet (opExtract rfl rfl rfl)) ?_
      refine ASL.q (v := w3) rfl rfl (Light.quiet (opAssign rfl rfl)) ?_
      refine ASL.q (v := (.int .i64 a36.2.1)) rfl rfl (Light.quiet (opAssign rfl rfl)) ?_
      refine ASL.q (v := (.int .i64 a36.2.2)) rfl rfl (Light.quiet (opAssign rfl rfl)) ?_
      refine ASL.done ?_
      refine AWP.seq ?_
      refine AWP.seqR rfl ?_
      refine ASL.q (v := (.str a23)) rfl rfl (Light.quiet (opMove rfl rfl)) ?_
      refine ASL.q (v := (.int .i64 (a23.size : Int))) rfl rfl (Light.quiet (opLenOf rfl rfl rfl lenT_9 rfl rfl)) ?_
      refine ASL.q (v := (.bool (decide (((a23.size : Int)) ≤ 200)))) rfl rfl (Light.quiet (opInt rfl rfl rfl rfl)) ?_
      obtain ⟨c43, hc43, hF⟩ := bndE hF
      refine ASL.q (v := (.bool c43)) rfl rfl ((Quiet.cast (Light.quiet (opMove rfl rfl)) (congrArg AV.bool hc43.symm))) ?_
      refine ASL.g (v := (.int .i64 a36.2.2)) (.bool c43) true rfl (wT _) rfl (fun hG => by have q0 := hG; subst q0; exact Light.quiet (opMove rfl rfl)) ?_
      refine ASL.g (v := (.bool (decide (a36.2.2 ≠ 0)))) (.bool c43) true rfl (wT _) rfl (fun hG => by have q0 := hG; subst q0; exact Light.quiet (opInt rfl rfl rfl rfl)) ?_
      obtain ⟨c46, hc46, hF⟩ := bndE hF
      refine ASL.g (v := (.bool c46)) (.bool c43) true rfl (wT _) rfl (fun hG => by have q0 := hG; subst q0; exact (Quiet.cast (Light.quiet (opMove rfl rfl)) (congrArg AV.bool hc46.symm))) ?_
      refine ASL.g (v := (.int .i64 a36.2.1)) (bif c43 then (.bool c46) else .tup []) false rfl (wGF _ _) rfl (fun hG => by have q0 := gA1 hG; have q1 := gN (gA2 hG); subst q0; subst q1; exact Light.quiet (opMove rfl rfl)) ?_
      refine ASL.g (v := (.str a23)) (bif c43 then (.bool c46) else .tup []) false rfl (wGF _ _) rfl (fun hG => by have q0 := gA1 hG; have q1 := gN (gA2 hG); subst q0; subst q1; exact Light.quiet (opMove rfl rfl)) ?_
      refine ASL.g (v := (.int .i64 (a23.size : Int))) (bif c43 then (.bool c46) else .tup []) false rfl (wGF _ _) rfl (fun hG => by have q0 := gA1 hG; have q1 := gN (gA2 hG); subst q0; subst q1; exact Light.quiet (opLenOf rfl rfl rfl lenT_9 rfl rfl)) ?_
      refine ASL.g (v := (.bool (decide (a36.2.1 ≠ ((a23.size : Int)))))) (bif c43 then (.bool c46) else .tup []) false rfl (wGF _ _) rfl (fun hG => by have q0 := gA1 hG; have q1 := gN (gA2 hG); subst q0; subst q1; exact Light.quiet (opInt rfl rfl rfl rfl)) ?_
      refine ASL.g (v := (.bool (c46 || (decide (a36.2.1 ≠ ((a23.size : Int))))))) (.bool c43) true rfl (wT _) rfl (fun hG => by have q0 := hG; subst q0; exact Light.quiet (opPick (b := c46) rfl rfl (by cases c46 <;> rfl))) ?_
      obtain ⟨c52, hc52, hF⟩ := bndE hF
      refine ASL.g (v := (.bool c52)) (.bool c43) true rfl (wT _) rfl (fun hG => by have q0 := hG; subst q0; exact (Quiet.cast (Light.quiet (opMove rfl rfl)) (congrArg AV.bool hc52.symm))) ?_
      refine ASL.g (v := w3) (bif c43 then (.bool c52) else .tup []) false rfl (wGF _ _) rfl (fun hG => by have q0 := gA1 hG; have q1 := gN (gA2 hG); subst q0; subst q1; exact Light.quiet (opMove rfl rfl)) ?_
      refine ASL.g (v := (.list 3 (List.map TNode.av a21))) (bif c43 then (.bool c52) else .tup []) false rfl (wGF _ _) rfl (fun hG => by have q0 := gA1 hG; have q1 := gN (gA2 hG); subst q0; subst q1; exact Light.quiet (opMove rfl rfl)) ?_
      obtain ⟨a55, ha55, hF⟩ := bindE hF
      refine ASL.g (v := (.bool a55)) (bif c43 then (.bool c52) else .tup []) false rfl (wGF _ _) rfl (fun hG => by have q0 := gA1 hG; have q1 := gN (gA2 hG); subst q0; subst q1; exact (qCallR hS rfl rfl call_21 (laws_sameNodes_ok (whenE ha55)) ⟨.row (k := 0) rfl, .same _, trivial⟩ (by constructor))) ?_
      refine ASL.g (v := (.bool (!a55))) (bif c43 then (.bool c52) else .tup []) false rfl (wGF _ _) rfl (fun hG => by have q0 := gA1 hG; have q1 := gN (gA2 hG); subst q0; subst q1; exact Light.quiet (opNot rfl rfl)) ?_
      refine ASL.g (v := (.bool (c52 || (!a55)))) (.bool c43) true rfl (wT _) rfl (fun hG => by have q0 := hG; subst q0; exact Light.quiet (opPick (b := c52) rfl rfl (by cases c52 <;> rfl))) ?_
      refine ASL.q (v := (.bool (c43 && (c52 || (!a55))))) rfl rfl (Light.quiet (opPick (b := c43) rfl rfl (by cases c43 <;> rfl))) ?_
      refine ASL.done ?_
      refine AWP.ifB hF rfl (fun hc6 hF => ?_) (fun hc6 hF => ?_)
      · skip
        refine AWP.seqR rfl ?_
        refine ASL.q (v := (.bool false)) rfl rfl (Light.quiet (opAssign rfl rfl)) ?_
        refine ASL.done ?_
        refine AWP.ret ?_
        refine QThen.rt ?_
        obtain rfl := someE hF
        exact QRet.sole (v := (.bool false)) ⟨rfl, trivial⟩ rfl
      · skip
        refine AWP.skip ?_
        refine QThen.nrm ?_
        refine AWP.seqR rfl ?_
        refine ASL.q (v := (.list 1 (List.map (AV.int .u8) p0))) rfl rfl (Light.quiet (opMove rfl rfl)) ?_
        obtain ⟨a60, ha60, hF⟩ := bindE hF
        refine ASL.q (v := (.str a60)) rfl rfl ((qCall rfl rfl call_22 (spec_DrawReParse_ok ha60) rfl)) ?_
        refine ASL.q (v := (.str a60)) rfl rfl (Light.quiet (opAssign rfl rfl)) ?_
        refine ASL.done ?_
        refine AWP.seqR rfl ?_
        refine ASL.q (v := (.str a60)) rfl rfl (Light.quiet (opMove rfl rfl)) ?_
        obtain ⟨a63, ha63, hF⟩ := bindE hF
        refine ASL.x rfl rfl (hCallSR hS rfl rfl call_20 (impl_ReParse_ok ha63) ⟨.same _, trivial⟩ (by rintro _ _ G ⟨w7, rfl, rfl⟩ hG; exact ⟨(Scal.tup (ScalC.cons (hG.scR (k := 0) rfl) (ScalC.cons (by constructor) (ScalC.cons (by constructor) ScalC.nil)))), ⟨(Scal.row (fun _ => by simp only [TNode.av, cells, List.mem_cons, List.not_mem_nil, or_false]; rintro c hc; rcases hc with rfl | rfl | rfl <;> constructor)), trivial⟩⟩) ?_); rintro _ _ G9 ⟨w7, rfl, rfl⟩ hK hS
        refine ASL.q (v := (.tup [w7, (.int .i64 a63.2.1), (.int .i64 a63.2.2)])) rfl rfl (Light.quiet (opMove rfl rfl)) ?_
        refine ASL.q (v := w7) rfl rfl (Light.quiet (opExtract rfl rfl rfl)) ?_
        refine ASL.q (v := (.int .i64 a63.2.1)) rfl rfl (Light.quiet (opExtract rfl rfl rfl)) ?_
        refine ASL.q (v := (.int .i64 a63.2.2)) rfl rfl (Light.quiet (opExtract rfl rfl rfl)) ?_
        refine ASL.q (v := w7) rfl rfl (Light.quiet (opAssign rfl rfl)) ?_
        refine ASL.q (v := (.int .i64 a63.2.1)) rfl rfl (Light.quiet (opAssign rfl rfl)) ?_
        refine ASL.q (v := (.int .i64 a63.2.2)) rfl rfl (Light.quiet (opAssign rfl rfl)) ?_
        refine ASL.done ?_
        refine AWP.seqR rfl ?_
        refine ASL.q (v := (.str a60)) rfl rfl (Light.quiet (opMove rfl rfl)) ?_
        obtain ⟨a69, ha69, hF⟩ := bindE hF
        refine ASL.x rfl rfl (hCallSR hS rfl rfl call_23 (spec_ReParse_ok ha69) ⟨.same _, trivial⟩ (by rintro _ _ G ⟨w10, rfl, rfl⟩ hG; exact ⟨(Scal.tup (ScalC.cons (hG.scR (k := 0) rfl) (ScalC.cons (by constructor) (ScalC.cons (by constructor) ScalC.nil)))), ⟨(Scal.row (fun _ => by simp only [TNode.av, cells, List.mem_cons, List.not_mem_nil, or_false]; rintro c hc; rcases hc with rfl | rfl | rfl <;> constructor)), trivial⟩⟩) ?_); rintro _ _ G12 ⟨w10, rfl, rfl⟩ hK hS
        refine ASL.q (v := (.tup [w10, (.int .i64 a69.2.1), (.int .i64 a69.2.2)])) rfl rfl (Light.quiet (opMove rfl rfl)) ?_
        refine ASL.q (v := w10) rfl rfl (Light.quiet (opExtract rfl rfl rfl)) ?_
        refine ASL.q (v := (.int .i64 a69.2.1)) rfl rfl (Light.quiet (opExtract rfl rfl rfl)) ?_
        refine ASL.q (v := (.int .i64 a69.2.2)) rfl rfl (Light.quiet (opExtract rfl rfl rfl)) ?_
        refine ASL.q (v := w10) rfl rfl (Light.quiet (opAssign rfl rfl)) ?_
        refine ASL.q (v := (.int .i64 a69.2.1)) rfl rfl (Light.quiet (opAssign rfl rfl)) ?_
        refine ASL.q (v := (.int .i64 a69.2.2)) rfl rfl (Light.quiet (opAssign rfl rfl)) ?_
        refine ASL.done ?_
        refine AWP.seq ?_
        refine AWP.seqR rfl ?_
        refine ASL.q (v := (.int .i64 a63.2.1)) rfl rfl (Light.quiet (opMove rfl rfl)) ?_
        refine ASL.q (v := (.int .i64 a69.2.1)) rfl rfl (Light.quiet (opMove rfl rfl)) ?_
        refine ASL.q (v := (.bool (decide (a63.2.1 ≠ a69.2.1)))) rfl rfl (Light.quiet (opInt rfl rfl rfl rfl)) ?_
        obtain ⟨c76, hc76, hF⟩ := bndE hF
        refine ASL.q (v := (.bool c76)) rfl rfl ((Quiet.cast (Light.quiet (opMove rfl rfl)) (congrArg AV.bool hc76.symm))) ?_
        refine ASL.g (v := (.int .i64 a63.2.2)) (.bool c76) false rfl (wF _) rfl (fun hG => by have q0 := gN hG; subst q0; exact Light.quiet (opMove rfl rfl)) ?_
        refine ASL.g (v := (.int .i64 a69.2.2)) (.bool c76) false rfl (wF _) rfl (fun hG => by have q0 := gN hG; subst q0; exact Light.quiet (opMove rfl rfl)) ?_
        refine ASL.g (v := (.bool (decide (a63.2.2 ≠ a69.2.2)))) (.bool c76) false rfl (wF _) rfl (fun hG => by have q0 := gN hG; subst q0; exact Light.quiet (opInt rfl rfl rfl rfl)) ?_
        refine ASL.q (v := (.bool (c76 || (decide (a63.2.2 ≠ a69.2.2))))) rfl rfl (Light.quiet (opPick (b := c76) rfl rfl (by cases c76 <;> rfl))) ?_
        refine ASL.done ?_
        refine AWP.ifB hF rfl (fun hc13 hF => ?_) (fun hc13 hF => ?_)
        · skip
          refine AWP.seqR rfl ?_
          refine ASL.q (v := (.bool false)) rfl rfl (Light.quiet (opAssign rfl rfl)) ?_
          refine ASL.done ?_
          refine AWP.ret ?_
          refine QThen.rt ?_
          obtain rfl := someE hF
          exact QRet.sole (v := (.bool false)) ⟨rfl, trivial⟩ rfl
        · skip
          refine AWP.skip ?_
          refine QThen.nrm ?_
          refine AWP.seq ?_
          refine AWP.seqR rfl ?_
          refine ASL.q (v := (.int .i64 a63.2.2)) rfl rfl (Light.quiet (opMove rfl rfl)) ?_
          refine ASL.q (v := (.bool (decide (a63.2.2 ≠ 0)))) rfl rfl (Light.quiet (opInt rfl rfl rfl rfl)) ?_
          refine ASL.done ?_
          refine AWP.ifP hF rfl (fun hc14 hF => ?_) (fun hc14 hF => ?_)
          · skip
            refine AWP.seqR rfl ?_
            refine ASL.q (v := w7) rfl rfl (Light.quiet (opMove rfl rfl)) ?_
            refine ASL.q (v := (.int .i64 (a63.1.length : Int))) rfl rfl (Light.quiet (kLen hS (j := 1) rfl rfl rfl rfl lenT_24 rfl)) ?_
            refine ASL.q (v := (.bool (decide (((a63.1.length : Int)) = 0)))) rfl rfl (Light.quiet (opInt rfl rfl rfl rfl)) ?_
            obtain ⟨c86, hc86, hF⟩ := bndE hF
            refine ASL.q (v := (.bool c86)) rfl rfl ((Quiet.cast (Light.quiet (opMove rfl rfl)) (congrArg AV.bool hc86.symm))) ?_
            refine ASL.g (v := (.int .i64 a63.2.1)) (.bool c86) true rfl (wT _) rfl (fun hG => by have q0 := hG; subst q0; exact Light.quiet (opMove rfl rfl)) ?_
            refine ASL.g (v := (.str a60)) (.bool c86) true rfl (wT _) rfl (fun hG => by have q0 := hG; subst q0; exact Light.quiet (opMove rfl rfl)) ?_
            refine ASL.g (v := (.int .i64 (a60.size : Int))) (.bool c86) true rfl (wT _) rfl (fun hG => by have q0 := hG; subst q0; exact Light.quiet (opLenOf rfl rfl rfl lenT_9 rfl rfl)) ?_
            refine ASL.g (v := (.bool (decide (a63.2.1 ≤ ((a60.size : Int)))))) (.bool c86) true rfl (wT _) rfl (fun hG => by have q0 := hG; subst q0; exact Light.quiet (opInt rfl rfl rfl rfl)) ?_
            refine ASL.q (v := (.bool (c86 && (decide (a63.2.1 ≤ ((a60.size : Int))))))) rfl rfl (Light.quiet (opPick (b := c86) rfl rfl (by cases c86 <;> rfl))) ?_
            refine ASL.q (v := (.bool (c86 && (decide (a63.2.1 ≤ ((a60.size : Int))))))) rfl rfl (Light.quiet (opAssign rfl rfl)) ?_
            refine ASL.done ?_
            refine AWP.ret ?_
            refine QThen.rt ?_
            obtain rfl := someE hF
            exact QRet.sole (v := (.bool (c86 && (decide (a63.2.1 ≤ ((a60.size : Int))))))) ⟨rfl, trivial⟩ rfl
          · skip
            refine AWP.skip ?_
            refine QThen.nrm ?_
            refine AWP.seqR rfl ?_
            refine ASL.q (v := w7) rfl rfl (Light.quiet (opMove rfl rfl)) ?_
            obtain ⟨a94, ha94, hF⟩ := bindE hF
            refine ASL.q (v := (.str a94)) rfl rfl ((qCallR hS rfl rfl call_19 (impl_RePrint_ok ha94) ⟨.row (k := 1) rfl, trivial⟩ (by constructor))) ?_
            obtain ⟨a95, ha95, hF⟩ := bindE hF
            refine ASL.x rfl rfl (hCallSR hS rfl rfl call_20 (impl_ReParse_ok ha95) ⟨.same _, trivial⟩ (by rintro _ _ G ⟨w15, rfl, rfl⟩ hG; exact ⟨(Scal.tup (ScalC.cons (hG.scR (k := 0) rfl) (ScalC.cons (by constructor) (ScalC.cons (by constructor) ScalC.nil)))), ⟨(Scal.row (fun _ => by simp only [TNode.av, cells, List.mem_cons, List.not_mem_nil, or_false]; rintro c hc; rcases hc with rfl | rfl | rfl <;> constructor)), trivial⟩⟩) ?_); rintro _ _ G17 ⟨w15, rfl, rfl⟩ hK hS
            refine ASL.q (v := (.tup [w15, (.int .i64 a95.2.1), (.int .i64 a95.2.2)])) rfl rfl (Light.quiet (opMove rfl rfl)) ?_
            refine ASL.q (v := w15) rfl rfl (Light.quiet (opExtract rfl rfl rfl)) ?_
            refine ASL.q (v := (.int .i64 a95.2.1)) rfl rfl (Light.quiet (opExtract rfl rfl rfl)) ?_
            refine ASL.q (v := (.int .i64 a95.2.2)) rfl rfl (Light.quiet (opExtract rfl rfl rfl)) ?_
            refine ASL.q (v := w15) rfl rfl (Light.quiet (opAssign rfl rfl)) ?_
            refine ASL.q (v := (.int .i64 a95.2.1)) rfl rfl (Light.quiet (opAssign rfl rfl)) ?_
            refine ASL.q (v := (.int .i64 a95.2.2)) rfl rfl (Light.quiet (opAssign rfl rfl)) ?_
            refine ASL.done ?_
            refine AWP.seqR rfl ?_
            refine ASL.q (v := (.int .i64 a95.2.2)) rfl rfl (Light.quiet (opMove rfl rfl)) ?_
            refine ASL.q (v := (.bool (decide (a95.2.2 = 0)))) rfl rfl (Light.quiet (opInt rfl rfl rfl rfl)) ?_
            obtain ⟨c101, hc101, hF⟩ := bndE hF
            refine ASL.q (v := (.bool c101)) rfl rfl ((Quiet.cast (Light.quiet (opMove rfl rfl)) (congrArg AV.bool hc101.symm))) ?_
            refine ASL.g (v := w7) (.bool c101) true rfl (wT _) rfl (fun hG => by have q0 := hG; subst q0; exact Light.quiet (opMove rfl rfl)) ?_
            refine ASL.g (v := w15) (.bool c101) true rfl (wT _) rfl (fun hG => by have q0 := hG; subst q0; exact Light.quiet (opMove rfl rfl)) ?_
            obtain ⟨a104, ha104, hF⟩ := bindE hF
            refine ASL.g (v := (.bool a104)) (.bool c101) true rfl (wT _) rfl (fun hG => by have q0 := hG; subst q0; exact (qCallR hS rfl rfl call_21 (laws_sameNodes_ok (whenE ha104)) ⟨.row (k := 2) rfl, .row (k := 0) rfl, trivial⟩ (by constructor))) ?_
            refine ASL.q (v := (.bool (c101 && a104))) rfl rfl (Light.quiet (opPick (b := c101) rfl rfl (by cases c101 <;> rfl))) ?_
            refine ASL.q (v := (.bool (c101 && a104))) rfl rfl (Light.quiet (opAssign rfl rfl)) ?_
            refine ASL.done ?_
            refine AWP.ret ?_
            obtain rfl := someE hF
            exact QRet.sole (v := (.bool (c101 && a104))) ⟨rfl, trivial⟩ rfl

end Go.Proofs.Ytmmgpcnngaekoaa
