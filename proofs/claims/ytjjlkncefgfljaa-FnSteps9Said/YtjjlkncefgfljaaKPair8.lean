/- Each of these functions of the program comes to just what its plain function says: FnPair8. -/
import Derived.Test.YtjjlkncefgfljaaKPair8p0
namespace Go.Proofs.Ytjjlkncefgfljaa
open Go Go.RowKit E
set_option linter.unusedVariables false
set_option maxRecDepth 10000 in
theorem impl_LtlNot_ok {p0 : (List TNode)} {r : ((List TNode) × Bool)} (hF : impl_LtlNot p0 = some r) : HS Try.prog 14 [(.list 3 (List.map TNode.av p0))] [] fun v L' => ∃ o0 : AV, v = .tup [o0, (.bool r.2)] ∧ L' = [.row 3 o0 (List.map TNode.av r.1)] := by
  intro H S hS
  refine HC.enter Try.func14 rfl Try.ntmps14 (by simp) ?_
  simp only [List.cons_append, List.nil_append] at hS
  unfold impl_LtlNot at hF
  refine AWP.seqR rfl ?_
  have hS := hNil (s := 3) (f := TNode.av) hS
  refine ASL.q (v := .nil) rfl rfl (Light.quiet (opAssign rfl rfl)) ?_
  refine ASL.q (v := (.bool false)) rfl rfl (Light.quiet (opAssign rfl rfl)) ?_
  refine ASL.done ?_
  refine AWP.seq ?_
  refine AWP.seqR rfl ?_
  refine ASL.q (v := (.list 3 (List.map TNode.av p0))) rfl rfl (Light.quiet (opMove rfl rfl)) ?_
  obtain ⟨a6, ha6, hF⟩ := bindE hF
  refine ASL.q (v := (.bool a6)) rfl rfl ((qCall rfl rfl call_16 (impl_LtlOk_ok ha6) rfl)) ?_
  refine ASL.q (v := (.bool (!a6))) rfl rfl (Light.quiet (opNot rfl rfl)) ?_
  refine ASL.done ?_
  refine AWP.ifB hF rfl (fun hc2 hF => ?_) (fun hc2 hF => ?_)
  · skip
    refine AWP.seqR rfl ?_
    have hS := hNil (s := 3) (f := TNode.av) hS
    refine ASL.q (v := .nil) rfl rfl (Light.quiet (opAssign rfl rfl)) ?_
    refine ASL.q (v := (.bool false)) rfl rfl (Light.quiet (opAssign rfl rfl)) ?_
    refine ASL.done ?_
    refine AWP.ret ?_
    refine QThen.rt ?_
    obtain rfl := someE hF
    exact QRet.many (vs := [.nil, (.bool false)]) ⟨rfl, rfl, trivial⟩ (by simp) ⟨_, ⟨.nil, rfl, rfl⟩, hS.pick [0, 2] rfl rfl⟩
  · skip
    refine AWP.skip ?_
    refine QThen.nrm ?_
    refine AWP.seqR rfl ?_
    refine ASL.q (v := (.agg [(.str ⟨#[]⟩), (.int .i64 0), (.int .i64 0), .nil, .undef])) rfl rfl (Light.quiet (opBuildZ (zs := [(.str ⟨#[]⟩), (.int .i64 0), (.int .i64 0), .nil, .undef]) rfl plan_75 zeroA_75 ⟨.inl rfl, .inl rfl, .inl rfl, .inl rfl, .inl rfl, trivial⟩ rfl)) ?_
    have hS := hNil (s := 3) (f := TNode.av) hS
    refine ASL.x rfl rfl (hBox hS rfl rfl rfl ?_); rintro b9 G4 hK hS
    refine ASL.q (v := (.ptr b9 0)) rfl rfl (Light.quiet (opAssign rfl rfl)) ?_
    refine ASL.done ?_
    refine AWP.seqR rfl ?_
    refine ASL.q (v := (.ptr b9 0)) rfl rfl (Light.quiet (opMove rfl rfl)) ?_
    refine ASL.q (v := (.ptr b9 0)) rfl rfl (Light.quiet (opMove rfl rfl)) ?_
    refine ASL.q (v := (.ptr b9 0)) rfl rfl (Light.quiet (opNil rfl rfl rfl)) ?_
    refine ASL.q (v := (.ptr b9 3)) rfl rfl (Light.quiet (opFieldAddr rfl fieldA_75_3 rfl rfl)) ?_
    refine ASL.q (v := .nil) rfl rfl (Light.quiet (kAt hS (j := 0) rfl rfl aggA_24 rfl rfl)) ?_
    refine ASL.q (v := (.list 3 (List.map TNode.av p0))) rfl rfl (Light.quiet (opMove rfl rfl)) ?_
    obtain ⟨z16, hz16, hF⟩ := bindE hF
    refine ASL.x rfl rfl (hApp (f := TNode.av) (ws := p0) hS (j := 1) rfl hz16 rfl elemA_24 rfl sizeA_59 bytesA_59 zeroA_59 rfl rfl rfl (fun _ => rfl) ?_); rintro v16 G7 hS
    refine ASL.q (v := (.ptr b9 0)) rfl rfl (Light.quiet (opNil rfl rfl rfl)) ?_
    refine ASL.q (v := (.ptr b9 3)) rfl rfl (Light.quiet (opFieldAddr rfl fieldA_75_3 rfl rfl)) ?_
    refine ASL.n rfl rfl (hPut hS (j := 0) rfl rfl sizeA_24 rfl rfl (hS.one (k := 1) rfl) (nlt rfl) ?_); rintro G9 hS
    refine ASL.done ?_
    refine AWP.seqR rfl ?_
    refine ASL.q (v := (.ptr b9 0)) rfl rfl (Light.quiet (opMove rfl rfl)) ?_
    obtain ⟨a20, ha20, hF⟩ := bindE hF
    refine ASL.x rfl rfl (hCallS hS [0, 1, 2, 3] (F := [.row 3 .nil (List.map TNode.av ([])), .snap S]) rfl rfl rfl call_59 (impl_reader_one_ok ha20) rfl rfl ?_); rintro _ _ G12 ⟨w10, rfl, rfl⟩ hS
    refine ASL.done ?_
    refine AWP.seqR rfl ?_
    refine ASL.q (v := (.ptr b9 0)) rfl rfl (Light.quiet (opMove rfl rfl)) ?_
    refine ASL.q (v := (.ptr b9 0)) rfl rfl (Light.quiet (opNil rfl rfl rfl)) ?_
    refine ASL.q (v := (.ptr b9 3)) rfl rfl (Light.quiet (opFieldAddr rfl fieldA_75_3 rfl rfl)) ?_
    refine ASL.q (v := w10) rfl rfl (Light.quiet (kAt hS (j := 0) rfl rfl aggA_24 rfl rfl)) ?_
    obtain ⟨a25, ha25, hF⟩ := bindE hF
    refine ASL.x rfl rfl (hCallS hS [1, 0, 2, 3] (F := [.cell b9 [(.str a20.s), (.int .i64 a20.at_), (.int .i64 a20.code), w10, .undef], .row 3 .nil (List.map TNode.av ([])), .snap S]) rfl rfl rfl call_55 (impl_fitting_ok ha25) rfl rfl ?_); rintro _ _ G15 ⟨w13, rfl, rfl⟩ hS
    refine ASL.q (v := w13) rfl rfl (Light.quiet (opExtract rfl rfl rfl)) ?_
    refine ASL.q (v := (.bool a25.2)) rfl rfl (Light.quiet (opExtract rfl rfl rfl)) ?_
    refine ASL.q (v := w13) rfl rfl (Light.quiet (opAssign rfl rfl)) ?_
    refine ASL.q (v := (.bool a25.2)) rfl rfl (Light.quiet (opAssign rfl rfl)) ?_
    refine ASL.done ?_
    refine AWP.ret ?_
    obtain rfl := someE hF
    exact QRet.many (vs := [w13, (.bool a25.2)]) ⟨rfl, rfl, trivial⟩ (by simp) ⟨_, ⟨w13, rfl, rfl⟩, hS.pick [0, 3] rfl rfl⟩

set_option maxRecDepth 10000 in
theorem spec_LtlNot_ok {p0 : (List TNode)} {r : ((List TNode) × Bool)} (hF : spec_LtlNot p0 = some r) : HS Try.prog 15 [(.list 3 (List.map TNode.av p0))] [] fun v L' => ∃ o0 : AV, v = .tup [o0, (.bool r.2)] ∧ L' = [.row 3 o0 (List.map TNode.av r.1)] := by
  intro H S hS
  refine HC.enter Try.func15 rfl Try.ntmps15 (by simp) ?_
  simp only [List.cons_append, List.nil_append] at hS
  unfold spec_LtlNot at hF
  refine AWP.seqR rfl ?_
  have hS := hNil (s := 3) (f := TNode.av) hS
  refine ASL.q (v := .nil) rfl rfl (Light.quiet (opAssign rfl rfl)) ?_
  refine ASL.q (v := (.bool false)) rfl rfl (Light.quiet (opAssign rfl rfl)) ?_
  refine ASL.done ?_
  refine AWP.seq ?_
  refine AWP.seqR rfl ?_
  refine ASL.q (v := (.list 3 (List.map TNode.av p0))) rfl rfl (Light.quiet (opMove rfl rfl)) ?_
  obtain ⟨a5, ha5, hF⟩ := bindE hF
  refine ASL.q (v := (.bool a5)) rfl rfl ((qCall rfl rfl call_43 (spec_LtlOk_ok ha5) rfl)) ?_
  refine ASL.q (v := (.bool (!a5))) rfl rfl (Light.quiet (opNot rfl rfl)) ?_
  obtain ⟨c7, hc7, hF⟩ := bndE hF
  refine ASL.q (v := (.bool c7)) rfl rfl ((Quiet.cast (Light.quiet (opMove rfl rfl)) (congrArg AV.bool hc7.symm))) ?_
  refine ASL.g (v := (.list 3 (List.map TNode.av p0))) (.bool c7) false rfl (wF _) rfl (fun hG => by have q0 := gN hG; subst q0; exact Light.quiet (opMove rfl rfl)) ?_
  refine ASL.g (v := (.int .i64 (p0.length : Int))) (.bool c7) false rfl (wF _) rfl (fun hG => by have q0 := gN hG; subst q0; exact Light.quiet (opLenMap (f := TNode.av) rfl rfl rfl lenT_24 rfl)) ?_
  refine ASL.g (v := (.bool (decide (((p0.length : Int)) = 31)))) (.bool c7) false rfl (wF _) rfl (fun hG => by have q0 := gN hG; subst q0; exact Light.quiet (opInt rfl rfl rfl rfl)) ?_
  refine ASL.q (v := (.bool (c7 || (decide (((p0.length : Int)) = 31))))) rfl rfl (Light.quiet (opPick (b := c7) rfl rfl (by cases c7 <;> rfl))) ?_
  refine ASL.done ?_
  refine AWP.ifB hF rfl (fun hc2 hF => ?_) (fun hc2 hF => ?_)
  · skip
    refine AWP.seqR rfl ?_
    refine ASL.x rfl rfl (hLit (f := TNode.av) (zs := []) hS rfl rfl elemA_24 sizeA_59 zeroA_59 rfl rfl rfl rfl (by simp [cells, TNode.av]) (nlt rfl) ?_); rintro v12 G3 hK hS
    refine ASL.q (v := v12) rfl rfl (Light.quiet (opAssign rfl rfl)) ?_
    refine ASL.q (v := (.bool false)) rfl rfl (Light.quiet (opAssign rfl rfl)) ?_
    refine ASL.done ?_
    refine AWP.ret ?_
    refine QThen.rt ?_
    obtain rfl := someE hF
    exact QRet.many (vs := [v12, (.bool false)]) ⟨rfl, rfl, trivial⟩ (by simp) ⟨_, ⟨v12, rfl, rfl⟩, hS.pick [0, 2] rfl rfl⟩
  · skip
    refine AWP.skip ?_
    refine QThen.nrm ?_
    refine AWP.seqR rfl ?_
    refine ASL.x rfl rfl (hLit (f := TNode.av) (zs := []) hS rfl rfl elemA_24 sizeA_59 zeroA_59 rfl rfl rfl rfl (by simp [cells, TNode.av]) (nlt rfl) ?_); rintro v13 G5 hK hS
    refine ASL.q (v := (.list 3 (List.map TNode.av p0))) rfl rfl (Light.quiet (opMove rfl rfl)) ?_
    obtain ⟨z15, hz15, hF⟩ := bindE hF
    refine ASL.x rfl rfl (hApp (f := TNode.av) (ws := p0) hS (j := 0) rfl hz15 rfl elemA_24 rfl sizeA_59 bytesA_59 zeroA_59 rfl rfl rfl (fun _ => rfl) ?_); rintro v15 G7 hS
    refine ASL.q (v := (.list 3 (List.map TNode.av p0))) rfl rfl (Light.quiet (opMove rfl rfl)) ?_
    refine ASL.q (v := (.int .i64 (p0.length : Int))) rfl rfl (Light.quiet (opLenMap (f := TNode.av) rfl rfl rfl lenT_24 rfl)) ?_
    refine ASL.q (v := (.int .i64 (W (((p0.length : Int)) - 1)))) rfl rfl (Light.quiet (opInt rfl rfl rfl rfl)) ?_
    refine ASL.q (v := (.agg [(.int .i64 4), (.int .i64 (W (((p0.length : Int)) - 1))), (.int .i64 0)])) rfl rfl (Light.quiet (opBuildZ (zs := [(.int .i64 0), (.int .i64 0), (.int .i64 0)]) rfl plan_59 zeroA_59 ⟨.inl rfl, .inl rfl, .inl rfl, trivial⟩ rfl)) ?_
    refine ASL.q (v := (.list 3 (List.map TNode.av [(TNode.mk 4 ((W (((p0.length : Int)) - 1))) 0)]))) rfl rfl ((qLit (xs := [(.agg [(.int .i64 4), (.int .i64 (W (((p0.length : Int)) - 1))), (.int .i64 0)])]) rfl elemA_24 sizeA_59 zeroA_59 rfl rfl rfl rfl (by simp [cells, TNode.av]) (nlt rfl))) ?_
    obtain ⟨z21, hz21, hF⟩ := bindE hF
    refine ASL.x rfl rfl (hApp (f := TNode.av) (ws := [(TNode.mk 4 ((W (((p0.length : Int)) - 1))) 0)]) hS (j := 0) rfl hz21 rfl elemA_24 rfl sizeA_59 bytesA_59 zeroA_59 rfl rfl rfl (fun _ => rfl) ?_); rintro v21 G9 hS
    refine ASL.q (v := v21) rfl rfl (Light.quiet (opAssign rfl rfl)) ?_
    refine ASL.q (v := (.bool true)) rfl rfl (Light.quiet (opAssign rfl rfl)) ?_
    refine ASL.done ?_
    refine AWP.ret ?_
    obtain rfl := someE hF
    exact QRet.many (vs := [v21, (.bool true)]) ⟨rfl, rfl, trivial⟩ (by simp) ⟨_, ⟨v21, rfl, rfl⟩, hS.pick [0, 2] rfl rfl⟩

set_option maxRecDepth 10000 in
theorem impl_signOf_ok {p0 : Int} {r : ByteArray} (hF : impl_signOf p0 = some r) : PC Try.prog 101 [(.int .i64 p0)] fun v => v = (.str r) := by
  refine PC.enter Try.func101 rfl Try.ntmps101 (by simp) ?_
  have hS := Sep.void; unfold impl_signOf at hF
  refine AWP.seqR rfl ?_
  refine ASL.q (v := (.str { data := #[] })) rfl rfl (Light.quiet (opAssign rfl rfl)) ?_
  refine ASL.done ?_
  refine AWP.seq ?_
  refine AWP.seqR rfl ?_
  refine ASL.q (v := (.int .i64 p0)) rfl rfl (Light.quiet (opMove rfl rfl)) ?_
  refine ASL.q (v := (.bool (impl_inRange p0 1 11))) rfl rfl ((qCall rfl rfl call_90 (impl_inRange_ok p0 1 11) rfl)) ?_
  refine ASL.q (v := (.bool (!(impl_inRange p0 1 11)))) rfl rfl (Light.quiet (opNot rfl rfl)) ?_
  refine ASL.done ?_
  refine AWP.ifB hF rfl (fun hc1 hF => ?_) (fun hc1 hF => ?_)
  · skip
    refine AWP.seqR rfl ?_
    refine ASL.q (v := (.str { data := #[] })) rfl rfl (Light.quiet (opAssign rfl rfl)) ?_
    refine ASL.done ?_
    refine AWP.ret ?_
    refine QThen.rt ?_
    obtain rfl := someE hF
    exact QRet.sole (v := (.str { data := #[] })) ⟨rfl, trivial⟩ rfl
  · skip
    refine AWP.skip ?_
    refine QThen.nrm ?_
    refine AWP.seqR rfl ?_
    refine ASL.q (v := (.agg (List.map AV.str [{ data := #[116] }, { data := #[102] }, { data := #[] }, { data := #[33] }, { data := #[38] }, { data := #[124] }, { data := #[88] }, { data := #[85] }, { data := #[82] }, { data := #[70] }, { data := #[71] }]))) rfl rfl (Light.quiet (opBuildArr (pl := [(0, 1), (1, 1), (2, 1), (3, 1), (4, 1), (5, 1), (6, 1), (7, 1), (8, 1), (9, 1), (10, 1)]) (z := (.agg #[(.string ⟨#[]⟩), (.string ⟨#[]⟩), (.string ⟨#[]⟩), (.string ⟨#[]⟩), (.string ⟨#[]⟩), (.string ⟨#[]⟩), (.string ⟨#[]⟩), (.string ⟨#[]⟩), (.string ⟨#[]⟩), (.string ⟨#[]⟩), (.string ⟨#[]⟩)])) rfl arrA_125 rfl zeroA_125 rfl rfl)) ?_
    refine ASL.q (v := (.int .i64 p0)) rfl rfl (Light.quiet (opMove rfl rfl)) ?_
    refine ASL.q (v := (.int .i64 (W (p0 - 1)))) rfl rfl (Light.quiet (opInt rfl rfl rfl rfl)) ?_
    obtain ⟨a9, ha9, hF⟩ := bindE hF
    refine ASL.q (v := (.str a9)) rfl rfl (Light.quiet (kIxA (f := AV.str) (xs := [{ data := #[116] }, { data := #[102] }, { data := #[] }, { data := #[33] }, { data := #[38] }, { data := #[124] }, { data := #[88] }, { data := #[85] }, { data := #[82] }, { data := #[70] }, { data := #[71] }]) ha9 rfl rfl arrA_125 aggA_9 rfl rfl)) ?_
    refine ASL.q (v := (.str a9)) rfl rfl (Light.quiet (opAssign rfl rfl)) ?_
    refine ASL.done ?_
    refine AWP.ret ?_
    obtain rfl := someE hF
    exact QRet.sole (v := (.str a9)) ⟨rfl, trivial⟩ rfl

set_option maxRecDepth 10000 in
theorem impl_digit_ok (p0 : Int) : PC Try.prog 102 [(.int .i64 p0)] fun v => v = (.str (impl_digit p0)) := by
  generalize hF : impl_digit p0 = r
  refine PC.enter Try.func102 rfl Try.ntmps102 (by simp) ?_
  have hS := Sep.void; unfold impl_digit at hF
  refine AWP.seqR rfl ?_
  refine ASL.q (v := (.str { data := #[] })) rfl rfl (Light.quiet (opAssign rfl rfl)) ?_
  refine ASL.done ?_
  refine AWP.seqR rfl ?_
  refine ASL.q (v := (.int .i64 p0)) rfl rfl (Light.quiet (opMove rfl rfl)) ?_
  refine ASL.q (v := (.int .i64 (W (48 + p0)))) rfl rfl (Light.quiet (opInt rfl rfl rfl rfl)) ?_
  refine ASL.q (v := (.int .u8 (IntKind.u8.wrap ((W (48 + p0)))))) rfl rfl (Light.quiet (opConv rfl rfl und_3 und_5 rfl)) ?_
  refine ASL.q (v := (.list 1 (List.map (AV.int .u8) [(IntKind.u8.wrap ((W (48 + p0))))]))) rfl rfl ((qLit (xs := [(.int .u8 (IntKind.u8.wrap ((W (48 + p0)))))]) rfl elemA_22 sizeA_5 zeroA_5 rfl rfl rfl rfl (by simp [cells]) (nlt rfl))) ?_
  refine ASL.q (v := (.str (bstr ([(IntKind.u8.wrap ((W (48 + p0))))])))) rfl rfl (Light.quiet (opBstr rfl elemA_22 und_5 und_9 rfl)) ?_
  refine ASL.q (v := (.str (bstr ([(IntKind.u8.wrap ((W (48 + p0))))])))) rfl rfl (Light.quiet (opAssign rfl rfl)) ?_
  refine ASL.done ?_
  refine AWP.ret ?_
  obtain rfl := hF
  exact QRet.sole (v := (.str (bstr ([(IntKind.u8.wrap ((W (48 + p0))))])))) ⟨rfl, trivial⟩ rfl

set_option maxRecDepth 10000 in
theorem impl_printed_ok {p0 : (List TNode)} {g1 : (TNode → Option Int)} {r : ByteArray} {k1 : Nat} (hcal1 : callable Try.prog k1 = true) (hg1 : ∀ q0 y, g1 q0 = some y → PC Try.prog k1 [(TNode.av q0)] fun v => v = (.int .i64 y)) (hF : impl_printed p0 g1 = some r) : PC Try.prog 61 [(.list 3 (List.map TNode.av p0)), (.fn (.func k1) [] [])] fun v => v = (.str r) := by
  refine PC.enter Try.func61 rfl Try.ntmps61 (by simp) ?_
  have hS := Sep.void; unfold impl_printed at hF
  refine AWP.seqR rfl ?_
  refine ASL.q (v := (.str { data := #[] })) rfl rfl (Light.quiet (opAssign rfl rfl)) ?_
  refine ASL.done ?_
  refine AWP.seqR rfl ?_
  refine ASL.q (v := (.list 3 (List.map TNode.av p0))) rfl rfl (Light.quiet (opMove rfl rfl)) ?_
  refine ASL.q (v := (.int .i64 (p0.length : Int))) rfl rfl (Light.quiet (opLenMap (f := TNode.av) rfl rfl rfl lenT_24 rfl)) ?_
  obtain ⟨z11, hz11, hF⟩ := bindE hF
  refine ASL.x rfl rfl (hMk (f := AV.str) hS hz11 (by decide) rfl elemA_110 sizeA_9 bytesA_9 zeroA_9 rfl rfl (by decide) rfl rfl ?_); rintro v11 G1 hK hS
  refine ASL.q (v := v11) rfl rfl (Light.quiet (opAssign rfl rfl)) ?_
  refine ASL.done ?_
  refine AWP.seqM (fun e H => ∃ y3 : (List ByteArray), E.Told e [(0, (.list 3 (List.map TNode.av p0))), (5, v11)] ∧ E.Sep H [.row 1 v11 (List.map AV.str y3)] ∧ impl_printed.k0 p0 y3 = some r) ?_ ?_
  · rintro e0 G4 ⟨y3, hT, hS, hF⟩; refine AWP.only _ hT ?_; unfold impl_printed.k0 at hF
    refine AWP.seqR rfl ?_
    refine ASL.q (v := v11) rfl rfl (Light.quiet (opMove rfl rfl)) ?_
    refine ASL.q (v := (.list 3 (List.map TNode.av p0))) rfl rfl (Light.quiet (opMove rfl rfl)) ?_
    refine ASL.q (v := (.int .i64 (p0.length : Int))) rfl rfl (Light.quiet (opLenMap (f := TNode.av) rfl rfl rfl lenT_24 rfl)) ?_
    refine ASL.q (v := (.int .i64 (W (((p0.length : Int)) - 1)))) rfl rfl (Light.quiet (opInt rfl rfl rfl rfl)) ?_
    obtain ⟨a75, ha75, hF⟩ := bindE hF
    refine ASL.q (v := (ptrTo v11 ((W (((p0.length : Int)) - 1))).toNat 1)) rfl rfl (Light.quiet (kIxOx hS (j := 0) rfl ha75 rfl rfl rfl elemA_110 sizeA_9)) ?_
    refine ASL.q (v := (.str a75)) rfl rfl (Light.quiet (kLd (f := AV.str) hS (j := 0) rfl ha75 rfl aggA_9 rfl (fun _ => rfl))) ?_
    refine ASL.q (v := (.str a75)) rfl rfl (Light.quiet (opAssign rfl rfl)) ?_
    refine ASL.done ?_
    refine AWP.ret ?_
    obtain rfl := someE hF
    exact QRet.sole (v := (.str a75)) ⟨rfl, trivial⟩ rfl
  · skip
    refine AWP.seqR rfl ?_
    refine ASL.q (v := (.list 3 (List.map TNode.av p0))) rfl rfl (Light.quiet (opMove rfl rfl)) ?_
    refine ASL.q (v := (.int .i64 (p0.length : Int))) rfl rfl (Light.quiet (opLenMap (f := TNode.av) rfl rfl rfl lenT_24 rfl)) ?_
    refine ASL.q (v := (.int .i64 0)) rfl rfl (Light.quiet (opMove rfl rfl)) ?_
    refine ASL.done ?_
    refine AWP.block ?_
    obtain ⟨o9, hL8, hR10⟩ := bindE hF
    refine AWP.loopF (ω := Unit) hL8 (fun s w => [(0, (.list 3 (List.map TNode.av p0))), (1, (.fn (.func k1) [] [])), (5, v11), (12, (.list 3 (List.map TNode.av p0))), (13, (.int .i64 (p0.length : Int))), (14, (.int .i64 s.2))]) (fun s w => [.row 1 v11 (List.map AV.str s.1)]) () ⟨rfl, rfl, rfl, rfl, rfl, rfl, trivial⟩ (hS.pick [0] rfl rfl) ?_
    rintro ⟨y5, x14_l0⟩ _ G11 hS x6 hF hx7
    try dsimp only at hS ⊢
    have hF : impl_printed.b0 p0 g1 y5 x14_l0 = some x6 := hF; unfold impl_printed.b0 at hF
    refine AWP.seqR rfl ?_
    refine ASL.q (v := (.bool (decide (x14_l0 < ((p0.length : Int)))))) rfl rfl (Light.quiet (opInt rfl rfl rfl rfl)) ?_
    refine ASL.done ?_
    refine AWP.seq ?_
    refine AWP.ifP hF rfl (fun hc12 hF => ?_) (fun hc12 hF => ?_)
    · skip
      refine AWP.skip ?_
      refine QThen.nrm ?_
      refine AWP.seq ?_
      refine AWP.block ?_
      refine AWP.seqR rfl ?_
      refine ASL.q (v := (.int .i64 x14_l0)) rfl rfl (Light.quiet (opMove rfl rfl)) ?_
      obtain ⟨a17, ha17, hF⟩ := bindE hF
      refine ASL.q (v := (.rptr [(.int .i64 a17.kind), (.int .i64 a17.a), (.int .i64 a17.b)])) rfl rfl (Light.quiet (kIx (f := TNode.av) ha17 rfl rfl rfl elemA_24 sizeA_59 rfl)) ?_
      refine ASL.q (v := (TNode.av a17)) rfl rfl (Light.quiet (opLoadRA rfl aggA_59 sizeA_59 rfl (nlt rfl) rfl)) ?_
      refine ASL.x rfl rfl (hNewZ hS [(.int .i64 0), (.int .i64 0), (.int .i64 0)] rfl zeroA_59 ⟨.inl rfl, .inl rfl, .inl rfl, trivial⟩ ?_); rintro b7 G13 hK hS
      refine ASL.q (v := (.int .i64 x14_l0)) rfl rfl (Light.quiet (opAssign rfl rfl)) ?_
      refine ASL.n rfl rfl (hPutA hS (j := 0) rfl rfl sizeA_59 rfl rfl rfl rfl rfl (nlt rfl) ?_); rintro G15 hS
      refine ASL.done ?_
      refine AWP.seqR rfl ?_
      refine ASL.q (v := (.ptr b7 0)) rfl rfl (Light.quiet (opFieldAddr rfl fieldA_59_0 rfl rfl)) ?_
      refine ASL.q (v := (.int .i64 a17.kind)) rfl rfl (Light.quiet (kAt hS (j := 0) rfl rfl aggA_3 rfl rfl)) ?_
      obtain ⟨a21, ha21, hF⟩ := bindE hF
      refine ASL.q (v := (.str a21)) rfl rfl ((qCall rfl rfl call_101 (impl_signOf_ok ha21) rfl)) ?_
      refine ASL.q (v := (.str a21)) rfl rfl (Light.quiet (opAssign rfl rfl)) ?_
      refine ASL.done ?_
      refine AWP.seqR rfl ?_
      refine ASL.q (v := (.fn (.func k1) [] [])) rfl rfl (Light.quiet (opMove rfl rfl)) ?_
      refine ASL.q (v := (TNode.av a17)) rfl rfl (Light.quiet (kAtA hS (j := 0) rfl rfl aggA_59 sizeA_59 rfl (nlt rfl) rfl)) ?_
      obtain ⟨a24, ha24, hF⟩ := bindE hF
      refine ASL.q (v := (.int .i64 a24)) rfl rfl ((qCall rfl rfl hcal1 ((hg1 _ _) ha24) rfl)) ?_
      refine ASL.done ?_
      refine AWP.block ?_
      refine AWP.seqR rfl ?_
      refine ASL.q (v := (.bool (decide (a24 = 0)))) rfl rfl (Light.quiet (opInt rfl rfl rfl rfl)) ?_
      refine ASL.q (v := (.bool (decide (a24 = 0)))) rfl rfl (Light.quiet (opAssign rfl rfl)) ?_
      refine ASL.done ?_
      refine AWP.ifP hF rfl (fun hc16 hF => ?_) (fun hc16 hF => ?_)
      · skip
        refine AWP.seqR rfl ?_
        refine ASL.q (v := v11) rfl rfl (Light.quiet (opMove rfl rfl)) ?_
        refine ASL.q (v := (.int .i64 x14_l0)) rfl rfl (Light.quiet (opMove rfl rfl)) ?_
        refine ASL.q (v := (.str a21)) rfl rfl (Light.quiet (opMove rfl rfl)) ?_
        obtain ⟨m48, hm48, hF⟩ := bindE hF
        refine ASL.q (v := (ptrTo v11 m48 1)) rfl rfl (Light.quiet (kIxO hS (j := 1) rfl hm48 rfl rfl rfl elemA_110 sizeA_9)) ?_
        refine ASL.n rfl rfl (hSt (f := AV.str) (a := a21) hS (j := 1) rfl hm48 rfl sizeA_9 rfl rfl ⟨rfl, rfl, rfl⟩ ?_); rintro G17 hS
        refine ASL.done ?_
        refine AWP.seqR rfl ?_
        refine ASL.q (v := (.ptr b7 0)) rfl rfl (Light.quiet (opFieldAddr rfl fieldA_59_0 rfl rfl)) ?_
        refine ASL.q (v := (.int .i64 a17.kind)) rfl rfl (Light.quiet (kAt hS (j := 0) rfl rfl aggA_3 rfl rfl)) ?_
        refine ASL.q (v := (.bool (decide (a17.kind = 3)))) rfl rfl (Light.quiet (opInt rfl rfl rfl rfl)) ?_
        refine ASL.done ?_
        refine AWP.ifP hF rfl (fun hc18 hF => ?_) (fun hc18 hF => ?_)
        · skip
          refine AWP.lastR rfl ?_
          refine ASL.q (v := v11) rfl rfl (Light.quiet (opMove rfl rfl)) ?_
          refine ASL.q (v := (.int .i64 x14_l0)) rfl rfl (Light.quiet (opMove rfl rfl)) ?_
          refine ASL.q (v := (.ptr b7 1)) rfl rfl (Light.quiet (opFieldAddr rfl fieldA_59_1 rfl rfl)) ?_
          refine ASL.q (v := (.int .i64 a17.a)) rfl rfl (Light.quiet (kAt hS (j := 0) rfl rfl aggA_3 rfl rfl)) ?_
          refine ASL.q (v := (.str (impl_digit a17.a))) rfl rfl ((qCall rfl rfl call_102 (impl_digit_ok a17.a) rfl)) ?_
          obtain ⟨m57, hm57, hF⟩ := bindE hF
          refine ASL.q (v := (ptrTo v11 m57 1)) rfl rfl (Light.quiet (kIxO hS (j := 1) rfl hm57 rfl rfl rfl elemA_110 sizeA_9)) ?_
          refine ASL.n rfl rfl (hSt (f := AV.str) (a := (impl_digit a17.a)) hS (j := 1) rfl hm57 rfl sizeA_9 rfl rfl ⟨rfl, rfl, rfl⟩ ?_); rintro G19 hS
          refine ASL.done ?_
          refine QBlock.nrm ?_
          refine QBlock.nrm ?_
          refine QThen.nrm ?_
          refine AWP.lastR rfl ?_
          refine ASL.q (v := (.int .i64 (W (x14_l0 + 1)))) rfl rfl (Light.quiet (opInt rfl rfl rfl rfl)) ?_
          refine ASL.q (v := (.int .i64 (W (x14_l0 + 1)))) rfl rfl (Light.quiet (opMove rfl rfl)) ?_
          refine ASL.done ?_
          refine QThen.nrm ?_
          exact ⟨((((y5.set m48 a21)).set m57 ((impl_digit a17.a))), (W (x14_l0 + 1))), (), (someE hF).symm, ⟨rfl, rfl, rfl, rfl, rfl, rfl, trivial⟩, (hS.pick [1] rfl rfl)⟩
        · skip
          refine AWP.skip ?_
          refine QBlock.nrm ?_
          refine QBlock.nrm ?_
          refine QThen.nrm ?_
          refine AWP.lastR rfl ?_
          refine ASL.q (v := (.int .i64 (W (x14_l0 + 1)))) rfl rfl (Light.quiet (opInt rfl rfl rfl rfl)) ?_
          refine ASL.q (v := (.int .i64 (W (x14_l0 + 1)))) rfl rfl (Light.quiet (opMove rfl rfl)) ?_
          refine ASL.done ?_
          refine QThen.nrm ?_
          exact ⟨((y5.set m48 a21), (W (x14_l0 + 1))), (), (someE hF).symm, ⟨rfl, rfl, rfl, rfl, rfl, rfl, trivial⟩, (hS.pick [1] rfl rfl)⟩
      · skip
        refine AWP.seqR rfl ?_
        refine ASL.q (v := (.bool (decide (a24 = 1)))) rfl rfl (Light.quiet (opInt rfl rfl rfl rfl)) ?_
        refine ASL.q (v := (.bool (decide (a24 = 1)))) rfl rfl (Light.quiet (opAssign rfl rfl)) ?_
        refine ASL.done ?_
        refine AWP.ifP hF rfl (fun hc20 hF => ?_) (fun hc20 hF => ?_)
        · skip
          refine AWP.lastR rfl ?_
          refine ASL.q (v := v11) rfl rfl (Light.quiet (opMove rfl rfl)) ?_
          refine ASL.q (v := (.int .i64 x14_l0)) rfl rfl (Light.quiet (opMove rfl rfl)) ?_
          refine ASL.q (v := (.str a21)) rfl rfl (Light.quiet (opMove rfl rfl)) ?_
          refine ASL.q (v := v11) rfl rfl (Light.quiet (opMove rfl rfl)) ?_
          refine ASL.q (v := (.ptr b7 1)) rfl rfl (Light.quiet (opFieldAddr rfl fieldA_59_1 rfl rfl)) ?_
          refine ASL.q (v := (.int .i64 a17.a)) rfl rfl (Light.quiet (kAt hS (j := 0) rfl rfl aggA_3 rfl rfl)) ?_
          obtain ⟨a66, ha66, hF⟩ := bindE hF
          refine ASL.q (v := (ptrTo v11 a17.a.toNat 1)) rfl rfl (Light.quiet (kIxOx hS (j := 1) rfl ha66 rfl rfl rfl elemA_110 sizeA_9)) ?_
          refine ASL.q (v := (.str a66)) rfl rfl (Light.quiet (kLd (f := AV.str) hS (j := 1) rfl ha66 rfl aggA_9 rfl (fun _ => rfl))) ?_
          obtain ⟨a68, ha68, hF⟩ := bindE hF
          refine ASL.q (v := (.str a68)) rfl rfl (Light.quiet (opCat ha68 rfl rfl rfl)) ?_
          obtain ⟨m69, hm69, hF⟩ := bindE hF
          refine ASL.q (v := (ptrTo v11 m69 1)) rfl rfl (Light.quiet (kIxO hS (j := 1) rfl hm69 rfl rfl rfl elemA_110 sizeA_9)) ?_
          refine ASL.n rfl rfl (hSt (f := AV.str) (a := a68) hS (j := 1) rfl hm69 rfl sizeA_9 rfl rfl ⟨rfl, rfl, rfl⟩ ?_); rintro G21 hS
          refine ASL.done ?_
          refine QBlock.nrm ?_
          refine QBlock.nrm ?_
          refine QThen.nrm ?_
          refine AWP.lastR rfl ?_
          refine ASL.q (v := (.int .i64 (W (x14_l0 + 1)))) rfl rfl (Light.quiet (opInt rfl rfl rfl rfl)) ?_
          refine ASL.q (v := (.int .i64 (W (x14_l0 + 1)))) rfl rfl (Light.quiet (opMove rfl rfl)) ?_
          refine ASL.done ?_
          refine QThen.nrm ?_
          exact ⟨((y5.set m69 a68), (W (x14_l0 + 1))), (), (someE hF).symm, ⟨rfl, rfl, rfl, rfl, rfl, rfl, trivial⟩, (hS.pick [1] rfl rfl)⟩
        · skip
          refine AWP.lastD [(0, false), (1, false), (2, false), (3, false), (4, false), (5, false), (6, false), (7, false), (8, false), (9, false), (10, false), (11, false), (12, false), (13, false), (14, false), (15, false), (16, false), (17, false), (18, true)] mixed (by kernel_rfl) rfl ?_
          refine ARL.q0 (v := v11) rfl rfl (Light.quiet (opMove rfl rfl)) ?_
          refine ARL.q0 (v := (.int .i64 x14_l0)) rfl rfl (Light.quiet (opMove rfl rfl)) ?_
          refine ARL.q0 (v := v11) rfl rfl (Light.quiet (opMove rfl rfl)) ?_
          refine ARL.q0 (v := (.ptr b7 1)) rfl rfl (Light.quiet (opFieldAddr rfl fieldA_59_1 rfl rfl)) ?_
          refine ARL.q (v := (.int .i64 a17.a)) rfl rfl (hS.aliveC (k := 0) rfl) (Light.quiet (kAt hS (j := 0) rfl rfl aggA_3 rfl rfl)) ?_
          obtain ⟨a30, ha30, hF⟩ := bindE hF
          refine ARL.q0 (v := (ptrTo v11 a17.a.toNat 1)) rfl rfl (Light.quiet (kIxOx hS (j := 1) rfl ha30 rfl rfl rfl elemA_110 sizeA_9)) ?_
          refine ARL.q (v := (.str a30)) rfl rfl (hS.aliveR (k := 1) rfl) (Light.quiet (kLd (f := AV.str) hS (j := 1) rfl ha30 rfl aggA_9 rfl (fun _ => rfl))) ?_
          obtain ⟨a32, ha32, hF⟩ := bindE hF
          refine ARL.q0 (v := (.str a32)) rfl rfl (Light.quiet (opCat ha32 rfl rfl rfl)) ?_
          refine ARL.q0 (v := (.str a21)) rfl rfl (Light.quiet (opMove rfl rfl)) ?_
          obtain ⟨a34, ha34, hF⟩ := bindE hF
          refine ARL.q0 (v := (.str a34)) rfl rfl (Light.quiet (opCat ha34 rfl rfl rfl)) ?_
          refine ARL.q0 (v := v11) rfl rfl (Light.quiet (opMove rfl rfl)) ?_
          refine ARL.q0 (v := (.ptr b7 2)) rfl rfl (Light.quiet (opFieldAddr rfl fieldA_59_2 rfl rfl)) ?_
          refine ARL.q (v := (.int .i64 a17.b)) rfl rfl (hS.aliveC (k := 0) rfl) (Light.quiet (kAt hS (j := 0) rfl rfl aggA_3 rfl rfl)) ?_
          obtain ⟨a38, ha38, hF⟩ := bindE hF
          refine ARL.q0 (v := (ptrTo v11 a17.b.toNat 1)) rfl rfl (Light.quiet (kIxOx hS (j := 1) rfl ha38 rfl rfl rfl elemA_110 sizeA_9)) ?_
          refine ARL.q (v := (.str a38)) rfl rfl (hS.aliveR (k := 1) rfl) (Light.quiet (kLd (f := AV.str) hS (j := 1) rfl ha38 rfl aggA_9 rfl (fun _ => rfl))) ?_
          obtain ⟨a40, ha40, hF⟩ := bindE hF
          refine ARL.q0 (v := (.str a40)) rfl rfl (Light.quiet (opCat ha40 rfl rfl rfl)) ?_
          obtain ⟨a41, ha41, hF⟩ := bindE hF
          refine ARL.q0 (v := (.str a41)) rfl rfl (Light.quiet (opCat ha41 rfl rfl rfl)) ?_
          obtain ⟨m42, hm42, hF⟩ := bindE hF
          refine ARL.q0 (v := (ptrTo v11 m42 1)) rfl rfl (Light.quiet (kIxO hS (j := 1) rfl hm42 rfl rfl rfl elemA_110 sizeA_9)) ?_
          refine ARL.n rfl rfl rfl rfl (hSt (f := AV.str) (a := a41) hS (j := 1) rfl hm42 rfl sizeA_9 rfl rfl ⟨rfl, rfl, rfl⟩ ?_); rintro G22 hS
          refine ARL.done ?_
          refine QBlock.nrm ?_
          refine QBlock.nrm ?_
          refine QThen.nrm ?_
          refine AWP.lastR rfl ?_
          refine ASL.q (v := (.int .i64 (W (x14_l0 + 1)))) rfl rfl (Light.quiet (opInt rfl rfl rfl rfl)) ?_
          refine ASL.q (v := (.int .i64 (W (x14_l0 + 1)))) rfl rfl (Light.quiet (opMove rfl rfl)) ?_
          refine ASL.done ?_
          refine QThen.nrm ?_
          exact ⟨((y5.set m42 a41), (W (x14_l0 + 1))), (), (someE hF).symm, ⟨rfl, rfl, rfl, rfl, rfl, rfl, trivial⟩, (hS.pick [1] rfl rfl)⟩
    · skip
      refine AWP.exit ?_
      refine QThen.ext ?_
      refine QThen.ext ?_
      refine QBlock.hit ?_
      obtain rfl := (hx7 _ (someE hF).symm)
      have hF := hR10
      refine QThen.nrm ?_
      exact ⟨y5, ⟨rfl, rfl, trivial⟩, (hS.pick [0] rfl rfl), hF⟩

set_option maxRecDepth 10000 in
theorem impl_LtlPrint_ok {p0 : (List TNode)} {r : ByteArray} (hF : impl_LtlPrint p0 = some r) : PC Try.prog 17 [(.list 3 (List.map TNode.av p0))] fun v => v = (.str r) := by
  refine PC.enter Try.func17 rfl Try.ntmps17 (by simp) ?_
  have hS := Sep.void; unfold impl_LtlPrint at hF
  refine AWP.seqR rfl ?_
  refine ASL.q (v := (.str { data := #[] })) rfl rfl (Light.quiet (opAssign rfl rfl)) ?_
  refine ASL.done ?_
  refine AWP.seq ?_
  refine AWP.seqR rfl ?_
  refine ASL.q (v := (.list 3 (List.map TNode.av p0))) rfl rfl (Light.quiet (opMove rfl rfl)) ?_
  obtain ⟨a4, ha4, hF⟩ := bindE hF
  refine ASL.q (v := (.bool a4)) rfl rfl ((qCall rfl rfl call_16 (impl_LtlOk_ok ha4) rfl)) ?_
  refine ASL.q (v := (.bool (!a4))) rfl rfl (Light.quiet (opNot rfl rfl)) ?_
  refine ASL.done ?_
  refine AWP.ifB hF rfl (fun hc1 hF => ?_) (fun hc1 hF => ?_)
  · skip
    refine AWP.seqR rfl ?_
    refine ASL.q (v := (.str { data := #[] })) rfl rfl (Light.quiet (opAssign rfl rfl)) ?_
    refine ASL.done ?_
    refine AWP.ret ?_
    refine QThen.rt ?_
    obtain rfl := someE hF
    exact QRet.sole (v := (.str { data := #[] })) ⟨rfl, trivial⟩ rfl
  · skip
    refine AWP.skip ?_
    refine QThen.nrm ?_
    refine AWP.seqR rfl ?_
    refine ASL.q (v := (.list 3 (List.map TNode.av p0))) rfl rfl (Light.quiet (opMove rfl rfl)) ?_
    obtain ⟨a7, ha7, hF⟩ := bindE hF
    refine ASL.q (v := (.str a7)) rfl rfl ((qCall rfl rfl call_61 (impl_printed_ok call_53 (fun q0 y h => by obtain rfl := someE h; exact impl_ltlParts_ok q0) ha7) rfl)) ?_
    refine ASL.q (v := (.str a7)) rfl rfl (Light.quiet (opAssign rfl rfl)) ?_
    refine ASL.done ?_
    refine AWP.ret ?_
    obtain rfl := someE hF
    exact QRet.sole (v := (.str a7)) ⟨rfl, trivial⟩ rfl

set_option maxRecDepth 10000 in
theorem impl_temporal_ok {p0 : (List TNode)} {r : (List Int)} (hF : impl_temporal p0 = some r) : PO Try.prog 62 [(.list 3 (List.map TNode.av p0))] 1 (List.map (AV.int .i64) r) := by
  refine HC.enter Try.func62 rfl Try.ntmps62 (by simp) ?_
  have hS := Sep.void; unfold impl_temporal at hF
  refine AWP.seqR rfl ?_
  have hS := hNil (s := 1) (f := (AV.int .i64)) hS
  refine ASL.q (v := .nil) rfl rfl (Light.quiet (opAssign rfl rfl)) ?_
  refine ASL.done ?_
  refine AWP.seqR rfl ?_
  have hS := hNil (s := 1) (f := (AV.int .i64)) hS
  refine ASL.q (v := .nil) rfl rfl (Light.quiet (opAssign rfl rfl)) ?_
  refine ASL.done ?_
  refine AWP.seqM (fun e H => ∃ y3 : (List Int), ∃ w4 : AV, E.Told e [(3, w4)] ∧ E.Sep H [.row 1 w4 (List.map (AV.int .i64) y3)] ∧ impl_temporal.k0 y3 = some r) ?_ ?_
  · rintro e0 G6 ⟨y3, w4, hT, hS, hF⟩; refine AWP.only _ hT ?_; unfold impl_temporal.k0 at hF
    refine AWP.seqR rfl ?_
    refine ASL.q (v := w4) rfl rfl (Light.quiet (opMove rfl rfl)) ?_
    refine ASL.q (v := w4) rfl rfl (Light.quiet (opAssign rfl rfl)) ?_
    refine ASL.done ?_
    refine AWP.ret ?_
    obtain rfl := someE hF
    exact QRet.sole (v := w4) ⟨rfl, trivial⟩ (hS.get (k := 0) rfl)
  · skip
    refine AWP.seqR rfl ?_
    refine ASL.q (v := (.list 3 (List.map TNode.av p0))) rfl rfl (Light.quiet (opMove rfl rfl)) ?_
    refine ASL.q (v := (.int .i64 (p0.length : Int))) rfl rfl (Light.quiet (opLenMap (f := TNode.av) rfl rfl rfl lenT_24 rfl)) ?_
    refine ASL.q (v := (.int .i64 0)) rfl rfl (Light.quiet (opMove rfl rfl)) ?_
    refine ASL.done ?_
    refine AWP.block ?_
    obtain ⟨o13, hL12, hR14⟩ := bindE hF
    refine AWP.loopF (ω := AV) hL12 (fun s w => [(3, w), (6, (.list 3 (List.map TNode.av p0))), (7, (.int .i64 (p0.length : Int))), (8, (.int .i64 s.2))]) (fun s w => [.row 1 w (List.map (AV.int .i64) s.1)]) .nil ⟨rfl, rfl, rfl, rfl, trivial⟩ (hS.pick [0] rfl rfl) ?_
    rintro ⟨y7, x8_l0⟩ w8 G15 hS x10 hF hx11
    try dsimp only at hS ⊢
    have hF : impl_temporal.b0 p0 y7 x8_l0 = some x10 := hF; unfold impl_temporal.b0 at hF
    refine AWP.seqR rfl ?_
    refine ASL.q (v := (.bool (decide (x8_l0 < ((p0.length : Int)))))) rfl rfl (Light.quiet (opInt rfl rfl rfl rfl)) ?_
    refine ASL.done ?_
    refine AWP.seq ?_
    refine AWP.ifP hF rfl (fun hc16 hF => ?_) (fun hc16 hF => ?_)
    · skip
      refine AWP.skip ?_
      refine QThen.nrm ?_
      refine AWP.seq ?_
      refine AWP.block ?_
      refine AWP.seqR rfl ?_
      refine ASL.q (v := (.int .i64 x8_l0)) rfl rfl (Light.quiet (opMove rfl rfl)) ?_
      obtain ⟨a11, ha11, hF⟩ := bindE hF
      refine ASL.q (v := (.rptr [(.int .i64 a11.kind), (.int .i64 a11.a), (.int .i64 a11.b)])) rfl rfl (Light.quiet (kIx (f := TNode.av) ha11 rfl rfl rfl elemA_24 sizeA_59 rfl)) ?_
      refine ASL.q (v := (TNode.av a11)) rfl rfl (Light.quiet (opLoadRA rfl aggA_59 sizeA_59 rfl (nlt rfl) rfl)) ?_
      refine ASL.x rfl rfl (hNewZ hS [(.int .i64 0), (.int .i64 0), (.int .i64 0)] rfl zeroA_59 ⟨.inl rfl, .inl rfl, .inl rfl, trivial⟩ ?_); rintro b5 G17 hK hS
      refine ASL.q (v := (.int .i64 x8_l0)) rfl rfl (Light.quiet (opAssign rfl rfl)) ?_
      refine ASL.n rfl rfl (hPutA hS (j := 0) rfl rfl sizeA_59 rfl rfl rfl rfl rfl (nlt rfl) ?_); rintro G19 hS
      refine ASL.done ?_
      refine AWP.seqR rfl ?_
      refine ASL.q (v := (.ptr b5 0)) rfl rfl (Light.quiet (opFieldAddr rfl fieldA_59_0 rfl rfl)) ?_
      refine ASL.q (v := (.int .i64 a11.kind)) rfl rfl (Light.quiet (kAt hS (j := 0) rfl rfl aggA_3 rfl rfl)) ?_
      refine ASL.q (v := (.bool (decide (a11.kind ≥ 7)))) rfl rfl (Light.quiet (opInt rfl rfl rfl rfl)) ?_
      refine ASL.done ?_
      refine AWP.ifP hF rfl (fun hc20 hF => ?_) (fun hc20 hF => ?_)
      · skip
        refine AWP.lastR rfl ?_
        refine ASL.q (v := w8) rfl rfl (Light.quiet (opMove rfl rfl)) ?_
        refine ASL.q (v := (.int .i64 x8_l0)) rfl rfl (Light.quiet (opMove rfl rfl)) ?_
        refine ASL.q (v := (.list 1 (List.map (AV.int .i64) [x8_l0]))) rfl rfl ((qLit (xs := [(.int .i64 x8_l0)]) rfl elemA_32 sizeA_3 zeroA_3 rfl rfl rfl rfl (by simp [cells]) (nlt rfl))) ?_
        obtain ⟨z19, hz19, hF⟩ := bindE hF
        refine ASL.x rfl rfl (hApp (f := (AV.int .i64)) (ws := [x8_l0]) hS (j := 1) rfl hz19 rfl elemA_32 rfl sizeA_3 bytesA_3 zeroA_3 rfl rfl rfl (fun _ => rfl) ?_); rintro v19 G21 hS
        refine ASL.q (v := v19) rfl rfl (Light.quiet (opAssign rfl rfl)) ?_
        refine ASL.done ?_
        refine QBlock.nrm ?_
        refine QThen.nrm ?_
        refine AWP.lastR rfl ?_
        refine ASL.q (v := (.int .i64 (W (x8_l0 + 1)))) rfl rfl (Light.quiet (opInt rfl rfl rfl rfl)) ?_
        refine ASL.q (v := (.int .i64 (W (x8_l0 + 1)))) rfl rfl (Light.quiet (opMove rfl rfl)) ?_
        refine ASL.done ?_
        refine QThen.nrm ?_
        exact ⟨(z19, (W (x8_l0 + 1))), v19, (someE hF).symm, ⟨rfl, rfl, rfl, rfl, trivial⟩, (hS.pick [1] rfl rfl)⟩
      · skip
        refine AWP.skip ?_
        refine QBlock.nrm ?_
        refine QThen.nrm ?_
        refine AWP.lastR rfl ?_
        refine ASL.q (v := (.int .i64 (W (x8_l0 + 1)))) rfl rfl (Light.quiet (opInt rfl rfl rfl rfl)) ?_
        refine ASL.q (v := (.int .i64 (W (x8_l0 + 1)))) rfl rfl (Light.quiet (opMove rfl rfl)) ?_
        refine ASL.done ?_
        refine QThen.nrm ?_
        exact ⟨(y7, (W (x8_l0 + 1))), w8, (someE hF).symm, ⟨rfl, rfl, rfl, rfl, trivial⟩, (hS.pick [1] rfl rfl)⟩
    · skip
      refine AWP.exit ?_
      refine QThen.ext ?_
      refine QThen.ext ?_
      refine QBlock.hit ?_
      obtain rfl := (hx11 _ (someE hF).symm)
      have hF := hR14
      refine QThen.nrm ?_
      exact ⟨y7, w8, ⟨rfl, trivial⟩, (hS.pick [0] rfl rfl), hF⟩

set_option maxRecDepth 10000 in
theorem impl_LtlTemporal_ok {p0 : (List TNode)} {r : (List Int)} (hF : impl_LtlTemporal p0 = some r) : PO Try.prog 18 [(.list 3 (List.map TNode.av p0))] 1 (List.map (AV.int .i64) r) := by
  refine HC.enter Try.func18 rfl Try.ntmps18 (by simp) ?_
  have hS := Sep.void; unfold impl_LtlTemporal at hF
  refine AWP.seqR rfl ?_
  have hS := hNil (s := 1) (f := (AV.int .i64)) hS
  refine ASL.q (v := .nil) rfl rfl (Light.quiet (opAssign rfl rfl)) ?_
  refine ASL.done ?_
  refine AWP.seq ?_
  refine AWP.seqR rfl ?_
  refine ASL.q (v := (.list 3 (List.map TNode.av p0))) rfl rfl (Light.quiet (opMove rfl rfl)) ?_
  obtain ⟨a4, ha4, hF⟩ := bindE hF
  refine ASL.q (v := (.bool a4)) rfl rfl ((qCall rfl rfl call_16 (impl_LtlOk_ok ha4) rfl)) ?_
  refine ASL.q (v := (.bool (!a4))) rfl rfl (Light.quiet (opNot rfl rfl)) ?_
  refine ASL.done ?_
  refine AWP.ifB hF rfl (fun hc2 hF => ?_) (fun hc2 hF => ?_)
  · skip
    refine AWP.seqR rfl ?_
    have hS := hNil (s := 1) (f := (AV.int .i64)) hS
    refine ASL.q (v := .nil) rfl rfl (Light.quiet (opAssign rfl rfl)) ?_
    refine ASL.done ?_
    refine AWP.ret ?_
    refine QThen.rt ?_
    obtain rfl := someE hF
    exact QRet.sole (v := .nil) ⟨rfl, trivial⟩ (hS.get (k := 0) rfl)
  · skip
    refine AWP.skip ?_
    refine QThen.nrm ?_
    refine AWP.seqR rfl ?_
    refine ASL.q (v := (.list 3 (List.map TNode.av p0))) rfl rfl (Light.quiet (opMove rfl rfl)) ?_
    obtain ⟨a7, ha7, hF⟩ := bindE hF
    refine ASL.x rfl rfl (hCallO hS rfl rfl call_62 (impl_temporal_ok ha7) rfl ?_); rintro v7 G4 hK hS
    refine ASL.q (v := v7) rfl rfl (Light.quiet (opAssign rfl rfl)) ?_
    refine ASL.done ?_
    refine AWP.ret ?_
    obtain rfl := someE hF
    exact QRet.sole (v := v7) ⟨rfl, trivial⟩ (hS.get (k := 0) rfl)

set_option maxRecDepth 10000 in
theorem spec_LtlTemporal_ok {p0 : (List TNode)} {r : (List Int)} (hF : spec_LtlTemporal p0 = some r) : PO Try.prog 19 [(.list 3 (List.map TNode.av p0))] 1 (List.map (AV.int .i64) r) := by
  refine HC.enter Try.func19 rfl Try.ntmps19 (by simp) ?_
  have hS := Sep.void; unfold spec_LtlTemporal at hF
  refine AWP.seqR rfl ?_
  have hS := hNil (s := 1) (f := (AV.int .i64)) hS
  refine ASL.q (v := .nil) rfl rfl (Light.quiet (opAssign rfl rfl)) ?_
  refine ASL.done ?_
  refine AWP.seq ?_
  refine AWP.seqR rfl ?_
  refine ASL.q (v := (.list 3 (List.map TNode.av p0))) rfl rfl (Light.quiet (opMove rfl rfl)) ?_
  obtain ⟨a4, ha4, hF⟩ := bindE hF
  refine ASL.q (v := (.bool a4)) rfl rfl ((qCall rfl rfl call_43 (spec_LtlOk_ok ha4) rfl)) ?_
  refine ASL.q (v := (.bool (!a4))) rfl rfl (Light.quiet (opNot rfl rfl)) ?_
  refine ASL.done ?_
  refine AWP.ifB hF rfl (fun hc2 hF => ?_) (fun hc2 hF => ?_)
  · skip
    refine AWP.seqR rfl ?_
    refine ASL.x rfl rfl (hLit (f := (AV.int .i64)) (zs := []) hS rfl rfl elemA_32 sizeA_3 zeroA_3 rfl rfl rfl rfl (by simp [cells]) (nlt rfl) ?_); rintro v6 G3 hK hS
    refine ASL.q (v := v6) rfl rfl (Light.quiet (opAssign rfl rfl)) ?_
    refine ASL.done ?_
    refine AWP.ret ?_
    refine QThen.rt ?_
    obtain rfl := someE hF
    exact QRet.sole (v := v6) ⟨rfl, trivial⟩ (hS.get (k := 0) rfl)
  · skip
    refine AWP.skip ?_
    refine QThen.nrm ?_
    refine AWP.seqR rfl ?_
    refine ASL.q (v := (.list 3 (List.map TNode.av p0))) rfl rfl (Light.quiet (opMove rfl rfl)) ?_
    obtain ⟨a8, ha8, hF⟩ := bindE hF
    refine ASL.x rfl rfl (hCallO hS rfl rfl call_63 (spec_l8Temporal_ok ha8) rfl ?_); rintro v8 G5 hK hS
    refine ASL.q (v := v8) rfl rfl (Light.quiet (opAssign rfl rfl)) ?_
    refine ASL.done ?_
    refine AWP.ret ?_
    obtain rfl := someE hF
    exact QRet.sole (v := v8) ⟨rfl, trivial⟩ (hS.get (k := 0) rfl)

set_option maxRecDepth 10000 in
theorem laws_FnPair8_ok {K : Nat} {p0 : (List Int)} {r : Bool} (hF : laws_FnPair8 K p0 = some r) : PC Try.prog 3 [(.list 1 (List.map (AV.int .u8) p0))] fun v => v = (.bool r) := by
  refine PC.enter Try.func3 rfl Try.ntmps3 (by simp) ?_
  have hS := Sep.void; unfold laws_FnPair8 at hF
  refine AWP.seqR rfl ?_
  refine ASL.q (v := (.bool false)) rfl rfl (Light.quiet (opAssign rfl rfl)) ?_
  refine ASL.done ?_
  refine AWP.seq ?_
  refine AWP.seqR rfl ?_
  refine ASL.q (v := (.list 1 (List.map (AV.int .u8) p0))) rfl rfl (Light.quiet (opMove rfl rfl)) ?_
  refine ASL.q (v := (.bool (laws_big p0))) rfl rfl ((qCall rfl rfl call_10 (laws_big_ok p0) rfl)) ?_
  refine ASL.done ?_
  refine AWP.ifB hF rfl (fun hc1 hF => ?_) (fun hc1 hF => ?_)
  · skip
    refine AWP.seqR rfl ?_
    refine ASL.q (v := (.bool true)) rfl rfl (Light.quiet (opAssign rfl rfl)) ?_
    refine ASL.done ?_
    refine AWP.ret ?_
    refine QThen.rt ?_
    obtain rfl := someE hF
    exact QRet.sole (v := (.bool true)) ⟨rfl, trivial⟩ rfl
  · skip
    refine AWP.skip ?_
    refine QThen.nrm ?_
    refine AWP.seqR rfl ?_
    refine ASL.q (v := (.list 1 (List.map (AV.int .u8) p0))) rfl rfl (Light.quiet (opMove rfl rfl)) ?_
    obtain ⟨a19, ha19, hF⟩ := bindE hF
    refine ASL.q (v := (.tup [(.int .i64 a19.1), (.list 3 (List.map TNode.av a19.2.1)), (.list 3 (List.map TNode.av a19.2.2))])) rfl rfl ((qCall rfl rfl call_11 (spec_DrawLtlPair_ok ha19) rfl)) ?_
    refine ASL.q (v := (.tup [(.int .i64 a19.1), (.list 3 (List.map TNode.av a19.2.1)), (.list 3 (List.map TNode.av a19.2.2))])) rfl rfl (Light.quiet (opMove rfl rfl)) ?_
    refine ASL.q (v := (.int .i64 a19.1)) rfl rfl (Light.quiet (opExtract rfl rfl rfl)) ?_
    refine ASL.q (v := (.list 3 (List.map TNode.av a19.2.1))) rfl rfl (Light.quiet (opExtract rfl rfl rfl)) ?_
    refine ASL.q (v := (.list 3 (List.map TNode.av a19.2.2))) rfl rfl (Light.quiet (opExtract rfl rfl rfl)) ?_
    refine ASL.q (v := (.int .i64 a19.1)) rfl rfl (Light.quiet (opAssign rfl rfl)) ?_
    refine ASL.q (v := (.list 3 (List.map TNode.av a19.2.1))) rfl rfl (Light.quiet (opAssign rfl rfl)) ?_
    refine ASL.q (v := (.list 3 (List.map TNode.av a19.2.2))) rfl rfl (Light.quiet (opAssign rfl rfl)) ?_
    refine ASL.done ?_
    refine AWP.seqR rfl ?_
    refine ASL.q (v := (.int .i64 a19.1)) rfl rfl (Light.quiet (opMove rfl rfl)) ?_
    refine ASL.q (v := (.list 3 (List.map TNode.av a19.2.1))) rfl rfl (Light.quiet (opMove rfl rfl)) ?_
    refine ASL.q (v := (.list 3 (List.map TNode.av a19.2.2))) rfl rfl (Light.quiet (opMove rfl rfl)) ?_
    obtain ⟨a27, ha27, hF⟩ := bindE hF
    refine ASL.x rfl rfl (hCallSR hS rfl rfl call_12 (impl_LtlPair_ok ha27) ⟨.same _, .same _, .same _, trivial⟩ (by rintro _ _ G ⟨w2, rfl, rfl⟩ hG; exact ⟨(Scal.tup (ScalC.cons (hG.scR (k := 0) rfl) (ScalC.cons (by constructor) ScalC.nil))), ⟨(Scal.row (fun _ => by simp only [TNode.av, cells, List.mem_cons, List.not_mem_nil, or_false]; rintro c hc; rcases hc with rfl | rfl | rfl <;> constructor)), trivial⟩⟩) ?_); rintro _ _ G4 ⟨w2, rfl, rfl⟩ hK hS
    refine ASL.q (v := (.tup [w2, (.bool a27.2)])) rfl rfl (Light.quiet (opMove rfl rfl)) ?_
    refine ASL.q (v := w2) rfl rfl (Light.quiet (opExtract rfl rfl rfl)) ?_
    refine ASL.q (v := (.bool a27.2)) rfl rfl (Light.quiet (opExtract rfl rfl rfl)) ?_
    refine ASL.q (v := w2) rfl rfl (Light.quiet (opAssign rfl rfl)) ?_
    refine ASL.q (v := (.bool a27.2)) rfl rfl (Light.quiet (opAssign rfl rfl)) ?_
    refine ASL.done ?_
    refine AWP.seqR rfl ?_
    refine ASL.q (v := (.int .i64 a19.1)) rfl rfl (Light.quiet (opMove rfl rfl)) ?_
    refine ASL.q (v := (.list 3 (List.map TNode.av a19.2.1))) rfl rfl (Light.quiet (opMove rfl rfl)) ?_
    refine ASL.q (v := (.list 3 (List.map TNode.av a19.2.2))) rfl rfl (Light.quiet (opMove rfl rfl)) ?_
    obtain ⟨a34, ha34, hF⟩ := bindE hF
    refine ASL.x rfl rfl (hCallSR hS rfl rfl call_13 (spec_LtlPair_ok ha34) ⟨.same _, .same _, .same _, trivial⟩ (by rintro _ _ G ⟨w5, rfl, rfl⟩ hG; exact ⟨(Scal.tup (ScalC.cons (hG.scR (k := 0) rfl) (ScalC.cons (by constructor) ScalC.nil))), ⟨(Scal.row (fun _ => by simp only [TNode.av, cells, List.mem_cons, List.not_mem_nil, or_false]; rintro c hc; rcases hc with rfl | rfl | rfl <;> constructor)), trivial⟩⟩) ?_); rintro _ _ G7 ⟨w5, rfl, rfl⟩ hK hS
    refine ASL.q (v := (.tup [w5, (.bool a34.2)])) rfl rfl (Light.quiet (opMove rfl rfl)) ?_
    refine ASL.q (v := w5) rfl rfl (Light.quiet (opExtract rfl rfl rfl)) ?_
    refine ASL.q (v := (.bool a34.2)) rfl rfl (Light.quiet (opExtract rfl rfl rfl)) ?_
    refine ASL.q (v := w5) rfl rfl (Light.quiet (opAssign rfl rfl)) ?_
    refine ASL.q (v := (.bool a34.2)) rfl rfl (Light.quiet (opAssign rfl rfl)) ?_
    refine ASL.done ?_
    refine AWP.seqR rfl ?_
    refine ASL.q (v := (.list 3 (List.map TNode.av a19.2.1))) rfl rfl (Light.quiet (opMove rfl rfl)) ?_
    obtain ⟨a39, ha39, hF⟩ := bindE hF
    refine ASL.x rfl rfl (hCallSR hS rfl rfl call_14 (impl_LtlNot_ok ha39) ⟨.same _, trivial⟩ (by rintro _ _ G ⟨w8, rfl, rfl⟩ hG; exact ⟨(Scal.tup (ScalC.cons (hG.scR (k := 0) rfl) (ScalC.cons (by constructor) ScalC.nil))), ⟨(Scal.row (fun _ => by simp only [TNode.av, cells, List.mem_cons, List.not_mem_nil, or_false]; rintro c hc; rcases hc with rfl | rfl | rfl <;> constructor)), trivial⟩⟩) ?_); rintro _ _ G10 ⟨w8, rfl, rfl⟩ hK hS
    refine ASL.q (v := (.tup [w8, (.bool a39.2)])) rfl rfl (Light.quiet (opMove rfl rfl)) ?_
    refine ASL.q (v := w8) rfl rfl (Light.quiet (opExtract rfl rfl rfl)) ?_
    refine ASL.q (v := (.bool a39.2)) rfl rfl (Light.quiet (opExtract rfl rfl rfl)) ?_
    refine ASL.q (v := w8) rfl rfl (Light.quiet (opAssign rfl rfl)) ?_
    refine ASL.q (v := (.bool a39.2)) rfl rfl (Light.quiet (opAssign rfl rfl)) ?_
    refine ASL.done ?_
    refine AWP.seqR rfl ?_
    refine ASL.q (v := (.list 3 (List.map TNode.av a19.2.1))) rfl rfl (Light.quiet (opMove rfl rfl)) ?_
    obtain ⟨a44, ha44, hF⟩ := bindE hF
    refine ASL.x rfl rfl (hCallSR hS rfl rfl call_15 (spec_LtlNot_ok ha44) ⟨.same _, trivial⟩ (by rintro _ _ G ⟨w11, rfl, rfl⟩ hG; exact ⟨(Scal.tup (ScalC.cons (hG.scR (k := 0) rfl) (ScalC.cons (by constructor) ScalC.nil))), ⟨(Scal.row (fun _ => by simp only [TNode.av, cells, List.mem_cons, List.not_mem_nil, or_false]; rintro c hc; rcases hc with rfl | rfl | rfl <;> constructor)), trivial⟩⟩) ?_); rintro _ _ G13 ⟨w11, rfl, rfl⟩ hK hS
    refine ASL.q (v := (.tup [w11, (.bool a44.2)])) rfl rfl (Light.quiet (opMove rfl rfl)) ?_
    refine ASL.q (v := w11) rfl rfl (Light.quiet (opExtract rfl rfl rfl)) ?_
    refine ASL.q (v := (.bool a44.2)) rfl rfl (Light.quiet (opExtract rfl rfl rfl)) ?_
    refine ASL.q (v := w11) rfl rfl (Light.quiet (opAssign rfl rfl)) ?_
    refine ASL.q (v := (.bool a44.2)) rfl rfl (Light.quiet (opAssign rfl rfl)) ?_
    refine ASL.done ?_
    refine AWP.seq ?_
    refine AWP.seqR rfl ?_
    refine ASL.q (v := (.bool a27.2)) rfl rfl (Light.quiet (opMove rfl rfl)) ?_
    refine ASL.q (v := (.bool a34.2)) rfl rfl (Light.quiet (opMove rfl rfl)) ?_
    refine ASL.q (v := (.bool (!(a27.2 == a34.2)))) rfl rfl (Light.quiet (opBoolEq rfl rfl rfl und_4 rfl)) ?_
    obtain ⟨c50, hc50, hF⟩ := bndE hF
    refine ASL.q (v := (.bool c50)) rfl rfl ((Quiet.cast (Light.quiet (opMove rfl rfl)) (congrArg AV.bool hc50.symm))) ?_
    refine ASL.g (v := (.bool a39.2)) (.bool c50) false rfl (wF _) rfl (fun hG => by have q0 := gN hG; subst q0; exact Light.quiet (opMove rfl rfl)) ?_
    refine ASL.g (v := (.bool a44.2)) (.bool c50) false rfl (wF _) rfl (fun hG => by have q0 := gN hG; subst q0; exact Light.quiet (opMove rfl rfl)) ?_
    refine ASL.g (v := (.bool (!(a39.2 == a44.2)))) (.bool c50) false rfl (wF _) rfl (fun hG => by have q0 := gN hG; subst q0; exact Light.quiet (opBoolEq rfl rfl rfl und_4 rfl)) ?_
    refine ASL.q (v := (.bool (c50 || (!(a39.2 == a44.2))))) rfl rfl (Light.quiet (opPick (b := c50) rfl rfl (by cases c50 <;> rfl))) ?_
    refine ASL.done ?_
    refine AWP.ifB hF rfl (fun hc14 hF => ?_) (fun hc14 hF => ?_)
    · skip
      refine AWP.seqR rfl ?_
      refine ASL.q (v := (.bool false)) rfl rfl (Light.quiet (opAssign rfl rfl)) ?_
      refine ASL.done ?_
      refine AWP.ret ?_
      refine QThen.rt ?_
      obtain rfl := someE hF
      exact QRet.sole (v := (.bool false)) ⟨rfl, trivial⟩ rfl
    · skip
      refine AWP.skip ?_
      refine QThen.nrm ?_
      refine AWP.seq ?_
      refine AWP.seqR rfl ?_
      refine ASL.q (v := (.bool a39.2)) rfl rfl (Light.quiet (opMove rfl rfl)) ?_
      obtain ⟨c56, hc56, hF⟩ := bndE hF
      refine ASL.q (v := (.bool c56)) rfl rfl ((Quiet.cast (Light.quiet (opMove rfl rfl)) (congrArg AV.bool hc56.symm))) ?_
      refine ASL.g (v := w8) (.bool c56) true rfl (wT _) rfl (fun hG => by have q0 := hG; subst q0; exact Light.quiet (opMove rfl rfl)) ?_
      obtain ⟨a58, ha58, hF⟩ := bindE hF
      refine ASL.g (v := (.bool a58)) (.bool c56) true rfl (wT _) rfl (fun hG => by have q0 := hG; subst q0; exact (qCallR hS rfl rfl call_16 (impl_LtlOk_ok (whenE ha58)) ⟨.row (k := 1) rfl, trivial⟩ (by constructor))) ?_
      refine ASL.g (v := (.bool (!a58))) (.bool c56) true rfl (wT _) rfl (fun hG => by have q0 := hG; subst q0; exact Light.quiet (opNot rfl rfl)) ?_
      obtain ⟨c60, hc60, hF⟩ := bndE hF
      refine ASL.g (v := (.bool c60)) (.bool c56) true rfl (wT _) rfl (fun hG => by have q0 := hG; subst q0; exact (Quiet.cast (Light.quiet (opMove rfl rfl)) (congrArg AV.bool hc60.symm))) ?_
      refine ASL.g (v := w8) (bif c56 then (.bool c60) else .tup []) false rfl (wGF _ _) rfl (fun hG => by have q0 := gA1 hG; have q1 := gN (gA2 hG); subst q0; subst q1; exact Light.quiet (opMove rfl rfl)) ?_
      refine ASL.g (v := (.int .i64 (a39.1.length : Int))) (bif c56 then (.bool c60) else .tup []) false rfl (wGF _ _) rfl (fun hG => by have q0 := gA1 hG; have q1 := gN (gA2 hG); subst q0; subst q1; exact Light.quiet (kLen hS (j := 1) rfl rfl rfl rfl lenT_24 rfl)) ?_
      refine ASL.g (v := (.list 3 (List.map TNode.av a19.2.1))) (bif c56 then (.bool c60) else .tup []) false rfl (wGF _ _) rfl (fun hG => by have q0 := gA1 hG; have q1 := gN (gA2 hG); subst q0; subst q1; exact Light.quiet (opMove rfl rfl)) ?_
      refine ASL.g (v := (.int .i64 (a19.2.1.length : Int))) (bif c56 then (.bool c60) else .tup []) false rfl (wGF _ _) rfl (fun hG => by have q0 := gA1 hG; have q1 := gN (gA2 hG); subst q0; subst q1; exact Light.quiet (opLenMap (f := TNode.av) rfl rfl rfl lenT_24 rfl)) ?_
      refine ASL.g (v := (.int .i64 (W (((a19.2.1.length : Int)) + 1)))) (bif c56 then (.bool c60) else .tup []) false rfl (wGF _ _) rfl (fun hG => by have q0 := gA1 hG; have q1 := gN (gA2 hG); subst q0; subst q1; exact Light.quiet (opInt rfl rfl rfl rfl)) ?_
      refine ASL.g (v := (.bool (decide (((a39.1.length : Int)) ≠ ((W (((a19.2.1.length : Int)) + 1))))))) (bif c56 then (.bool c60) else .tup []) false rfl (wGF _ _) rfl (fun hG => by have q0 := gA1 hG; have q1 := gN (gA2 hG); subst q0; subst q1; exact Light.quiet (opInt rfl rfl rfl rfl)) ?_
      refine ASL.g (v := (.bool (c60 || (decide (((a39.1.length : Int)) ≠ ((W (((a19.2.1.length : Int)) + 1)))))))) (.bool c56) true rfl (wT _) rfl (fun hG => by have q0 := hG; subst q0; exact Light.quiet (opPick (b := c60) rfl rfl (by cases c60 <;> rfl))) ?_
      obtain ⟨c68, hc68, hF⟩ := bndE hF
      refine ASL.g (v := (.bool c68)) (.bool c56) true rfl (wT _) rfl (fun hG => by have q0 := hG; subst q0; exact (Quiet.cast (Light.quiet (opMove rfl rfl)) (congrArg AV.bool hc68.symm))) ?_
      refine ASL.g (v := w8) (bif c56 then (.bool c68) else .tup []) false rfl (wGF _ _) rfl (fun hG => by have q0 := gA1 hG; have q1 := gN (gA2 hG); subst q0; subst q1; exact Light.quiet (opMove rfl rfl)) ?_
      obtain ⟨a70, ha70, hF⟩ := bindE hF
      refine ASL.g (v := (.str a70)) (bif c56 then (.bool c68) else .tup []) false rfl (wGF _ _) rfl (fun hG => by have q0 := gA1 hG; have q1 := gN (gA2 hG); subst q0; subst q1; exact (qCallR hS rfl rfl call_17 (impl_LtlPrint_ok (whenE ha70)) ⟨.row (k := 1) rfl, trivial⟩ (by constructor))) ?_
      refine ASL.g (v := (.list 3 (List.map TNode.av a19.2.1))) (bif c56 then (.bool c68) else .tup []) false rfl (wGF _ _) rfl (fun hG => by have q0 := gA1 hG; have q1 := gN (gA2 hG); subst q0; subst q1; exact Light.quiet (opMove rfl rfl)) ?_
      obtain ⟨a72, ha72, hF⟩ := bindE hF
      refine ASL.g (v := (.str a72)) (bif c56 then (.bool c68) else .tup []) false rfl (wGF _ _) rfl (fun hG => by have q0 := gA1 hG; have q1 := gN (gA2 hG); subst q0; subst q1; exact (qCall rfl rfl call_17 (impl_LtlPrint_ok (whenE ha72)) rfl)) ?_
      obtain ⟨a73, ha73, hF⟩ := bindE hF
      refine ASL.g (v := (.str a73)) (bif c56 then (.bool c68) else .tup []) false rfl (wGF _ _) rfl (fun hG => by have q0 := gA1 hG; have q1 := gN (gA2 hG); subst q0; subst q1; exact Light.quiet (opCat (whenE ha73) rfl rfl rfl)) ?_
      refine ASL.g (v := (.bool (!(a70.toList == a73.toList)))) (bif c56 then (.bool c68) else .tup []) false rfl (wGF _ _) rfl (fun hG => by have q0 := gA1 hG; have q1 := gN (gA2 hG); subst q0; subst q1; exact Light.quiet (opStr rfl rfl rfl rfl)) ?_
      refine ASL.g (v := (.bool (c68 || (!(a70.toList == a73.toList))))) (.bool c56) true rfl (wT _) rfl (fun hG => by have q0 := hG; subst q0; exact Light.quiet (opPick (b := c68) rfl rfl (by cases c68 <;> rfl))) ?_
      refine ASL.q (v := (.bool (c56 && (c68 || (!(a70.toList == a73.toList)))))) rfl rfl (Light.quiet (opPick (b := c56) rfl rfl (by cases c56 <;> rfl))) ?_
      refine ASL.done ?_
      refine AWP.ifB hF rfl (fun hc15 hF => ?_) (fun hc15 hF => ?_)
      · skip
        refine AWP.seqR rfl ?_
        refine ASL.q (v := (.bool false)) rfl rfl (Light.quiet (opAssign rfl rfl)) ?_
        refine ASL.done ?_
        refine AWP.ret ?_
        refine QThen.rt ?_
        obtain rfl := someE hF
        exact QRet.sole (v := (.bool false)) ⟨rfl, trivial⟩ rfl
      · skip
        refine AWP.skip ?_
        refine QThen.nrm ?_
        refine AWP.seq ?_
        refine AWP.seqR rfl ?_
        refine ASL.q (v := (.bool a27.2)) rfl rfl (Light.quiet (opMove rfl rfl)) ?_
        refine ASL.q (v := (.bool (!a27.2))) rfl rfl (Light.quiet (opNot rfl rfl)) ?_
        refine ASL.done ?_
        refine AWP.ifB hF rfl (fun hc16 hF => ?_) (fun hc16 hF => ?_)
        · skip
          refine AWP.seqR rfl ?_
          refine ASL.q (v := w2) rfl rfl (Light.quiet (opMove rfl rfl)) ?_
          refine ASL.q (v := (.int .i64 (a27.1.length : Int))) rfl rfl (Light.quiet (kLen hS (j := 3) rfl rfl rfl rfl lenT_24 rfl)) ?_
          refine ASL.q (v := (.bool (decide (((a27.1.length : Int)) = 0)))) rfl rfl (Light.quiet (opInt rfl rfl rfl rfl)) ?_
          refine ASL.q (v := (.bool (decide (((a27.1.length : Int)) = 0)))) rfl rfl (Light.quiet (opAssign rfl rfl)) ?_
          refine ASL.done ?_
          refine AWP.ret ?_
          refine QThen.rt ?_
          obtain rfl := someE hF
          exact QRet.sole (v := (.bool (decide (((a27.1.length : Int)) = 0)))) ⟨rfl, trivial⟩ rfl
        · skip
          refine AWP.skip ?_
          refine QThen.nrm ?_
          refine AWP.seqR rfl ?_
          refine ASL.q (v := (.int .i64 0)) rfl rfl (Light.quiet (opAssign rfl rfl)) ?_
          refine ASL.done ?_
          refine AWP.seqM (fun e H => ∃ x14_1 : Int, E.Told e [(4, (.list 3 (List.map TNode.av a19.2.1))), (5, (.list 3 (List.map TNode.av a19.2.2))), (6, w2), (14, (.int .i64 x14_1))] ∧ E.Sep H [.row 3 w2 (List.map TNode.av a27.1)] ∧ laws_FnPair8.k0 a27 a19 x14_1 = some r) ?_ ?_
          · rintro e0 G17 ⟨x14_1, hT, hS, hF⟩; refine AWP.only _ hT ?_; unfold laws_FnPair8.k0 at hF
            refine AWP.seqR rfl ?_
            refine ASL.q (v := w2) rfl rfl (Light.quiet (opMove rfl rfl)) ?_
            obtain ⟨a89, ha89, hF⟩ := bindE hF
            refine ASL.q (v := (.bool a89)) rfl rfl ((qCallR hS rfl rfl call_16 (impl_LtlOk_ok ha89) ⟨.row (k := 0) rfl, trivial⟩ (by constructor))) ?_
            refine ASL.q (v := (.bool a89)) rfl rfl (Light.quiet (opMove rfl rfl)) ?_
            refine ASL.g (v := w2) (.bool a89) true rfl (wT _) rfl (fun hG => by have q0 := hG; subst q0; exact Light.quiet (opMove rfl rfl)) ?_
            refine ASL.g (v := (.int .i64 (a27.1.length : Int))) (.bool a89) true rfl (wT _) rfl (fun hG => by have q0 := hG; subst q0; exact Light.quiet (kLen hS (j := 0) rfl rfl rfl rfl lenT_24 rfl)) ?_
            refine ASL.g (v := (.list 3 (List.map TNode.av a19.2.1))) (.bool a89) true rfl (wT _) rfl (fun hG => by have q0 := hG; subst q0; exact Light.quiet (opMove rfl rfl)) ?_
            refine ASL.g (v := (.int .i64 (a19.2.1.length : Int))) (.bool a89) true rfl (wT _) rfl (fun hG => by have q0 := hG; subst q0; exact Light.quiet (opLenMap (f := TNode.av) rfl rfl rfl lenT_24 rfl)) ?_
            refine ASL.g (v := (.list 3 (List.map TNode.av a19.2.2))) (.bool a89) true rfl (wT _) rfl (fun hG => by have q0 := hG; subst q0; exact Light.quiet (opMove rfl rfl)) ?_
            refine ASL.g (v := (.int .i64 (a19.2.2.length : Int))) (.bool a89) true rfl (wT _) rfl (fun hG => by have q0 := hG; subst q0; exact Light.quiet (opLenMap (f := TNode.av) rfl rfl rfl lenT_24 rfl)) ?_
            refine ASL.g (v := (.int .i64 (W (((a19.2.1.length : Int)) + ((a19.2.2.length : Int)))))) (.bool a89) true rfl (wT _) rfl (fun hG => by have q0 := hG; subst q0; exact Light.quiet (opInt rfl rfl rfl rfl)) ?_
            refine ASL.g (v := (.int .i64 (W (((W (((a19.2.1.length : Int)) + ((a19.2.2.length : Int))))) + 1)))) (.bool a89) true rfl (wT _) rfl (fun hG => by have q0 := hG; subst q0; exact Light.quiet (opInt rfl rfl rfl rfl)) ?_
            refine ASL.g (v := (.bool (decide (((a27.1.length : Int)) = ((W (((W (((a19.2.1.length : Int)) + ((a19.2.2.length : Int))))) + 1))))))) (.bool a89) true rfl (wT _) rfl (fun hG => by have q0 := hG; subst q0; exact Light.quiet (opInt rfl rfl rfl rfl)) ?_
            refine ASL.q (v := (.bool (a89 && (decide (((a27.1.length : Int)) = ((W (((W (((a19.2.1.length : Int)) + ((a19.2.2.length : Int))))) + 1)))))))) rfl rfl (Light.quiet (opPick (b := a89) rfl rfl (by cases a89 <;> rfl))) ?_
            obtain ⟨c101, hc101, hF⟩ := bndE hF
            refine ASL.q (v := (.bool c101)) rfl rfl ((Quiet.cast (Light.quiet (opMove rfl rfl)) (congrArg AV.bool hc101.symm))) ?_
            refine ASL.g (v := w2) (.bool c101) true rfl (wT _) rfl (fun hG => by have q0 := hG; subst q0; exact Light.quiet (opMove rfl rfl)) ?_
            obtain ⟨a103, ha103, hF⟩ := bindE hF
            refine ASL.g (v := (.list 1 (List.map (AV.int .i64) a103))) (.bool c101) true rfl (wT _) rfl (fun hG => by have q0 := hG; subst q0; exact (qCallRL hS rfl rfl call_18 (impl_LtlTemporal_ok (whenE ha103)) ⟨.row (k := 0) rfl, trivial⟩ (Scal.ints _ _))) ?_
            refine ASL.g (v := (.int .i64 (a103.length : Int))) (.bool c101) true rfl (wT _) rfl (fun hG => by have q0 := hG; subst q0; exact Light.quiet (opLenMap (f := (AV.int .i64)) rfl rfl rfl lenT_32 rfl)) ?_
            refine ASL.g (v := (.list 3 (List.map TNode.av a19.2.1))) (.bool c101) true rfl (wT _) rfl (fun hG => by have q0 := hG; subst q0; exact Light.quiet (opMove rfl rfl)) ?_
            obtain ⟨a106, ha106, hF⟩ := bindE hF
            refine ASL.g (v := (.list 1 (List.map (AV.int .i64) a106))) (.bool c101) true rfl (wT _) rfl (fun hG => by have q0 := hG; subst q0; exact (qCall rfl rfl call_19 (PO.list (spec_LtlTemporal_ok (whenE ha106))) rfl)) ?_
            refine ASL.g (v := (.int .i64 (a106.length : Int))) (.bool c101) true rfl (wT _) rfl (fun hG => by have q0 := hG; subst q0; exact Light.quiet (opLenMap (f := (AV.int .i64)) rfl rfl rfl lenT_32 rfl)) ?_
            refine ASL.g (v := (.list 3 (List.map TNode.av a19.2.2))) (.bool c101) true rfl (wT _) rfl (fun hG => by have q0 := hG; subst q0; exact Light.quiet (opMove rfl rfl)) ?_
            obtain ⟨a109, ha109, hF⟩ := bindE hF
            refine ASL.g (v := (.list 1 (List.map (AV.int .i64) a109))) (.bool c101) true rfl (wT _) rfl (fun hG => by have q0 := hG; subst q0; exact (qCall rfl rfl call_19 (PO.list (spec_LtlTemporal_ok (whenE ha109))) rfl)) ?_
            refine ASL.g (v := (.int .i64 (a109.length : Int))) (.bool c101) true rfl (wT _) rfl (fun hG => by have q0 := hG; subst q0; exact Light.quiet (opLenMap (f := (AV.int .i64)) rfl rfl rfl lenT_32 rfl)) ?_
            refine ASL.g (v := (.int .i64 (W (((a106.length : Int)) + ((a109.length : Int)))))) (.bool c101) true rfl (wT _) rfl (fun hG => by have q0 := hG; subst q0; exact Light.quiet (opInt rfl rfl rfl rfl)) ?_
            refine ASL.g (v := (.int .i64 x14_1)) (.bool c101) true rfl (wT _) rfl (fun hG => by have q0 := hG; subst q0; exact Light.quiet (opMove rfl rfl)) ?_
            refine ASL.g (v := (.int .i64 (W (((W (((a106.length : Int)) + ((a109.length : Int))))) + x14_1)))) (.bool c101) true rfl (wT _) rfl (fun hG => by have q0 := hG; subst q0; exact Light.quiet (opInt rfl rfl rfl rfl)) ?_
            refine ASL.g (v := (.bool (decide (((a103.length : Int)) = ((W (((W (((a106.length : Int)) + ((a109.length : Int))))) + x14_1))))))) (.bool c101) true rfl (wT _) rfl (fun hG => by have q0 := hG; subst q0; exact Light.quiet (opInt rfl rfl rfl rfl)) ?_
            refine ASL.q (v := (.bool (c101 && (decide (((a103.length : Int)) = ((W (((W (((a106.length : Int)) + ((a109.length : Int))))) + x14_1)))))))) rfl rfl (Light.quiet (opPick (b := c101) rfl rfl (by cases c101 <;> rfl))) ?_
            refine ASL.q (v := (.bool (c101 && (decide (((a103.length : Int)) = ((W (((W (((a106.length : Int)) + ((a109.length : Int))))) + x14_1)))))))) rfl rfl (Light.quiet (opAssign rfl rfl)) ?_
            refine ASL.done ?_
            refine AWP.ret ?_
            obtain rfl := someE hF
            exact QRet.sole (v := (.bool (c101 && (decide (((a103.length : Int)) = ((W (((W (((a106.length : Int)) + ((a109.length : Int))))) + x14_1)))))))) ⟨rfl, trivial⟩ rfl
          · skip
            refine AWP.seqR rfl ?_
            refine ASL.q (v := (.int .i64 a19.1)) rfl rfl (Light.quiet (opMove rfl rfl)) ?_
            refine ASL.q (v := (.bool (decide (a19.1 = 8)))) rfl rfl (Light.quiet (opInt rfl rfl rfl rfl)) ?_
            obtain ⟨c84, hc84, hF⟩ := bndE hF
            refine ASL.q (v := (.bool c84)) rfl rfl ((Quiet.cast (Light.quiet (opMove rfl rfl)) (congrArg AV.bool hc84.symm))) ?_
            refine ASL.g (v := (.int .i64 a19.1)) (.bool c84) false rfl (wF _) rfl (fun hG => by have q0 := gN hG; subst q0; exact Light.quiet (opMove rfl rfl)) ?_
            refine ASL.g (v := (.bool (decide (a19.1 = 9)))) (.bool c84) false rfl (wF _) rfl (fun hG => by have q0 := gN hG; subst q0; exact Light.quiet (opInt rfl rfl rfl rfl)) ?_
            refine ASL.q (v := (.bool (c84 || (decide (a19.1 = 9))))) rfl rfl (Light.quiet (opPick (b := c84) rfl rfl (by cases c84 <;> rfl))) ?_
            refine ASL.done ?_
            refine AWP.ifB hF rfl (fun hc18 hF => ?_) (fun hc18 hF => ?_)
            · skip
              refine AWP.lastR rfl ?_
              refine ASL.q (v := (.int .i64 1)) rfl rfl (Light.quiet (opAssign rfl rfl)) ?_
              refine ASL.done ?_
              refine QThen.nrm ?_
              exact ⟨1, ⟨rfl, rfl, rfl, rfl, trivial⟩, (hS.pick [3] rfl rfl), hF⟩
            · skip
              refine AWP.skip ?_
              refine QThen.nrm ?_
              exact ⟨0, ⟨rfl, rfl, rfl, rfl, trivial⟩, (hS.pick [3] rfl rfl), hF⟩

end Go.Proofs.Ytjjlkncefgfljaa
