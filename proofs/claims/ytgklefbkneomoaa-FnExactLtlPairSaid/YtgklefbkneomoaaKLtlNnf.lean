/- Each of these functions of the program comes to just what its plain function says: FnExactLtlNnf. -/
import Derived.Test.YtgklefbkneomoaaDLtlNnf
import Derived.Test.YtgklefbkneomoaaFa
import Derived.Test.YtgklefbkneomoaaKLtlTemporal
import Derived.Test.YtgklefbkneomoaaKLtlParse
namespace Go.Proofs.Ytgklefbkneomoaa
open Go Go.RowKit E
set_option linter.unusedVariables false
set_option maxRecDepth 10000 in
theorem spec_l8Two_ok {p0 : (List TNode)} {p1 : Int} {p2 : Int} {r : (List TNode)} {vp0 : AV} (hF : spec_l8Two p0 p1 p2 = some r) : HS Try.prog 37 [vp0, (.int .i64 p1), (.int .i64 p2)] [.row 3 vp0 (List.map TNode.av p0)] fun v L' => ∃ o0 : AV, v = o0 ∧ L' = [.row 3 o0 (List.map TNode.av r)] := by
  intro H S hS
  refine HC.enter Try.func37 rfl Try.ntmps37 (by simp) ?_
  simp only [List.cons_append, List.nil_append] at hS
  unfold spec_l8Two at hF
  refine AWP.seqR rfl ?_
  have hS := hNil (s := 3) (f := TNode.av) hS
  refine ASL.q (v := .nil) rfl rfl (Light.quiet (opAssign rfl rfl)) ?_
  refine ASL.done ?_
  refine AWP.seqR rfl ?_
  refine ASL.q (v := vp0) rfl rfl (Light.quiet (opMove rfl rfl)) ?_
  refine ASL.q (v := (.int .i64 p1)) rfl rfl (Light.quiet (opMove rfl rfl)) ?_
  refine ASL.q (v := (.int .i64 p2)) rfl rfl (Light.quiet (opMove rfl rfl)) ?_
  refine ASL.q (v := vp0) rfl rfl (Light.quiet (opMove rfl rfl)) ?_
  refine ASL.q (v := (.int .i64 (p0.length : Int))) rfl rfl (Light.quiet (kLen hS (j := 1) rfl rfl rfl rfl lenT_26 rfl)) ?_
  refine ASL.q (v := (.int .i64 (W (((p0.length : Int)) - 1)))) rfl rfl (Light.quiet (opInt rfl rfl rfl rfl)) ?_
  refine ASL.q (v := (.agg [(.int .i64 p1), (.int .i64 p2), (.int .i64 (W (((p0.length : Int)) - 1)))])) rfl rfl (Light.quiet (opBuildZ (zs := [(.int .i64 0), (.int .i64 0), (.int .i64 0)]) rfl plan_43 zeroA_43 ⟨.inl rfl, .inl rfl, .inl rfl, trivial⟩ rfl)) ?_
  refine ASL.q (v := (.list 3 (List.map TNode.av [(TNode.mk p1 p2 ((W (((p0.length : Int)) - 1))))]))) rfl rfl ((qLit (xs := [(.agg [(.int .i64 p1), (.int .i64 p2), (.int .i64 (W (((p0.length : Int)) - 1)))])]) rfl elemA_26 sizeA_43 zeroA_43 rfl rfl rfl rfl (by simp [cells, TNode.av]) (nlt rfl))) ?_
  obtain ⟨z15, hz15, hF⟩ := bindE hF
  refine ASL.x rfl rfl (hApp (f := TNode.av) (ws := [(TNode.mk p1 p2 ((W (((p0.length : Int)) - 1))))]) hS (j := 1) rfl hz15 rfl elemA_26 rfl sizeA_43 bytesA_43 zeroA_43 rfl rfl rfl (fun _ => rfl) ?_); rintro v15 G3 hS
  refine ASL.q (v := v15) rfl rfl (Light.quiet (opAssign rfl rfl)) ?_
  refine ASL.done ?_
  refine AWP.ret ?_
  obtain rfl := someE hF
  exact QRet.sole (v := v15) ⟨rfl, trivial⟩ ⟨_, ⟨v15, rfl, rfl⟩, hS.pick [1, 2] rfl rfl⟩

set_option maxRecDepth 10000 in
theorem spec_l8Nnf.body_ok {p0 : (List TNode)} {p1 : Int} {p2 : Bool} {p3 : (List TNode)} {r : (List TNode)} {vp3 : AV} {rec_spec_l8Nnf : (List TNode) → Int → Bool → (List TNode) → Option (List TNode)} (ih_spec_l8Nnf : ∀ {p0 : (List TNode)} {p1 : Int} {p2 : Bool} {p3 : (List TNode)} {r : (List TNode)} {vp3 : AV} , rec_spec_l8Nnf p0 p1 p2 p3 = some r → HS Try.prog 43 [(.list 3 (List.map TNode.av p0)), (.int .i64 p1), (.bool p2), vp3] [.row 3 vp3 (List.map TNode.av p3)] fun v L' => ∃ o0 : AV, v = o0 ∧ L' = [.row 3 o0 (List.map TNode.av r)]) (hF : spec_l8Nnf.body rec_spec_l8Nnf p0 p1 p2 p3 = some r) : HS Try.prog 43 [(.list 3 (List.map TNode.av p0)), (.int .i64 p1), (.bool p2), vp3] [.row 3 vp3 (List.map TNode.av p3)] fun v L' => ∃ o0 : AV, v = o0 ∧ L' = [.row 3 o0 (List.map TNode.av r)] := by
  intro H S hS
  refine HC.enter Try.func43 rfl Try.ntmps43 (by simp) ?_
  simp only [List.cons_append, List.nil_append] at hS
  unfold spec_l8Nnf.body at hF
  refine AWP.seqR rfl ?_
  have hS := hNil (s := 3) (f := TNode.av) hS
  refine ASL.q (v := .nil) rfl rfl (Light.quiet (opAssign rfl rfl)) ?_
  refine ASL.done ?_
  refine AWP.seqR rfl ?_
  refine ASL.q (v := (.list 3 (List.map TNode.av p0))) rfl rfl (Light.quiet (opMove rfl rfl)) ?_
  refine ASL.q (v := (.int .i64 p1)) rfl rfl (Light.quiet (opMove rfl rfl)) ?_
  obtain ⟨a16, ha16, hF⟩ := bindE hF
  refine ASL.q (v := (.rptr [(.int .i64 a16.kind), (.int .i64 a16.a), (.int .i64 a16.b)])) rfl rfl (Light.quiet (kIx (f := TNode.av) ha16 rfl rfl rfl elemA_26 sizeA_43 rfl)) ?_
  refine ASL.q (v := (TNode.av a16)) rfl rfl (Light.quiet (opLoadRA rfl aggA_43 sizeA_43 rfl (nlt rfl) rfl)) ?_
  refine ASL.x rfl rfl (hNewZ hS [(.int .i64 0), (.int .i64 0), (.int .i64 0)] rfl zeroA_43 ⟨.inl rfl, .inl rfl, .inl rfl, trivial⟩ ?_); rintro b9 G3 hK hS
  refine ASL.n rfl rfl (hPutA hS (j := 0) rfl rfl sizeA_43 rfl rfl rfl rfl rfl (nlt rfl) ?_); rintro G5 hS
  refine ASL.done ?_
  refine AWP.seqR rfl ?_
  refine ASL.q (v := (.ptr b9 0)) rfl rfl (Light.quiet (opFieldAddr rfl fieldA_43_0 rfl rfl)) ?_
  refine ASL.q (v := (.int .i64 a16.kind)) rfl rfl (Light.quiet (kAt hS (j := 0) rfl rfl aggA_3 rfl rfl)) ?_
  refine ASL.q (v := (.int .i64 a16.kind)) rfl rfl (Light.quiet (opAssign rfl rfl)) ?_
  refine ASL.done ?_
  refine AWP.seqM (fun e H => ∃ y6 : (List TNode), ∃ x10_1 : Int, ∃ w7 : AV, E.Told e [(0, (.list 3 (List.map TNode.av p0))), (2, (.bool p2)), (3, w7), (9, (.ptr b9 0)), (10, (.int .i64 x10_1))] ∧ E.Sep H [.row 3 w7 (List.map TNode.av y6), .cell b9 [(.int .i64 a16.kind), (.int .i64 a16.a), (.int .i64 a16.b)], .snap S] ∧ spec_l8Nnf.k0 rec_spec_l8Nnf p0 a16 p2 y6 x10_1 = some r) ?_ ?_
  · rintro e0 G18 ⟨y6, x10_1, w7, hT, hS, hF⟩; refine AWP.only _ hT ?_; unfold spec_l8Nnf.k0 at hF
    refine AWP.seqR rfl ?_
    refine ASL.q (v := (.list 3 (List.map TNode.av p0))) rfl rfl (Light.quiet (opMove rfl rfl)) ?_
    refine ASL.q (v := (.ptr b9 1)) rfl rfl (Light.quiet (opFieldAddr rfl fieldA_43_1 rfl rfl)) ?_
    refine ASL.q (v := (.int .i64 a16.a)) rfl rfl (Light.quiet (kAt hS (j := 1) rfl rfl aggA_3 rfl rfl)) ?_
    refine ASL.q (v := (.bool p2)) rfl rfl (Light.quiet (opMove rfl rfl)) ?_
    refine ASL.q (v := w7) rfl rfl (Light.quiet (opMove rfl rfl)) ?_
    obtain ⟨a122, ha122, hF⟩ := bindE hF
    refine ASL.x rfl rfl (hCallS hS [0, 1, 2] (F := [.cell b9 [(.int .i64 a16.kind), (.int .i64 a16.a), (.int .i64 a16.b)], .snap S]) rfl rfl rfl call_43 (ih_spec_l8Nnf ha122) rfl rfl ?_); rintro w9 _ G11 ⟨_, rfl, rfl⟩ hS
    refine ASL.q (v := w9) rfl rfl (Light.quiet (opAssign rfl rfl)) ?_
    refine ASL.done ?_
    refine AWP.seqR rfl ?_
    refine ASL.q (v := w9) rfl rfl (Light.quiet (opMove rfl rfl)) ?_
    refine ASL.q (v := (.int .i64 (a122.length : Int))) rfl rfl (Light.quiet (kLen hS (j := 0) rfl rfl rfl rfl lenT_26 rfl)) ?_
    refine ASL.q (v := (.int .i64 (W (((a122.length : Int)) - 1)))) rfl rfl (Light.quiet (opInt rfl rfl rfl rfl)) ?_
    refine ASL.q (v := (.int .i64 (W (((a122.length : Int)) - 1)))) rfl rfl (Light.quiet (opAssign rfl rfl)) ?_
    refine ASL.done ?_
    refine AWP.seqR rfl ?_
    refine ASL.q (v := (.list 3 (List.map TNode.av p0))) rfl rfl (Light.quiet (opMove rfl rfl)) ?_
    refine ASL.q (v := (.ptr b9 2)) rfl rfl (Light.quiet (opFieldAddr rfl fieldA_43_2 rfl rfl)) ?_
    refine ASL.q (v := (.int .i64 a16.b)) rfl rfl (Light.quiet (kAt hS (j := 1) rfl rfl aggA_3 rfl rfl)) ?_
    refine ASL.q (v := (.bool p2)) rfl rfl (Light.quiet (opMove rfl rfl)) ?_
    refine ASL.q (v := w9) rfl rfl (Light.quiet (opMove rfl rfl)) ?_
    obtain ⟨a131, ha131, hF⟩ := bindE hF
    refine ASL.x rfl rfl (hCallS hS [0, 1, 2] (F := [.cell b9 [(.int .i64 a16.kind), (.int .i64 a16.a), (.int .i64 a16.b)], .snap S]) rfl rfl rfl call_43 (ih_spec_l8Nnf ha131) rfl rfl ?_); rintro w12 _ G14 ⟨_, rfl, rfl⟩ hS
    refine ASL.q (v := w12) rfl rfl (Light.quiet (opAssign rfl rfl)) ?_
    refine ASL.done ?_
    refine AWP.seqR rfl ?_
    refine ASL.q (v := w12) rfl rfl (Light.quiet (opMove rfl rfl)) ?_
    refine ASL.q (v := (.int .i64 x10_1)) rfl rfl (Light.quiet (opMove rfl rfl)) ?_
    refine ASL.q (v := (.int .i64 (W (((a122.length : Int)) - 1)))) rfl rfl (Light.quiet (opMove rfl rfl)) ?_
    obtain ⟨a135, ha135, hF⟩ := bindE hF
    refine ASL.x rfl rfl (hCallS hS [0, 1, 2] (F := [.cell b9 [(.int .i64 a16.kind), (.int .i64 a16.a), (.int .i64 a16.b)], .snap S]) rfl rfl rfl call_37 (spec_l8Two_ok ha135) rfl rfl ?_); rintro w15 _ G17 ⟨_, rfl, rfl⟩ hS
    refine ASL.q (v := w15) rfl rfl (Light.quiet (opAssign rfl rfl)) ?_
    refine ASL.done ?_
    refine AWP.ret ?_
    obtain rfl := someE hF
    exact QRet.sole (v := w15) ⟨rfl, trivial⟩ ⟨_, ⟨w15, rfl, rfl⟩, hS.pick [0, 2] rfl rfl⟩
  · skip
    refine AWP.seqR rfl ?_
    refine ASL.q (v := (.ptr b9 0)) rfl rfl (Light.quiet (opFieldAddr rfl fieldA_43_0 rfl rfl)) ?_
    refine ASL.q (v := (.int .i64 a16.kind)) rfl rfl (Light.quiet (kAt hS (j := 0) rfl rfl aggA_3 rfl rfl)) ?_
    refine ASL.done ?_
    refine AWP.block ?_
    refine AWP.seqM (fun e H => ∃ x22_2 : Bool, E.Told e [(0, (.list 3 (List.map TNode.av p0))), (2, (.bool p2)), (3, vp3), (9, (.ptr b9 0)), (10, (.int .i64 a16.kind)), (21, (.int .i64 a16.kind)), (22, (.bool x22_2))] ∧ E.Sep H [.row 3 vp3 (List.map TNode.av p3), .cell b9 [(.int .i64 a16.kind), (.int .i64 a16.a), (.int .i64 a16.b)], .snap S] ∧ spec_l8Nnf.k1 p2 p3 a16 rec_spec_l8Nnf p0 x22_2 = some r) ?_ ?_
    · rintro e0 G71 ⟨x22_2, hT, hS, hF⟩; refine AWP.only _ hT ?_; unfold spec_l8Nnf.k1 at hF
      refine AWP.ifB hF rfl (fun hc19 hF => ?_) (fun hc19 hF => ?_)
      · skip
        refine AWP.seqM (fun e H => ∃ x10_3 : Int, E.Told e [(3, vp3), (10, (.int .i64 x10_3))] ∧ E.Sep H [.row 3 vp3 (List.map TNode.av p3), .snap S] ∧ spec_l8Nnf.k2 p3 x10_3 = some r) ?_ ?_
        · rintro e0 G22 ⟨x10_3, hT, hS, hF⟩; refine AWP.only _ hT ?_; unfold spec_l8Nnf.k2 at hF
          refine AWP.seqR rfl ?_
          refine ASL.q (v := vp3) rfl rfl (Light.quiet (opMove rfl rfl)) ?_
          refine ASL.q (v := (.int .i64 x10_3)) rfl rfl (Light.quiet (opMove rfl rfl)) ?_
          refine ASL.q (v := (.agg [(.int .i64 x10_3), (.int .i64 0), (.int .i64 0)])) rfl rfl (Light.quiet (opBuildZ (zs := [(.int .i64 0), (.int .i64 0), (.int .i64 0)]) rfl plan_43 zeroA_43 ⟨.inl rfl, .inl rfl, .inl rfl, trivial⟩ rfl)) ?_
          refine ASL.q (v := (.list 3 (List.map TNode.av [(TNode.mk x10_3 0 0)]))) rfl rfl ((qLit (xs := [(.agg [(.int .i64 x10_3), (.int .i64 0), (.int .i64 0)])]) rfl elemA_26 sizeA_43 zeroA_43 rfl rfl rfl rfl (by simp [cells, TNode.av]) (nlt rfl))) ?_
          obtain ⟨z32, hz32, hF⟩ := bindE hF
          refine ASL.x rfl rfl (hApp (f := TNode.av) (ws := [(TNode.mk x10_3 0 0)]) hS (j := 0) rfl hz32 rfl elemA_26 rfl sizeA_43 bytesA_43 zeroA_43 rfl rfl rfl (fun _ => rfl) ?_); rintro v32 G20 hS
          refine ASL.q (v := v32) rfl rfl (Light.quiet (opAssign rfl rfl)) ?_
          refine ASL.done ?_
          refine AWP.ret ?_
          refine QBlock.ret ?_
          refine QThen.rt ?_
          obtain rfl := someE hF
          exact QRet.sole (v := v32) ⟨rfl, trivial⟩ ⟨_, ⟨v32, rfl, rfl⟩, hS.pick [0, 1] rfl rfl⟩
        · skip
          refine AWP.seqR rfl ?_
          refine ASL.q (v := (.bool p2)) rfl rfl (Light.quiet (opMove rfl rfl)) ?_
          refine ASL.done ?_
          refine AWP.ifB hF rfl (fun hc23 hF => ?_) (fun hc23 hF => ?_)
          · skip
            refine AWP.lastR rfl ?_
            refine ASL.q (v := (.int .i64 a16.kind)) rfl rfl (Light.quiet (opMove rfl rfl)) ?_
            refine ASL.q (v := (.int .i64 (W (3 - a16.kind)))) rfl rfl (Light.quiet (opInt rfl rfl rfl rfl)) ?_
            refine ASL.q (v := (.int .i64 (W (3 - a16.kind)))) rfl rfl (Light.quiet (opAssign rfl rfl)) ?_
            refine ASL.done ?_
            refine QThen.nrm ?_
            exact ⟨(W (3 - a16.kind)), ⟨rfl, rfl, trivial⟩, (hS.pick [0, 2] rfl rfl), hF⟩
          · skip
            refine AWP.skip ?_
            refine QThen.nrm ?_
            exact ⟨a16.kind, ⟨rfl, rfl, trivial⟩, (hS.pick [0, 2] rfl rfl), hF⟩
      · skip
        refine AWP.seqR rfl ?_
        refine ASL.q (v := (.bool (decide (a16.kind = 3)))) rfl rfl (Light.quiet (opInt rfl rfl rfl rfl)) ?_
        refine ASL.q (v := (.bool (decide (a16.kind = 3)))) rfl rfl (Light.quiet (opAssign rfl rfl)) ?_
        refine ASL.done ?_
        refine AWP.ifP hF rfl (fun hc24 hF => ?_) (fun hc24 hF => ?_)
        · skip
          refine AWP.seqR rfl ?_
          refine ASL.q (v := vp3) rfl rfl (Light.quiet (opMove rfl rfl)) ?_
          refine ASL.q (v := (TNode.av a16)) rfl rfl (Light.quiet (kAtA hS (j := 1) rfl rfl aggA_43 sizeA_43 rfl (nlt rfl) rfl)) ?_
          refine ASL.q (v := (.list 3 (List.map TNode.av [a16]))) rfl rfl ((qLit (xs := [(TNode.av a16)]) rfl elemA_26 sizeA_43 zeroA_43 rfl rfl rfl rfl (by simp [cells, TNode.av]) (nlt rfl))) ?_
          obtain ⟨z38, hz38, hF⟩ := bindE hF
          refine ASL.x rfl rfl (hApp (f := TNode.av) (ws := [a16]) hS (j := 0) rfl hz38 rfl elemA_26 rfl sizeA_43 bytesA_43 zeroA_43 rfl rfl rfl (fun _ => rfl) ?_); rintro v38 G25 hS
          refine ASL.q (v := v38) rfl rfl (Light.quiet (opAssign rfl rfl)) ?_
          refine ASL.done ?_
          refine AWP.seq ?_
          refine AWP.seqR rfl ?_
          refine ASL.q (v := (.bool p2)) rfl rfl (Light.quiet (opMove rfl rfl)) ?_
          refine ASL.done ?_
          refine AWP.ifB hF rfl (fun hc27 hF => ?_) (fun hc27 hF => ?_)
          · skip
            refine AWP.lastR rfl ?_
            refine ASL.q (v := v38) rfl rfl (Light.quiet (opMove rfl rfl)) ?_
            refine ASL.q (v := v38) rfl rfl (Light.quiet (opMove rfl rfl)) ?_
            refine ASL.q (v := (.int .i64 (z38.length : Int))) rfl rfl (Light.quiet (kLen hS (j := 0) rfl rfl rfl rfl lenT_26 rfl)) ?_
            refine ASL.q (v := (.int .i64 (W (((z38.length : Int)) - 1)))) rfl rfl (Light.quiet (opInt rfl rfl rfl rfl)) ?_
            refine ASL.q (v := (.agg [(.int .i64 4), (.int .i64 (W (((z38.length : Int)) - 1))), (.int .i64 0)])) rfl rfl (Light.quiet (opBuildZ (zs := [(.int .i64 0), (.int .i64 0), (.int .i64 0)]) rfl plan_43 zeroA_43 ⟨.inl rfl, .inl rfl, .inl rfl, trivial⟩ rfl)) ?_
            refine ASL.q (v := (.list 3 (List.map TNode.av [(TNode.mk 4 ((W (((z38.length : Int)) - 1))) 0)]))) rfl rfl ((qLit (xs := [(.agg [(.int .i64 4), (.int .i64 (W (((z38.length : Int)) - 1))), (.int .i64 0)])]) rfl elemA_26 sizeA_43 zeroA_43 rfl rfl rfl rfl (by simp [cells, TNode.av]) (nlt rfl))) ?_
            obtain ⟨z46, hz46, hF⟩ := bindE hF
            refine ASL.x rfl rfl (hApp (f := TNode.av) (ws := [(TNode.mk 4 ((W (((z38.length : Int)) - 1))) 0)]) hS (j := 0) rfl hz46 rfl elemA_26 rfl sizeA_43 bytesA_43 zeroA_43 rfl rfl rfl (fun _ => rfl) ?_); rintro v46 G28 hS
            refine ASL.q (v := v46) rfl rfl (Light.quiet (opAssign rfl rfl)) ?_
            refine ASL.done ?_
            refine QThen.nrm ?_
            refine AWP.seqR rfl ?_
            refine ASL.q (v := v46) rfl rfl (Light.quiet (opMove rfl rfl)) ?_
            refine ASL.q (v := v46) rfl rfl (Light.quiet (opAssign rfl rfl)) ?_
            refine ASL.done ?_
            refine AWP.ret ?_
            refine QBlock.ret ?_
            refine QThen.rt ?_
            obtain rfl := someE hF
            exact QRet.sole (v := v46) ⟨rfl, trivial⟩ ⟨_, ⟨v46, rfl, rfl⟩, hS.pick [0, 2] rfl rfl⟩
          · skip
            refine AWP.skip ?_
            refine QThen.nrm ?_
            refine AWP.seqR rfl ?_
            refine ASL.q (v := v38) rfl rfl (Light.quiet (opMove rfl rfl)) ?_
            refine ASL.q (v := v38) rfl rfl (Light.quiet (opAssign rfl rfl)) ?_
            refine ASL.done ?_
            refine AWP.ret ?_
            refine QBlock.ret ?_
            refine QThen.rt ?_
            obtain rfl := someE hF
            exact QRet.sole (v := v38) ⟨rfl, trivial⟩ ⟨_, ⟨v38, rfl, rfl⟩, hS.pick [0, 2] rfl rfl⟩
        · skip
          refine AWP.seqR rfl ?_
          refine ASL.q (v := (.bool (decide (a16.kind = 4)))) rfl rfl (Light.quiet (opInt rfl rfl rfl rfl)) ?_
          refine ASL.q (v := (.bool (decide (a16.kind = 4)))) rfl rfl (Light.quiet (opAssign rfl rfl)) ?_
          refine ASL.done ?_
          refine AWP.ifP hF rfl (fun hc30 hF => ?_) (fun hc30 hF => ?_)
          · skip
            refine AWP.seqR rfl ?_
            refine ASL.q (v := (.list 3 (List.map TNode.av p0))) rfl rfl (Light.quiet (opMove rfl rfl)) ?_
            refine ASL.q (v := (.ptr b9 1)) rfl rfl (Light.quiet (opFieldAddr rfl fieldA_43_1 rfl rfl)) ?_
            refine ASL.q (v := (.int .i64 a16.a)) rfl rfl (Light.quiet (kAt hS (j := 1) rfl rfl aggA_3 rfl rfl)) ?_
            refine ASL.q (v := (.bool p2)) rfl rfl (Light.quiet (opMove rfl rfl)) ?_
            refine ASL.q (v := (.bool (!p2))) rfl rfl (Light.quiet (opNot rfl rfl)) ?_
            refine ASL.q (v := vp3) rfl rfl (Light.quiet (opMove rfl rfl)) ?_
            obtain ⟨a56, ha56, hF⟩ := bindE hF
            refine ASL.x rfl rfl (hCallS hS [0, 1, 2] (F := [.cell b9 [(.int .i64 a16.kind), (.int .i64 a16.a), (.int .i64 a16.b)], .snap S]) rfl rfl rfl call_43 (ih_spec_l8Nnf ha56) rfl rfl ?_); rintro w31 _ G33 ⟨_, rfl, rfl⟩ hS
            refine ASL.q (v := w31) rfl rfl (Light.quiet (opAssign rfl rfl)) ?_
            refine ASL.done ?_
            refine AWP.ret ?_
            refine QBlock.ret ?_
            refine QThen.rt ?_
            obtain rfl := someE hF
            exact QRet.sole (v := w31) ⟨rfl, trivial⟩ ⟨_, ⟨w31, rfl, rfl⟩, hS.pick [0, 2] rfl rfl⟩
          · skip
            refine AWP.seqR rfl ?_
            refine ASL.q (v := (.bool (decide (a16.kind = 7)))) rfl rfl (Light.quiet (opInt rfl rfl rfl rfl)) ?_
            refine ASL.q (v := (.bool (decide (a16.kind = 7)))) rfl rfl (Light.quiet (opAssign rfl rfl)) ?_
            refine ASL.done ?_
            refine AWP.ifP hF rfl (fun hc34 hF => ?_) (fun hc34 hF => ?_)
            · skip
              refine AWP.seqR rfl ?_
              refine ASL.q (v := (.list 3 (List.map TNode.av p0))) rfl rfl (Light.quiet (opMove rfl rfl)) ?_
              refine ASL.q (v := (.ptr b9 1)) rfl rfl (Light.quiet (opFieldAddr rfl fieldA_43_1 rfl rfl)) ?_
              refine ASL.q (v := (.int .i64 a16.a)) rfl rfl (Light.quiet (kAt hS (j := 1) rfl rfl aggA_3 rfl rfl)) ?_
              refine ASL.q (v := (.bool p2)) rfl rfl (Light.quiet (opMove rfl rfl)) ?_
              refine ASL.q (v := vp3) rfl rfl (Light.quiet (opMove rfl rfl)) ?_
              obtain ⟨a64, ha64, hF⟩ := bindE hF
              refine ASL.x rfl rfl (hCallS hS [0, 1, 2] (F := [.cell b9 [(.int .i64 a16.kind), (.int .i64 a16.a), (.int .i64 a16.b)], .snap S]) rfl rfl rfl call_43 (ih_spec_l8Nnf ha64) rfl rfl ?_); rintro w35 _ G37 ⟨_, rfl, rfl⟩ hS
              refine ASL.q (v := w35) rfl rfl (Light.quiet (opAssign rfl rfl)) ?_
              refine ASL.done ?_
              refine AWP.seqR rfl ?_
              refine ASL.q (v := w35) rfl rfl (Light.quiet (opMove rfl rfl)) ?_
              refine ASL.q (v := w35) rfl rfl (Light.quiet (opMove rfl rfl)) ?_
              refine ASL.q (v := (.int .i64 (a64.length : Int))) rfl rfl (Light.quiet (kLen hS (j := 0) rfl rfl rfl rfl lenT_26 rfl)) ?_
              refine ASL.q (v := (.int .i64 (W (((a64.length : Int)) - 1)))) rfl rfl (Light.quiet (opInt rfl rfl rfl rfl)) ?_
              refine ASL.q (v := (.agg [(.int .i64 7), (.int .i64 (W (((a64.length : Int)) - 1))), (.int .i64 0)])) rfl rfl (Light.quiet (opBuildZ (zs := [(.int .i64 0), (.int .i64 0), (.int .i64 0)]) rfl plan_43 zeroA_43 ⟨.inl rfl, .inl rfl, .inl rfl, trivial⟩ rfl)) ?_
              refine ASL.q (v := (.list 3 (List.map TNode.av [(TNode.mk 7 ((W (((a64.length : Int)) - 1))) 0)]))) rfl rfl ((qLit (xs := [(.agg [(.int .i64 7), (.int .i64 (W (((a64.length : Int)) - 1))), (.int .i64 0)])]) rfl elemA_26 sizeA_43 zeroA_43 rfl rfl rfl rfl (by simp [cells, TNode.av]) (nlt rfl))) ?_
              obtain ⟨z71, hz71, hF⟩ := bindE hF
              refine ASL.x rfl rfl (hApp (f := TNode.av) (ws := [(TNode.mk 7 ((W (((a64.length : Int)) - 1))) 0)]) hS (j := 0) rfl hz71 rfl elemA_26 rfl sizeA_43 bytesA_43 zeroA_43 rfl rfl rfl (fun _ => rfl) ?_); rintro v71 G38 hS
              refine ASL.q (v := v71) rfl rfl (Light.quiet (opAssign rfl rfl)) ?_
              refine ASL.done ?_
              refine AWP.ret ?_
              refine QBlock.ret ?_
              refine QThen.rt ?_
              obtain rfl := someE hF
              exact QRet.sole (v := v71) ⟨rfl, trivial⟩ ⟨_, ⟨v71, rfl, rfl⟩, hS.pick [0, 2] rfl rfl⟩
            · skip
              refine AWP.seqM (fun e H => ∃ x72_4 : Bool, E.Told e [(0, (.list 3 (List.map TNode.av p0))), (2, (.bool p2)), (3, vp3), (9, (.ptr b9 0)), (10, (.int .i64 a16.kind)), (21, (.int .i64 a16.kind)), (72, (.bool x72_4))] ∧ E.Sep H [.row 3 vp3 (List.map TNode.av p3), .cell b9 [(.int .i64 a16.kind), (.int .i64 a16.a), (.int .i64 a16.b)], .snap S] ∧ spec_l8Nnf.k3 a16 p2 p3 rec_spec_l8Nnf p0 x72_4 = some r) ?_ ?_
              · rintro e0 G69 ⟨x72_4, hT, hS, hF⟩; refine AWP.only _ hT ?_; unfold spec_l8Nnf.k3 at hF
                refine AWP.ifB hF rfl (fun hc40 hF => ?_) (fun hc40 hF => ?_)
                · skip
                  refine AWP.seqR rfl ?_
                  refine ASL.q (v := (.ptr b9 0)) rfl rfl (Light.quiet (opFieldAddr rfl fieldA_43_0 rfl rfl)) ?_
                  refine ASL.q (v := (.int .i64 a16.kind)) rfl rfl (Light.quiet (kAt hS (j := 1) rfl rfl aggA_3 rfl rfl)) ?_
                  refine ASL.q (v := (.bool (decide (a16.kind = 10)))) rfl rfl (Light.quiet (opInt rfl rfl rfl rfl)) ?_
                  refine ASL.q (v := (.bool p2)) rfl rfl (Light.quiet (opMove rfl rfl)) ?_
                  refine ASL.q (v := (.bool (!((decide (a16.kind = 10)) == p2)))) rfl rfl (Light.quiet (opBoolEq rfl rfl rfl und_4 rfl)) ?_
                  refine ASL.q (v := (.bool (!((decide (a16.kind = 10)) == p2)))) rfl rfl (Light.quiet (opAssign rfl rfl)) ?_
                  refine ASL.done ?_
                  refine AWP.seqM (fun e H => ∃ y41 : (List TNode), ∃ w42 : AV, E.Told e [(0, (.list 3 (List.map TNode.av p0))), (2, (.bool p2)), (3, w42), (9, (.ptr b9 0)), (11, (.bool (!((decide (a16.kind = 10)) == p2))))] ∧ E.Sep H [.row 3 w42 (List.map TNode.av y41), .cell b9 [(.int .i64 a16.kind), (.int .i64 a16.a), (.int .i64 a16.b)], .snap S] ∧ spec_l8Nnf.k4 rec_spec_l8Nnf p0 a16 p2 y41 = some r) ?_ ?_
                  · rintro e0 G54 ⟨y41, w42, hT, hS, hF⟩; refine AWP.only _ hT ?_; unfold spec_l8Nnf.k4 at hF
                    refine AWP.seqR rfl ?_
                    refine ASL.q (v := w42) rfl rfl (Light.quiet (opMove rfl rfl)) ?_
                    refine ASL.q (v := (.int .i64 (y41.length : Int))) rfl rfl (Light.quiet (kLen hS (j := 0) rfl rfl rfl rfl lenT_26 rfl)) ?_
                    refine ASL.q (v := (.int .i64 (W (((y41.length : Int)) - 1)))) rfl rfl (Light.quiet (opInt rfl rfl rfl rfl)) ?_
                    refine ASL.q (v := (.int .i64 (W (((y41.length : Int)) - 1)))) rfl rfl (Light.quiet (opAssign rfl rfl)) ?_
                    refine ASL.done ?_
                    refine AWP.seqR rfl ?_
                    refine ASL.q (v := (.list 3 (List.map TNode.av p0))) rfl rfl (Light.quiet (opMove rfl rfl)) ?_
                    refine ASL.q (v := (.ptr b9 1)) rfl rfl (Light.quiet (opFieldAddr rfl fieldA_43_1 rfl rfl)) ?_
                    refine ASL.q (v := (.int .i64 a16.a)) rfl rfl (Light.quiet (kAt hS (j := 1) rfl rfl aggA_3 rfl rfl)) ?_
                    refine ASL.q (v := (.bool p2)) rfl rfl (Light.quiet (opMove rfl rfl)) ?_
                    refine ASL.q (v := w42) rfl rfl (Light.quiet (opMove rfl rfl)) ?_
                    obtain ⟨a97, ha97, hF⟩ := bindE hF
                    refine ASL.x rfl rfl (hCallS hS [0, 1, 2] (F := [.cell b9 [(.int .i64 a16.kind), (.int .i64 a16.a), (.int .i64 a16.b)], .snap S]) rfl rfl rfl call_43 (ih_spec_l8Nnf ha97) rfl rfl ?_); rintro w44 _ G46 ⟨_, rfl, rfl⟩ hS
                    refine ASL.q (v := w44) rfl rfl (Light.quiet (opAssign rfl rfl)) ?_
                    refine ASL.done ?_
                    refine AWP.seq ?_
                    refine AWP.seqR rfl ?_
                    refine ASL.q (v := (.bool (!((decide (a16.kind = 10)) == p2)))) rfl rfl (Light.quiet (opMove rfl rfl)) ?_
                    refine ASL.done ?_
                    refine AWP.ifB hF rfl (fun hc47 hF => ?_) (fun hc47 hF => ?_)
                    · skip
                      refine AWP.seqR rfl ?_
                      refine ASL.q (v := w44) rfl rfl (Light.quiet (opMove rfl rfl)) ?_
                      refine ASL.q (v := (.int .i64 (W (((y41.length : Int)) - 1)))) rfl rfl (Light.quiet (opMove rfl rfl)) ?_
                      obtain ⟨a101, ha101, hF⟩ := bindE hF
                      refine ASL.x rfl rfl (hCallS hS [0, 1, 2] (F := [.cell b9 [(.int .i64 a16.kind), (.int .i64 a16.a), (.int .i64 a16.b)], .snap S]) rfl rfl rfl call_37 (spec_l8Two_ok ha101) rfl rfl ?_); rintro w48 _ G50 ⟨_, rfl, rfl⟩ hS
                      refine ASL.q (v := w48) rfl rfl (Light.quiet (opAssign rfl rfl)) ?_
                      refine ASL.done ?_
                      refine AWP.ret ?_
                      refine QThen.rt ?_
                      refine QBlock.ret ?_
                      refine QThen.rt ?_
                      obtain rfl := someE hF
                      exact QRet.sole (v := w48) ⟨rfl, trivial⟩ ⟨_, ⟨w48, rfl, rfl⟩, hS.pick [0, 2] rfl rfl⟩
                    · skip
                      refine AWP.skip ?_
                      refine QThen.nrm ?_
                      refine AWP.seqR rfl ?_
                      refine ASL.q (v := w44) rfl rfl (Light.quiet (opMove rfl rfl)) ?_
                      refine ASL.q (v := (.int .i64 (W (((y41.length : Int)) - 1)))) rfl rfl (Light.quiet (opMove rfl rfl)) ?_
                      obtain ⟨a104, ha104, hF⟩ := bindE hF
                      refine ASL.x rfl rfl (hCallS hS [0, 1, 2] (F := [.cell b9 [(.int .i64 a16.kind), (.int .i64 a16.a), (.int .i64 a16.b)], .snap S]) rfl rfl rfl call_37 (spec_l8Two_ok ha104) rfl rfl ?_); rintro w51 _ G53 ⟨_, rfl, rfl⟩ hS
                      refine ASL.q (v := w51) rfl rfl (Light.quiet (opAssign rfl rfl)) ?_
                      refine ASL.done ?_
                      refine AWP.ret ?_
                      refine QBlock.ret ?_
                      refine QThen.rt ?_
                      obtain rfl := someE hF
                      exact QRet.sole (v := w51) ⟨rfl, trivial⟩ ⟨_, ⟨w51, rfl, rfl⟩, hS.pick [0, 2] rfl rfl⟩
                  · skip
                    refine AWP.seqR rfl ?_
                    refine ASL.q (v := (.bool (!((decide (a16.kind = 10)) == p2)))) rfl rfl (Light.quiet (opMove rfl rfl)) ?_
                    refine ASL.done ?_
                    refine AWP.ifB hF rfl (fun hc55 hF => ?_) (fun hc55 hF => ?_)
                    · skip
                      refine AWP.lastR rfl ?_
                      refine ASL.q (v := vp3) rfl rfl (Light.quiet (opMove rfl rfl)) ?_
                      refine ASL.q (v := (.agg [(.int .i64 1), (.int .i64 0), (.int .i64 0)])) rfl rfl (Light.quiet (opBuildZ (zs := [(.int .i64 0), (.int .i64 0), (.int .i64 0)]) rfl plan_43 zeroA_43 ⟨.inl rfl, .inl rfl, .inl rfl, trivial⟩ rfl)) ?_
                      refine ASL.q (v := (.list 3 (List.map TNode.av [(TNode.mk 1 0 0)]))) rfl rfl ((qLit (xs := [(.agg [(.int .i64 1), (.int .i64 0), (.int .i64 0)])]) rfl elemA_26 sizeA_43 zeroA_43 rfl rfl rfl rfl (by simp [cells, TNode.av]) (nlt rfl))) ?_
                      obtain ⟨z84, hz84, hF⟩ := bindE hF
                      refine ASL.x rfl rfl (hApp (f := TNode.av) (ws := [(TNode.mk 1 0 0)]) hS (j := 0) rfl hz84 rfl elemA_26 rfl sizeA_43 bytesA_43 zeroA_43 rfl rfl rfl (fun _ => rfl) ?_); rintro v84 G56 hS
                      refine ASL.q (v := v84) rfl rfl (Light.quiet (opAssign rfl rfl)) ?_
                      refine ASL.done ?_
                      refine QThen.nrm ?_
                      exact ⟨z84, v84, ⟨rfl, rfl, rfl, rfl, rfl, trivial⟩, (hS.pick [0, 1, 2] rfl rfl), hF⟩
                    · skip
                      refine AWP.lastR rfl ?_
                      refine ASL.q (v := vp3) rfl rfl (Light.quiet (opMove rfl rfl)) ?_
                      refine ASL.q (v := (.agg [(.int .i64 2), (.int .i64 0), (.int .i64 0)])) rfl rfl (Light.quiet (opBuildZ (zs := [(.int .i64 0), (.int .i64 0), (.int .i64 0)]) rfl plan_43 zeroA_43 ⟨.inl rfl, .inl rfl, .inl rfl, trivial⟩ rfl)) ?_
                      refine ASL.q (v := (.list 3 (List.map TNode.av [(TNode.mk 2 0 0)]))) rfl rfl ((qLit (xs := [(.agg [(.int .i64 2), (.int .i64 0), (.int .i64 0)])]) rfl elemA_26 sizeA_43 zeroA_43 rfl rfl rfl rfl (by simp [cells, TNode.av]) (nlt rfl))) ?_
                      obtain ⟨z88, hz88, hF⟩ := bindE hF
                      refine ASL.x rfl rfl (hApp (f := TNode.av) (ws := [(TNode.mk 2 0 0)]) hS (j := 0) rfl hz88 rfl elemA_26 rfl sizeA_43 bytesA_43 zeroA_43 rfl rfl rfl (fun _ => rfl) ?_); rintro v88 G58 hS
                      refine ASL.q (v := v88) rfl rfl (Light.quiet (opAssign rfl rfl)) ?_
                      refine ASL.done ?_
                      refine QThen.nrm ?_
                      exact ⟨z88, v88, ⟨rfl, rfl, rfl, rfl, rfl, trivial⟩, (hS.pick [0, 1, 2] rfl rfl), hF⟩
                · skip
                  refine AWP.seqM (fun e H => ∃ x105_6 : Bool, E.Told e [(0, (.list 3 (List.map TNode.av p0))), (2, (.bool p2)), (3, vp3), (9, (.ptr b9 0)), (10, (.int .i64 a16.kind)), (21, (.int .i64 a16.kind)), (105, (.bool x105_6))] ∧ E.Sep H [.row 3 vp3 (List.map TNode.av p3), .cell b9 [(.int .i64 a16.kind), (.int .i64 a16.a), (.int .i64 a16.b)], .snap S] ∧ spec_l8Nnf.k5 p2 rec_spec_l8Nnf p0 a16 p3 x105_6 = some r) ?_ ?_
                  · rintro e0 G67 ⟨x105_6, hT, hS, hF⟩; refine AWP.only _ hT ?_; unfold spec_l8Nnf.k5 at hF
                    refine AWP.ifB hF rfl (fun hc60 hF => ?_) (fun hc60 hF => ?_)
                    · skip
                      refine AWP.seqR rfl ?_
                      refine ASL.q (v := (.bool p2)) rfl rfl (Light.quiet (opMove rfl rfl)) ?_
                      refine ASL.done ?_
                      refine AWP.ifB hF rfl (fun hc61 hF => ?_) (fun hc61 hF => ?_)
                      · skip
                        refine AWP.lastR rfl ?_
                        refine ASL.q (v := (.int .i64 a16.kind)) rfl rfl (Light.quiet (opMove rfl rfl)) ?_
                        refine ASL.q (v := (.int .i64 (W (11 - a16.kind)))) rfl rfl (Light.quiet (opInt rfl rfl rfl rfl)) ?_
                        refine ASL.q (v := (.int .i64 (W (11 - a16.kind)))) rfl rfl (Light.quiet (opAssign rfl rfl)) ?_
                        refine ASL.done ?_
                        refine QBlock.nrm ?_
                        refine QThen.nrm ?_
                        exact ⟨p3, (W (11 - a16.kind)), vp3, ⟨rfl, rfl, rfl, rfl, rfl, trivial⟩, (hS.pick [0, 1, 2] rfl rfl), hF⟩
                      · skip
                        refine AWP.skip ?_
                        refine QBlock.nrm ?_
                        refine QThen.nrm ?_
                        exact ⟨p3, a16.kind, vp3, ⟨rfl, rfl, rfl, rfl, rfl, trivial⟩, (hS.pick [0, 1, 2] rfl rfl), hF⟩
                    · skip
                      refine AWP.seq ?_
                      refine AWP.seqR rfl ?_
                      refine ASL.q (v := (.bool (decide (a16.kind = 8)))) rfl rfl (Light.quiet (opInt rfl rfl rfl rfl)) ?_
                      refine ASL.q (v := (.bool (decide (a16.kind = 8)))) rfl rfl (Light.quiet (opAssign rfl rfl)) ?_
                      refine ASL.done ?_
                      refine AWP.ifP hF rfl (fun hc62 hF => ?_) (fun hc62 hF => ?_)
                      · skip
                        refine AWP.skip ?_
                        refine QThen.nrm ?_
                        refine AWP.ifP hF rfl (fun hc63 hF => ?_) (fun hc63 hF => ?_)
                        · skip
                          refine AWP.seqR rfl ?_
                          refine ASL.q (v := (.bool p2)) rfl rfl (Light.quiet (opMove rfl rfl)) ?_
                          refine ASL.done ?_
                          refine AWP.ifB hF rfl (fun hc64 hF => ?_) (fun hc64 hF => ?_)
                          · skip
                            refine AWP.lastR rfl ?_
                            refine ASL.q (v := (.int .i64 a16.kind)) rfl rfl (Light.quiet (opMove rfl rfl)) ?_
                            refine ASL.q (v := (.int .i64 (W (17 - a16.kind)))) rfl rfl (Light.quiet (opInt rfl rfl rfl rfl)) ?_
                            refine ASL.q (v := (.int .i64 (W (17 - a16.kind)))) rfl rfl (Light.quiet (opAssign rfl rfl)) ?_
                            refine ASL.done ?_
                            refine QBlock.nrm ?_
                            refine QThen.nrm ?_
                            exact ⟨p3, (W (17 - a16.kind)), vp3, ⟨rfl, rfl, rfl, rfl, rfl, trivial⟩, (hS.pick [0, 1, 2] rfl rfl), hF⟩
                          · skip
                            refine AWP.skip ?_
                            refine QBlock.nrm ?_
                            refine QThen.nrm ?_
                            exact ⟨p3, a16.kind, vp3, ⟨rfl, rfl, rfl, rfl, rfl, trivial⟩, (hS.pick [0, 1, 2] rfl rfl), hF⟩
                        · skip
                          refine AWP.skip ?_
                          refine QBlock.nrm ?_
                          refine QThen.nrm ?_
                          exact ⟨p3, a16.kind, vp3, ⟨rfl, rfl, rfl, rfl, rfl, trivial⟩, (hS.pick [0, 1, 2] rfl rfl), hF⟩
                      · skip
                        refine AWP.lastR rfl ?_
                        refine ASL.q (v := (.bool (decide (a16.kind = 9)))) rfl rfl (Light.quiet (opInt rfl rfl rfl rfl)) ?_
                        refine ASL.q (v := (.bool (decide (a16.kind = 9)))) rfl rfl (Light.quiet (opAssign rfl rfl)) ?_
                        refine ASL.done ?_
                        refine QThen.nrm ?_
                        refine AWP.ifP hF rfl (fun hc65 hF => ?_) (fun hc65 hF => ?_)
                        · skip
                          refine AWP.seqR rfl ?_
                          refine ASL.q (v := (.bool p2)) rfl rfl (Light.quiet (opMove rfl rfl)) ?_
                          refine ASL.done ?_
                          refine AWP.ifB hF rfl (fun hc66 hF => ?_) (fun hc66 hF => ?_)
                          · skip
                            refine AWP.lastR rfl ?_
                            refine ASL.q (v := (.int .i64 a16.kind)) rfl rfl (Light.quiet (opMove rfl rfl)) ?_
                            refine ASL.q (v := (.int .i64 (W (17 - a16.kind)))) rfl rfl (Light.quiet (opInt rfl rfl rfl rfl)) ?_
                            refine ASL.q (v := (.int .i64 (W (17 - a16.kind)))) rfl rfl (Light.quiet (opAssign rfl rfl)) ?_
                            refine ASL.done ?_
                            refine QBlock.nrm ?_
                            refine QThen.nrm ?_
                            exact ⟨p3, (W (17 - a16.kind)), vp3, ⟨rfl, rfl, rfl, rfl, rfl, trivial⟩, (hS.pick [0, 1, 2] rfl rfl), hF⟩
                          · skip
                            refine AWP.skip ?_
                            refine QBlock.nrm ?_
                            refine QThen.nrm ?_
                            exact ⟨p3, a16.kind, vp3, ⟨rfl, rfl, rfl, rfl, rfl, trivial⟩, (hS.pick [0, 1, 2] rfl rfl), hF⟩
                        · skip
                          refine AWP.skip ?_
                          refine QBlock.nrm ?_
                          refine QThen.nrm ?_
                          exact ⟨p3, a16.kind, vp3, ⟨rfl, rfl, rfl, rfl, rfl, trivial⟩, (hS.pick [0, 1, 2] rfl rfl), hF⟩
                  · skip
                    refine AWP.seqR rfl ?_
                    refine ASL.q (v := (.bool (decide (a16.kind = 5)))) rfl rfl (Light.quiet (opInt rfl rfl rfl rfl)) ?_
                    refine ASL.q (v := (.bool (decide (a16.kind = 5)))) rfl rfl (Light.quiet (opAssign rfl rfl)) ?_
                    refine ASL.done ?_
                    refine AWP.ifP hF rfl (fun hc68 hF => ?_) (fun hc68 hF => ?_)
                    · skip
                      refine AWP.skip ?_
                      refine QThen.nrm ?_
                      exact ⟨(decide (a16.kind = 5)), ⟨rfl, rfl, rfl, rfl, rfl, rfl, rfl, trivial⟩, (hS.pick [0, 1, 2] rfl rfl), hF⟩
                    · skip
                      refine AWP.lastR rfl ?_
                      refine ASL.q (v := (.bool (decide (a16.kind = 6)))) rfl rfl (Light.quiet (opInt rfl rfl rfl rfl)) ?_
                      refine ASL.q (v := (.bool (decide (a16.kind = 6)))) rfl rfl (Light.quiet (opAssign rfl rfl)) ?_
                      refine ASL.done ?_
                      refine QThen.nrm ?_
                      exact ⟨(decide (a16.kind = 6)), ⟨rfl, rfl, rfl, rfl, rfl, rfl, rfl, trivial⟩, (hS.pick [0, 1, 2] rfl rfl), hF⟩
              · skip
                refine AWP.seqR rfl ?_
                refine ASL.q (v := (.bool (decide (a16.kind = 10)))) rfl rfl (Light.quiet (opInt rfl rfl rfl rfl)) ?_
                refine ASL.q (v := (.bool (decide (a16.kind = 10)))) rfl rfl (Light.quiet (opAssign rfl rfl)) ?_
                refine ASL.done ?_
                refine AWP.ifP hF rfl (fun hc70 hF => ?_) (fun hc70 hF => ?_)
                · skip
                  refine AWP.skip ?_
                  refine QThen.nrm ?_
                  exact ⟨(decide (a16.kind = 10)), ⟨rfl, rfl, rfl, rfl, rfl, rfl, rfl, trivial⟩, (hS.pick [0, 1, 2] rfl rfl), hF⟩
                · skip
                  refine AWP.lastR rfl ?_
                  refine ASL.q (v := (.bool (decide (a16.kind = 11)))) rfl rfl (Light.quiet (opInt rfl rfl rfl rfl)) ?_
                  refine ASL.q (v := (.bool (decide (a16.kind = 11)))) rfl rfl (Light.quiet (opAssign rfl rfl)) ?_
                  refine ASL.done ?_
                  refine QThen.nrm ?_
                  exact ⟨(decide (a16.kind = 11)), ⟨rfl, rfl, rfl, rfl, rfl, rfl, rfl, trivial⟩, (hS.pick [0, 1, 2] rfl rfl), hF⟩
    · skip
      refine AWP.seqR rfl ?_
      refine ASL.q (v := (.bool (decide (a16.kind = 1)))) rfl rfl (Light.quiet (opInt rfl rfl rfl rfl)) ?_
      refine ASL.q (v := (.bool (decide (a16.kind = 1)))) rfl rfl (Light.quiet (opAssign rfl rfl)) ?_
      refine ASL.done ?_
      refine AWP.ifP hF rfl (fun hc72 hF => ?_) (fun hc72 hF => ?_)
      · skip
        refine AWP.skip ?_
        refine QThen.nrm ?_
        exact ⟨(decide (a16.kind = 1)), ⟨rfl, rfl, rfl, rfl, rfl, rfl, rfl, trivial⟩, (hS.pick [2, 0, 3] rfl rfl), hF⟩
      · skip
        refine AWP.lastR rfl ?_
        refine ASL.q (v := (.bool (decide (a16.kind = 2)))) rfl rfl (Light.quiet (opInt rfl rfl rfl rfl)) ?_
        refine ASL.q (v := (.bool (decide (a16.kind = 2)))) rfl rfl (Light.quiet (opAssign rfl rfl)) ?_
        refine ASL.done ?_
        refine QThen.nrm ?_
        exact ⟨(decide (a16.kind = 2)), ⟨rfl, rfl, rfl, rfl, rfl, rfl, rfl, trivial⟩, (hS.pick [2, 0, 3] rfl rfl), hF⟩
theorem spec_l8Nnf_ok {K : Nat} : ∀ {p0 : (List TNode)} {p1 : Int} {p2 : Bool} {p3 : (List TNode)} {r : (List TNode)} {vp3 : AV} , spec_l8Nnf K p0 p1 p2 p3 = some r → HS Try.prog 43 [(.list 3 (List.map TNode.av p0)), (.int .i64 p1), (.bool p2), vp3] [.row 3 vp3 (List.map TNode.av p3)] fun v L' => ∃ o0 : AV, v = o0 ∧ L' = [.row 3 o0 (List.map TNode.av r)] := by
  induction K with
  | zero => intros; rename_i h; cases h
  | succ K ih => intros; rename_i h; exact spec_l8Nnf.body_ok ih h

set_option maxRecDepth 10000 in
theorem spec_LtlNnf_ok {K : Nat} {p0 : (List TNode)} {r : ((List TNode) × Bool)} (hF : spec_LtlNnf K p0 = some r) : PC Try.prog 24 [(.list 3 (List.map TNode.av p0))] fun v => v = .tup [(.list 3 (List.map TNode.av r.1)), (.bool r.2)] := by
  refine PC.enter Try.func24 rfl Try.ntmps24 (by simp) ?_
  have hS := Sep.void; unfold spec_LtlNnf at hF
  refine AWP.seqR rfl ?_
  refine ASL.q (v := (.list 3 (List.map TNode.av []))) rfl rfl (Light.quiet (opNilL rfl rfl)) ?_
  refine ASL.q (v := (.bool false)) rfl rfl (Light.quiet (opAssign rfl rfl)) ?_
  refine ASL.done ?_
  refine AWP.seq ?_
  refine AWP.seqR rfl ?_
  refine ASL.q (v := (.list 3 (List.map TNode.av p0))) rfl rfl (Light.quiet (opMove rfl rfl)) ?_
  obtain ⟨a6, ha6, hF⟩ := bindE hF
  refine ASL.q (v := (.bool a6)) rfl rfl ((qCall rfl rfl call_26 (spec_LtlOk_ok ha6) rfl)) ?_
  refine ASL.q (v := (.bool (!a6))) rfl rfl (Light.quiet (opNot rfl rfl)) ?_
  refine ASL.done ?_
  refine AWP.ifB hF rfl (fun hc1 hF => ?_) (fun hc1 hF => ?_)
  · skip
    refine AWP.seqR rfl ?_
    refine ASL.q (v := (.list 3 (List.map TNode.av []))) rfl rfl ((qLit (xs := []) rfl elemA_26 sizeA_43 zeroA_43 rfl rfl rfl rfl (by simp [cells, TNode.av]) (nlt rfl))) ?_
    refine ASL.q (v := (.list 3 (List.map TNode.av []))) rfl rfl (Light.quiet (opAssign rfl rfl)) ?_
    refine ASL.q (v := (.bool false)) rfl rfl (Light.quiet (opAssign rfl rfl)) ?_
    refine ASL.done ?_
    refine AWP.ret ?_
    refine QThen.rt ?_
    obtain rfl := someE hF
    exact QRet.many (vs := [(.list 3 (List.map TNode.av [])), (.bool false)]) ⟨rfl, rfl, trivial⟩ (by simp) rfl
  · skip
    refine AWP.skip ?_
    refine QThen.nrm ?_
    refine AWP.seqR rfl ?_
    refine ASL.q (v := (.list 3 (List.map TNode.av p0))) rfl rfl (Light.quiet (opMove rfl rfl)) ?_
    refine ASL.q (v := (.list 3 (List.map TNode.av p0))) rfl rfl (Light.quiet (opMove rfl rfl)) ?_
    refine ASL.q (v := (.int .i64 (p0.length : Int))) rfl rfl (Light.quiet (opLenMap (f := TNode.av) rfl rfl rfl lenT_26 rfl)) ?_
    refine ASL.q (v := (.int .i64 (W (((p0.length : Int)) - 1)))) rfl rfl (Light.quiet (opInt rfl rfl rfl rfl)) ?_
    refine ASL.x rfl rfl (hLit (f := TNode.av) (zs := []) hS rfl rfl elemA_26 sizeA_43 zeroA_43 rfl rfl rfl rfl (by simp [cells, TNode.av]) (nlt rfl) ?_); rintro v13 G2 hK hS
    obtain ⟨a14, ha14, hF⟩ := bindE hF
    refine ASL.x rfl rfl (hCallS hS [0] (F := []) rfl rfl rfl call_43 (spec_l8Nnf_ok ha14) rfl rfl ?_); rintro w4 _ G6 ⟨_, rfl, rfl⟩ hS
    refine ASL.q (v := w4) rfl rfl (Light.quiet (opAssign rfl rfl)) ?_
    refine ASL.done ?_
    refine AWP.seq ?_
    refine AWP.seqR rfl ?_
    refine ASL.q (v := w4) rfl rfl (Light.quiet (opMove rfl rfl)) ?_
    refine ASL.q (v := (.int .i64 (a14.length : Int))) rfl rfl (Light.quiet (kLen hS (j := 0) rfl rfl rfl rfl lenT_26 rfl)) ?_
    refine ASL.q (v := (.bool (decide (((a14.length : Int)) > 31)))) rfl rfl (Light.quiet (opInt rfl rfl rfl rfl)) ?_
    refine ASL.done ?_
    refine AWP.ifP hF rfl (fun hc7 hF => ?_) (fun hc7 hF => ?_)
    · skip
      refine AWP.seqR rfl ?_
      refine ASL.q (v := (.list 3 (List.map TNode.av []))) rfl rfl ((qLit (xs := []) rfl elemA_26 sizeA_43 zeroA_43 rfl rfl rfl rfl (by simp [cells, TNode.av]) (nlt rfl))) ?_
      refine ASL.q (v := (.list 3 (List.map TNode.av []))) rfl rfl (Light.quiet (opAssign rfl rfl)) ?_
      refine ASL.q (v := (.bool false)) rfl rfl (Light.quiet (opAssign rfl rfl)) ?_
      refine ASL.done ?_
      refine AWP.ret ?_
      refine QThen.rt ?_
      obtain rfl := someE hF
      exact QRet.many (vs := [(.list 3 (List.map TNode.av [])), (.bool false)]) ⟨rfl, rfl, trivial⟩ (by simp) rfl
    · skip
      refine AWP.skip ?_
      refine QThen.nrm ?_
      refine AWP.frz (L' := []) hS (k := 0) rfl [(4, (.list 3 (List.map TNode.av a14)))] ⟨.inr ⟨rfl, rfl⟩, trivial⟩ trivial (fun G8 hS => ?_)
      refine AWP.seqR rfl ?_
      refine ASL.q (v := (.list 3 (List.map TNode.av a14))) rfl rfl (Light.quiet (opMove rfl rfl)) ?_
      refine ASL.q (v := (.list 3 (List.map TNode.av a14))) rfl rfl (Light.quiet (opAssign rfl rfl)) ?_
      refine ASL.q (v := (.bool true)) rfl rfl (Light.quiet (opAssign rfl rfl)) ?_
      refine ASL.done ?_
      refine AWP.ret ?_
      obtain rfl := someE hF
      exact QRet.many (vs := [(.list 3 (List.map TNode.av a14)), (.bool true)]) ⟨rfl, rfl, trivial⟩ (by simp) rfl

set_option maxRecDepth 10000 in
theorem impl_contrary_ok (p0 : Int) : PC Try.prog 59 [(.int .i64 p0)] fun v => v = (.int .i64 (impl_contrary p0)) := by
  generalize hF : impl_contrary p0 = r
  refine PC.enter Try.func59 rfl Try.ntmps59 (by simp) ?_
  have hS := Sep.void; unfold impl_contrary at hF
  refine AWP.seqR rfl ?_
  refine ASL.q (v := (.int .i64 0)) rfl rfl (Light.quiet (opAssign rfl rfl)) ?_
  refine ASL.done ?_
  refine AWP.seq ?_
  refine AWP.seqR rfl ?_
  refine ASL.q (v := (.int .i64 p0)) rfl rfl (Light.quiet (opMove rfl rfl)) ?_
  refine ASL.done ?_
  refine AWP.block ?_
  refine AWP.seqR rfl ?_
  refine ASL.q (v := (.bool (decide (p0 = 1)))) rfl rfl (Light.quiet (opInt rfl rfl rfl rfl)) ?_
  refine ASL.q (v := (.bool (decide (p0 = 1)))) rfl rfl (Light.quiet (opAssign rfl rfl)) ?_
  refine ASL.done ?_
  refine AWP.ifP hF rfl (fun hc1 hF => ?_) (fun hc1 hF => ?_)
  · skip
    refine AWP.seqR rfl ?_
    refine ASL.q (v := (.int .i64 2)) rfl rfl (Light.quiet (opAssign rfl rfl)) ?_
    refine ASL.done ?_
    refine AWP.ret ?_
    refine QBlock.ret ?_
    refine QThen.rt ?_
    obtain rfl := hF
    exact QRet.sole (v := (.int .i64 2)) ⟨rfl, trivial⟩ rfl
  · skip
    refine AWP.seqR rfl ?_
    refine ASL.q (v := (.bool (decide (p0 = 2)))) rfl rfl (Light.quiet (opInt rfl rfl rfl rfl)) ?_
    refine ASL.q (v := (.bool (decide (p0 = 2)))) rfl rfl (Light.quiet (opAssign rfl rfl)) ?_
    refine ASL.done ?_
    refine AWP.ifP hF rfl (fun hc2 hF => ?_) (fun hc2 hF => ?_)
    · skip
      refine AWP.seqR rfl ?_
      refine ASL.q (v := (.int .i64 1)) rfl rfl (Light.quiet (opAssign rfl rfl)) ?_
      refine ASL.done ?_
      refine AWP.ret ?_
      refine QBlock.ret ?_
      refine QThen.rt ?_
      obtain rfl := hF
      exact QRet.sole (v := (.int .i64 1)) ⟨rfl, trivial⟩ rfl
    · skip
      refine AWP.seqR rfl ?_
      refine ASL.q (v := (.bool (decide (p0 = 5)))) rfl rfl (Light.quiet (opInt rfl rfl rfl rfl)) ?_
      refine ASL.q (v := (.bool (decide (p0 = 5)))) rfl rfl (Light.quiet (opAssign rfl rfl)) ?_
      refine ASL.done ?_
      refine AWP.ifP hF rfl (fun hc3 hF => ?_) (fun hc3 hF => ?_)
      · skip
        refine AWP.seqR rfl ?_
        refine ASL.q (v := (.int .i64 6)) rfl rfl (Light.quiet (opAssign rfl rfl)) ?_
        refine ASL.done ?_
        refine AWP.ret ?_
        refine QBlock.ret ?_
        refine QThen.rt ?_
        obtain rfl := hF
        exact QRet.sole (v := (.int .i64 6)) ⟨rfl, trivial⟩ rfl
      · skip
        refine AWP.seqR rfl ?_
        refine ASL.q (v := (.bool (decide (p0 = 6)))) rfl rfl (Light.quiet (opInt rfl rfl rfl rfl)) ?_
        refine ASL.q (v := (.bool (decide (p0 = 6)))) rfl rfl (Light.quiet (opAssign rfl rfl)) ?_
        refine ASL.done ?_
        refine AWP.ifP hF rfl (fun hc4 hF => ?_) (fun hc4 hF => ?_)
        · skip
          refine AWP.seqR rfl ?_
          refine ASL.q (v := (.int .i64 5)) rfl rfl (Light.quiet (opAssign rfl rfl)) ?_
          refine ASL.done ?_
          refine AWP.ret ?_
          refine QBlock.ret ?_
          refine QThen.rt ?_
          obtain rfl := hF
          exact QRet.sole (v := (.int .i64 5)) ⟨rfl, trivial⟩ rfl
        · skip
          refine AWP.seqR rfl ?_
          refine ASL.q (v := (.bool (decide (p0 = 8)))) rfl rfl (Light.quiet (opInt rfl rfl rfl rfl)) ?_
          refine ASL.q (v := (.bool (decide (p0 = 8)))) rfl rfl (Light.quiet (opAssign rfl rfl)) ?_
          refine ASL.done ?_
          refine AWP.ifP hF rfl (fun hc5 hF => ?_) (fun hc5 hF => ?_)
          · skip
            refine AWP.seqR rfl ?_
            refine ASL.q (v := (.int .i64 9)) rfl rfl (Light.quiet (opAssign rfl rfl)) ?_
            refine ASL.done ?_
            refine AWP.ret ?_
            refine QBlock.ret ?_
            refine QThen.rt ?_
            obtain rfl := hF
            exact QRet.sole (v := (.int .i64 9)) ⟨rfl, trivial⟩ rfl
          · skip
            refine AWP.seqR rfl ?_
            refine ASL.q (v := (.bool (decide (p0 = 9)))) rfl rfl (Light.quiet (opInt rfl rfl rfl rfl)) ?_
            refine ASL.q (v := (.bool (decide (p0 = 9)))) rfl rfl (Light.quiet (opAssign rfl rfl)) ?_
            refine ASL.done ?_
            refine AWP.ifP hF rfl (fun hc6 hF => ?_) (fun hc6 hF => ?_)
            · skip
              refine AWP.seqR rfl ?_
              refine ASL.q (v := (.int .i64 8)) rfl rfl (Light.quiet (opAssign rfl rfl)) ?_
              refine ASL.done ?_
              refine AWP.ret ?_
              refine QBlock.ret ?_
              refine QThen.rt ?_
              obtain rfl := hF
              exact QRet.sole (v := (.int .i64 8)) ⟨rfl, trivial⟩ rfl
            · skip
              refine AWP.seqR rfl ?_
              refine ASL.q (v := (.bool (decide (p0 = 10)))) rfl rfl (Light.quiet (opInt rfl rfl rfl rfl)) ?_
              refine ASL.q (v := (.bool (decide (p0 = 10)))) rfl rfl (Light.quiet (opAssign rfl rfl)) ?_
              refine ASL.done ?_
              refine AWP.ifP hF rfl (fun hc7 hF => ?_) (fun hc7 hF => ?_)
              · skip
                refine AWP.seqR rfl ?_
                refine ASL.q (v := (.int .i64 11)) rfl rfl (Light.quiet (opAssign rfl rfl)) ?_
                refine ASL.done ?_
                refine AWP.ret ?_
                refine QBlock.ret ?_
                refine QThen.rt ?_
                obtain rfl := hF
                exact QRet.sole (v := (.int .i64 11)) ⟨rfl, trivial⟩ rfl
              · skip
                refine AWP.seqR rfl ?_
                refine ASL.q (v := (.bool (decide (p0 = 11)))) rfl rfl (Light.quiet (opInt rfl rfl rfl rfl)) ?_
                refine ASL.q (v := (.bool (decide (p0 = 11)))) rfl rfl (Light.quiet (opAssign rfl rfl)) ?_
                refine ASL.done ?_
                refine AWP.ifP hF rfl (fun hc8 hF => ?_) (fun hc8 hF => ?_)
                · skip
                  refine AWP.seqR rfl ?_
                  refine ASL.q (v := (.int .i64 10)) rfl rfl (Light.quiet (opAssign rfl rfl)) ?_
                  refine ASL.done ?_
                  refine AWP.ret ?_
                  refine QBlock.ret ?_
                  refine QThen.rt ?_
                  obtain rfl := hF
                  exact QRet.sole (v := (.int .i64 10)) ⟨rfl, trivial⟩ rfl
                · skip
                  refine AWP.skip ?_
                  refine QBlock.nrm ?_
                  refine QThen.nrm ?_
                  refine AWP.seqR rfl ?_
                  refine ASL.q (v := (.int .i64 p0)) rfl rfl (Light.quiet (opMove rfl rfl)) ?_
                  refine ASL.q (v := (.int .i64 p0)) rfl rfl (Light.quiet (opAssign rfl rfl)) ?_
                  refine ASL.done ?_
                  refine AWP.ret ?_
                  obtain rfl := hF
                  exact QRet.sole (v := (.int .i64 p0)) ⟨rfl, trivial⟩ rfl

set_option maxRecDepth 10000 in
theorem impl_reader_nnf.body_ok {p0 : Treader} {p1 : (List TNode)} {p2 : Int} {p3 : Bool} {r : (Treader × (List TNode))} {bp0 : Nat} {wp0_list : AV} {vp1 : AV} {rec_impl_reader_nnf : Treader → (List TNode) → Int → Bool → Option (Treader × (List TNode))} {rec_impl_reader_second : Treader → Int → (List TNode) → Int → Bool → Option (Treader × (List TNode))} (ih_impl_reader_nnf : ∀ {p0 : Treader} {p1 : (List TNode)} {p2 : Int} {p3 : Bool} {r : (Treader × (List TNode))} {bp0 : Nat} {wp0_list : AV} {vp1 : AV} , rec_impl_reader_nnf p0 p1 p2 p3 = some r → HS Try.prog 44 [(.ptr bp0 0), vp1, (.int .i64 p2), (.bool p3)] [.cell bp0 [(.str p0.s), (.int .i64 p0.at_), (.int .i64 p0.code), wp0_list, .undef], .row 3 wp0_list (List.map TNode.av p0.list), .row 3 vp1 (List.map TNode.av p1)] fun v L' => ∃ up0_list : AV, v = .tup [] ∧ L' = [.cell bp0 [(.str r.1.s), (.int .i64 r.1.at_), (.int .i64 r.1.code), up0_list, .undef], .row 3 up0_list (List.map TNode.av r.1.list), .row 3 vp1 (List.map TNode.av r.2)]) (ih_impl_reader_second : ∀ {p0 : Treader} {p1 : Int} {p2 : (List TNode)} {p3 : Int} {p4 : Bool} {r : (Treader × (List TNode))} {bp0 : Nat} {wp0_list : AV} {vp2 : AV} , rec_impl_reader_second p0 p1 p2 p3 p4 = some r → HS Try.prog 62 [(.ptr bp0 0), (.int .i64 p1), vp2, (.int .i64 p3), (.bool p4)] [.cell bp0 [(.str p0.s), (.int .i64 p0.at_), (.int .i64 p0.code), wp0_list, .undef], .row 3 wp0_list (List.map TNode.av p0.list), .row 3 vp2 (List.map TNode.av p2)] fun v L' => ∃ up0_list : AV, v = .tup [] ∧ L' = [.cell bp0 [(.str r.1.s), (.int .i64 r.1.at_), (.int .i64 r.1.code), up0_list, .undef], .row 3 up0_list (List.map TNode.av r.1.list), .row 3 vp2 (List.map TNode.av r.2)]) (hF : impl_reader_nnf.body rec_impl_reader_nnf rec_impl_reader_second p0 p1 p2 p3 = some r) : HS Try.prog 44 [(.ptr bp0 0), vp1, (.int .i64 p2), (.bool p3)] [.cell bp0 [(.str p0.s), (.int .i64 p0.at_), (.int .i64 p0.code), wp0_list, .undef], .row 3 wp0_list (List.map TNode.av p0.list), .row 3 vp1 (List.map TNode.av p1)] fun v L' => ∃ up0_list : AV, v = .tup [] ∧ L' = [.cell bp0 [(.str r.1.s), (.int .i64 r.1.at_), (.int .i64 r.1.code), up0_list, .undef], .row 3 up0_list (List.map TNode.av r.1.list), .row 3 vp1 (List.map TNode.av r.2)] := by
  intro H S hS
  refine HC.enter Try.func44 rfl Try.ntmps44 (by simp) ?_
  simp only [List.cons_append, List.nil_append] at hS
  unfold impl_reader_nnf.body at hF
  refine AWP.seqR rfl ?_
  refine ASL.q (v := vp1) rfl rfl (Light.quiet (opMove rfl rfl)) ?_
  refine ASL.q (v := (.int .i64 p2)) rfl rfl (Light.quiet (opMove rfl rfl)) ?_
  obtain ⟨a12, ha12, hF⟩ := bindE hF
  refine ASL.q (v := (ptrTo vp1 p2.toNat 3)) rfl rfl (Light.quiet (kIxOx hS (j := 2) rfl ha12 rfl rfl rfl elemA_26 sizeA_43)) ?_
  refine ASL.q (v := (TNode.av a12)) rfl rfl (Light.quiet (kLdA hS (j := 2) rfl ha12 rfl aggA_43 sizeA_43 rfl rfl)) ?_
  refine ASL.x rfl rfl (hNewZ hS [(.int .i64 0), (.int .i64 0), (.int .i64 0)] rfl zeroA_43 ⟨.inl rfl, .inl rfl, .inl rfl, trivial⟩ ?_); rintro b8 G4 hK hS
  refine ASL.n rfl rfl (hPutA hS (j := 0) rfl rfl sizeA_43 rfl rfl rfl rfl rfl (nlt rfl) ?_); rintro G6 hS
  refine ASL.done ?_
  refine AWP.seqR rfl ?_
  refine ASL.q (v := (.ptr b8 0)) rfl rfl (Light.quiet (opFieldAddr rfl fieldA_43_0 rfl rfl)) ?_
  refine ASL.q (v := (.int .i64 a12.kind)) rfl rfl (Light.quiet (kAt hS (j := 0) rfl rfl aggA_3 rfl rfl)) ?_
  refine ASL.q (v := (.int .i64 a12.kind)) rfl rfl (Light.quiet (opAssign rfl rfl)) ?_
  refine ASL.done ?_
  refine AWP.seqM (fun e H => ∃ x9_1 : Int, E.Told e [(0, (.ptr bp0 0)), (1, vp1), (3, (.bool p3)), (8, (.ptr b8 0)), (9, (.int .i64 x9_1))] ∧ E.Sep H [.row 3 wp0_list (List.map TNode.av p0.list), .cell bp0 [(.str p0.s), (.int .i64 p0.at_), (.int .i64 p0.code), wp0_list, .undef], .row 3 vp1 (List.map TNode.av p1), .cell b8 [(.int .i64 a12.kind), (.int .i64 a12.a), (.int .i64 a12.b)], .snap S] ∧ impl_reader_nnf.k0 p0 p1 a12 p3 rec_impl_reader_nnf rec_impl_reader_second x9_1 = some r) ?_ ?_
  · rintro e0 G52 ⟨x9_1, hT, hS, hF⟩; refine AWP.only _ hT ?_; unfold impl_reader_nnf.k0 at hF
    refine AWP.seqR rfl ?_
    refine ASL.q (v := (.int .i64 x9_1)) rfl rfl (Light.quiet (opMove rfl rfl)) ?_
    refine ASL.done ?_
    refine AWP.block ?_
    refine AWP.seqM (fun e H => ∃ x33_2 : Bool, E.Told e [(0, (.ptr bp0 0)), (1, vp1), (3, (.bool p3)), (8, (.ptr b8 0)), (9, (.int .i64 x9_1)), (19, (.int .i64 x9_1)), (33, (.bool x33_2))] ∧ E.Sep H [.row 3 wp0_list (List.map TNode.av p0.list), .cell bp0 [(.str p0.s), (.int .i64 p0.at_), (.int .i64 p0.code), wp0_list, .undef], .row 3 vp1 (List.map TNode.av p1), .cell b8 [(.int .i64 a12.kind), (.int .i64 a12.a), (.int .i64 a12.b)], .snap S] ∧ impl_reader_nnf.k1 p0 x9_1 p1 a12 p3 rec_impl_reader_nnf rec_impl_reader_second x33_2 = some r) ?_ ?_
    · rintro e0 G50 ⟨x33_2, hT, hS, hF⟩; refine AWP.only _ hT ?_; unfold impl_reader_nnf.k1 at hF
      refine AWP.ifB hF rfl (fun hc7 hF => ?_) (fun hc7 hF => ?_)
      · skip
        refine AWP.lastR rfl ?_
        refine ASL.q (v := (.ptr bp0 0)) rfl rfl (Light.quiet (opMove rfl rfl)) ?_
        refine ASL.q (v := (.int .i64 x9_1)) rfl rfl (Light.quiet (opMove rfl rfl)) ?_
        obtain ⟨a38, ha38, hF⟩ := bindE hF
        refine ASL.x rfl rfl (hCallS hS [1, 0, 2, 3, 4] (F := [.row 3 vp1 (List.map TNode.av p1), .cell b8 [(.int .i64 a12.kind), (.int .i64 a12.a), (.int .i64 a12.b)], .snap S]) rfl rfl rfl call_60 (impl_reader_leaf_ok ha38) rfl rfl ?_); rintro _ _ G10 ⟨w8, rfl, rfl⟩ hS
        refine ASL.done ?_
        refine QBlock.nrm ?_
        refine QRet.end ?_
        obtain rfl := someE hF
        exact QRet.many (vs := []) trivial (by simp) ⟨_, ⟨w8, rfl, rfl⟩, hS.pick [0, 1, 2, 4] rfl rfl⟩
      · skip
        refine AWP.seqR rfl ?_
        refine ASL.q (v := (.bool (decide (x9_1 = 3)))) rfl rfl (Light.quiet (opInt rfl rfl rfl rfl)) ?_
        refine ASL.q (v := (.bool (decide (x9_1 = 3)))) rfl rfl (Light.quiet (opAssign rfl rfl)) ?_
        refine ASL.done ?_
        refine AWP.ifP hF rfl (fun hc11 hF => ?_) (fun hc11 hF => ?_)
        · skip
          refine AWP.seqR rfl ?_
          refine ASL.q (v := (.ptr bp0 0)) rfl rfl (Light.quiet (opMove rfl rfl)) ?_
          refine ASL.q (v := (.int .i64 x9_1)) rfl rfl (Light.quiet (opMove rfl rfl)) ?_
          refine ASL.q (v := (.ptr b8 1)) rfl rfl (Light.quiet (opFieldAddr rfl fieldA_43_1 rfl rfl)) ?_
          refine ASL.q (v := (.int .i64 a12.a)) rfl rfl (Light.quiet (kAt hS (j := 3) rfl rfl aggA_3 rfl rfl)) ?_
          obtain ⟨a45, ha45, hF⟩ := bindE hF
          refine ASL.x rfl rfl (hCallS hS [1, 0, 2, 3, 4] (F := [.row 3 vp1 (List.map TNode.av p1), .cell b8 [(.int .i64 a12.kind), (.int .i64 a12.a), (.int .i64 a12.b)], .snap S]) rfl rfl rfl call_60 (impl_reader_leaf_ok ha45) rfl rfl ?_); rintro _ _ G14 ⟨w12, rfl, rfl⟩ hS
          refine ASL.done ?_
          refine AWP.seqR rfl ?_
          refine ASL.q (v := (.bool p3)) rfl rfl (Light.quiet (opMove rfl rfl)) ?_
          refine ASL.done ?_
          refine AWP.ifB hF rfl (fun hc15 hF => ?_) (fun hc15 hF => ?_)
          · skip
            refine AWP.lastR rfl ?_
            refine ASL.q (v := (.ptr bp0 0)) rfl rfl (Light.quiet (opMove rfl rfl)) ?_
            obtain ⟨a48, ha48, hF⟩ := bindE hF
            refine ASL.x rfl rfl (hCallS hS [0, 1, 2, 3, 4] (F := [.row 3 vp1 (List.map TNode.av p1), .cell b8 [(.int .i64 a12.kind), (.int .i64 a12.a), (.int .i64 a12.b)], .snap S]) rfl rfl rfl call_61 (impl_reader_one_ok ha48) rfl rfl ?_); rintro _ _ G18 ⟨w16, rfl, rfl⟩ hS
            refine ASL.done ?_
            refine QBlock.nrm ?_
            refine QRet.end ?_
            obtain rfl := someE hF
            exact QRet.many (vs := []) trivial (by simp) ⟨_, ⟨w16, rfl, rfl⟩, hS.pick [0, 1, 2, 4] rfl rfl⟩
          · skip
            refine AWP.skip ?_
            refine QBlock.nrm ?_
            refine QRet.end ?_
            obtain rfl := someE hF
            exact QRet.many (vs := []) trivial (by simp) ⟨_, ⟨w12, rfl, rfl⟩, hS.pick [0, 1, 2, 4] rfl rfl⟩
        · skip
          refine AWP.seqR rfl ?_
          refine ASL.q (v := (.bool (decide (x9_1 = 4)))) rfl rfl (Light.quiet (opInt rfl rfl rfl rfl)) ?_
          refine ASL.q (v := (.bool (decide (x9_1 = 4)))) rfl rfl (Light.quiet (opAssign rfl rfl)) ?_
          refine ASL.done ?_
          refine AWP.ifP hF rfl (fun hc19 hF => ?_) (fun hc19 hF => ?_)
          · skip
            refine AWP.lastR rfl ?_
            refine ASL.q (v := (.ptr bp0 0)) rfl rfl (Light.quiet (opMove rfl rfl)) ?_
            refine ASL.q (v := vp1) rfl rfl (Light.quiet (opMove rfl rfl)) ?_
            refine ASL.q (v := (.ptr b8 1)) rfl rfl (Light.quiet (opFieldAddr rfl fieldA_43_1 rfl rfl)) ?_
            refine ASL.q (v := (.int .i64 a12.a)) rfl rfl (Light.quiet (kAt hS (j := 3) rfl rfl aggA_3 rfl rfl)) ?_
            refine ASL.q (v := (.bool p3)) rfl rfl (Light.quiet (opMove rfl rfl)) ?_
            refine ASL.q (v := (.bool (!p3))) rfl rfl (Light.quiet (opNot rfl rfl)) ?_
            obtain ⟨a57, ha57, hF⟩ := bindE hF
            refine ASL.x rfl rfl (hCallS hS [1, 0, 2, 3, 4] (F := [.cell b8 [(.int .i64 a12.kind), (.int .i64 a12.a), (.int .i64 a12.b)], .snap S]) rfl rfl rfl call_44 (ih_impl_reader_nnf ha57) rfl rfl ?_); rintro _ _ G22 ⟨w20, rfl, rfl⟩ hS
            refine ASL.done ?_
            refine QBlock.nrm ?_
            refine QRet.end ?_
            obtain rfl := someE hF
            exact QRet.many (vs := []) trivial (by simp) ⟨_, ⟨w20, rfl, rfl⟩, hS.pick [0, 1, 2, 4] rfl rfl⟩
          · skip
            refine AWP.seqR rfl ?_
            refine ASL.q (v := (.bool (decide (x9_1 = 7)))) rfl rfl (Light.quiet (opInt rfl rfl rfl rfl)) ?_
            refine ASL.q (v := (.bool (decide (x9_1 = 7)))) rfl rfl (Light.quiet (opAssign rfl rfl)) ?_
            refine ASL.done ?_
            refine AWP.ifP hF rfl (fun hc23 hF => ?_) (fun hc23 hF => ?_)
            · skip
              refine AWP.seqR rfl ?_
              refine ASL.q (v := (.ptr bp0 0)) rfl rfl (Light.quiet (opMove rfl rfl)) ?_
              refine ASL.q (v := vp1) rfl rfl (Light.quiet (opMove rfl rfl)) ?_
              refine ASL.q (v := (.ptr b8 1)) rfl rfl (Light.quiet (opFieldAddr rfl fieldA_43_1 rfl rfl)) ?_
              refine ASL.q (v := (.int .i64 a12.a)) rfl rfl (Light.quiet (kAt hS (j := 3) rfl rfl aggA_3 rfl rfl)) ?_
              refine ASL.q (v := (.bool p3)) rfl rfl (Light.quiet (opMove rfl rfl)) ?_
              obtain ⟨a65, ha65, hF⟩ := bindE hF
              refine ASL.x rfl rfl (hCallS hS [1, 0, 2, 3, 4] (F := [.cell b8 [(.int .i64 a12.kind), (.int .i64 a12.a), (.int .i64 a12.b)], .snap S]) rfl rfl rfl call_44 (ih_impl_reader_nnf ha65) rfl rfl ?_); rintro _ _ G26 ⟨w24, rfl, rfl⟩ hS
              refine ASL.done ?_
              refine AWP.lastR rfl ?_
              refine ASL.q (v := (.ptr bp0 0)) rfl rfl (Light.quiet (opMove rfl rfl)) ?_
              refine ASL.q (v := (.int .i64 x9_1)) rfl rfl (Light.quiet (opMove rfl rfl)) ?_
              obtain ⟨a68, ha68, hF⟩ := bindE hF
              refine ASL.x rfl rfl (hCallS hS [0, 1, 2, 3, 4] (F := [.row 3 vp1 (List.map TNode.av a65.2), .cell b8 [(.int .i64 a12.kind), (.int .i64 a12.a), (.int .i64 a12.b)], .snap S]) rfl rfl rfl call_61 (impl_reader_one_ok ha68) rfl rfl ?_); rintro _ _ G29 ⟨w27, rfl, rfl⟩ hS
              refine ASL.done ?_
              refine QBlock.nrm ?_
              refine QRet.end ?_
              obtain rfl := someE hF
              exact QRet.many (vs := []) trivial (by simp) ⟨_, ⟨w27, rfl, rfl⟩, hS.pick [0, 1, 2, 4] rfl rfl⟩
            · skip
              refine AWP.seqR rfl ?_
              refine ASL.q (v := (.bool (decide (x9_1 = 10)))) rfl rfl (Light.quiet (opInt rfl rfl rfl rfl)) ?_
              refine ASL.q (v := (.bool (decide (x9_1 = 10)))) rfl rfl (Light.quiet (opAssign rfl rfl)) ?_
              refine ASL.done ?_
              refine AWP.ifP hF rfl (fun hc30 hF => ?_) (fun hc30 hF => ?_)
              · skip
                refine AWP.seqR rfl ?_
                refine ASL.q (v := (.ptr bp0 0)) rfl rfl (Light.quiet (opMove rfl rfl)) ?_
                obtain ⟨a72, ha72, hF⟩ := bindE hF
                refine ASL.x rfl rfl (hCallS hS [1, 0, 2, 3, 4] (F := [.row 3 vp1 (List.map TNode.av p1), .cell b8 [(.int .i64 a12.kind), (.int .i64 a12.a), (.int .i64 a12.b)], .snap S]) rfl rfl rfl call_60 (impl_reader_leaf_ok ha72) rfl rfl ?_); rintro _ _ G33 ⟨w31, rfl, rfl⟩ hS
                refine ASL.done ?_
                refine AWP.lastR rfl ?_
                refine ASL.q (v := (.ptr bp0 0)) rfl rfl (Light.quiet (opMove rfl rfl)) ?_
                refine ASL.q (v := vp1) rfl rfl (Light.quiet (opMove rfl rfl)) ?_
                refine ASL.q (v := (.ptr b8 1)) rfl rfl (Light.quiet (opFieldAddr rfl fieldA_43_1 rfl rfl)) ?_
                refine ASL.q (v := (.int .i64 a12.a)) rfl rfl (Light.quiet (kAt hS (j := 3) rfl rfl aggA_3 rfl rfl)) ?_
                refine ASL.q (v := (.bool p3)) rfl rfl (Light.quiet (opMove rfl rfl)) ?_
                obtain ⟨a78, ha78, hF⟩ := bindE hF
                refine ASL.x rfl rfl (hCallS hS [0, 1, 2, 3, 4] (F := [.cell b8 [(.int .i64 a12.kind), (.int .i64 a12.a), (.int .i64 a12.b)], .snap S]) rfl rfl rfl call_62 (ih_impl_reader_second ha78) rfl rfl ?_); rintro _ _ G36 ⟨w34, rfl, rfl⟩ hS
                refine ASL.done ?_
                refine QBlock.nrm ?_
                refine QRet.end ?_
                obtain rfl := someE hF
                exact QRet.many (vs := []) trivial (by simp) ⟨_, ⟨w34, rfl, rfl⟩, hS.pick [0, 1, 2, 4] rfl rfl⟩
              · skip
                refine AWP.seqR rfl ?_
                refine ASL.q (v := (.bool (decide (x9_1 = 11)))) rfl rfl (Light.quiet (opInt rfl rfl rfl rfl)) ?_
                refine ASL.q (v := (.bool (decide (x9_1 = 11)))) rfl rfl (Light.quiet (opAssign rfl rfl)) ?_
                refine ASL.done ?_
                refine AWP.ifP hF rfl (fun hc37 hF => ?_) (fun hc37 hF => ?_)
                · skip
                  refine AWP.seqR rfl ?_
                  refine ASL.q (v := (.ptr bp0 0)) rfl rfl (Light.quiet (opMove rfl rfl)) ?_
                  obtain ⟨a82, ha82, hF⟩ := bindE hF
                  refine ASL.x rfl rfl (hCallS hS [1, 0, 2, 3, 4] (F := [.row 3 vp1 (List.map TNode.av p1), .cell b8 [(.int .i64 a12.kind), (.int .i64 a12.a), (.int .i64 a12.b)], .snap S]) rfl rfl rfl call_60 (impl_reader_leaf_ok ha82) rfl rfl ?_); rintro _ _ G40 ⟨w38, rfl, rfl⟩ hS
                  refine ASL.done ?_
                  refine AWP.lastR rfl ?_
                  refine ASL.q (v := (.ptr bp0 0)) rfl rfl (Light.quiet (opMove rfl rfl)) ?_
                  refine ASL.q (v := vp1) rfl rfl (Light.quiet (opMove rfl rfl)) ?_
                  refine ASL.q (v := (.ptr b8 1)) rfl rfl (Light.quiet (opFieldAddr rfl fieldA_43_1 rfl rfl)) ?_
                  refine ASL.q (v := (.int .i64 a12.a)) rfl rfl (Light.quiet (kAt hS (j := 3) rfl rfl aggA_3 rfl rfl)) ?_
                  refine ASL.q (v := (.bool p3)) rfl rfl (Light.quiet (opMove rfl rfl)) ?_
                  obtain ⟨a88, ha88, hF⟩ := bindE hF
                  refine ASL.x rfl rfl (hCallS hS [0, 1, 2, 3, 4] (F := [.cell b8 [(.int .i64 a12.kind), (.int .i64 a12.a), (.int .i64 a12.b)], .snap S]) rfl rfl rfl call_62 (ih_impl_reader_second ha88) rfl rfl ?_); rintro _ _ G43 ⟨w41, rfl, rfl⟩ hS
                  refine ASL.done ?_
                  refine QBlock.nrm ?_
                  refine QRet.end ?_
                  obtain rfl := someE hF
                  exact QRet.many (vs := []) trivial (by simp) ⟨_, ⟨w41, rfl, rfl⟩, hS.pick [0, 1, 2, 4] rfl rfl⟩
                · skip
                  refine AWP.seqR rfl ?_
                  refine ASL.q (v := (.ptr bp0 0)) rfl rfl (Light.quiet (opMove rfl rfl)) ?_
                  refine ASL.q (v := vp1) rfl rfl (Light.quiet (opMove rfl rfl)) ?_
                  refine ASL.q (v := (.ptr b8 1)) rfl rfl (Light.quiet (opFieldAddr rfl fieldA_43_1 rfl rfl)) ?_
                  refine ASL.q (v := (.int .i64 a12.a)) rfl rfl (Light.quiet (kAt hS (j := 3) rfl rfl aggA_3 rfl rfl)) ?_
                  refine ASL.q (v := (.bool p3)) rfl rfl (Light.quiet (opMove rfl rfl)) ?_
                  obtain ⟨a25, ha25, hF⟩ := bindE hF
                  refine ASL.x rfl rfl (hCallS hS [1, 0, 2, 3, 4] (F := [.cell b8 [(.int .i64 a12.kind), (.int .i64 a12.a), (.int .i64 a12.b)], .snap S]) rfl rfl rfl call_44 (ih_impl_reader_nnf ha25) rfl rfl ?_); rintro _ _ G46 ⟨w44, rfl, rfl⟩ hS
                  refine ASL.done ?_
                  refine AWP.lastR rfl ?_
                  refine ASL.q (v := (.ptr bp0 0)) rfl rfl (Light.quiet (opMove rfl rfl)) ?_
                  refine ASL.q (v := (.int .i64 x9_1)) rfl rfl (Light.quiet (opMove rfl rfl)) ?_
                  refine ASL.q (v := vp1) rfl rfl (Light.quiet (opMove rfl rfl)) ?_
                  refine ASL.q (v := (.ptr b8 2)) rfl rfl (Light.quiet (opFieldAddr rfl fieldA_43_2 rfl rfl)) ?_
                  refine ASL.q (v := (.int .i64 a12.b)) rfl rfl (Light.quiet (kAt hS (j := 3) rfl rfl aggA_3 rfl rfl)) ?_
                  refine ASL.q (v := (.bool p3)) rfl rfl (Light.quiet (opMove rfl rfl)) ?_
                  obtain ⟨a32, ha32, hF⟩ := bindE hF
                  refine ASL.x rfl rfl (hCallS hS [0, 1, 2, 3, 4] (F := [.cell b8 [(.int .i64 a12.kind), (.int .i64 a12.a), (.int .i64 a12.b)], .snap S]) rfl rfl rfl call_62 (ih_impl_reader_second ha32) rfl rfl ?_); rintro _ _ G49 ⟨w47, rfl, rfl⟩ hS
                  refine ASL.done ?_
                  refine QBlock.nrm ?_
                  refine QRet.end ?_
                  obtain rfl := someE hF
                  exact QRet.many (vs := []) trivial (by simp) ⟨_, ⟨w47, rfl, rfl⟩, hS.pick [0, 1, 2, 4] rfl rfl⟩
    · skip
      refine AWP.seqR rfl ?_
      refine ASL.q (v := (.bool (decide (x9_1 = 1)))) rfl rfl (Light.quiet (opInt rfl rfl rfl rfl)) ?_
      refine ASL.q (v := (.bool (decide (x9_1 = 1)))) rfl rfl (Light.quiet (opAssign rfl rfl)) ?_
      refine ASL.done ?_
      refine AWP.ifP hF rfl (fun hc51 hF => ?_) (fun hc51 hF => ?_)
      · skip
        refine AWP.skip ?_
        refine QThen.nrm ?_
        exact ⟨(decide (x9_1 = 1)), ⟨rfl, rfl, rfl, rfl, rfl, rfl, rfl, trivial⟩, (hS.pick [0, 1, 2, 3, 4] rfl rfl), hF⟩
      · skip
        refine AWP.lastR rfl ?_
        refine ASL.q (v := (.bool (decide (x9_1 = 2)))) rfl rfl (Light.quiet (opInt rfl rfl rfl rfl)) ?_
        refine ASL.q (v := (.bool (decide (x9_1 = 2)))) rfl rfl (Light.quiet (opAssign rfl rfl)) ?_
        refine ASL.done ?_
        refine QThen.nrm ?_
        exact ⟨(decide (x9_1 = 2)), ⟨rfl, rfl, rfl, rfl, rfl, rfl, rfl, trivial⟩, (hS.pick [0, 1, 2, 3, 4] rfl rfl), hF⟩
  · skip
    refine AWP.seqR rfl ?_
    refine ASL.q (v := (.bool p3)) rfl rfl (Light.quiet (opMove rfl rfl)) ?_
    refine ASL.done ?_
    refine AWP.ifB hF rfl (fun hc53 hF => ?_) (fun hc53 hF => ?_)
    · skip
      refine AWP.lastR rfl ?_
      refine ASL.q (v := (.int .i64 a12.kind)) rfl rfl (Light.quiet (opMove rfl rfl)) ?_
      refine ASL.q (v := (.int .i64 (impl_contrary a12.kind))) rfl rfl ((qCall rfl rfl call_59 (impl_contrary_ok a12.kind) rfl)) ?_
      refine ASL.q (v := (.int .i64 (impl_contrary a12.kind))) rfl rfl (Light.quiet (opAssign rfl rfl)) ?_
      refine ASL.done ?_
      refine QThen.nrm ?_
      exact ⟨(impl_contrary a12.kind), ⟨rfl, rfl, rfl, rfl, rfl, trivial⟩, (hS.pick [2, 1, 3, 0, 4] rfl rfl), hF⟩
    · skip
      refine AWP.skip ?_
      refine QThen.nrm ?_
      exact ⟨a12.kind, ⟨rfl, rfl, rfl, rfl, rfl, trivial⟩, (hS.pick [2, 1, 3, 0, 4] rfl rfl), hF⟩

set_option maxRecDepth 10000 in
theorem impl_reader_second.body_ok {p0 : Treader} {p1 : Int} {p2 : (List TNode)} {p3 : Int} {p4 : Bool} {r : (Treader × (List TNode))} {bp0 : Nat} {wp0_list : AV} {vp2 : AV} {rec_impl_reader_nnf : Treader → (List TNode) → Int → Bool → Option (Treader × (List TNode))} {rec_impl_reader_second : Treader → Int → (List TNode) → Int → Bool → Option (Treader × (List TNode))} (ih_impl_reader_nnf : ∀ {p0 : Treader} {p1 : (List TNode)} {p2 : Int} {p3 : Bool} {r : (Treader × (List TNode))} {bp0 : Nat} {wp0_list : AV} {vp1 : AV} , rec_impl_reader_nnf p0 p1 p2 p3 = some r → HS Try.prog 44 [(.ptr bp0 0), vp1, (.int .i64 p2), (.bool p3)] [.cell bp0 [(.str p0.s), (.int .i64 p0.at_), (.int .i64 p0.code), wp0_list, .undef], .row 3 wp0_list (List.map TNode.av p0.list), .row 3 vp1 (List.map TNode.av p1)] fun v L' => ∃ up0_list : AV, v = .tup [] ∧ L' = [.cell bp0 [(.str r.1.s), (.int .i64 r.1.at_), (.int .i64 r.1.code), up0_list, .undef], .row 3 up0_list (List.map TNode.av r.1.list), .row 3 vp1 (List.map TNode.av r.2)]) (ih_impl_reader_second : ∀ {p0 : Treader} {p1 : Int} {p2 : (List TNode)} {p3 : Int} {p4 : Bool} {r : (Treader × (List TNode))} {bp0 : Nat} {wp0_list : AV} {vp2 : AV} , rec_impl_reader_second p0 p1 p2 p3 p4 = some r → HS Try.prog 62 [(.ptr bp0 0), (.int .i64 p1), vp2, (.int .i64 p3), (.bool p4)] [.cell bp0 [(.str p0.s), (.int .i64 p0.at_), (.int .i64 p0.code), wp0_list, .undef], .row 3 wp0_list (List.map TNode.av p0.list), .row 3 vp2 (List.map TNode.av p2)] fun v L' => ∃ up0_list : AV, v = .tup [] ∧ L' = [.cell bp0 [(.str r.1.s), (.int .i64 r.1.at_), (.int .i64 r.1.code), up0_list, .undef], .row 3 up0_list (List.map TNode.av r.1.list), .row 3 vp2 (List.map TNode.av r.2)]) (hF : impl_reader_second.body rec_impl_reader_nnf rec_impl_reader_second p0 p1 p2 p3 p4 = some r) : HS Try.prog 62 [(.ptr bp0 0), (.int .i64 p1), vp2, (.int .i64 p3), (.bool p4)] [.cell bp0 [(.str p0.s), (.int .i64 p0.at_), (.int .i64 p0.code), wp0_list, .undef], .row 3 wp0_list (List.map TNode.av p0.list), .row 3 vp2 (List.map TNode.av p2)] fun v L' => ∃ up0_list : AV, v = .tup [] ∧ L' = [.cell bp0 [(.str r.1.s), (.int .i64 r.1.at_), (.int .i64 r.1.code), up0_list, .undef], .row 3 up0_list (List.map TNode.av r.1.list), .row 3 vp2 (List.map TNode.av r.2)] := by
  intro H S hS
  refine HC.enter Try.func62 rfl Try.ntmps62 (by simp) ?_
  simp only [List.cons_append, List.nil_append] at hS
  unfold impl_reader_second.body at hF
  refine AWP.seqR rfl ?_
  refine ASL.q (v := (.ptr bp0 0)) rfl rfl (Light.quiet (opMove rfl rfl)) ?_
  refine ASL.q (v := (.ptr bp0 0)) rfl rfl (Light.quiet (opNil rfl rfl rfl)) ?_
  refine ASL.q (v := (.ptr bp0 3)) rfl rfl (Light.quiet (opFieldAddr rfl fieldA_56_3 rfl rfl)) ?_
  refine ASL.q (v := wp0_list) rfl rfl (Light.quiet (kAt hS (j := 0) rfl rfl aggA_26 rfl rfl)) ?_
  refine ASL.q (v := (.int .i64 (p0.list.length : Int))) rfl rfl (Light.quiet (kLen hS (j := 1) rfl rfl rfl rfl lenT_26 rfl)) ?_
  refine ASL.q (v := (.int .i64 (W (((p0.list.length : Int)) - 1)))) rfl rfl (Light.quiet (opInt rfl rfl rfl rfl)) ?_
  refine ASL.q (v := (.int .i64 (W (((p0.list.length : Int)) - 1)))) rfl rfl (Light.quiet (opAssign rfl rfl)) ?_
  refine ASL.done ?_
  refine AWP.seqR rfl ?_
  refine ASL.q (v := (.ptr bp0 0)) rfl rfl (Light.quiet (opMove rfl rfl)) ?_
  refine ASL.q (v := vp2) rfl rfl (Light.quiet (opMove rfl rfl)) ?_
  refine ASL.q (v := (.int .i64 p3)) rfl rfl (Light.quiet (opMove rfl rfl)) ?_
  refine ASL.q (v := (.bool p4)) rfl rfl (Light.quiet (opMove rfl rfl)) ?_
  obtain ⟨a21, ha21, hF⟩ := bindE hF
  refine ASL.x rfl rfl (hCallS hS [0, 1, 2, 3] (F := [.snap S]) rfl rfl rfl call_44 (ih_impl_reader_nnf ha21) rfl rfl ?_); rintro _ _ G6 ⟨w4, rfl, rfl⟩ hS
  refine ASL.done ?_
  refine AWP.lastR rfl ?_
  refine ASL.q (v := (.ptr bp0 0)) rfl rfl (Light.quiet (opMove rfl rfl)) ?_
  refine ASL.q (v := (.int .i64 p1)) rfl rfl (Light.quiet (opMove rfl rfl)) ?_
  refine ASL.q (v := (.int .i64 (W (((p0.list.length : Int)) - 1)))) rfl rfl (Light.quiet (opMove rfl rfl)) ?_
  obtain ⟨a25, ha25, hF⟩ := bindE hF
  refine ASL.x rfl rfl (hCallS hS [0, 1, 2, 3] (F := [.row 3 vp2 (List.map TNode.av a21.2), .snap S]) rfl rfl rfl call_38 (impl_reader_two_ok ha25) rfl rfl ?_); rintro _ _ G9 ⟨w7, rfl, rfl⟩ hS
  refine ASL.done ?_
  refine QRet.end ?_
  obtain rfl := someE hF
  exact QRet.many (vs := []) trivial (by simp) ⟨_, ⟨w7, rfl, rfl⟩, hS.pick [0, 1, 2, 3] rfl rfl⟩
theorem impl_reader_nnf.grp_ok {K : Nat} : (∀ {p0 : Treader} {p1 : (List TNode)} {p2 : Int} {p3 : Bool} {r : (Treader × (List TNode))} {bp0 : Nat} {wp0_list : AV} {vp1 : AV} , impl_reader_nnf K p0 p1 p2 p3 = some r → HS Try.prog 44 [(.ptr bp0 0), vp1, (.int .i64 p2), (.bool p3)] [.cell bp0 [(.str p0.s), (.int .i64 p0.at_), (.int .i64 p0.code), wp0_list, .undef], .row 3 wp0_list (List.map TNode.av p0.list), .row 3 vp1 (List.map TNode.av p1)] fun v L' => ∃ up0_list : AV, v = .tup [] ∧ L' = [.cell bp0 [(.str r.1.s), (.int .i64 r.1.at_), (.int .i64 r.1.code), up0_list, .undef], .row 3 up0_list (List.map TNode.av r.1.list), .row 3 vp1 (List.map TNode.av r.2)]) ∧ (∀ {p0 : Treader} {p1 : Int} {p2 : (List TNode)} {p3 : Int} {p4 : Bool} {r : (Treader × (List TNode))} {bp0 : Nat} {wp0_list : AV} {vp2 : AV} , impl_reader_second K p0 p1 p2 p3 p4 = some r → HS Try.prog 62 [(.ptr bp0 0), (.int .i64 p1), vp2, (.int .i64 p3), (.bool p4)] [.cell bp0 [(.str p0.s), (.int .i64 p0.at_), (.int .i64 p0.code), wp0_list, .undef], .row 3 wp0_list (List.map TNode.av p0.list), .row 3 vp2 (List.map TNode.av p2)] fun v L' => ∃ up0_list : AV, v = .tup [] ∧ L' = [.cell bp0 [(.str r.1.s), (.int .i64 r.1.at_), (.int .i64 r.1.code), up0_list, .undef], .row 3 up0_list (List.map TNode.av r.1.list), .row 3 vp2 (List.map TNode.av r.2)]) := by
  induction K with
  | zero => exact ⟨(by intros; rename_i h; cases h), (by intros; rename_i h; cases h)⟩
  | succ K ih => exact ⟨(by intros; rename_i h; exact impl_reader_nnf.body_ok ih.1 ih.2 h), (by intros; rename_i h; exact impl_reader_second.body_ok ih.1 ih.2 h)⟩

theorem impl_reader_nnf_ok {K : Nat} : (∀ {p0 : Treader} {p1 : (List TNode)} {p2 : Int} {p3 : Bool} {r : (Treader × (List TNode))} {bp0 : Nat} {wp0_list : AV} {vp1 : AV} , impl_reader_nnf K p0 p1 p2 p3 = some r → HS Try.prog 44 [(.ptr bp0 0), vp1, (.int .i64 p2), (.bool p3)] [.cell bp0 [(.str p0.s), (.int .i64 p0.at_), (.int .i64 p0.code), wp0_list, .undef], .row 3 wp0_list (List.map TNode.av p0.list), .row 3 vp1 (List.map TNode.av p1)] fun v L' => ∃ up0_list : AV, v = .tup [] ∧ L' = [.cell bp0 [(.str r.1.s), (.int .i64 r.1.at_), (.int .i64 r.1.code), up0_list, .undef], .row 3 up0_list (List.map TNode.av r.1.list), .row 3 vp1 (List.map TNode.av r.2)]) := impl_reader_nnf.grp_ok.1

theorem impl_reader_second_ok {K : Nat} : (∀ {p0 : Treader} {p1 : Int} {p2 : (List TNode)} {p3 : Int} {p4 : Bool} {r : (Treader × (List TNode))} {bp0 : Nat} {wp0_list : AV} {vp2 : AV} , impl_reader_second K p0 p1 p2 p3 p4 = some r → HS Try.prog 62 [(.ptr bp0 0), (.int .i64 p1), vp2, (.int .i64 p3), (.bool p4)] [.cell bp0 [(.str p0.s), (.int .i64 p0.at_), (.int .i64 p0.code), wp0_list, .undef], .row 3 wp0_list (List.map TNode.av p0.list), .row 3 vp2 (List.map TNode.av p2)] fun v L' => ∃ up0_list : AV, v = .tup [] ∧ L' = [.cell bp0 [(.str r.1.s), (.int .i64 r.1.at_), (.int .i64 r.1.code), up0_list, .undef], .row 3 up0_list (List.map TNode.av r.1.list), .row 3 vp2 (List.map TNode.av r.2)]) := impl_reader_nnf.grp_ok.2

set_option maxRecDepth 10000 in
theorem impl_fitting_ok {p0 : (List TNode)} {r : ((List TNode) × Bool)} {vp0 : AV} (hF : impl_fitting p0 = some r) : HS Try.prog 39 [vp0] [.row 3 vp0 (List.map TNode.av p0)] fun v L' => ∃ o0 : AV, v = .tup [o0, (.bool r.2)] ∧ L' = [.row 3 o0 (List.map TNode.av r.1)] := by
  intro H S hS
  refine HC.enter Try.func39 rfl Try.ntmps39 (by simp) ?_
  simp only [List.cons_append, List.nil_append] at hS
  unfold impl_fitting at hF
  refine AWP.seqR rfl ?_
  have hS := hNil (s := 3) (f := TNode.av) hS
  refine ASL.q (v := .nil) rfl rfl (Light.quiet (opAssign rfl rfl)) ?_
  refine ASL.q (v := (.bool false)) rfl rfl (Light.quiet (opAssign rfl rfl)) ?_
  refine ASL.done ?_
  refine AWP.seq ?_
  refine AWP.seqR rfl ?_
  refine ASL.q (v := vp0) rfl rfl (Light.quiet (opMove rfl rfl)) ?_
  refine ASL.q (v := (.int .i64 (p0.length : Int))) rfl rfl (Light.quiet (kLen hS (j := 1) rfl rfl rfl rfl lenT_26 rfl)) ?_
  refine ASL.q (v := (.bool (decide (((p0.length : Int)) > 31)))) rfl rfl (Light.quiet (opInt rfl rfl rfl rfl)) ?_
  refine ASL.done ?_
  refine AWP.ifP hF rfl (fun hc3 hF => ?_) (fun hc3 hF => ?_)
  · skip
    refine AWP.seqR rfl ?_
    have hS := hNil (s := 3) (f := TNode.av) hS
    refine ASL.q (v := .nil) rfl rfl (Light.quiet (opAssign rfl rfl)) ?_
    refine ASL.q (v := (.bool false)) rfl rfl (Light.quiet (opAssign rfl rfl)) ?_
    refine ASL.done ?_
    refine AWP.ret ?_
    refine QThen.rt ?_
    obtain rfl := someE hF
    exact QRet.many (vs := [.nil, (.bool false)]) ⟨rfl, rfl, trivial⟩ (by simp) ⟨_, ⟨.nil, rfl, rfl⟩, hS.pick [0, 3] rfl rfl⟩
  · skip
    refine AWP.skip ?_
    refine QThen.nrm ?_
    refine AWP.seqR rfl ?_
    refine ASL.q (v := vp0) rfl rfl (Light.quiet (opMove rfl rfl)) ?_
    refine ASL.q (v := vp0) rfl rfl (Light.quiet (opAssign rfl rfl)) ?_
    refine ASL.q (v := (.bool true)) rfl rfl (Light.quiet (opAssign rfl rfl)) ?_
    refine ASL.done ?_
    refine AWP.ret ?_
    obtain rfl := someE hF
    exact QRet.many (vs := [vp0, (.bool true)]) ⟨rfl, rfl, trivial⟩ (by simp) ⟨_, ⟨vp0, rfl, rfl⟩, hS.pick [1, 2] rfl rfl⟩

set_option maxRecDepth 10000 in
theorem impl_LtlNnf_ok {K : Nat} {p0 : (List TNode)} {r : ((List TNode) × Bool × (List TNode))} {vp0 : AV} (hF : impl_LtlNnf K p0 = some r) : HS Try.prog 25 [vp0] [.row 3 vp0 (List.map TNode.av p0)] fun v L' => ∃ o0 : AV, v = .tup [o0, (.bool r.2.1)] ∧ L' = [.row 3 o0 (List.map TNode.av r.1), .row 3 vp0 (List.map TNode.av r.2.2)] := by
  intro H S hS
  refine HC.enter Try.func25 rfl Try.ntmps25 (by simp) ?_
  simp only [List.cons_append, List.nil_append] at hS
  unfold impl_LtlNnf at hF
  refine AWP.seqR rfl ?_
  have hS := hNil (s := 3) (f := TNode.av) hS
  refine ASL.q (v := .nil) rfl rfl (Light.quiet (opAssign rfl rfl)) ?_
  refine ASL.q (v := (.bool false)) rfl rfl (Light.quiet (opAssign rfl rfl)) ?_
  refine ASL.done ?_
  refine AWP.seq ?_
  refine AWP.seqR rfl ?_
  refine ASL.q (v := vp0) rfl rfl (Light.quiet (opMove rfl rfl)) ?_
  obtain ⟨a6, ha6, hF⟩ := bindE hF
  refine ASL.q (v := (.bool a6)) rfl rfl ((qCallR hS rfl rfl call_29 (impl_LtlOk_ok ha6) ⟨.row (k := 1) rfl, trivial⟩ (by constructor))) ?_
  refine ASL.q (v := (.bool (!a6))) rfl rfl (Light.quiet (opNot rfl rfl)) ?_
  refine ASL.done ?_
  refine AWP.ifB hF rfl (fun hc3 hF => ?_) (fun hc3 hF => ?_)
  · skip
    refine AWP.seqR rfl ?_
    have hS := hNil (s := 3) (f := TNode.av) hS
    refine ASL.q (v := .nil) rfl rfl (Light.quiet (opAssign rfl rfl)) ?_
    refine ASL.q (v := (.bool false)) rfl rfl (Light.quiet (opAssign rfl rfl)) ?_
    refine ASL.done ?_
    refine AWP.ret ?_
    refine QThen.rt ?_
    obtain rfl := someE hF
    exact QRet.many (vs := [.nil, (.bool false)]) ⟨rfl, rfl, trivial⟩ (by simp) ⟨_, ⟨.nil, rfl, rfl⟩, hS.pick [0, 2, 3] rfl rfl⟩
  · skip
    refine AWP.skip ?_
    refine QThen.nrm ?_
    refine AWP.seqR rfl ?_
    refine ASL.q (v := (.agg [(.str ⟨#[]⟩), (.int .i64 0), (.int .i64 0), .nil, .undef])) rfl rfl (Light.quiet (opBuildZ (zs := [(.str ⟨#[]⟩), (.int .i64 0), (.int .i64 0), .nil, .undef]) rfl plan_56 zeroA_56 ⟨.inl rfl, .inl rfl, .inl rfl, .inl rfl, .inl rfl, trivial⟩ rfl)) ?_
    have hS := hNil (s := 3) (f := TNode.av) hS
    refine ASL.x rfl rfl (hBox hS rfl rfl rfl ?_); rintro b9 G5 hK hS
    refine ASL.q (v := (.ptr b9 0)) rfl rfl (Light.quiet (opAssign rfl rfl)) ?_
    refine ASL.done ?_
    refine AWP.seqR rfl ?_
    refine ASL.q (v := (.ptr b9 0)) rfl rfl (Light.quiet (opMove rfl rfl)) ?_
    refine ASL.q (v := vp0) rfl rfl (Light.quiet (opMove rfl rfl)) ?_
    refine ASL.q (v := vp0) rfl rfl (Light.quiet (opMove rfl rfl)) ?_
    refine ASL.q (v := (.int .i64 (p0.length : Int))) rfl rfl (Light.quiet (kLen hS (j := 3) rfl rfl rfl rfl lenT_26 rfl)) ?_
    refine ASL.q (v := (.int .i64 (W (((p0.length : Int)) - 1)))) rfl rfl (Light.quiet (opInt rfl rfl rfl rfl)) ?_
    obtain ⟨a15, ha15, hF⟩ := bindE hF
    refine ASL.x rfl rfl (hCallS hS [0, 1, 3, 2, 4] (F := [.row 3 .nil (List.map TNode.av ([])), .snap S]) rfl rfl rfl call_44 (impl_reader_nnf_ok ha15) rfl rfl ?_); rintro _ _ G10 ⟨w8, rfl, rfl⟩ hS
    refine ASL.done ?_
    refine AWP.seqR rfl ?_
    refine ASL.q (v := (.ptr b9 0)) rfl rfl (Light.quiet (opMove rfl rfl)) ?_
    refine ASL.q (v := (.ptr b9 0)) rfl rfl (Light.quiet (opNil rfl rfl rfl)) ?_
    refine ASL.q (v := (.ptr b9 3)) rfl rfl (Light.quiet (opFieldAddr rfl fieldA_56_3 rfl rfl)) ?_
    refine ASL.q (v := w8) rfl rfl (Light.quiet (kAt hS (j := 0) rfl rfl aggA_26 rfl rfl)) ?_
    obtain ⟨a20, ha20, hF⟩ := bindE hF
    refine ASL.x rfl rfl (hCallS hS [1, 0, 2, 3, 4] (F := [.cell b9 [(.str a15.1.s), (.int .i64 a15.1.at_), (.int .i64 a15.1.code), w8, .undef], .row 3 vp0 (List.map TNode.av a15.2), .row 3 .nil (List.map TNode.av ([])), .snap S]) rfl rfl rfl call_39 (impl_fitting_ok ha20) rfl rfl ?_); rintro _ _ G13 ⟨w11, rfl, rfl⟩ hS
    refine ASL.q (v := w11) rfl rfl (Light.quiet (opExtract rfl rfl rfl)) ?_
    refine ASL.q (v := (.bool a20.2)) rfl rfl (Light.quiet (opExtract rfl rfl rfl)) ?_
    refine ASL.q (v := w11) rfl rfl (Light.quiet (opAssign rfl rfl)) ?_
    refine ASL.q (v := (.bool a20.2)) rfl rfl (Light.quiet (opAssign rfl rfl)) ?_
    refine ASL.done ?_
    refine AWP.ret ?_
    obtain rfl := someE hF
    exact QRet.many (vs := [w11, (.bool a20.2)]) ⟨rfl, rfl, trivial⟩ (by simp) ⟨_, ⟨w11, rfl, rfl⟩, hS.pick [0, 2, 4] rfl rfl⟩

set_option maxRecDepth 10000 in
theorem laws_FnExactLtlNnf_ok {K : Nat} {p0 : (List TNode)} {r : Bool} (hF : laws_FnExactLtlNnf K p0 = some r) : PC Try.prog 7 [(.list 3 (List.map TNode.av p0))] fun v => v = (.bool r) := by
  refine PC.enter Try.func7 rfl Try.ntmps7 (by simp) ?_
  have hS := Sep.void; unfold laws_FnExactLtlNnf at hF
  refine AWP.seqR rfl ?_
  refine ASL.q (v := (.bool false)) rfl rfl (Light.quiet (opAssign rfl rfl)) ?_
  refine ASL.done ?_
  refine AWP.seqR rfl ?_
  refine ASL.q (v := (.int .i64 1048576)) rfl rfl (Light.quiet (opAssign rfl rfl)) ?_
  refine ASL.done ?_
  refine AWP.seqR rfl ?_
  refine ASL.q (v := (.list 3 (List.map TNode.av p0))) rfl rfl (Light.quiet (opMove rfl rfl)) ?_
  refine ASL.q (v := (.int .i64 1048576)) rfl rfl (Light.quiet (opMove rfl rfl)) ?_
  refine ASL.q (v := (.int .i64 (laws_szNodeS p0 1048576))) rfl rfl ((qCall rfl rfl call_8 (laws_szNodeS_ok p0 1048576) rfl)) ?_
  refine ASL.q (v := (.int .i64 (laws_szNodeS p0 1048576))) rfl rfl (Light.quiet (opAssign rfl rfl)) ?_
  refine ASL.done ?_
  refine AWP.seq ?_
  refine AWP.seqR rfl ?_
  refine ASL.q (v := (.int .i64 (laws_szNodeS p0 1048576))) rfl rfl (Light.quiet (opMove rfl rfl)) ?_
  refine ASL.q (v := (.bool (decide (((laws_szNodeS p0 1048576)) < 0)))) rfl rfl (Light.quiet (opInt rfl rfl rfl rfl)) ?_
  refine ASL.done ?_
  refine AWP.ifP hF rfl (fun hc1 hF => ?_) (fun hc1 hF => ?_)
  · skip
    refine AWP.seqR rfl ?_
    refine ASL.q (v := (.bool true)) rfl rfl (Light.quiet (opAssign rfl rfl)) ?_
    refine ASL.done ?_
    refine AWP.ret ?_
    refine QThen.rt ?_
    obtain rfl := someE hF
    exact QRet.sole (v := (.bool true)) ⟨rfl, trivial⟩ rfl
  · skip
    refine AWP.skip ?_
    refine QThen.nrm ?_
    refine AWP.seqR rfl ?_
    refine ASL.q (v := (.list 3 (List.map TNode.av p0))) rfl rfl (Light.quiet (opMove rfl rfl)) ?_
    obtain ⟨a21, ha21, hF⟩ := bindE hF
    refine ASL.q (v := (.list 3 (List.map TNode.av a21))) rfl rfl ((qCall rfl rfl call_10 (PO.list (laws_toNodeS_ok ha21)) rfl)) ?_
    obtain ⟨a22, ha22, hF⟩ := bindE hF
    refine ASL.q (v := (.tup [(.list 3 (List.map TNode.av a22.1)), (.bool a22.2)])) rfl rfl ((qCall rfl rfl call_24 (spec_LtlNnf_ok ha22) rfl)) ?_
    refine ASL.q (v := (.tup [(.list 3 (List.map TNode.av a22.1)), (.bool a22.2)])) rfl rfl (Light.quiet (opMove rfl rfl)) ?_
    refine ASL.q (v := (.list 3 (List.map TNode.av a22.1))) rfl rfl (Light.quiet (opExtract rfl rfl rfl)) ?_
    refine ASL.q (v := (.bool a22.2)) rfl rfl (Light.quiet (opExtract rfl rfl rfl)) ?_
    refine ASL.q (v := (.list 3 (List.map TNode.av a22.1))) rfl rfl (Light.quiet (opAssign rfl rfl)) ?_
    refine ASL.q (v := (.bool a22.2)) rfl rfl (Light.quiet (opAssign rfl rfl)) ?_
    refine ASL.done ?_
    refine AWP.seqR rfl ?_
    refine ASL.q (v := (.list 3 (List.map TNode.av p0))) rfl rfl (Light.quiet (opMove rfl rfl)) ?_
    obtain ⟨a26, ha26, hF⟩ := bindE hF
    refine ASL.x rfl rfl (hCallO hS rfl rfl call_10 (laws_toNodeS_ok ha26) rfl ?_); rintro v26 G2 hK hS
    refine ASL.q (v := v26) rfl rfl (Light.quiet (opAssign rfl rfl)) ?_
    refine ASL.done ?_
    refine AWP.seqR rfl ?_
    refine ASL.q (v := v26) rfl rfl (Light.quiet (opMove rfl rfl)) ?_
    obtain ⟨a29, ha29, hF⟩ := bindE hF
    refine ASL.x rfl rfl (hCallS hS [0] (F := []) rfl rfl rfl call_25 (impl_LtlNnf_ok ha29) rfl rfl ?_); rintro _ _ G6 ⟨w4, rfl, rfl⟩ hS
    refine ASL.q (v := (.tup [w4, (.bool a29.2.1)])) rfl rfl (Light.quiet (opMove rfl rfl)) ?_
    refine ASL.q (v := w4) rfl rfl (Light.quiet (opExtract rfl rfl rfl)) ?_
    refine ASL.q (v := (.bool a29.2.1)) rfl rfl (Light.quiet (opExtract rfl rfl rfl)) ?_
    refine ASL.q (v := w4) rfl rfl (Light.quiet (opAssign rfl rfl)) ?_
    refine ASL.q (v := (.bool a29.2.1)) rfl rfl (Light.quiet (opAssign rfl rfl)) ?_
    refine ASL.done ?_
    refine AWP.seq ?_
    refine AWP.seqR rfl ?_
    refine ASL.q (v := w4) rfl rfl (Light.quiet (opMove rfl rfl)) ?_
    refine ASL.q (v := (.list 3 (List.map TNode.av a22.1))) rfl rfl (Light.quiet (opMove rfl rfl)) ?_
    obtain ⟨a34, ha34, hF⟩ := bindE hF
    refine ASL.q (v := (.bool a34)) rfl rfl ((qCallR hS rfl rfl call_13 (laws_eqNodeS_ok ha34) ⟨.row (k := 0) rfl, .same _, trivial⟩ (by constructor))) ?_
    refine ASL.q (v := (.bool (!a34))) rfl rfl (Light.quiet (opNot rfl rfl)) ?_
    obtain ⟨c36, hc36, hF⟩ := bndE hF
    refine ASL.q (v := (.bool c36)) rfl rfl ((Quiet.cast (Light.quiet (opMove rfl rfl)) (congrArg AV.bool hc36.symm))) ?_
    refine ASL.g (v := (.bool a29.2.1)) (.bool c36) false rfl (wF _) rfl (fun hG => by have q0 := gN hG; subst q0; exact Light.quiet (opMove rfl rfl)) ?_
    refine ASL.g (v := (.bool a22.2)) (.bool c36) false rfl (wF _) rfl (fun hG => by have q0 := gN hG; subst q0; exact Light.quiet (opMove rfl rfl)) ?_
    refine ASL.g (v := (.bool (!(a29.2.1 == a22.2)))) (.bool c36) false rfl (wF _) rfl (fun hG => by have q0 := gN hG; subst q0; exact Light.quiet (opBoolEq rfl rfl rfl und_4 rfl)) ?_
    refine ASL.q (v := (.bool (c36 || (!(a29.2.1 == a22.2))))) rfl rfl (Light.quiet (opPick (b := c36) rfl rfl (by cases c36 <;> rfl))) ?_
    refine ASL.done ?_
    refine AWP.ifB hF rfl (fun hc7 hF => ?_) (fun hc7 hF => ?_)
    · skip
      refine AWP.seqR rfl ?_
      refine ASL.q (v := (.bool false)) rfl rfl (Light.quiet (opAssign rfl rfl)) ?_
      refine ASL.done ?_
      refine AWP.ret ?_
      refine QThen.rt ?_
      obtain rfl := someE hF
      exact QRet.sole (v := (.bool false)) ⟨rfl, trivial⟩ rfl
    · skip
      refine AWP.skip ?_
      refine QThen.nrm ?_
      refine AWP.seq ?_
      refine AWP.seqR rfl ?_
      refine ASL.q (v := v26) rfl rfl (Light.quiet (opMove rfl rfl)) ?_
      refine ASL.q (v := (.list 3 (List.map TNode.av p0))) rfl rfl (Light.quiet (opMove rfl rfl)) ?_
      obtain ⟨a43, ha43, hF⟩ := bindE hF
      refine ASL.q (v := (.list 3 (List.map TNode.av a43))) rfl rfl ((qCall rfl rfl call_10 (PO.list (laws_toNodeS_ok ha43)) rfl)) ?_
      obtain ⟨a44, ha44, hF⟩ := bindE hF
      refine ASL.q (v := (.bool a44)) rfl rfl ((qCallR hS rfl rfl call_13 (laws_eqNodeS_ok ha44) ⟨.row (k := 1) rfl, .same _, trivial⟩ (by constructor))) ?_
      refine ASL.q (v := (.bool (!a44))) rfl rfl (Light.quiet (opNot rfl rfl)) ?_
      refine ASL.done ?_
      refine AWP.ifB hF rfl (fun hc8 hF => ?_) (fun hc8 hF => ?_)
      · skip
        refine AWP.seqR rfl ?_
        refine ASL.q (v := (.bool false)) rfl rfl (Light.quiet (opAssign rfl rfl)) ?_
        refine ASL.done ?_
        refine AWP.ret ?_
        refine QThen.rt ?_
        obtain rfl := someE hF
        exact QRet.sole (v := (.bool false)) ⟨rfl, trivial⟩ rfl
      · skip
        refine AWP.skip ?_
        refine QThen.nrm ?_
        refine AWP.seqR rfl ?_
        refine ASL.q (v := (.int .i64 1)) rfl rfl (Light.quiet (opAssign rfl rfl)) ?_
        refine ASL.done ?_
        refine AWP.seqR rfl ?_
        refine ASL.q (v := v26) rfl rfl (Light.quiet (opMove rfl rfl)) ?_
        refine ASL.q (v := (.int .i64 1)) rfl rfl (Light.quiet (opMove rfl rfl)) ?_
        obtain ⟨a48, ha48, hF⟩ := bindE hF
        refine ASL.x rfl rfl (hCallS hS [1, 0] (F := [.row 3 w4 (List.map TNode.av a29.1)]) rfl rfl rfl call_14 (laws_markNodeS_ok ha48) rfl rfl ?_); rintro _ _ G9 ⟨rfl, rfl⟩ hS
        refine ASL.q (v := (.int .i64 a48.1)) rfl rfl (Light.quiet (opAssign rfl rfl)) ?_
        refine ASL.done ?_
        refine AWP.seq ?_
        refine AWP.seqR rfl ?_
        refine ASL.q (v := (.int .i64 a48.1)) rfl rfl (Light.quiet (opMove rfl rfl)) ?_
        refine ASL.q (v := (.bool (decide (a48.1 < 0)))) rfl rfl (Light.quiet (opInt rfl rfl rfl rfl)) ?_
        obtain ⟨c51, hc51, hF⟩ := bndE hF
        refine ASL.q (v := (.bool c51)) rfl rfl ((Quiet.cast (Light.quiet (opMove rfl rfl)) (congrArg AV.bool hc51.symm))) ?_
        refine ASL.g (v := w4) (.bool c51) false rfl (wF _) rfl (fun hG => by have q0 := gN hG; subst q0; exact Light.quiet (opMove rfl rfl)) ?_
        refine ASL.g (v := (.list 3 (List.map TNode.av a22.1))) (.bool c51) false rfl (wF _) rfl (fun hG => by have q0 := gN hG; subst q0; exact Light.quiet (opMove rfl rfl)) ?_
        obtain ⟨a54, ha54, hF⟩ := bindE hF
        refine ASL.g (v := (.bool a54)) (.bool c51) false rfl (wF _) rfl (fun hG => by have q0 := gN hG; subst q0; exact (qCallR hS rfl rfl call_13 (laws_eqNodeS_ok (whenE ha54)) ⟨.row (k := 1) rfl, .same _, trivial⟩ (by constructor))) ?_
        refine ASL.g (v := (.bool (!a54))) (.bool c51) false rfl (wF _) rfl (fun hG => by have q0 := gN hG; subst q0; exact Light.quiet (opNot rfl rfl)) ?_
        refine ASL.q (v := (.bool (c51 || (!a54)))) rfl rfl (Light.quiet (opPick (b := c51) rfl rfl (by cases c51 <;> rfl))) ?_
        obtain ⟨c57, hc57, hF⟩ := bndE hF
        refine ASL.q (v := (.bool c57)) rfl rfl ((Quiet.cast (Light.quiet (opMove rfl rfl)) (congrArg AV.bool hc57.symm))) ?_
        refine ASL.g (v := (.bool a29.2.1)) (.bool c57) false rfl (wF _) rfl (fun hG => by have q0 := gN hG; subst q0; exact Light.quiet (opMove rfl rfl)) ?_
        refine ASL.g (v := (.bool a22.2)) (.bool c57) false rfl (wF _) rfl (fun hG => by have q0 := gN hG; subst q0; exact Light.quiet (opMove rfl rfl)) ?_
        refine ASL.g (v := (.bool (!(a29.2.1 == a22.2)))) (.bool c57) false rfl (wF _) rfl (fun hG => by have q0 := gN hG; subst q0; exact Light.quiet (opBoolEq rfl rfl rfl und_4 rfl)) ?_
        refine ASL.q (v := (.bool (c57 || (!(a29.2.1 == a22.2))))) rfl rfl (Light.quiet (opPick (b := c57) rfl rfl (by cases c57 <;> rfl))) ?_
        refine ASL.done ?_
        refine AWP.ifB hF rfl (fun hc10 hF => ?_) (fun hc10 hF => ?_)
        · skip
          refine AWP.seqR rfl ?_
          refine ASL.q (v := (.bool false)) rfl rfl (Light.quiet (opAssign rfl rfl)) ?_
          refine ASL.done ?_
          refine AWP.ret ?_
          refine QThen.rt ?_
          obtain rfl := someE hF
          exact QRet.sole (v := (.bool false)) ⟨rfl, trivial⟩ rfl
        · skip
          refine AWP.skip ?_
          refine QThen.nrm ?_
          refine AWP.seqR rfl ?_
          refine ASL.q (v := (.int .i64 1)) rfl rfl (Light.quiet (opAssign rfl rfl)) ?_
          refine ASL.done ?_
          refine AWP.seqR rfl ?_
          refine ASL.q (v := w4) rfl rfl (Light.quiet (opMove rfl rfl)) ?_
          refine ASL.q (v := (.int .i64 1)) rfl rfl (Light.quiet (opMove rfl rfl)) ?_
          obtain ⟨a64, ha64, hF⟩ := bindE hF
          refine ASL.x rfl rfl (hCallS hS [1, 0] (F := [.row 3 v26 (List.map TNode.av a48.2)]) rfl rfl rfl call_14 (laws_markNodeS_ok ha64) rfl rfl ?_); rintro _ _ G11 ⟨rfl, rfl⟩ hS
          refine ASL.q (v := (.int .i64 a64.1)) rfl rfl (Light.quiet (opAssign rfl rfl)) ?_
          refine ASL.done ?_
          refine AWP.seqR rfl ?_
          refine ASL.q (v := (.int .i64 1)) rfl rfl (Light.quiet (opAssign rfl rfl)) ?_
          refine ASL.done ?_
          refine AWP.seqR rfl ?_
          refine ASL.q (v := w4) rfl rfl (Light.quiet (opMove rfl rfl)) ?_
          refine ASL.q (v := (.int .i64 1)) rfl rfl (Light.quiet (opMove rfl rfl)) ?_
          obtain ⟨a67, ha67, hF⟩ := bindE hF
          refine ASL.q (v := (.int .i64 a67)) rfl rfl ((qCallR hS rfl rfl call_21 (laws_heldNodeS_ok ha67) ⟨.row (k := 0) rfl, .same _, trivial⟩ (by constructor))) ?_
          refine ASL.q (v := (.int .i64 a67)) rfl rfl (Light.quiet (opAssign rfl rfl)) ?_
          refine ASL.done ?_
          refine AWP.seq ?_
          refine AWP.seqR rfl ?_
          refine ASL.q (v := (.int .i64 a67)) rfl rfl (Light.quiet (opMove rfl rfl)) ?_
          refine ASL.q (v := (.bool (decide (a67 < 0)))) rfl rfl (Light.quiet (opInt rfl rfl rfl rfl)) ?_
          refine ASL.done ?_
          refine AWP.ifP hF rfl (fun hc12 hF => ?_) (fun hc12 hF => ?_)
          · skip
            refine AWP.seqR rfl ?_
            refine ASL.q (v := (.bool false)) rfl rfl (Light.quiet (opAssign rfl rfl)) ?_
            refine ASL.done ?_
            refine AWP.ret ?_
            refine QThen.rt ?_
            obtain rfl := someE hF
            exact QRet.sole (v := (.bool false)) ⟨rfl, trivial⟩ rfl
          · skip
            refine AWP.skip ?_
            refine QThen.nrm ?_
            refine AWP.seq ?_
            refine AWP.seqR rfl ?_
            refine ASL.q (v := (.int .i64 a67)) rfl rfl (Light.quiet (opMove rfl rfl)) ?_
            refine ASL.q (v := (.int .i64 a64.1)) rfl rfl (Light.quiet (opMove rfl rfl)) ?_
            refine ASL.q (v := (.bool (decide (a67 ≠ a64.1)))) rfl rfl (Light.quiet (opInt rfl rfl rfl rfl)) ?_
            refine ASL.done ?_
            refine AWP.ifP hF rfl (fun hc13 hF => ?_) (fun hc13 hF => ?_)
            · skip
              refine AWP.seqR rfl ?_
              refine ASL.q (v := (.bool false)) rfl rfl (Light.quiet (opAssign rfl rfl)) ?_
              refine ASL.done ?_
              refine AWP.ret ?_
              refine QThen.rt ?_
              obtain rfl := someE hF
              exact QRet.sole (v := (.bool false)) ⟨rfl, trivial⟩ rfl
            · skip
              refine AWP.skip ?_
              refine QThen.nrm ?_
              refine AWP.seqR rfl ?_
              refine ASL.q (v := (.list 3 (List.map TNode.av p0))) rfl rfl (Light.quiet (opMove rfl rfl)) ?_
              obtain ⟨a75, ha75, hF⟩ := bindE hF
              refine ASL.x rfl rfl (hCallO hS rfl rfl call_10 (laws_toNodeS_ok ha75) rfl ?_); rintro v75 G14 hK hS
              obtain ⟨a76, ha76, hF⟩ := bindE hF
              refine ASL.x rfl rfl (hCallS hS [0, 1, 2] (F := [.row 3 w4 (List.map TNode.av a64.2), .row 3 v26 (List.map TNode.av a48.2)]) rfl rfl rfl call_25 (impl_LtlNnf_ok ha76) rfl rfl ?_); rintro _ _ G18 ⟨w16, rfl, rfl⟩ hS
              refine ASL.q (v := (.tup [w16, (.bool a76.2.1)])) rfl rfl (Light.quiet (opMove rfl rfl)) ?_
              refine ASL.q (v := w16) rfl rfl (Light.quiet (opExtract rfl rfl rfl)) ?_
              refine ASL.q (v := (.bool a76.2.1)) rfl rfl (Light.quiet (opExtract rfl rfl rfl)) ?_
              refine ASL.q (v := w16) rfl rfl (Light.quiet (opAssign rfl rfl)) ?_
              refine ASL.q (v := (.bool a76.2.1)) rfl rfl (Light.quiet (opAssign rfl rfl)) ?_
              refine ASL.done ?_
              refine AWP.seq ?_
              refine AWP.seqR rfl ?_
              refine ASL.q (v := w16) rfl rfl (Light.quiet (opMove rfl rfl)) ?_
              refine ASL.q (v := (.list 3 (List.map TNode.av a22.1))) rfl rfl (Light.quiet (opMove rfl rfl)) ?_
              obtain ⟨a81, ha81, hF⟩ := bindE hF
              refine ASL.q (v := (.bool a81)) rfl rfl ((qCallR hS rfl rfl call_13 (laws_eqNodeS_ok ha81) ⟨.row (k := 0) rfl, .same _, trivial⟩ (by constructor))) ?_
              refine ASL.q (v := (.bool (!a81))) rfl rfl (Light.quiet (opNot rfl rfl)) ?_
              obtain ⟨c83, hc83, hF⟩ := bndE hF
              refine ASL.q (v := (.bool c83)) rfl rfl ((Quiet.cast (Light.quiet (opMove rfl rfl)) (congrArg AV.bool hc83.symm))) ?_
              refine ASL.g (v := (.bool a76.2.1)) (.bool c83) false rfl (wF _) rfl (fun hG => by have q0 := gN hG; subst q0; exact Light.quiet (opMove rfl rfl)) ?_
              refine ASL.g (v := (.bool a22.2)) (.bool c83) false rfl (wF _) rfl (fun hG => by have q0 := gN hG; subst q0; exact Light.quiet (opMove rfl rfl)) ?_
              refine ASL.g (v := (.bool (!(a76.2.1 == a22.2)))) (.bool c83) false rfl (wF _) rfl (fun hG => by have q0 := gN hG; subst q0; exact Light.quiet (opBoolEq rfl rfl rfl und_4 rfl)) ?_
              refine ASL.q (v := (.bool (c83 || (!(a76.2.1 == a22.2))))) rfl rfl (Light.quiet (opPick (b := c83) rfl rfl (by cases c83 <;> rfl))) ?_
              refine ASL.done ?_
              refine AWP.ifB hF rfl (fun hc19 hF => ?_) (fun hc19 hF => ?_)
              · skip
                refine AWP.seqR rfl ?_
                refine ASL.q (v := (.bool false)) rfl rfl (Light.quiet (opAssign rfl rfl)) ?_
                refine ASL.done ?_
                refine AWP.ret ?_
                refine QThen.rt ?_
                obtain rfl := someE hF
                exact QRet.sole (v := (.bool false)) ⟨rfl, trivial⟩ rfl
              · skip
                refine AWP.skip ?_
                refine QThen.nrm ?_
                refine AWP.seqR rfl ?_
                refine ASL.q (v := (.int .i64 1)) rfl rfl (Light.quiet (opAssign rfl rfl)) ?_
                refine ASL.done ?_
                refine AWP.seqR rfl ?_
                refine ASL.q (v := w4) rfl rfl (Light.quiet (opMove rfl rfl)) ?_
                refine ASL.q (v := (.int .i64 1)) rfl rfl (Light.quiet (opMove rfl rfl)) ?_
                obtain ⟨a90, ha90, hF⟩ := bindE hF
                refine ASL.q (v := (.int .i64 a90)) rfl rfl ((qCallR hS rfl rfl call_21 (laws_heldNodeS_ok ha90) ⟨.row (k := 2) rfl, .same _, trivial⟩ (by constructor))) ?_
                refine ASL.q (v := (.int .i64 a90)) rfl rfl (Light.quiet (opAssign rfl rfl)) ?_
                refine ASL.done ?_
                refine AWP.seq ?_
                refine AWP.seqR rfl ?_
                refine ASL.q (v := (.int .i64 a90)) rfl rfl (Light.quiet (opMove rfl rfl)) ?_
                refine ASL.q (v := (.bool (decide (a90 < 0)))) rfl rfl (Light.quiet (opInt rfl rfl rfl rfl)) ?_
                refine ASL.done ?_
                refine AWP.ifP hF rfl (fun hc20 hF => ?_) (fun hc20 hF => ?_)
                · skip
                  refine AWP.seqR rfl ?_
                  refine ASL.q (v := (.bool false)) rfl rfl (Light.quiet (opAssign rfl rfl)) ?_
                  refine ASL.done ?_
                  refine AWP.ret ?_
                  refine QThen.rt ?_
                  obtain rfl := someE hF
                  exact QRet.sole (v := (.bool false)) ⟨rfl, trivial⟩ rfl
                · skip
                  refine AWP.skip ?_
                  refine QThen.nrm ?_
                  refine AWP.seq ?_
                  refine AWP.seqR rfl ?_
                  refine ASL.q (v := (.int .i64 a90)) rfl rfl (Light.quiet (opMove rfl rfl)) ?_
                  refine ASL.q (v := (.int .i64 a64.1)) rfl rfl (Light.quiet (opMove rfl rfl)) ?_
                  refine ASL.q (v := (.bool (decide (a90 ≠ a64.1)))) rfl rfl (Light.quiet (opInt rfl rfl rfl rfl)) ?_
                  refine ASL.done ?_
                  refine AWP.ifP hF rfl (fun hc21 hF => ?_) (fun hc21 hF => ?_)
                  · skip
                    refine AWP.seqR rfl ?_
                    refine ASL.q (v := (.bool false)) rfl rfl (Light.quiet (opAssign rfl rfl)) ?_
                    refine ASL.done ?_
                    refine AWP.ret ?_
                    refine QThen.rt ?_
                    obtain rfl := someE hF
                    exact QRet.sole (v := (.bool false)) ⟨rfl, trivial⟩ rfl
                  · skip
                    refine AWP.skip ?_
                    refine QThen.nrm ?_
                    refine AWP.seqR rfl ?_
                    refine ASL.q (v := (.bool true)) rfl rfl (Light.quiet (opAssign rfl rfl)) ?_
                    refine ASL.done ?_
                    refine AWP.ret ?_
                    obtain rfl := someE hF
                    exact QRet.sole (v := (.bool true)) ⟨rfl, trivial⟩ rfl

end Go.Proofs.Ytgklefbkneomoaa
