/- Each of these functions of the program comes to just what its plain function says: FnReParts. -/
import Derived.Test.YtmmgpcnngaekoaaKRePartsp0
namespace Go.Proofs.Ytmmgpcnngaekoaa
open Go Go.RowKit E
set_option linter.unusedVariables false
set_option maxRecDepth 10000 in
theorem spec_l11Spans_ok {p0 : (List TNode)} {p1 : (List Int)} {r : (List (List Bool))} (hF : spec_l11Spans p0 p1 = some r) : PO Try.prog 41 [(.list 3 (List.map TNode.av p0)), (.list 1 (List.map (AV.int .i64) p1))] 1 (List.map (fun xs : (List Bool) => AV.list 1 (List.map AV.bool xs)) r) := by
  refine HC.enter Try.func41 rfl Try.ntmps41 (by simp) ?_
  have hS := Sep.void; unfold spec_l11Spans at hF
  refine AWP.seqR rfl ?_
  have hS := hNil (s := 1) (f := (fun xs : (List Bool) => AV.list 1 (List.map AV.bool xs))) hS
  refine ASL.q (v := .nil) rfl rfl (Light.quiet (opAssign rfl rfl)) ?_
  refine ASL.done ?_
  refine AWP.seqR rfl ?_
  refine ASL.q (v := (.list 1 (List.map (AV.int .i64) p1))) rfl rfl (Light.quiet (opMove rfl rfl)) ?_
  refine ASL.q (v := (.int .i64 (p1.length : Int))) rfl rfl (Light.quiet (opLenMap (f := (AV.int .i64)) rfl rfl rfl lenT_25 rfl)) ?_
  refine ASL.q (v := (.int .i64 (W (((p1.length : Int)) + 1)))) rfl rfl (Light.quiet (opInt rfl rfl rfl rfl)) ?_
  refine ASL.q (v := (.int .i64 (W (((p1.length : Int)) + 1)))) rfl rfl (Light.quiet (opAssign rfl rfl)) ?_
  refine ASL.done ?_
  refine AWP.seqR rfl ?_
  refine ASL.x rfl rfl (hLit (f := (fun xs : (List Bool) => AV.list 1 (List.map AV.bool xs))) (zs := []) hS rfl rfl elemA_59 sizeA_58 zeroA_58 rfl rfl rfl rfl (by simp [cells]) (nlt rfl) ?_); rintro v16 G2 hK hS
  refine ASL.q (v := v16) rfl rfl (Light.quiet (opAssign rfl rfl)) ?_
  refine ASL.done ?_
  refine AWP.seqM (fun e H => ∃ y4 : (List (List Bool)), ∃ w5 : AV, E.Told e [(6, w5)] ∧ E.Sep H [.row 1 w5 (List.map (fun xs : (List Bool) => AV.list 1 (List.map AV.bool xs)) y4)] ∧ spec_l11Spans.k0 y4 = some r) ?_ ?_
  · rintro e0 G7 ⟨y4, w5, hT, hS, hF⟩; refine AWP.only _ hT ?_; unfold spec_l11Spans.k0 at hF
    refine AWP.seqR rfl ?_
    refine ASL.q (v := w5) rfl rfl (Light.quiet (opMove rfl rfl)) ?_
    refine ASL.q (v := w5) rfl rfl (Light.quiet (opAssign rfl rfl)) ?_
    refine ASL.done ?_
    refine AWP.ret ?_
    obtain rfl := someE hF
    exact QRet.sole (v := w5) ⟨rfl, trivial⟩ (hS.get (k := 0) rfl)
  · skip
    refine AWP.seqR rfl ?_
    refine ASL.q (v := (.int .i64 0)) rfl rfl (Light.quiet (opAssign rfl rfl)) ?_
    refine ASL.done ?_
    refine AWP.block ?_
    obtain ⟨o14, hL13, hR15⟩ := bindE hF
    refine AWP.loopF (ω := AV) hL13 (fun s w => [(0, (.list 3 (List.map TNode.av p0))), (1, (.list 1 (List.map (AV.int .i64) p1))), (5, (.int .i64 (W (((p1.length : Int)) + 1)))), (6, w), (7, (.int .i64 s.2))]) (fun s w => [.row 1 w (List.map (fun xs : (List Bool) => AV.list 1 (List.map AV.bool xs)) s.1)]) v16 ⟨rfl, rfl, rfl, rfl, rfl, trivial⟩ (hS.pick [0] rfl rfl) ?_
    rintro ⟨y8, x7_l0⟩ w9 G16 hS x11 hF hx12
    try dsimp only at hS ⊢
    have hF : spec_l11Spans.b0 p0 p1 y8 x7_l0 = some x11 := hF; unfold spec_l11Spans.b0 at hF
    refine AWP.seq ?_
    refine AWP.seqR rfl ?_
    refine ASL.q (v := (.int .i64 x7_l0)) rfl rfl (Light.quiet (opMove rfl rfl)) ?_
    refine ASL.q (v := (.list 3 (List.map TNode.av p0))) rfl rfl (Light.quiet (opMove rfl rfl)) ?_
    refine ASL.q (v := (.int .i64 (p0.length : Int))) rfl rfl (Light.quiet (opLenMap (f := TNode.av) rfl rfl rfl lenT_24 rfl)) ?_
    refine ASL.q (v := (.bool (decide (x7_l0 < ((p0.length : Int)))))) rfl rfl (Light.quiet (opInt rfl rfl rfl rfl)) ?_
    refine ASL.done ?_
    refine AWP.ifP hF rfl (fun hc17 hF => ?_) (fun hc17 hF => ?_)
    · skip
      refine AWP.skip ?_
      refine QThen.nrm ?_
      refine AWP.seqM (fun e H => ∃ y18 : (List (List Bool)), ∃ w19 : AV, E.Told e [(0, (.list 3 (List.map TNode.av p0))), (1, (.list 1 (List.map (AV.int .i64) p1))), (5, (.int .i64 (W (((p1.length : Int)) + 1)))), (6, w19), (7, (.int .i64 x7_l0))] ∧ E.Sep H [.row 1 w19 (List.map (fun xs : (List Bool) => AV.list 1 (List.map AV.bool xs)) y18)] ∧ spec_l11Spans.k1 x7_l0 y18 = some x11) ?_ ?_
      · rintro e0 G21 ⟨y18, w19, hT, hS, hF⟩; refine AWP.only _ hT ?_; unfold spec_l11Spans.k1 at hF
        refine AWP.lastR rfl ?_
        refine ASL.q (v := (.int .i64 x7_l0)) rfl rfl (Light.quiet (opMove rfl rfl)) ?_
        refine ASL.q (v := (.int .i64 (W (x7_l0 + 1)))) rfl rfl (Light.quiet (opInt rfl rfl rfl rfl)) ?_
        refine ASL.q (v := (.int .i64 (W (x7_l0 + 1)))) rfl rfl (Light.quiet (opAssign rfl rfl)) ?_
        refine ASL.done ?_
        refine QThen.nrm ?_
        exact ⟨(y18, (W (x7_l0 + 1))), w19, (someE hF).symm, ⟨rfl, rfl, rfl, rfl, rfl, trivial⟩, (hS.pick [0] rfl rfl)⟩
      · skip
        refine AWP.block ?_
        refine AWP.seqR rfl ?_
        refine ASL.q (v := (.list 3 (List.map TNode.av p0))) rfl rfl (Light.quiet (opMove rfl rfl)) ?_
        refine ASL.q (v := (.int .i64 x7_l0)) rfl rfl (Light.quiet (opMove rfl rfl)) ?_
        obtain ⟨a25, ha25, hF⟩ := bindE hF
        refine ASL.q (v := (.rptr [(.int .i64 a25.kind), (.int .i64 a25.a), (.int .i64 a25.b)])) rfl rfl (Light.quiet (kIx (f := TNode.av) ha25 rfl rfl rfl elemA_24 sizeA_31 rfl)) ?_
        refine ASL.q (v := (TNode.av a25)) rfl rfl (Light.quiet (opLoadRA rfl aggA_31 sizeA_31 rfl (nlt rfl) rfl)) ?_
        refine ASL.x rfl rfl (hNewZ hS [(.int .i64 0), (.int .i64 0), (.int .i64 0)] rfl zeroA_31 ⟨.inl rfl, .inl rfl, .inl rfl, trivial⟩ ?_); rintro b8 G22 hK hS
        refine ASL.n rfl rfl (hPutA hS (j := 0) rfl rfl sizeA_31 rfl rfl rfl rfl rfl (nlt rfl) ?_); rintro G24 hS
        refine ASL.done ?_
        refine AWP.seqR rfl ?_
        refine ASL.q (v := (.int .i64 (W (((p1.length : Int)) + 1)))) rfl rfl (Light.quiet (opMove rfl rfl)) ?_
        refine ASL.q (v := (.int .i64 (W (((p1.length : Int)) + 1)))) rfl rfl (Light.quiet (opMove rfl rfl)) ?_
        refine ASL.q (v := (.int .i64 (W (((W (((p1.length : Int)) + 1))) * ((W (((p1.length : Int)) + 1))))))) rfl rfl (Light.quiet (opInt rfl rfl rfl rfl)) ?_
        obtain ⟨z30, hz30, hF⟩ := bindE hF
        refine ASL.x rfl rfl (hMk (f := AV.bool) hS hz30 (by decide) rfl elemA_58 sizeA_4 bytesA_4 zeroA_4 rfl rfl (by decide) rfl rfl ?_); rintro v30 G25 hK hS
        refine ASL.q (v := v30) rfl rfl (Light.quiet (opAssign rfl rfl)) ?_
        refine ASL.done ?_
        refine AWP.seqM (fun e H => ∃ y27 : (List Bool), E.Told e [(0, (.list 3 (List.map TNode.av p0))), (1, (.list 1 (List.map (AV.int .i64) p1))), (5, (.int .i64 (W (((p1.length : Int)) + 1)))), (6, w9), (7, (.int .i64 x7_l0)), (8, (.ptr b8 0)), (9, v30)] ∧ E.Sep H [.row 1 w9 (List.map (fun xs : (List Bool) => AV.list 1 (List.map AV.bool xs)) y8), .cell b8 [(.int .i64 a25.kind), (.int .i64 a25.a), (.int .i64 a25.b)], .row 1 v30 (List.map AV.bool y27)] ∧ spec_l11Spans.k2 a25 p1 y8 x7_l0 y27 = some x11) ?_ ?_
        · rintro e0 G61 ⟨y27, hT, hS, hF⟩; refine AWP.only _ hT ?_; unfold spec_l11Spans.k2 at hF
          refine AWP.seqM (fun e H => ∃ y28 : (List Bool), ∃ w29 : AV, E.Told e [(0, (.list 3 (List.map TNode.av p0))), (1, (.list 1 (List.map (AV.int .i64) p1))), (5, (.int .i64 (W (((p1.length : Int)) + 1)))), (6, w9), (7, (.int .i64 x7_l0)), (9, w29)] ∧ E.Sep H [.row 1 w9 (List.map (fun xs : (List Bool) => AV.list 1 (List.map AV.bool xs)) y8), .row 1 w29 (List.map AV.bool y28)] ∧ spec_l11Spans.k3 y8 x7_l0 y28 = some x11) ?_ ?_
          · rintro e0 G34 ⟨y28, w29, hT, hS, hF⟩; refine AWP.only _ hT ?_; unfold spec_l11Spans.k3 at hF
            refine AWP.frz (L' := [.row 1 w9 (List.map (fun xs : (List Bool) => AV.list 1 (List.map AV.bool xs)) y8)]) hS (k := 1) rfl [(0, (.list 3 (List.map TNode.av p0))), (1, (.list 1 (List.map (AV.int .i64) p1))), (5, (.int .i64 (W (((p1.length : Int)) + 1)))), (6, w9), (7, (.int .i64 x7_l0)), (9, (.list 1 (List.map AV.bool y28)))] ⟨.inl rfl, .inl rfl, .inl rfl, .inl rfl, .inl rfl, .inr (.inl ⟨rfl, rfl⟩), trivial⟩ ⟨rfl, trivial⟩ (fun G31 hS => ?_)
            refine AWP.lastR rfl ?_
            refine ASL.q (v := w9) rfl rfl (Light.quiet (opMove rfl rfl)) ?_
            refine ASL.q (v := (.list 1 (List.map AV.bool y28))) rfl rfl (Light.quiet (opMove rfl rfl)) ?_
            refine ASL.q (v := (.list 1 (List.map (fun xs : (List Bool) => AV.list 1 (List.map AV.bool xs)) [y28]))) rfl rfl ((qLit (xs := [(.list 1 (List.map AV.bool y28))]) rfl elemA_59 sizeA_58 zeroA_58 rfl rfl rfl rfl (by simp [cells]) (nlt rfl))) ?_
            obtain ⟨z142, hz142, hF⟩ := bindE hF
            refine ASL.x rfl rfl (hApp (f := (fun xs : (List Bool) => AV.list 1 (List.map AV.bool xs))) (ws := [y28]) hS (j := 0) rfl hz142 rfl elemA_59 rfl sizeA_58 bytesA_58 zeroA_58 rfl rfl rfl (fun _ => rfl) ?_); rintro v142 G32 hS
            refine ASL.q (v := v142) rfl rfl (Light.quiet (opAssign rfl rfl)) ?_
            refine ASL.done ?_
            refine QBlock.nrm ?_
            refine QThen.nrm ?_
            exact ⟨z142, v142, ⟨rfl, rfl, rfl, rfl, rfl, trivial⟩, (hS.pick [0] rfl rfl), hF⟩
          · skip
            refine AWP.seqR rfl ?_
            refine ASL.q (v := (.ptr b8 0)) rfl rfl (Light.quiet (opFieldAddr rfl fieldA_31_0 rfl rfl)) ?_
            refine ASL.q (v := (.int .i64 a25.kind)) rfl rfl (Light.quiet (kAt hS (j := 1) rfl rfl aggA_3 rfl rfl)) ?_
            refine ASL.done ?_
            refine AWP.block ?_
            refine AWP.seqR rfl ?_
            refine ASL.q (v := (.bool (decide (a25.kind = 6)))) rfl rfl (Light.quiet (opInt rfl rfl rfl rfl)) ?_
            refine ASL.q (v := (.bool (decide (a25.kind = 6)))) rfl rfl (Light.quiet (opAssign rfl rfl)) ?_
            refine ASL.done ?_
            refine AWP.ifP hF rfl (fun hc35 hF => ?_) (fun hc35 hF => ?_)
            · skip
              refine AWP.seqR rfl ?_
              refine ASL.q (v := (.int .i64 0)) rfl rfl (Light.quiet (opAssign rfl rfl)) ?_
              refine ASL.done ?_
              refine AWP.block ?_
              obtain ⟨o40, hL39, hR41⟩ := bindE hF
              refine AWP.loopF (ω := Unit) hL39 (fun s w => [(0, (.list 3 (List.map TNode.av p0))), (1, (.list 1 (List.map (AV.int .i64) p1))), (5, (.int .i64 (W (((p1.length : Int)) + 1)))), (6, w9), (7, (.int .i64 x7_l0)), (8, (.ptr b8 0)), (9, v30), (11, (.int .i64 s.2))]) (fun s w => [.row 1 w9 (List.map (fun xs : (List Bool) => AV.list 1 (List.map AV.bool xs)) y8), .cell b8 [(.int .i64 a25.kind), (.int .i64 a25.a), (.int .i64 a25.b)], .row 1 v30 (List.map AV.bool s.1)]) () ⟨rfl, rfl, rfl, rfl, rfl, rfl, rfl, rfl, trivial⟩ (hS.pick [0, 1, 2] rfl rfl) ?_
              rintro ⟨y36, x11_l1⟩ _ G42 hS x37 hF hx38
              try dsimp only at hS ⊢
              have hF : spec_l11Spans.b1 p1 y8 a25 y36 x11_l1 = some x37 := hF; unfold spec_l11Spans.b1 at hF
              refine AWP.seq ?_
              refine AWP.seqR rfl ?_
              refine ASL.q (v := (.int .i64 x11_l1)) rfl rfl (Light.quiet (opMove rfl rfl)) ?_
              refine ASL.q (v := (.int .i64 (W (((p1.length : Int)) + 1)))) rfl rfl (Light.quiet (opMove rfl rfl)) ?_
              refine ASL.q (v := (.int .i64 (W (((p1.length : Int)) + 1)))) rfl rfl (Light.quiet (opMove rfl rfl)) ?_
              refine ASL.q (v := (.int .i64 (W (((W (((p1.length : Int)) + 1))) * ((W (((p1.length : Int)) + 1))))))) rfl rfl (Light.quiet (opInt rfl rfl rfl rfl)) ?_
              refine ASL.q (v := (.bool (decide (x11_l1 < ((W (((W (((p1.length : Int)) + 1))) * ((W (((p1.length : Int)) + 1)))))))))) rfl rfl (Light.quiet (opInt rfl rfl rfl rfl)) ?_
              refine ASL.done ?_
              refine AWP.ifP hF rfl (fun hc43 hF => ?_) (fun hc43 hF => ?_)
              · skip
                refine AWP.skip ?_
                refine QThen.nrm ?_
                refine AWP.seq ?_
                refine AWP.block ?_
                refine AWP.lastR rfl ?_
                refine ASL.q (v := v30) rfl rfl (Light.quiet (opMove rfl rfl)) ?_
                refine ASL.q (v := (.int .i64 x11_l1)) rfl rfl (Light.quiet (opMove rfl rfl)) ?_
                refine ASL.q (v := w9) rfl rfl (Light.quiet (opMove rfl rfl)) ?_
                refine ASL.q (v := (.ptr b8 1)) rfl rfl (Light.quiet (opFieldAddr rfl fieldA_31_1 rfl rfl)) ?_
                refine ASL.q (v := (.int .i64 a25.a)) rfl rfl (Light.quiet (kAt hS (j := 1) rfl rfl aggA_3 rfl rfl)) ?_
                obtain ⟨a91, ha91, hF⟩ := bindE hF
                refine ASL.q (v := (ptrTo w9 a25.a.toNat 1)) rfl rfl (Light.quiet (kIxOx hS (j := 0) rfl ha91 rfl rfl rfl elemA_59 sizeA_58)) ?_
                refine ASL.q (v := (.list 1 (List.map AV.bool a91))) rfl rfl (Light.quiet (kLd (f := (fun xs : (List Bool) => AV.list 1 (List.map AV.bool xs))) hS (j := 0) rfl ha91 rfl aggA_58 rfl (fun _ => rfl))) ?_
                refine ASL.q (v := (.int .i64 x11_l1)) rfl rfl (Light.quiet (opMove rfl rfl)) ?_
                obtain ⟨a94, ha94, hF⟩ := bindE hF
                refine ASL.q (v := (.rptr [(.bool a94)])) rfl rfl (Light.quiet (kIx (f := AV.bool) ha94 rfl rfl rfl elemA_58 sizeA_4 rfl)) ?_
                refine ASL.q (v := (.bool a94)) rfl rfl (Light.quiet (opLoadR rfl aggA_4 rfl rfl)) ?_
                refine ASL.q (v := (.bool a94)) rfl rfl (Light.quiet (opMove rfl rfl)) ?_
                refine ASL.g (v := w9) (.bool a94) false rfl (wF _) rfl (fun hG => by have q0 := gN hG; subst q0; exact Light.quiet (opMove rfl rfl)) ?_
                refine ASL.g (v := (.ptr b8 2)) (.bool a94) false rfl (wF _) rfl (fun hG => by have q0 := gN hG; subst q0; exact Light.quiet (opFieldAddr rfl fieldA_31_2 rfl rfl)) ?_
                refine ASL.g (v := (.int .i64 a25.b)) (.bool a94) false rfl (wF _) rfl (fun hG => by have q0 := gN hG; subst q0; exact Light.quiet (kAt hS (j := 1) rfl rfl aggA_3 rfl rfl)) ?_
                obtain ⟨a100, ha100, hF⟩ := bindE hF
                refine ASL.g (v := (ptrTo w9 a25.b.toNat 1)) (.bool a94) false rfl (wF _) rfl (fun hG => by have q0 := gN hG; subst q0; exact Light.quiet (kIxOx hS (j := 0) rfl (whenE ha100) rfl rfl rfl elemA_59 sizeA_58)) ?_
                refine ASL.g (v := (.list 1 (List.map AV.bool a100))) (.bool a94) false rfl (wF _) rfl (fun hG => by have q0 := gN hG; subst q0; exact Light.quiet (kLd (f := (fun xs : (List Bool) => AV.list 1 (List.map AV.bool xs))) hS (j := 0) rfl (whenE ha100) rfl aggA_58 rfl (fun _ => rfl))) ?_
                refine ASL.g (v := (.int .i64 x11_l1)) (.bool a94) false rfl (wF _) rfl (fun hG => by have q0 := gN hG; subst q0; exact Light.quiet (opMove rfl rfl)) ?_
                obtain ⟨a103, ha103, hF⟩ := bindE hF
                refine ASL.g (v := (.rptr [(.bool a103)])) (.bool a94) false rfl (wF _) rfl (fun hG => by have q0 := gN hG; subst q0; exact Light.quiet (kIx (f := AV.bool) (whenE ha103) rfl rfl rfl elemA_58 sizeA_4 rfl)) ?_
                refine ASL.g (v := (.bool a103)) (.bool a94) false rfl (wF _) rfl (fun hG => by have q0 := gN hG; subst q0; exact Light.quiet (opLoadR rfl aggA_4 rfl rfl)) ?_
                refine ASL.q (v := (.bool (a94 || a103))) rfl rfl (Light.quiet (opPick (b := a94) rfl rfl (by cases a94 <;> rfl))) ?_
                obtain ⟨m106, hm106, hF⟩ := bindE hF
                refine ASL.q (v := (ptrTo v30 m106 1)) rfl rfl (Light.quiet (kIxO hS (j := 2) rfl hm106 rfl rfl rfl elemA_58 sizeA_4)) ?_
                refine ASL.n rfl rfl (hSt (f := AV.bool) (a := (a94 || a103)) hS (j := 2) rfl hm106 rfl sizeA_4 rfl rfl ⟨rfl, rfl, rfl⟩ ?_); rintro G44 hS
                refine ASL.done ?_
                refine QBlock.nrm ?_
                refine QThen.nrm ?_
                refine AWP.lastR rfl ?_
                refine ASL.q (v := (.int .i64 x11_l1)) rfl rfl (Light.quiet (opMove rfl rfl)) ?_
                refine ASL.q (v := (.int .i64 (W (x11_l1 + 1)))) rfl rfl (Light.quiet (opInt rfl rfl rfl rfl)) ?_
                refine ASL.q (v := (.int .i64 (W (x11_l1 + 1)))) rfl rfl (Light.quiet (opAssign rfl rfl)) ?_
                refine ASL.done ?_
                refine QThen.nrm ?_
                exact ⟨((y36.set m106 ((a94 || a103))), (W (x11_l1 + 1))), (), (someE hF).symm, ⟨rfl, rfl, rfl, rfl, rfl, rfl, rfl, rfl, trivial⟩, (hS.pick [0, 1, 2] rfl rfl)⟩
              · skip
                refine AWP.exit ?_
                refine QThen.ext ?_
                refine QThen.ext ?_
                refine QBlock.hit ?_
                obtain rfl := (hx38 _ (someE hF).symm)
                have hF := hR41
                refine QBlock.nrm ?_
                refine QThen.nrm ?_
                exact ⟨y36, v30, ⟨rfl, rfl, rfl, rfl, rfl, rfl, trivial⟩, (hS.pick [0, 2] rfl rfl), hF⟩
            · skip
              refine AWP.seqR rfl ?_
              refine ASL.q (v := (.bool (decide (a25.kind = 5)))) rfl rfl (Light.quiet (opInt rfl rfl rfl rfl)) ?_
              refine ASL.q (v := (.bool (decide (a25.kind = 5)))) rfl rfl (Light.quiet (opAssign rfl rfl)) ?_
              refine ASL.done ?_
              refine AWP.ifP hF rfl (fun hc45 hF => ?_) (fun hc45 hF => ?_)
              · skip
                refine AWP.lastD [(0, false), (1, false), (2, false), (3, false), (4, false), (5, false), (6, false), (7, false), (8, false), (9, false), (10, false), (11, true), (12, false)] mixed (by kernel_rfl) rfl ?_
                refine ARL.q0 (v := w9) rfl rfl (Light.quiet (opMove rfl rfl)) ?_
                refine ARL.q0 (v := (.ptr b8 1)) rfl rfl (Light.quiet (opFieldAddr rfl fieldA_31_1 rfl rfl)) ?_
                refine ARL.q (v := (.int .i64 a25.a)) rfl rfl (hS.aliveC (k := 1) rfl) (Light.quiet (kAt hS (j := 1) rfl rfl aggA_3 rfl rfl)) ?_
                obtain ⟨a112, ha112, hF⟩ := bindE hF
                refine ARL.q0 (v := (ptrTo w9 a25.a.toNat 1)) rfl rfl (Light.quiet (kIxOx hS (j := 0) rfl ha112 rfl rfl rfl elemA_59 sizeA_58)) ?_
                refine ARL.q (v := (.list 1 (List.map AV.bool a112))) rfl rfl (hS.aliveR (k := 0) rfl) (Light.quiet (kLd (f := (fun xs : (List Bool) => AV.list 1 (List.map AV.bool xs))) hS (j := 0) rfl ha112 rfl aggA_58 rfl (fun _ => rfl))) ?_
                refine ARL.q0 (v := w9) rfl rfl (Light.quiet (opMove rfl rfl)) ?_
                refine ARL.q0 (v := (.ptr b8 2)) rfl rfl (Light.quiet (opFieldAddr rfl fieldA_31_2 rfl rfl)) ?_
                refine ARL.q (v := (.int .i64 a25.b)) rfl rfl (hS.aliveC (k := 1) rfl) (Light.quiet (kAt hS (j := 1) rfl rfl aggA_3 rfl rfl)) ?_
                obtain ⟨a117, ha117, hF⟩ := bindE hF
                refine ARL.q0 (v := (ptrTo w9 a25.b.toNat 1)) rfl rfl (Light.quiet (kIxOx hS (j := 0) rfl ha117 rfl rfl rfl elemA_59 sizeA_58)) ?_
                refine ARL.q (v := (.list 1 (List.map AV.bool a117))) rfl rfl (hS.aliveR (k := 0) rfl) (Light.quiet (kLd (f := (fun xs : (List Bool) => AV.list 1 (List.map AV.bool xs))) hS (j := 0) rfl ha117 rfl aggA_58 rfl (fun _ => rfl))) ?_
                refine ARL.q0 (v := (.int .i64 (W (((p1.length : Int)) + 1)))) rfl rfl (Light.quiet (opMove rfl rfl)) ?_
                obtain ⟨a120, ha120, hF⟩ := bindE hF
                refine ARL.x rfl rfl rfl (hCallO hS rfl rfl call_69 (spec_l11Then_ok ha120) rfl ?_); rintro v120 G46 hK hS; refine ⟨hK, ?_⟩
                refine ARL.q0 (v := v120) rfl rfl (Light.quiet (opAssign rfl rfl)) ?_
                refine ARL.done ?_
                refine QBlock.nrm ?_
                refine QThen.nrm ?_
                exact ⟨a120, v120, ⟨rfl, rfl, rfl, rfl, rfl, rfl, trivial⟩, (hS.pick [1, 0] rfl rfl), hF⟩
              · skip
                refine AWP.seqR rfl ?_
                refine ASL.q (v := (.bool (decide (a25.kind = 4)))) rfl rfl (Light.quiet (opInt rfl rfl rfl rfl)) ?_
                refine ASL.q (v := (.bool (decide (a25.kind = 4)))) rfl rfl (Light.quiet (opAssign rfl rfl)) ?_
                refine ASL.done ?_
                refine AWP.ifP hF rfl (fun hc48 hF => ?_) (fun hc48 hF => ?_)
                · skip
                  refine AWP.seqR rfl ?_
                  refine ASL.q (v := (.int .i64 0)) rfl rfl (Light.quiet (opAssign rfl rfl)) ?_
                  refine ASL.done ?_
                  refine AWP.block ?_
                  obtain ⟨o55, hL54, hR56⟩ := bindE hF
                  refine AWP.loopF (ω := AV) hL54 (fun s w => [(0, (.list 3 (List.map TNode.av p0))), (1, (.list 1 (List.map (AV.int .i64) p1))), (5, (.int .i64 (W (((p1.length : Int)) + 1)))), (6, w9), (7, (.int .i64 x7_l0)), (8, (.ptr b8 0)), (9, w), (12, (.int .i64 s.2))]) (fun s w => [.row 1 w9 (List.map (fun xs : (List Bool) => AV.list 1 (List.map AV.bool xs)) y8), .cell b8 [(.int .i64 a25.kind), (.int .i64 a25.a), (.int .i64 a25.b)], .row 1 w (List.map AV.bool s.1)]) v30 ⟨rfl, rfl, rfl, rfl, rfl, rfl, rfl, rfl, trivial⟩ (hS.pick [0, 1, 2] rfl rfl) ?_
                  rintro ⟨y49, x12_l2⟩ w50 G57 hS x52 hF hx53
                  try dsimp only at hS ⊢
                  have hF : spec_l11Spans.b2 y8 a25 p1 y49 x12_l2 = some x52 := hF; unfold spec_l11Spans.b2 at hF
                  refine AWP.seq ?_
                  refine AWP.seqR rfl ?_
                  refine ASL.q (v := (.int .i64 x12_l2)) rfl rfl (Light.quiet (opMove rfl rfl)) ?_
                  refine ASL.q (v := (.bool (decide (x12_l2 < 7)))) rfl rfl (Light.quiet (opInt rfl rfl rfl rfl)) ?_
                  refine ASL.done ?_
                  refine AWP.ifP hF rfl (fun hc58 hF => ?_) (fun hc58 hF => ?_)
                  · skip
                    refine AWP.skip ?_
                    refine QThen.nrm ?_
                    refine AWP.seq ?_
                    refine AWP.block ?_
                    refine AWP.lastR rfl ?_
                    refine ASL.q (v := w50) rfl rfl (Light.quiet (opMove rfl rfl)) ?_
                    refine ASL.q (v := w50) rfl rfl (Light.quiet (opMove rfl rfl)) ?_
                    refine ASL.q (v := w50) rfl rfl (Light.quiet (opMove rfl rfl)) ?_
                    refine ASL.q (v := w9) rfl rfl (Light.quiet (opMove rfl rfl)) ?_
                    refine ASL.q (v := (.ptr b8 1)) rfl rfl (Light.quiet (opFieldAddr rfl fieldA_31_1 rfl rfl)) ?_
                    refine ASL.q (v := (.int .i64 a25.a)) rfl rfl (Light.quiet (kAt hS (j := 1) rfl rfl aggA_3 rfl rfl)) ?_
                    obtain ⟨a133, ha133, hF⟩ := bindE hF
                    refine ASL.q (v := (ptrTo w9 a25.a.toNat 1)) rfl rfl (Light.quiet (kIxOx hS (j := 0) rfl ha133 rfl rfl rfl elemA_59 sizeA_58)) ?_
                    refine ASL.q (v := (.list 1 (List.map AV.bool a133))) rfl rfl (Light.quiet (kLd (f := (fun xs : (List Bool) => AV.list 1 (List.map AV.bool xs))) hS (j := 0) rfl ha133 rfl aggA_58 rfl (fun _ => rfl))) ?_
                    obtain ⟨a135, ha135, hF⟩ := bindE hF
                    refine ASL.q (v := (.list 1 (List.map AV.bool a135))) rfl rfl ((qCallRL hS rfl rfl call_70 (spec_l11Both_ok ha135) ⟨.row (k := 2) rfl, .same _, trivial⟩ (Scal.row (fun _ => by intro c hc; simp only [cells, List.mem_singleton] at hc; subst hc; constructor)))) ?_
                    refine ASL.q (v := (.int .i64 (W (((p1.length : Int)) + 1)))) rfl rfl (Light.quiet (opMove rfl rfl)) ?_
                    obtain ⟨a137, ha137, hF⟩ := bindE hF
                    refine ASL.q (v := (.list 1 (List.map AV.bool a137))) rfl rfl ((qCallRL hS rfl rfl call_69 (spec_l11Then_ok ha137) ⟨.row (k := 2) rfl, .same _, .same _, trivial⟩ (Scal.row (fun _ => by intro c hc; simp only [cells, List.mem_singleton] at hc; subst hc; constructor)))) ?_
                    obtain ⟨a138, ha138, hF⟩ := bindE hF
                    refine ASL.x rfl rfl (hCallOR hS rfl rfl call_70 (spec_l11Both_ok ha138) ⟨.row (k := 2) rfl, .same _, trivial⟩ (Scal.row (fun _ => by intro c hc; simp only [cells, List.mem_singleton] at hc; subst hc; constructor)) ?_); rintro v138 G59 hK hS
                    refine ASL.q (v := v138) rfl rfl (Light.quiet (opAssign rfl rfl)) ?_
                    refine ASL.done ?_
                    refine QBlock.nrm ?_
                    refine QThen.nrm ?_
                    refine AWP.lastR rfl ?_
                    refine ASL.q (v := (.int .i64 x12_l2)) rfl rfl (Light.quiet (opMove rfl rfl)) ?_
                    refine ASL.q (v := (.int .i64 (W (x12_l2 + 1)))) rfl rfl (Light.quiet (opInt rfl rfl rfl rfl)) ?_
                    refine ASL.q (v := (.int .i64 (W (x12_l2 + 1)))) rfl rfl (Light.quiet (opAssign rfl rfl)) ?_
                    refine ASL.done ?_
                    refine QThen.nrm ?_
                    exact ⟨(a138, (W (x12_l2 + 1))), v138, (someE hF).symm, ⟨rfl, rfl, rfl, rfl, rfl, rfl, rfl, rfl, trivial⟩, (hS.pick [1, 2, 0] rfl rfl)⟩
                  · skip
                    refine AWP.exit ?_
                    refine QThen.ext ?_
                    refine QThen.ext ?_
                    refine QBlock.hit ?_
                    obtain rfl := (hx53 _ (someE hF).symm)
                    have hF := hR56
                    refine QBlock.nrm ?_
                    refine QThen.nrm ?_
                    exact ⟨y49, w50, ⟨rfl, rfl, rfl, rfl, rfl, rfl, trivial⟩, (hS.pick [0, 2] rfl rfl), hF⟩
                · skip
                  refine AWP.skip ?_
                  refine QBlock.nrm ?_
                  refine QThen.nrm ?_
                  exact ⟨y27, v30, ⟨rfl, rfl, rfl, rfl, rfl, rfl, trivial⟩, (hS.pick [0, 2] rfl rfl), hF⟩
        · skip
          refine AWP.seqR rfl ?_
          refine ASL.q (v := (.int .i64 0)) rfl rfl (Light.quiet (opAssign rfl rfl)) ?_
          refine ASL.done ?_
          refine AWP.block ?_
          obtain ⟨o66, hL65, hR67⟩ := bindE hF
          refine AWP.loopF (ω := Unit) hL65 (fun s w => [(0, (.list 3 (List.map TNode.av p0))), (1, (.list 1 (List.map (AV.int .i64) p1))), (5, (.int .i64 (W (((p1.length : Int)) + 1)))), (6, w9), (7, (.int .i64 x7_l0)), (8, (.ptr b8 0)), (9, v30), (10, (.int .i64 s.2))]) (fun s w => [.row 1 w9 (List.map (fun xs : (List Bool) => AV.list 1 (List.map AV.bool xs)) y8), .cell b8 [(.int .i64 a25.kind), (.int .i64 a25.a), (.int .i64 a25.b)], .row 1 v30 (List.map AV.bool s.1)]) () ⟨rfl, rfl, rfl, rfl, rfl, rfl, rfl, rfl, trivial⟩ (hS.pick [2, 1, 0] rfl rfl) ?_
          rintro ⟨y62, x10_l3⟩ _ G68 hS x63 hF hx64
          try dsimp only at hS ⊢
          have hF : spec_l11Spans.b3 p1 a25 y62 x10_l3 = some x63 := hF; unfold spec_l11Spans.b3 at hF
          refine AWP.seq ?_
          refine AWP.seqR rfl ?_
          refine ASL.q (v := (.int .i64 x10_l3)) rfl rfl (Light.quiet (opMove rfl rfl)) ?_
          refine ASL.q (v := (.int .i64 (W (((p1.length : Int)) + 1)))) rfl rfl (Light.quiet (opMove rfl rfl)) ?_
          refine ASL.q (v := (.bool (decide (x10_l3 < ((W (((p1.length : Int)) + 1))))))) rfl rfl (Light.quiet (opInt rfl rfl rfl rfl)) ?_
          refine ASL.done ?_
          refine AWP.ifP hF rfl (fun hc69 hF => ?_) (fun hc69 hF => ?_)
          · skip
            refine AWP.skip ?_
            refine QThen.nrm ?_
            refine AWP.seq ?_
            refine AWP.block ?_
            refine AWP.seqR rfl ?_
            refine ASL.q (v := v30) rfl rfl (Light.quiet (opMove rfl rfl)) ?_
            refine ASL.q (v := (.int .i64 x10_l3)) rfl rfl (Light.quiet (opMove rfl rfl)) ?_
            refine ASL.q (v := (.int .i64 (W (((p1.length : Int)) + 1)))) rfl rfl (Light.quiet (opMove rfl rfl)) ?_
            refine ASL.q (v := (.int .i64 (W (x10_l3 * ((W (((p1.length : Int)) + 1))))))) rfl rfl (Light.quiet (opInt rfl rfl rfl rfl)) ?_
            refine ASL.q (v := (.int .i64 x10_l3)) rfl rfl (Light.quiet (opMove rfl rfl)) ?_
            refine ASL.q (v := (.int .i64 (W (((W (x10_l3 * ((W (((p1.length : Int)) + 1)))))) + x10_l3)))) rfl rfl (Light.quiet (opInt rfl rfl rfl rfl)) ?_
            refine ASL.q (v := (.ptr b8 0)) rfl rfl (Light.quiet (opFieldAddr rfl fieldA_31_0 rfl rfl)) ?_
            refine ASL.q (v := (.int .i64 a25.kind)) rfl rfl (Light.quiet (kAt hS (j := 1) rfl rfl aggA_3 rfl rfl)) ?_
            refine ASL.q (v := (.bool (decide (a25.kind = 2)))) rfl rfl (Light.quiet (opInt rfl rfl rfl rfl)) ?_
            obtain ⟨c45, hc45, hF⟩ := bndE hF
            refine ASL.q (v := (.bool c45)) rfl rfl ((Quiet.cast (Light.quiet (opMove rfl rfl)) (congrArg AV.bool hc45.symm))) ?_
            refine ASL.g (v := (.ptr b8 0)) (.bool c45) false rfl (wF _) rfl (fun hG => by have q0 := gN hG; subst q0; exact Light.quiet (opFieldAddr rfl fieldA_31_0 rfl rfl)) ?_
            refine ASL.g (v := (.int .i64 a25.kind)) (.bool c45) false rfl (wF _) rfl (fun hG => by have q0 := gN hG; subst q0; exact Light.quiet (kAt hS (j := 1) rfl rfl aggA_3 rfl rfl)) ?_
            refine ASL.g (v := (.bool (decide (a25.kind = 4)))) (.bool c45) false rfl (wF _) rfl (fun hG => by have q0 := gN hG; subst q0; exact Light.quiet (opInt rfl rfl rfl rfl)) ?_
            refine ASL.q (v := (.bool (c45 || (decide (a25.kind = 4))))) rfl rfl (Light.quiet (opPick (b := c45) rfl rfl (by cases c45 <;> rfl))) ?_
            obtain ⟨m50, hm50, hF⟩ := bindE hF
            refine ASL.q (v := (ptrTo v30 m50 1)) rfl rfl (Light.quiet (kIxO hS (j := 2) rfl hm50 rfl rfl rfl elemA_58 sizeA_4)) ?_
            refine ASL.n rfl rfl (hSt (f := AV.bool) (a := (c45 || (decide (a25.kind = 4)))) hS (j := 2) rfl hm50 rfl sizeA_4 rfl rfl ⟨rfl, rfl, rfl⟩ ?_); rintro G70 hS
            refine ASL.done ?_
            refine AWP.seqR rfl ?_
            refine ASL.q (v := (.ptr b8 0)) rfl rfl (Light.quiet (opFieldAddr rfl fieldA_31_0 rfl rfl)) ?_
            refine ASL.q (v := (.int .i64 a25.kind)) rfl rfl (Light.quiet (kAt hS (j := 1) rfl rfl aggA_3 rfl rfl)) ?_
            refine ASL.q (v := (.bool (decide (a25.kind = 3)))) rfl rfl (Light.quiet (opInt rfl rfl rfl rfl)) ?_
            obtain ⟨c54, hc54, hF⟩ := bndE hF
            refine ASL.q (v := (.bool c54)) rfl rfl ((Quiet.cast (Light.quiet (opMove rfl rfl)) (congrArg AV.bool hc54.symm))) ?_
            refine ASL.g (v := (.int .i64 x10_l3)) (.bool c54) true rfl (wT _) rfl (fun hG => by have q0 := hG; subst q0; exact Light.quiet (opMove rfl rfl)) ?_
            refine ASL.g (v := (.int .i64 (W (x10_l3 + 1)))) (.bool c54) true rfl (wT _) rfl (fun hG => by have q0 := hG; subst q0; exact Light.quiet (opInt rfl rfl rfl rfl)) ?_
            refine ASL.g (v := (.int .i64 (W (((p1.length : Int)) + 1)))) (.bool c54) true rfl (wT _) rfl (fun hG => by have q0 := hG; subst q0; exact Light.quiet (opMove rfl rfl)) ?_
            refine ASL.g (v := (.bool (decide (((W (x10_l3 + 1))) < ((W (((p1.length : Int)) + 1))))))) (.bool c54) true rfl (wT _) rfl (fun hG => by have q0 := hG; subst q0; exact Light.quiet (opInt rfl rfl rfl rfl)) ?_
            refine ASL.q (v := (.bool (c54 && (decide (((W (x10_l3 + 1))) < ((W (((p1.length : Int)) + 1)))))))) rfl rfl (Light.quiet (opPick (b := c54) rfl rfl (by cases c54 <;> rfl))) ?_
            refine ASL.done ?_
            refine AWP.ifB hF rfl (fun hc71 hF => ?_) (fun hc71 hF => ?_)
            · skip
              refine AWP.lastD [(0, false), (1, false), (2, false), (3, false), (4, false), (5, false), (6, false), (7, false), (8, false), (9, false), (10, false), (11, false), (12, false), (13, false), (14, false), (15, true)] mixed (by kernel_rfl) rfl ?_
              refine ARL.q0 (v := v30) rfl rfl (Light.quiet (opMove rfl rfl)) ?_
              refine ARL.q0 (v := (.int .i64 x10_l3)) rfl rfl (Light.quiet (opMove rfl rfl)) ?_
              refine ARL.q0 (v := (.int .i64 (W (((p1.length : Int)) + 1)))) rfl rfl (Light.quiet (opMove rfl rfl)) ?_
              refine ARL.q0 (v := (.int .i64 (W (x10_l3 * ((W (((p1.length : Int)) + 1))))))) rfl rfl (Light.quiet (opInt rfl rfl rfl rfl)) ?_
              refine ARL.q0 (v := (.int .i64 x10_l3)) rfl rfl (Light.quiet (opMove rfl rfl)) ?_
              refine ARL.q0 (v := (.int .i64 (W (((W (x10_l3 * ((W (((p1.length : Int)) + 1)))))) + x10_l3)))) rfl rfl (Light.quiet (opInt rfl rfl rfl rfl)) ?_
              refine ARL.q0 (v := (.int .i64 (W (((W (((W (x10_l3 * ((W (((p1.length : Int)) + 1)))))) + x10_l3))) + 1)))) rfl rfl (Light.quiet (opInt rfl rfl rfl rfl)) ?_
              refine ARL.q0 (v := (.list 1 (List.map (AV.int .i64) p1))) rfl rfl (Light.quiet (opMove rfl rfl)) ?_
              refine ARL.q0 (v := (.int .i64 x10_l3)) rfl rfl (Light.quiet (opMove rfl rfl)) ?_
              obtain ⟨a69, ha69, hF⟩ := bindE hF
              refine ARL.q0 (v := (.rptr [(.int .i64 a69)])) rfl rfl (Light.quiet (kIx (f := (AV.int .i64)) ha69 rfl rfl rfl elemA_25 sizeA_3 rfl)) ?_
              refine ARL.q0 (v := (.int .i64 a69)) rfl rfl (Light.quiet (opLoadR rfl aggA_3 rfl rfl)) ?_
              refine ARL.q0 (v := (.ptr b8 1)) rfl rfl (Light.quiet (opFieldAddr rfl fieldA_31_1 rfl rfl)) ?_
              refine ARL.q (v := (.int .i64 a25.a)) rfl rfl (hS.aliveC (k := 1) rfl) (Light.quiet (kAt hS (j := 1) rfl rfl aggA_3 rfl rfl)) ?_
              refine ARL.q0 (v := (.bool (decide (a69 = a25.a)))) rfl rfl (Light.quiet (opInt rfl rfl rfl rfl)) ?_
              obtain ⟨m74, hm74, hF⟩ := bindE hF
              refine ARL.q0 (v := (ptrTo v30 m74 1)) rfl rfl (Light.quiet (kIxO hS (j := 2) rfl hm74 rfl rfl rfl elemA_58 sizeA_4)) ?_
              refine ARL.n rfl rfl rfl rfl (hSt (f := AV.bool) (a := (decide (a69 = a25.a))) hS (j := 2) rfl hm74 rfl sizeA_4 rfl rfl ⟨rfl, rfl, rfl⟩ ?_); rintro G72 hS
              refine ARL.done ?_
              refine QBlock.nrm ?_
              refine QThen.nrm ?_
              refine AWP.lastR rfl ?_
              refine ASL.q (v := (.int .i64 x10_l3)) rfl rfl (Light.quiet (opMove rfl rfl)) ?_
              refine ASL.q (v := (.int .i64 (W (x10_l3 + 1)))) rfl rfl (Light.quiet (opInt rfl rfl rfl rfl)) ?_
              refine ASL.q (v := (.int .i64 (W (x10_l3 + 1)))) rfl rfl (Light.quiet (opAssign rfl rfl)) ?_
              refine ASL.done ?_
              refine QThen.nrm ?_
              exact ⟨((((y62.set m50 ((c45 || (decide (a25.kind = 4)))))).set m74 ((decide (a69 = a25.a)))), (W (x10_l3 + 1))), (), (someE hF).symm, ⟨rfl, rfl, rfl, rfl, rfl, rfl, rfl, rfl, trivial⟩, (hS.pick [0, 1, 2] rfl rfl)⟩
            · skip
              refine AWP.skip ?_
              refine QBlock.nrm ?_
              refine QThen.nrm ?_
              refine AWP.lastR rfl ?_
              refine ASL.q (v := (.int .i64 x10_l3)) rfl rfl (Light.quiet (opMove rfl rfl)) ?_
              refine ASL.q (v := (.int .i64 (W (x10_l3 + 1)))) rfl rfl (Light.quiet (opInt rfl rfl rfl rfl)) ?_
              refine ASL.q (v := (.int .i64 (W (x10_l3 + 1)))) rfl rfl (Light.quiet (opAssign rfl rfl)) ?_
              refine ASL.done ?_
              refine QThen.nrm ?_
              exact ⟨((y62.set m50 ((c45 || (decide (a25.kind = 4))))), (W (x10_l3 + 1))), (), (someE hF).symm, ⟨rfl, rfl, rfl, rfl, rfl, rfl, rfl, rfl, trivial⟩, (hS.pick [0, 1, 2] rfl rfl)⟩
          · skip
            refine AWP.exit ?_
            refine QThen.ext ?_
            refine QThen.ext ?_
            refine QBlock.hit ?_
            obtain rfl := (hx64 _ (someE hF).symm)
            have hF := hR67
            refine QThen.nrm ?_
            exact ⟨y62, ⟨rfl, rfl, rfl, rfl, rfl, rfl, rfl, trivial⟩, (hS.pick [0, 1, 2] rfl rfl), hF⟩
    · skip
      refine AWP.exit ?_
      refine QThen.ext ?_
      refine QThen.ext ?_
      refine QBlock.hit ?_
      obtain rfl := (hx12 _ (someE hF).symm)
      have hF := hR15
      refine QThen.nrm ?_
      exact ⟨y8, w9, ⟨rfl, trivial⟩, (hS.pick [0] rfl rfl), hF⟩

set_option maxRecDepth 10000 in
theorem spec_ReTakes_ok {p0 : (List TNode)} {p1 : (List Int)} {r : Bool} (hF : spec_ReTakes p0 p1 = some r) : PC Try.prog 11 [(.list 3 (List.map TNode.av p0)), (.list 1 (List.map (AV.int .i64) p1))] fun v => v = (.bool r) := by
  refine PC.enter Try.func11 rfl Try.ntmps11 (by simp) ?_
  have hS := Sep.void; unfold spec_ReTakes at hF
  refine AWP.seqR rfl ?_
  refine ASL.q (v := (.bool false)) rfl rfl (Light.quiet (opAssign rfl rfl)) ?_
  refine ASL.done ?_
  refine AWP.seq ?_
  refine AWP.seqR rfl ?_
  refine ASL.q (v := (.list 3 (List.map TNode.av p0))) rfl rfl (Light.quiet (opMove rfl rfl)) ?_
  obtain ⟨a6, ha6, hF⟩ := bindE hF
  refine ASL.q (v := (.bool a6)) rfl rfl ((qCall rfl rfl call_9 (spec_ReOk_ok ha6) rfl)) ?_
  refine ASL.q (v := (.bool (!a6))) rfl rfl (Light.quiet (opNot rfl rfl)) ?_
  obtain ⟨c8, hc8, hF⟩ := bndE hF
  refine ASL.q (v := (.bool c8)) rfl rfl ((Quiet.cast (Light.quiet (opMove rfl rfl)) (congrArg AV.bool hc8.symm))) ?_
  refine ASL.g (v := (.list 1 (List.map (AV.int .i64) p1))) (.bool c8) false rfl (wF _) rfl (fun hG => by have q0 := gN hG; subst q0; exact Light.quiet (opMove rfl rfl)) ?_
  refine ASL.g (v := (.int .i64 (p1.length : Int))) (.bool c8) false rfl (wF _) rfl (fun hG => by have q0 := gN hG; subst q0; exact Light.quiet (opLenMap (f := (AV.int .i64)) rfl rfl rfl lenT_25 rfl)) ?_
  refine ASL.g (v := (.bool (decide (((p1.length : Int)) > 60)))) (.bool c8) false rfl (wF _) rfl (fun hG => by have q0 := gN hG; subst q0; exact Light.quiet (opInt rfl rfl rfl rfl)) ?_
  refine ASL.q (v := (.bool (c8 || (decide (((p1.length : Int)) > 60))))) rfl rfl (Light.quiet (opPick (b := c8) rfl rfl (by cases c8 <;> rfl))) ?_
  refine ASL.done ?_
  refine AWP.ifB hF rfl (fun hc1 hF => ?_) (fun hc1 hF => ?_)
  · skip
    refine AWP.seqR rfl ?_
    refine ASL.q (v := (.bool false)) rfl rfl (Light.quiet (opAssign rfl rfl)) ?_
    refine ASL.done ?_
    refine AWP.ret ?_
    refine QThen.rt ?_
    obtain rfl := someE hF
    exact QRet.sole (v := (.bool false)) ⟨rfl, trivial⟩ rfl
  · skip
    refine AWP.skip ?_
    refine QThen.nrm ?_
    refine AWP.seqR rfl ?_
    refine ASL.q (v := (.list 3 (List.map TNode.av p0))) rfl rfl (Light.quiet (opMove rfl rfl)) ?_
    refine ASL.q (v := (.list 1 (List.map (AV.int .i64) p1))) rfl rfl (Light.quiet (opMove rfl rfl)) ?_
    obtain ⟨a15, ha15, hF⟩ := bindE hF
    refine ASL.q (v := (.list 1 (List.map (fun xs : (List Bool) => AV.list 1 (List.map AV.bool xs)) a15))) rfl rfl ((qCall rfl rfl call_41 (PO.list (spec_l11Spans_ok ha15)) rfl)) ?_
    refine ASL.q (v := (.list 3 (List.map TNode.av p0))) rfl rfl (Light.quiet (opMove rfl rfl)) ?_
    refine ASL.q (v := (.int .i64 (p0.length : Int))) rfl rfl (Light.quiet (opLenMap (f := TNode.av) rfl rfl rfl lenT_24 rfl)) ?_
    refine ASL.q (v := (.int .i64 (W (((p0.length : Int)) - 1)))) rfl rfl (Light.quiet (opInt rfl rfl rfl rfl)) ?_
    obtain ⟨a19, ha19, hF⟩ := bindE hF
    refine ASL.q (v := (.rptr [(.list 1 (List.map AV.bool a19))])) rfl rfl (Light.quiet (kIx (f := (fun xs : (List Bool) => AV.list 1 (List.map AV.bool xs))) ha19 rfl rfl rfl elemA_59 sizeA_58 rfl)) ?_
    refine ASL.q (v := (.list 1 (List.map AV.bool a19))) rfl rfl (Light.quiet (opLoadR rfl aggA_58 rfl rfl)) ?_
    refine ASL.q (v := (.list 1 (List.map (AV.int .i64) p1))) rfl rfl (Light.quiet (opMove rfl rfl)) ?_
    refine ASL.q (v := (.int .i64 (p1.length : Int))) rfl rfl (Light.quiet (opLenMap (f := (AV.int .i64)) rfl rfl rfl lenT_25 rfl)) ?_
    obtain ⟨a23, ha23, hF⟩ := bindE hF
    refine ASL.q (v := (.rptr [(.bool a23)])) rfl rfl (Light.quiet (kIx (f := AV.bool) ha23 rfl rfl rfl elemA_58 sizeA_4 rfl)) ?_
    refine ASL.q (v := (.bool a23)) rfl rfl (Light.quiet (opLoadR rfl aggA_4 rfl rfl)) ?_
    refine ASL.q (v := (.bool a23)) rfl rfl (Light.quiet (opAssign rfl rfl)) ?_
    refine ASL.done ?_
    refine AWP.ret ?_
    obtain rfl := someE hF
    exact QRet.sole (v := (.bool a23)) ⟨rfl, trivial⟩ rfl

set_option maxRecDepth 10000 in
theorem laws_FnReParts_ok {K : Nat} {p0 : (List Int)} {r : Bool} (hF : laws_FnReParts K p0 = some r) : PC Try.prog 3 [(.list 1 (List.map (AV.int .u8) p0))] fun v => v = (.bool r) := by
  refine PC.enter Try.func3 rfl Try.ntmps3 (by simp) ?_
  have hS := Sep.void; unfold laws_FnReParts at hF
  refine AWP.seqR rfl ?_
  refine ASL.q (v := (.bool false)) rfl rfl (Light.quiet (opAssign rfl rfl)) ?_
  refine ASL.done ?_
  refine AWP.seq ?_
  refine AWP.seqR rfl ?_
  refine ASL.q (v := (.list 1 (List.map (AV.int .u8) p0))) rfl rfl (Light.quiet (opMove rfl rfl)) ?_
  refine ASL.q (v := (.bool (laws_big p0))) rfl rfl ((qCall rfl rfl call_7 (laws_big_ok p0) rfl)) ?_
  refine ASL.done ?_
  refine AWP.ifB hF rfl (fun hc1 hF => ?_) (fun hc1 hF => ?_)
  · skip
    refine AWP.seqR rfl ?_
    refine ASL.q (v := (.bool true)) rfl rfl (Light.quiet (opAssign rfl rfl)) ?_
    refine ASL.done ?_
    refine AWP.ret ?_
    refine QThen.rt ?_
    obtain rfl := someE hF
    exact QRet.sole (v := (.bool true)) ⟨rfl, trivial⟩ rfl
  · skip
    refine AWP.skip ?_
    refine QThen.nrm ?_
    refine AWP.seqR rfl ?_
    refine ASL.q (v := (.list 1 (List.map (AV.int .u8) p0))) rfl rfl (Light.quiet (opMove rfl rfl)) ?_
    obtain ⟨a14, ha14, hF⟩ := bindE hF
    refine ASL.q (v := (.tup [(.list 3 (List.map TNode.av a14.1)), (.list 1 (List.map (AV.int .i64) a14.2))])) rfl rfl ((qCall rfl rfl call_8 (spec_DrawReTakes_ok ha14) rfl)) ?_
    refine ASL.q (v := (.tup [(.list 3 (List.map TNode.av a14.1)), (.list 1 (List.map (AV.int .i64) a14.2))])) rfl rfl (Light.quiet (opMove rfl rfl)) ?_
    refine ASL.q (v := (.list 3 (List.map TNode.av a14.1))) rfl rfl (Light.quiet (opExtract rfl rfl rfl)) ?_
    refine ASL.q (v := (.list 1 (List.map (AV.int .i64) a14.2))) rfl rfl (Light.quiet (opExtract rfl rfl rfl)) ?_
    refine ASL.q (v := (.list 3 (List.map TNode.av a14.1))) rfl rfl (Light.quiet (opAssign rfl rfl)) ?_
    refine ASL.q (v := (.list 1 (List.map (AV.int .i64) a14.2))) rfl rfl (Light.quiet (opAssign rfl rfl)) ?_
    refine ASL.done ?_
    refine AWP.seq ?_
    refine AWP.seqR rfl ?_
    refine ASL.q (v := (.list 3 (List.map TNode.av a14.1))) rfl rfl (Light.quiet (opMove rfl rfl)) ?_
    obtain ⟨a18, ha18, hF⟩ := bindE hF
    refine ASL.q (v := (.bool a18)) rfl rfl ((qCall rfl rfl call_9 (spec_ReOk_ok ha18) rfl)) ?_
    refine ASL.q (v := (.bool (!a18))) rfl rfl (Light.quiet (opNot rfl rfl)) ?_
    obtain ⟨c20, hc20, hF⟩ := bndE hF
    refine ASL.q (v := (.bool c20)) rfl rfl ((Quiet.cast (Light.quiet (opMove rfl rfl)) (congrArg AV.bool hc20.symm))) ?_
    refine ASL.g (v := (.list 3 (List.map TNode.av a14.1))) (.bool c20) false rfl (wF _) rfl (fun hG => by have q0 := gN hG; subst q0; exact Light.quiet (opMove rfl rfl)) ?_
    refine ASL.g (v := (.int .i64 (a14.1.length : Int))) (.bool c20) false rfl (wF _) rfl (fun hG => by have q0 := gN hG; subst q0; exact Light.quiet (opLenMap (f := TNode.av) rfl rfl rfl lenT_24 rfl)) ?_
    refine ASL.g (v := (.bool (decide (((a14.1.length : Int)) > 14)))) (.bool c20) false rfl (wF _) rfl (fun hG => by have q0 := gN hG; subst q0; exact Light.quiet (opInt rfl rfl rfl rfl)) ?_
    refine ASL.q (v := (.bool (c20 || (decide (((a14.1.length : Int)) > 14))))) rfl rfl (Light.quiet (opPick (b := c20) rfl rfl (by cases c20 <;> rfl))) ?_
    obtain ⟨c25, hc25, hF⟩ := bndE hF
    refine ASL.q (v := (.bool c25)) rfl rfl ((Quiet.cast (Light.quiet (opMove rfl rfl)) (congrArg AV.bool hc25.symm))) ?_
    refine ASL.g (v := (.list 1 (List.map (AV.int .i64) a14.2))) (.bool c25) false rfl (wF _) rfl (fun hG => by have q0 := gN hG; subst q0; exact Light.quiet (opMove rfl rfl)) ?_
    refine ASL.g (v := (.int .i64 (a14.2.length : Int))) (.bool c25) false rfl (wF _) rfl (fun hG => by have q0 := gN hG; subst q0; exact Light.quiet (opLenMap (f := (AV.int .i64)) rfl rfl rfl lenT_25 rfl)) ?_
    refine ASL.g (v := (.bool (decide (((a14.2.length : Int)) > 20)))) (.bool c25) false rfl (wF _) rfl (fun hG => by have q0 := gN hG; subst q0; exact Light.quiet (opInt rfl rfl rfl rfl)) ?_
    refine ASL.q (v := (.bool (c25 || (decide (((a14.2.length : Int)) > 20))))) rfl rfl (Light.quiet (opPick (b := c25) rfl rfl (by cases c25 <;> rfl))) ?_
    refine ASL.done ?_
    refine AWP.ifB hF rfl (fun hc2 hF => ?_) (fun hc2 hF => ?_)
    · skip
      refine AWP.seqR rfl ?_
      refine ASL.q (v := (.list 1 (List.map (AV.int .i64) a14.2))) rfl rfl (Light.quiet (opMove rfl rfl)) ?_
      obtain ⟨a31, ha31, hF⟩ := bindE hF
      refine ASL.q (v := (.bool a31)) rfl rfl ((qCallR hS rfl rfl call_10 (impl_ReTakes_ok ha31) ⟨.nil _, .same _, trivial⟩ (by constructor))) ?_
      refine ASL.q (v := (.bool (!a31))) rfl rfl (Light.quiet (opNot rfl rfl)) ?_
      refine ASL.q (v := (.bool (!a31))) rfl rfl (Light.quiet (opAssign rfl rfl)) ?_
      refine ASL.done ?_
      refine AWP.ret ?_
      refine QThen.rt ?_
      obtain rfl := someE hF
      exact QRet.sole (v := (.bool (!a31))) ⟨rfl, trivial⟩ rfl
    · skip
      refine AWP.skip ?_
      refine QThen.nrm ?_
      refine AWP.seqR rfl ?_
      refine ASL.x rfl rfl (hLit (f := TNode.av) (zs := []) hS rfl rfl elemA_24 sizeA_31 zeroA_31 rfl rfl rfl rfl (by simp [cells, TNode.av]) (nlt rfl) ?_); rintro v33 G3 hK hS
      refine ASL.q (v := (.list 3 (List.map TNode.av a14.1))) rfl rfl (Light.quiet (opMove rfl rfl)) ?_
      obtain ⟨z35, hz35, hF⟩ := bindE hF
      refine ASL.x rfl rfl (hApp (f := TNode.av) (ws := a14.1) hS (j := 0) rfl hz35 rfl elemA_24 rfl sizeA_31 bytesA_31 zeroA_31 rfl rfl rfl (fun _ => rfl) ?_); rintro v35 G5 hS
      refine ASL.q (v := (.list 3 (List.map TNode.av a14.1))) rfl rfl (Light.quiet (opMove rfl rfl)) ?_
      refine ASL.q (v := (.int .i64 (a14.1.length : Int))) rfl rfl (Light.quiet (opLenMap (f := TNode.av) rfl rfl rfl lenT_24 rfl)) ?_
      refine ASL.q (v := (.int .i64 (W (((a14.1.length : Int)) - 1)))) rfl rfl (Light.quiet (opInt rfl rfl rfl rfl)) ?_
      refine ASL.q (v := (.agg [(.int .i64 4), (.int .i64 (W (((a14.1.length : Int)) - 1))), (.int .i64 0)])) rfl rfl (Light.quiet (opBuildZ (zs := [(.int .i64 0), (.int .i64 0), (.int .i64 0)]) rfl plan_31 zeroA_31 ⟨.inl rfl, .inl rfl, .inl rfl, trivial⟩ rfl)) ?_
      refine ASL.q (v := (.list 3 (List.map TNode.av [(TNode.mk 4 ((W (((a14.1.length : Int)) - 1))) 0)]))) rfl rfl ((qLit (xs := [(.agg [(.int .i64 4), (.int .i64 (W (((a14.1.length : Int)) - 1))), (.int .i64 0)])]) rfl elemA_24 sizeA_31 zeroA_31 rfl rfl rfl rfl (by simp [cells, TNode.av]) (nlt rfl))) ?_
      obtain ⟨z41, hz41, hF⟩ := bindE hF
      refine ASL.x rfl rfl (hApp (f := TNode.av) (ws := [(TNode.mk 4 ((W (((a14.1.length : Int)) - 1))) 0)]) hS (j := 0) rfl hz41 rfl elemA_24 rfl sizeA_31 bytesA_31 zeroA_31 rfl rfl rfl (fun _ => rfl) ?_); rintro v41 G7 hS
      refine ASL.q (v := v41) rfl rfl (Light.quiet (opAssign rfl rfl)) ?_
      refine ASL.done ?_
      refine AWP.seqR rfl ?_
      refine ASL.x rfl rfl (hLit (f := TNode.av) (zs := []) hS rfl rfl elemA_24 sizeA_31 zeroA_31 rfl rfl rfl rfl (by simp [cells, TNode.av]) (nlt rfl) ?_); rintro v42 G9 hK hS
      refine ASL.q (v := (.list 3 (List.map TNode.av a14.1))) rfl rfl (Light.quiet (opMove rfl rfl)) ?_
      obtain ⟨z44, hz44, hF⟩ := bindE hF
      refine ASL.x rfl rfl (hApp (f := TNode.av) (ws := a14.1) hS (j := 0) rfl hz44 rfl elemA_24 rfl sizeA_31 bytesA_31 zeroA_31 rfl rfl rfl (fun _ => rfl) ?_); rintro v44 G11 hS
      refine ASL.q (v := v44) rfl rfl (Light.quiet (opAssign rfl rfl)) ?_
      refine ASL.done ?_
      refine AWP.seqR rfl ?_
      refine ASL.q (v := v44) rfl rfl (Light.quiet (opMove rfl rfl)) ?_
      refine ASL.q (v := (.agg [(.int .i64 3), (.int .i64 1), (.int .i64 0)])) rfl rfl (Light.quiet (opBuildZ (zs := [(.int .i64 0), (.int .i64 0), (.int .i64 0)]) rfl plan_31 zeroA_31 ⟨.inl rfl, .inl rfl, .inl rfl, trivial⟩ rfl)) ?_
      refine ASL.q (v := (.list 3 (List.map TNode.av a14.1))) rfl rfl (Light.quiet (opMove rfl rfl)) ?_
      refine ASL.q (v := (.int .i64 (a14.1.length : Int))) rfl rfl (Light.quiet (opLenMap (f := TNode.av) rfl rfl rfl lenT_24 rfl)) ?_
      refine ASL.q (v := (.int .i64 (W (((a14.1.length : Int)) - 1)))) rfl rfl (Light.quiet (opInt rfl rfl rfl rfl)) ?_
      refine ASL.q (v := (.list 3 (List.map TNode.av a14.1))) rfl rfl (Light.quiet (opMove rfl rfl)) ?_
      refine ASL.q (v := (.int .i64 (a14.1.length : Int))) rfl rfl (Light.quiet (opLenMap (f := TNode.av) rfl rfl rfl lenT_24 rfl)) ?_
      refine ASL.q (v := (.agg [(.int .i64 6), (.int .i64 (W (((a14.1.length : Int)) - 1))), (.int .i64 (a14.1.length : Int))])) rfl rfl (Light.quiet (opBuildZ (zs := [(.int .i64 0), (.int .i64 0), (.int .i64 0)]) rfl plan_31 zeroA_31 ⟨.inl rfl, .inl rfl, .inl rfl, trivial⟩ rfl)) ?_
      refine ASL.q (v := (.list 3 (List.map TNode.av [(TNode.mk 3 1 0), (TNode.mk 6 ((W (((a14.1.length : Int)) - 1))) ((a14.1.length : Int)))]))) rfl rfl ((qLit (xs := [(.agg [(.int .i64 3), (.int .i64 1), (.int .i64 0)]), (.agg [(.int .i64 6), (.int .i64 (W (((a14.1.length : Int)) - 1))), (.int .i64 (a14.1.length : Int))])]) rfl elemA_24 sizeA_31 zeroA_31 rfl rfl rfl rfl (by simp [cells, TNode.av]) (nlt rfl))) ?_
      obtain ⟨z54, hz54, hF⟩ := bindE hF
      refine ASL.x rfl rfl (hApp (f := TNode.av) (ws := [(TNode.mk 3 1 0), (TNode.mk 6 ((W (((a14.1.length : Int)) - 1))) ((a14.1.length : Int)))]) hS (j := 0) rfl hz54 rfl elemA_24 rfl sizeA_31 bytesA_31 zeroA_31 rfl rfl rfl (fun _ => rfl) ?_); rintro v54 G13 hS
      refine ASL.q (v := v54) rfl rfl (Light.quiet (opAssign rfl rfl)) ?_
      refine ASL.done ?_
      refine AWP.seqR rfl ?_
      refine ASL.x rfl rfl (hLit (f := (AV.int .i64)) (zs := []) hS rfl rfl elemA_25 sizeA_3 zeroA_3 rfl rfl rfl rfl (by simp [cells]) (nlt rfl) ?_); rintro v55 G15 hK hS
      refine ASL.q (v := (.list 1 (List.map (AV.int .i64) a14.2))) rfl rfl (Light.quiet (opMove rfl rfl)) ?_
      obtain ⟨z57, hz57, hF⟩ := bindE hF
      refine ASL.x rfl rfl (hApp (f := (AV.int .i64)) (ws := a14.2) hS (j := 0) rfl hz57 rfl elemA_25 rfl sizeA_3 bytesA_3 zeroA_3 rfl rfl rfl (fun _ => rfl) ?_); rintro v57 G17 hS
      refine ASL.q (v := (.list 1 (List.map (AV.int .i64) a14.2))) rfl rfl (Light.quiet (opMove rfl rfl)) ?_
      obtain ⟨z59, hz59, hF⟩ := bindE hF
      refine ASL.x rfl rfl (hApp (f := (AV.int .i64)) (ws := a14.2) hS (j := 0) rfl hz59 rfl elemA_25 rfl sizeA_3 bytesA_3 zeroA_3 rfl rfl rfl (fun _ => rfl) ?_); rintro v59 G19 hS
      refine ASL.q (v := v59) rfl rfl (Light.quiet (opAssign rfl rfl)) ?_
      refine ASL.done ?_
      refine AWP.seqR rfl ?_
      refine ASL.q (v := (.list 3 (List.map TNode.av a14.1))) rfl rfl (Light.quiet (opMove rfl rfl)) ?_
      refine ASL.q (v := (.list 1 (List.map (AV.int .i64) a14.2))) rfl rfl (Light.quiet (opMove rfl rfl)) ?_
      obtain ⟨a62, ha62, hF⟩ := bindE hF
      refine ASL.q (v := (.bool a62)) rfl rfl ((qCall rfl rfl call_11 (spec_ReTakes_ok ha62) rfl)) ?_
      refine ASL.q (v := (.bool a62)) rfl rfl (Light.quiet (opAssign rfl rfl)) ?_
      refine ASL.done ?_
      refine AWP.seq ?_
      refine AWP.seqR rfl ?_
      refine ASL.q (v := v41) rfl rfl (Light.quiet (opMove rfl rfl)) ?_
      obtain ⟨a64, ha64, hF⟩ := bindE hF
      refine ASL.q (v := (.bool a64)) rfl rfl ((qCallR hS rfl rfl call_12 (impl_ReOk_ok ha64) ⟨.row (k := 2) rfl, trivial⟩ (by constructor))) ?_
      refine ASL.q (v := (.bool (!a64))) rfl rfl (Light.quiet (opNot rfl rfl)) ?_
      obtain ⟨c66, hc66, hF⟩ := bndE hF
      refine ASL.q (v := (.bool c66)) rfl rfl ((Quiet.cast (Light.quiet (opMove rfl rfl)) (congrArg AV.bool hc66.symm))) ?_
      refine ASL.g (v := v54) (.bool c66) false rfl (wF _) rfl (fun hG => by have q0 := gN hG; subst q0; exact Light.quiet (opMove rfl rfl)) ?_
      obtain ⟨a68, ha68, hF⟩ := bindE hF
      refine ASL.g (v := (.bool a68)) (.bool c66) false rfl (wF _) rfl (fun hG => by have q0 := gN hG; subst q0; exact (qCallR hS rfl rfl call_12 (impl_ReOk_ok (whenE ha68)) ⟨.row (k := 1) rfl, trivial⟩ (by constructor))) ?_
      refine ASL.g (v := (.bool (!a68))) (.bool c66) false rfl (wF _) rfl (fun hG => by have q0 := gN hG; subst q0; exact Light.quiet (opNot rfl rfl)) ?_
      refine ASL.q (v := (.bool (c66 || (!a68)))) rfl rfl (Light.quiet (opPick (b := c66) rfl rfl (by cases c66 <;> rfl))) ?_
      obtain ⟨c71, hc71, hF⟩ := bndE hF
      refine ASL.q (v := (.bool c71)) rfl rfl ((Quiet.cast (Light.quiet (opMove rfl rfl)) (congrArg AV.bool hc71.symm))) ?_
      refine ASL.g (v := v41) (.bool c71) false rfl (wF _) rfl (fun hG => by have q0 := gN hG; subst q0; exact Light.quiet (opMove rfl rfl)) ?_
      obtain ⟨a73, ha73, hF⟩ := bindE hF
      refine ASL.g (v := (.bool a73)) (.bool c71) false rfl (wF _) rfl (fun hG => by have q0 := gN hG; subst q0; exact (qCallR hS rfl rfl call_10 (impl_ReTakes_ok (whenE ha73)) ⟨.row (k := 2) rfl, .nil _, trivial⟩ (by constructor))) ?_
      refine ASL.g (v := (.bool (!a73))) (.bool c71) false rfl (wF _) rfl (fun hG => by have q0 := gN hG; subst q0; exact Light.quiet (opNot rfl rfl)) ?_
      refine ASL.q (v := (.bool (c71 || (!a73)))) rfl rfl (Light.quiet (opPick (b := c71) rfl rfl (by cases c71 <;> rfl))) ?_
      refine ASL.done ?_
      refine AWP.ifB hF rfl (fun hc21 hF => ?_) (fun hc21 hF => ?_)
      · skip
        refine AWP.seqR rfl ?_
        refine ASL.q (v := (.bool false)) rfl rfl (Light.quiet (opAssign rfl rfl)) ?_
        refine ASL.done ?_
        refine AWP.ret ?_
        refine QThen.rt ?_
        obtain rfl := someE hF
        exact QRet.sole (v := (.bool false)) ⟨rfl, trivial⟩ rfl
      · skip
        refine AWP.skip ?_
        refine QThen.nrm ?_
        refine AWP.seqR rfl ?_
        refine ASL.q (v := (.list 1 (List.map (AV.int .i64) a14.2))) rfl rfl (Light.quiet (opMove rfl rfl)) ?_
        refine ASL.q (v := (.int .i64 (a14.2.length : Int))) rfl rfl (Light.quiet (opLenMap (f := (AV.int .i64)) rfl rfl rfl lenT_25 rfl)) ?_
        refine ASL.q (v := (.bool (decide (((a14.2.length : Int)) = 1)))) rfl rfl (Light.quiet (opInt rfl rfl rfl rfl)) ?_
        obtain ⟨c79, hc79, hF⟩ := bndE hF
        refine ASL.q (v := (.bool c79)) rfl rfl ((Quiet.cast (Light.quiet (opMove rfl rfl)) (congrArg AV.bool hc79.symm))) ?_
        refine ASL.g (v := (.list 1 (List.map (AV.int .i64) a14.2))) (.bool c79) true rfl (wT _) rfl (fun hG => by have q0 := hG; subst q0; exact Light.quiet (opMove rfl rfl)) ?_
        obtain ⟨a81, ha81, hF⟩ := bindE hF
        refine ASL.g (v := (.rptr [(.int .i64 a81)])) (.bool c79) true rfl (wT _) rfl (fun hG => by have q0 := hG; subst q0; exact Light.quiet (kIx (f := (AV.int .i64)) (whenE ha81) rfl rfl rfl elemA_25 sizeA_3 rfl)) ?_
        refine ASL.g (v := (.int .i64 a81)) (.bool c79) true rfl (wT _) rfl (fun hG => by have q0 := hG; subst q0; exact Light.quiet (opLoadR rfl aggA_3 rfl rfl)) ?_
        refine ASL.g (v := (.bool (decide (a81 = 1)))) (.bool c79) true rfl (wT _) rfl (fun hG => by have q0 := hG; subst q0; exact Light.quiet (opInt rfl rfl rfl rfl)) ?_
        refine ASL.q (v := (.bool (c79 && (decide (a81 = 1))))) rfl rfl (Light.quiet (opPick (b := c79) rfl rfl (by cases c79 <;> rfl))) ?_
        refine ASL.q (v := (.bool (c79 && (decide (a81 = 1))))) rfl rfl (Light.quiet (opAssign rfl rfl)) ?_
        refine ASL.done ?_
        refine AWP.seqR rfl ?_
        refine ASL.q (v := (.bool a62)) rfl rfl (Light.quiet (opMove rfl rfl)) ?_
        refine ASL.q (v := (.bool (!a62))) rfl rfl (Light.quiet (opNot rfl rfl)) ?_
        obtain ⟨c87, hc87, hF⟩ := bndE hF
        refine ASL.q (v := (.bool c87)) rfl rfl ((Quiet.cast (Light.quiet (opMove rfl rfl)) (congrArg AV.bool hc87.symm))) ?_
        refine ASL.g (v := v41) (.bool c87) false rfl (wF _) rfl (fun hG => by have q0 := gN hG; subst q0; exact Light.quiet (opMove rfl rfl)) ?_
        refine ASL.g (v := (.list 1 (List.map (AV.int .i64) a14.2))) (.bool c87) false rfl (wF _) rfl (fun hG => by have q0 := gN hG; subst q0; exact Light.quiet (opMove rfl rfl)) ?_
        obtain ⟨a90, ha90, hF⟩ := bindE hF
        refine ASL.g (v := (.bool a90)) (.bool c87) false rfl (wF _) rfl (fun hG => by have q0 := gN hG; subst q0; exact (qCallR hS rfl rfl call_10 (impl_ReTakes_ok (whenE ha90)) ⟨.row (k := 2) rfl, .same _, trivial⟩ (by constructor))) ?_
        refine ASL.g (v := (.bool a90)) (.bool c87) false rfl (wF _) rfl (fun hG => by have q0 := gN hG; subst q0; exact Light.quiet (opMove rfl rfl)) ?_
        refine ASL.g (v := v41) (bif (!c87) then (.bool a90) else .tup []) true rfl (wGT _ _) rfl (fun hG => by have q0 := gN (gA1 hG); have q1 := gA2 hG; subst q0; subst q1; exact Light.quiet (opMove rfl rfl)) ?_
        refine ASL.g (v := v59) (bif (!c87) then (.bool a90) else .tup []) true rfl (wGT _ _) rfl (fun hG => by have q0 := gN (gA1 hG); have q1 := gA2 hG; subst q0; subst q1; exact Light.quiet (opMove rfl rfl)) ?_
        obtain ⟨a94, ha94, hF⟩ := bindE hF
        refine ASL.g (v := (.bool a94)) (bif (!c87) then (.bool a90) else .tup []) true rfl (wGT _ _) rfl (fun hG => by have q0 := gN (gA1 hG); have q1 := gA2 hG; subst q0; subst q1; exact (qCallR hS rfl rfl call_10 (impl_ReTakes_ok (whenE ha94)) ⟨.row (k := 2) rfl, .row (k := 0) rfl, trivial⟩ (by constructor))) ?_
        refine ASL.g (v := (.bool (a90 && a94))) (.bool c87) false rfl (wF _) rfl (fun hG => by have q0 := gN hG; subst q0; exact Light.quiet (opPick (b := a90) rfl rfl (by cases a90 <;> rfl))) ?_
        refine ASL.q (v := (.bool (c87 || (a90 && a94)))) rfl rfl (Light.quiet (opPick (b := c87) rfl rfl (by cases c87 <;> rfl))) ?_
        obtain ⟨c97, hc97, hF⟩ := bndE hF
        refine ASL.q (v := (.bool c97)) rfl rfl ((Quiet.cast (Light.quiet (opMove rfl rfl)) (congrArg AV.bool hc97.symm))) ?_
        refine ASL.g (v := v54) (.bool c97) true rfl (wT _) rfl (fun hG => by have q0 := hG; subst q0; exact Light.quiet (opMove rfl rfl)) ?_
        refine ASL.g (v := (.list 1 (List.map (AV.int .i64) a14.2))) (.bool c97) true rfl (wT _) rfl (fun hG => by have q0 := hG; subst q0; exact Light.quiet (opMove rfl rfl)) ?_
        obtain ⟨a100, ha100, hF⟩ := bindE hF
        refine ASL.g (v := (.bool a100)) (.bool c97) true rfl (wT _) rfl (fun hG => by have q0 := hG; subst q0; exact (qCallR hS rfl rfl call_10 (impl_ReTakes_ok (whenE ha100)) ⟨.row (k := 1) rfl, .same _, trivial⟩ (by constructor))) ?_
        refine ASL.g (v := (.bool a62)) (.bool c97) true rfl (wT _) rfl (fun hG => by have q0 := hG; subst q0; exact Light.quiet (opMove rfl rfl)) ?_
        refine ASL.g (v := (.bool a62)) (.bool c97) true rfl (wT _) rfl (fun hG => by have q0 := hG; subst q0; exact Light.quiet (opMove rfl rfl)) ?_
        refine ASL.g (v := (.bool (c79 && (decide (a81 = 1))))) (bif c97 then (.bool a62) else .tup []) false rfl (wGF _ _) rfl (fun hG => by have q0 := gA1 hG; have q1 := gN (gA2 hG); subst q0; subst q1; exact Light.quiet (opMove rfl rfl)) ?_
        refine ASL.g (v := (.bool (a62 || (c79 && (decide (a81 = 1)))))) (.bool c97) true rfl (wT _) rfl (fun hG => by have q0 := hG; subst q0; exact Light.quiet (opPick (b := a62) rfl rfl (by cases a62 <;> rfl))) ?_
        refine ASL.g (v := (.bool (a100 == (a62 || (c79 && (decide (a81 = 1))))))) (.bool c97) true rfl (wT _) rfl (fun hG => by have q0 := hG; subst q0; exact Light.quiet (opBoolEq rfl rfl rfl und_4 rfl)) ?_
        refine ASL.q (v := (.bool (c97 && (a100 == (a62 || (c79 && (decide (a81 = 1)))))))) rfl rfl (Light.quiet (opPick (b := c97) rfl rfl (by cases c97 <;> rfl))) ?_
        refine ASL.q (v := (.bool (c97 && (a100 == (a62 || (c79 && (decide (a81 = 1)))))))) rfl rfl (Light.quiet (opAssign rfl rfl)) ?_
        refine ASL.done ?_
        refine AWP.ret ?_
        obtain rfl := someE hF
        exact QRet.sole (v := (.bool (c97 && (a100 == (a62 || (c79 && (decide (a81 = 1)))))))) ⟨rfl, trivial⟩ rfl

end Go.Proofs.Ytmmgpcnngaekoaa
