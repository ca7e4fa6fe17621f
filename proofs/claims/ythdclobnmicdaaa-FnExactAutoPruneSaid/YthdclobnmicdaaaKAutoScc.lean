/- Each of these functions of the program comes to just what its plain function says: FnExactAutoScc. -/
import Derived.Test.YthdclobnmicdaaaDAutoScc
import Derived.Test.YthdclobnmicdaaaFa
import Derived.Test.YthdclobnmicdaaaKAutoEmpty
namespace Go.Proofs.Ythdclobnmicdaaa
open Go Go.RowKit E
set_option linter.unusedVariables false
set_option maxRecDepth 10000 in
theorem spec_AutoScc_ok {p0 : TAuto} {r : (List Int)} (hF : spec_AutoScc p0 = some r) : PO Try.prog 17 [(TAuto.av p0)] 1 (List.map (AV.int .i64) r) := by
  refine HC.enter Try.func17 rfl Try.ntmps17 (by simp) ?_
  have hS := Sep.void; unfold spec_AutoScc at hF
  refine AWP.seqR rfl ?_
  refine ASL.q (v := (.rptr [(.int .i64 p0.letters), (.int .i64 p0.states), (.int .i64 p0.start), (.list 4 (List.map TEdge.av p0.edges))])) rfl rfl ((qBoxI (v := (TAuto.av p0)) rfl rfl rfl rfl)) ?_
  have hS := hNil (s := 1) (f := (AV.int .i64)) hS
  refine ASL.q (v := .nil) rfl rfl (Light.quiet (opAssign rfl rfl)) ?_
  refine ASL.done ?_
  refine AWP.seqR rfl ?_
  refine ASL.x rfl rfl (hLit (f := (AV.int .i64)) (zs := []) hS rfl rfl elemA_34 sizeA_3 zeroA_3 rfl rfl rfl rfl (by simp [cells]) (nlt rfl) ?_); rintro v9 G2 hK hS
  refine ASL.q (v := v9) rfl rfl (Light.quiet (opAssign rfl rfl)) ?_
  refine ASL.done ?_
  refine AWP.seq ?_
  refine AWP.seqR rfl ?_
  refine ASL.q (v := (TAuto.av p0)) rfl rfl (Light.quiet (opLoadRA rfl aggA_29 sizeA_29 rfl (nlt rfl) rfl)) ?_
  obtain ⟨a11, ha11, hF⟩ := bindE hF
  refine ASL.q (v := (.bool a11)) rfl rfl ((qCall rfl rfl call_41 (spec_AutoOk_ok ha11) rfl)) ?_
  refine ASL.q (v := (.bool (!a11))) rfl rfl (Light.quiet (opNot rfl rfl)) ?_
  refine ASL.done ?_
  refine AWP.ifB hF rfl (fun hc4 hF => ?_) (fun hc4 hF => ?_)
  · skip
    refine AWP.seqR rfl ?_
    refine ASL.q (v := v9) rfl rfl (Light.quiet (opMove rfl rfl)) ?_
    refine ASL.q (v := v9) rfl rfl (Light.quiet (opAssign rfl rfl)) ?_
    refine ASL.done ?_
    refine AWP.ret ?_
    refine QThen.rt ?_
    obtain rfl := someE hF
    exact QRet.sole (v := v9) ⟨rfl, trivial⟩ (hS.get (k := 0) rfl)
  · skip
    refine AWP.skip ?_
    refine QThen.nrm ?_
    refine AWP.seqR rfl ?_
    refine ASL.x rfl rfl (hLit (f := (AV.int .i64)) (zs := []) hS rfl rfl elemA_34 sizeA_3 zeroA_3 rfl rfl rfl rfl (by simp [cells]) (nlt rfl) ?_); rintro v14 G5 hK hS
    refine ASL.q (v := v14) rfl rfl (Light.quiet (opAssign rfl rfl)) ?_
    refine ASL.done ?_
    refine AWP.seqM (fun e H => ∃ y7 : (List Int), ∃ w8 : AV, E.Told e [(1, (.rptr [(.int .i64 p0.letters), (.int .i64 p0.states), (.int .i64 p0.start), (.list 4 (List.map TEdge.av p0.edges))])), (3, v9), (4, w8)] ∧ E.Sep H [.row 1 v9 (List.map (AV.int .i64) ([])), .row 1 w8 (List.map (AV.int .i64) y7)] ∧ spec_AutoScc.k0 p0 y7 = some r) ?_ ?_
    · rintro e0 G39 ⟨y7, w8, hT, hS, hF⟩; refine AWP.only _ hT ?_; unfold spec_AutoScc.k0 at hF
      refine AWP.seqM (fun e H => ∃ y10 : (List Int), ∃ w11 : AV, E.Told e [(3, w11)] ∧ E.Sep H [.row 1 w11 (List.map (AV.int .i64) y10)] ∧ spec_AutoScc.k1 y10 = some r) ?_ ?_
      · rintro e0 G13 ⟨y10, w11, hT, hS, hF⟩; refine AWP.only _ hT ?_; unfold spec_AutoScc.k1 at hF
        refine AWP.seqR rfl ?_
        refine ASL.q (v := w11) rfl rfl (Light.quiet (opMove rfl rfl)) ?_
        refine ASL.q (v := w11) rfl rfl (Light.quiet (opAssign rfl rfl)) ?_
        refine ASL.done ?_
        refine AWP.ret ?_
        obtain rfl := someE hF
        exact QRet.sole (v := w11) ⟨rfl, trivial⟩ (hS.get (k := 0) rfl)
      · skip
        refine AWP.seqR rfl ?_
        refine ASL.q (v := (.int .i64 0)) rfl rfl (Light.quiet (opAssign rfl rfl)) ?_
        refine ASL.done ?_
        refine AWP.block ?_
        obtain ⟨o20, hL19, hR21⟩ := bindE hF
        refine AWP.loopF (ω := AV) hL19 (fun s w => [(1, (.rptr [(.int .i64 p0.letters), (.int .i64 p0.states), (.int .i64 p0.start), (.list 4 (List.map TEdge.av p0.edges))])), (3, w), (4, w8), (6, (.int .i64 s.2))]) (fun s w => [.row 1 w (List.map (AV.int .i64) s.1), .row 1 w8 (List.map (AV.int .i64) y7)]) v9 ⟨rfl, rfl, rfl, rfl, trivial⟩ (hS.pick [0, 1] rfl rfl) ?_
        rintro ⟨y14, x6_l0⟩ w15 G22 hS x17 hF hx18
        try dsimp only at hS ⊢
        have hF : spec_AutoScc.b0 p0 y7 y14 x6_l0 = some x17 := hF; unfold spec_AutoScc.b0 at hF
        refine AWP.seq ?_
        refine AWP.seqR rfl ?_
        refine ASL.q (v := (.int .i64 x6_l0)) rfl rfl (Light.quiet (opMove rfl rfl)) ?_
        refine ASL.q (v := (.rptr [(.int .i64 p0.states), (.int .i64 p0.start), (.list 4 (List.map TEdge.av p0.edges))])) rfl rfl (Light.quiet (opFieldAddrR rfl fieldA_29_1 rfl rfl)) ?_
        refine ASL.q (v := (.int .i64 p0.states)) rfl rfl (Light.quiet (opLoadR rfl aggA_3 rfl rfl)) ?_
        refine ASL.q (v := (.bool (decide (x6_l0 < p0.states)))) rfl rfl (Light.quiet (opInt rfl rfl rfl rfl)) ?_
        refine ASL.done ?_
        refine AWP.ifP hF rfl (fun hc23 hF => ?_) (fun hc23 hF => ?_)
        · skip
          refine AWP.skip ?_
          refine QThen.nrm ?_
          refine AWP.seqM (fun e H => ∃ y24 : (List Int), ∃ w25 : AV, E.Told e [(1, (.rptr [(.int .i64 p0.letters), (.int .i64 p0.states), (.int .i64 p0.start), (.list 4 (List.map TEdge.av p0.edges))])), (3, w25), (4, w8), (6, (.int .i64 x6_l0))] ∧ E.Sep H [.row 1 w25 (List.map (AV.int .i64) y24), .row 1 w8 (List.map (AV.int .i64) y7)] ∧ spec_AutoScc.k2 x6_l0 y24 = some x17) ?_ ?_
          · rintro e0 G27 ⟨y24, w25, hT, hS, hF⟩; refine AWP.only _ hT ?_; unfold spec_AutoScc.k2 at hF
            refine AWP.lastR rfl ?_
            refine ASL.q (v := (.int .i64 x6_l0)) rfl rfl (Light.quiet (opMove rfl rfl)) ?_
            refine ASL.q (v := (.int .i64 (W (x6_l0 + 1)))) rfl rfl (Light.quiet (opInt rfl rfl rfl rfl)) ?_
            refine ASL.q (v := (.int .i64 (W (x6_l0 + 1)))) rfl rfl (Light.quiet (opAssign rfl rfl)) ?_
            refine ASL.done ?_
            refine QThen.nrm ?_
            exact ⟨(y24, (W (x6_l0 + 1))), w25, (someE hF).symm, ⟨rfl, rfl, rfl, rfl, trivial⟩, (hS.pick [0, 1] rfl rfl)⟩
          · skip
            refine AWP.block ?_
            refine AWP.seqR rfl ?_
            refine ASL.q (v := (.int .i64 x6_l0)) rfl rfl (Light.quiet (opMove rfl rfl)) ?_
            refine ASL.q (v := (.int .i64 x6_l0)) rfl rfl (Light.quiet (opAssign rfl rfl)) ?_
            refine ASL.done ?_
            refine AWP.seqM (fun e H => ∃ x7_4 : Int, E.Told e [(1, (.rptr [(.int .i64 p0.letters), (.int .i64 p0.states), (.int .i64 p0.start), (.list 4 (List.map TEdge.av p0.edges))])), (3, w15), (4, w8), (6, (.int .i64 x6_l0)), (7, (.int .i64 x7_4))] ∧ E.Sep H [.row 1 w15 (List.map (AV.int .i64) y14), .row 1 w8 (List.map (AV.int .i64) y7)] ∧ spec_AutoScc.k3 y14 x6_l0 x7_4 = some x17) ?_ ?_
            · rintro e0 G30 ⟨x7_4, hT, hS, hF⟩; refine AWP.only _ hT ?_; unfold spec_AutoScc.k3 at hF
              refine AWP.lastR rfl ?_
              refine ASL.q (v := w15) rfl rfl (Light.quiet (opMove rfl rfl)) ?_
              refine ASL.q (v := (.int .i64 x7_4)) rfl rfl (Light.quiet (opMove rfl rfl)) ?_
              refine ASL.q (v := (.list 1 (List.map (AV.int .i64) [x7_4]))) rfl rfl ((qLit (xs := [(.int .i64 x7_4)]) rfl elemA_34 sizeA_3 zeroA_3 rfl rfl rfl rfl (by simp [cells]) (nlt rfl))) ?_
              obtain ⟨z58, hz58, hF⟩ := bindE hF
              refine ASL.x rfl rfl (hApp (f := (AV.int .i64)) (ws := [x7_4]) hS (j := 0) rfl hz58 rfl elemA_34 rfl sizeA_3 bytesA_3 zeroA_3 rfl rfl rfl (fun _ => rfl) ?_); rintro v58 G28 hS
              refine ASL.q (v := v58) rfl rfl (Light.quiet (opAssign rfl rfl)) ?_
              refine ASL.done ?_
              refine QBlock.nrm ?_
              refine QThen.nrm ?_
              exact ⟨z58, v58, ⟨rfl, rfl, rfl, rfl, trivial⟩, (hS.pick [0, 1] rfl rfl), hF⟩
            · skip
              refine AWP.seqR rfl ?_
              refine ASL.q (v := (.int .i64 x6_l0)) rfl rfl (Light.quiet (opMove rfl rfl)) ?_
              refine ASL.q (v := (.int .i64 x6_l0)) rfl rfl (Light.quiet (opAssign rfl rfl)) ?_
              refine ASL.done ?_
              refine AWP.block ?_
              obtain ⟨o34, hL33, hR35⟩ := bindE hF
              refine AWP.loopF (ω := Unit) hL33 (fun s w => [(1, (.rptr [(.int .i64 p0.letters), (.int .i64 p0.states), (.int .i64 p0.start), (.list 4 (List.map TEdge.av p0.edges))])), (3, w15), (4, w8), (6, (.int .i64 x6_l0)), (7, (.int .i64 s.1)), (8, (.int .i64 s.2))]) (fun s w => [.row 1 w15 (List.map (AV.int .i64) y14), .row 1 w8 (List.map (AV.int .i64) y7)]) () ⟨rfl, rfl, rfl, rfl, rfl, rfl, trivial⟩ (hS.pick [0, 1] rfl rfl) ?_
              rintro ⟨x7_l1, x8_l1⟩ _ G36 hS x31 hF hx32
              try dsimp only at hS ⊢
              have hF : spec_AutoScc.b1 y7 x6_l0 x7_l1 x8_l1 = some x31 := hF; unfold spec_AutoScc.b1 at hF
              refine AWP.seq ?_
              refine AWP.seqR rfl ?_
              refine ASL.q (v := (.int .i64 x8_l1)) rfl rfl (Light.quiet (opMove rfl rfl)) ?_
              refine ASL.q (v := (.bool (decide (x8_l1 ≥ 0)))) rfl rfl (Light.quiet (opInt rfl rfl rfl rfl)) ?_
              refine ASL.done ?_
              refine AWP.ifP hF rfl (fun hc37 hF => ?_) (fun hc37 hF => ?_)
              · skip
                refine AWP.skip ?_
                refine QThen.nrm ?_
                refine AWP.seq ?_
                refine AWP.block ?_
                refine AWP.seqR rfl ?_
                refine ASL.q (v := w8) rfl rfl (Light.quiet (opMove rfl rfl)) ?_
                refine ASL.q (v := (.int .i64 x6_l0)) rfl rfl (Light.quiet (opMove rfl rfl)) ?_
                obtain ⟨a42, ha42, hF⟩ := bindE hF
                refine ASL.q (v := (ptrTo w8 x6_l0.toNat 1)) rfl rfl (Light.quiet (kIxOx hS (j := 1) rfl ha42 rfl rfl rfl elemA_34 sizeA_3)) ?_
                refine ASL.q (v := (.int .i64 a42)) rfl rfl (Light.quiet (kLd (f := (AV.int .i64)) hS (j := 1) rfl ha42 rfl aggA_3 rfl (fun _ => rfl))) ?_
                refine ASL.q (v := (.int .i64 x8_l1)) rfl rfl (Light.quiet (opMove rfl rfl)) ?_
                obtain ⟨a45, ha45, hF⟩ := bindE hF
                refine ASL.q (v := (.bool a45)) rfl rfl ((qCall rfl rfl call_48 (spec_l1Has_ok ha45) rfl)) ?_
                refine ASL.q (v := (.bool a45)) rfl rfl (Light.quiet (opMove rfl rfl)) ?_
                refine ASL.g (v := w8) (.bool a45) true rfl (wT _) rfl (fun hG => by have q0 := hG; subst q0; exact Light.quiet (opMove rfl rfl)) ?_
                refine ASL.g (v := (.int .i64 x8_l1)) (.bool a45) true rfl (wT _) rfl (fun hG => by have q0 := hG; subst q0; exact Light.quiet (opMove rfl rfl)) ?_
                obtain ⟨a49, ha49, hF⟩ := bindE hF
                refine ASL.g (v := (ptrTo w8 x8_l1.toNat 1)) (.bool a45) true rfl (wT _) rfl (fun hG => by have q0 := hG; subst q0; exact Light.quiet (kIxOx hS (j := 1) rfl (whenE ha49) rfl rfl rfl elemA_34 sizeA_3)) ?_
                refine ASL.g (v := (.int .i64 a49)) (.bool a45) true rfl (wT _) rfl (fun hG => by have q0 := hG; subst q0; exact Light.quiet (kLd (f := (AV.int .i64)) hS (j := 1) rfl (whenE ha49) rfl aggA_3 rfl (fun _ => rfl))) ?_
                refine ASL.g (v := (.int .i64 x6_l0)) (.bool a45) true rfl (wT _) rfl (fun hG => by have q0 := hG; subst q0; exact Light.quiet (opMove rfl rfl)) ?_
                obtain ⟨a52, ha52, hF⟩ := bindE hF
                refine ASL.g (v := (.bool a52)) (.bool a45) true rfl (wT _) rfl (fun hG => by have q0 := hG; subst q0; exact (qCall rfl rfl call_48 (spec_l1Has_ok (whenE ha52)) rfl)) ?_
                refine ASL.q (v := (.bool (a45 && a52))) rfl rfl (Light.quiet (opPick (b := a45) rfl rfl (by cases a45 <;> rfl))) ?_
                refine ASL.done ?_
                refine AWP.ifB hF rfl (fun hc38 hF => ?_) (fun hc38 hF => ?_)
                · skip
                  refine AWP.lastR rfl ?_
                  refine ASL.q (v := (.int .i64 x8_l1)) rfl rfl (Light.quiet (opMove rfl rfl)) ?_
                  refine ASL.q (v := (.int .i64 x8_l1)) rfl rfl (Light.quiet (opAssign rfl rfl)) ?_
                  refine ASL.done ?_
                  refine QBlock.nrm ?_
                  refine QThen.nrm ?_
                  refine AWP.lastR rfl ?_
                  refine ASL.q (v := (.int .i64 x8_l1)) rfl rfl (Light.quiet (opMove rfl rfl)) ?_
                  refine ASL.q (v := (.int .i64 (W (x8_l1 - 1)))) rfl rfl (Light.quiet (opInt rfl rfl rfl rfl)) ?_
                  refine ASL.q (v := (.int .i64 (W (x8_l1 - 1)))) rfl rfl (Light.quiet (opAssign rfl rfl)) ?_
                  refine ASL.done ?_
                  refine QThen.nrm ?_
                  exact ⟨(x8_l1, (W (x8_l1 - 1))), (), (someE hF).symm, ⟨rfl, rfl, rfl, rfl, rfl, rfl, trivial⟩, (hS.pick [0, 1] rfl rfl)⟩
                · skip
                  refine AWP.skip ?_
                  refine QBlock.nrm ?_
                  refine QThen.nrm ?_
                  refine AWP.lastR rfl ?_
                  refine ASL.q (v := (.int .i64 x8_l1)) rfl rfl (Light.quiet (opMove rfl rfl)) ?_
                  refine ASL.q (v := (.int .i64 (W (x8_l1 - 1)))) rfl rfl (Light.quiet (opInt rfl rfl rfl rfl)) ?_
                  refine ASL.q (v := (.int .i64 (W (x8_l1 - 1)))) rfl rfl (Light.quiet (opAssign rfl rfl)) ?_
                  refine ASL.done ?_
                  refine QThen.nrm ?_
                  exact ⟨(x7_l1, (W (x8_l1 - 1))), (), (someE hF).symm, ⟨rfl, rfl, rfl, rfl, rfl, rfl, trivial⟩, (hS.pick [0, 1] rfl rfl)⟩
              · skip
                refine AWP.exit ?_
                refine QThen.ext ?_
                refine QThen.ext ?_
                refine QBlock.hit ?_
                obtain rfl := (hx32 _ (someE hF).symm)
                have hF := hR35
                refine QThen.nrm ?_
                exact ⟨x7_l1, ⟨rfl, rfl, rfl, rfl, rfl, trivial⟩, (hS.pick [0, 1] rfl rfl), hF⟩
        · skip
          refine AWP.exit ?_
          refine QThen.ext ?_
          refine QThen.ext ?_
          refine QBlock.hit ?_
          obtain rfl := (hx18 _ (someE hF).symm)
          have hF := hR21
          refine QThen.nrm ?_
          exact ⟨y14, w15, ⟨rfl, trivial⟩, (hS.pick [0] rfl rfl), hF⟩
    · skip
      refine AWP.seqR rfl ?_
      refine ASL.q (v := (.int .i64 0)) rfl rfl (Light.quiet (opAssign rfl rfl)) ?_
      refine ASL.done ?_
      refine AWP.block ?_
      obtain ⟨o46, hL45, hR47⟩ := bindE hF
      refine AWP.loopF (ω := AV) hL45 (fun s w => [(1, (.rptr [(.int .i64 p0.letters), (.int .i64 p0.states), (.int .i64 p0.start), (.list 4 (List.map TEdge.av p0.edges))])), (3, v9), (4, w), (5, (.int .i64 s.2))]) (fun s w => [.row 1 v9 (List.map (AV.int .i64) ([])), .row 1 w (List.map (AV.int .i64) s.1)]) v14 ⟨rfl, rfl, rfl, rfl, trivial⟩ (hS.pick [1, 0] rfl rfl) ?_
      rintro ⟨y40, x5_l2⟩ w41 G48 hS x43 hF hx44
      try dsimp only at hS ⊢
      have hF : spec_AutoScc.b2 p0 y40 x5_l2 = some x43 := hF; unfold spec_AutoScc.b2 at hF
      refine AWP.seq ?_
      refine AWP.seqR rfl ?_
      refine ASL.q (v := (.int .i64 x5_l2)) rfl rfl (Light.quiet (opMove rfl rfl)) ?_
      refine ASL.q (v := (.rptr [(.int .i64 p0.states), (.int .i64 p0.start), (.list 4 (List.map TEdge.av p0.edges))])) rfl rfl (Light.quiet (opFieldAddrR rfl fieldA_29_1 rfl rfl)) ?_
      refine ASL.q (v := (.int .i64 p0.states)) rfl rfl (Light.quiet (opLoadR rfl aggA_3 rfl rfl)) ?_
      refine ASL.q (v := (.bool (decide (x5_l2 < p0.states)))) rfl rfl (Light.quiet (opInt rfl rfl rfl rfl)) ?_
      refine ASL.done ?_
      refine AWP.ifP hF rfl (fun hc49 hF => ?_) (fun hc49 hF => ?_)
      · skip
        refine AWP.skip ?_
        refine QThen.nrm ?_
        refine AWP.seq ?_
        refine AWP.block ?_
        refine AWP.lastD [(0, false), (1, false), (2, false), (3, false), (4, false), (5, false), (6, true), (7, false)] mixed (by kernel_rfl) rfl ?_
        refine ARL.q0 (v := w41) rfl rfl (Light.quiet (opMove rfl rfl)) ?_
        refine ARL.q0 (v := (TAuto.av p0)) rfl rfl (Light.quiet (opLoadRA rfl aggA_29 sizeA_29 rfl (nlt rfl) rfl)) ?_
        refine ARL.q0 (v := (.int .i64 x5_l2)) rfl rfl (Light.quiet (opMove rfl rfl)) ?_
        obtain ⟨a24, ha24, hF⟩ := bindE hF
        refine ARL.q0 (v := (.int .i64 a24)) rfl rfl ((qCall rfl rfl call_47 (spec_l1Bit_ok ha24) rfl)) ?_
        obtain ⟨a25, ha25, hF⟩ := bindE hF
        refine ARL.q0 (v := (.int .i64 a25)) rfl rfl ((qCall rfl rfl call_46 (spec_l4Reach_ok ha25) rfl)) ?_
        refine ARL.q0 (v := (.list 1 (List.map (AV.int .i64) [a25]))) rfl rfl ((qLit (xs := [(.int .i64 a25)]) rfl elemA_34 sizeA_3 zeroA_3 rfl rfl rfl rfl (by simp [cells]) (nlt rfl))) ?_
        obtain ⟨z27, hz27, hF⟩ := bindE hF
        refine ARL.y rfl rfl rfl rfl (hApp (f := (AV.int .i64)) (ws := [a25]) hS (j := 1) rfl hz27 rfl elemA_34 rfl sizeA_3 bytesA_3 zeroA_3 rfl rfl rfl (fun _ => rfl) ?_); rintro v27 G50 hS
        refine ARL.q0 (v := v27) rfl rfl (Light.quiet (opAssign rfl rfl)) ?_
        refine ARL.done ?_
        refine QBlock.nrm ?_
        refine QThen.nrm ?_
        refine AWP.lastR rfl ?_
        refine ASL.q (v := (.int .i64 x5_l2)) rfl rfl (Light.quiet (opMove rfl rfl)) ?_
        refine ASL.q (v := (.int .i64 (W (x5_l2 + 1)))) rfl rfl (Light.quiet (opInt rfl rfl rfl rfl)) ?_
        refine ASL.q (v := (.int .i64 (W (x5_l2 + 1)))) rfl rfl (Light.quiet (opAssign rfl rfl)) ?_
        refine ASL.done ?_
        refine QThen.nrm ?_
        exact ⟨(z27, (W (x5_l2 + 1))), v27, (someE hF).symm, ⟨rfl, rfl, rfl, rfl, trivial⟩, (hS.pick [0, 1] rfl rfl)⟩
      · skip
        refine AWP.exit ?_
        refine QThen.ext ?_
        refine QThen.ext ?_
        refine QBlock.hit ?_
        obtain rfl := (hx44 _ (someE hF).symm)
        have hF := hR47
        refine QThen.nrm ?_
        exact ⟨y40, w41, ⟨rfl, rfl, rfl, trivial⟩, (hS.pick [0, 1] rfl rfl), hF⟩

set_option maxRecDepth 10000 in
theorem slices_Index_int_int_ok {p0 : (List Int)} {p1 : Int} {r : Int} (hF : slices_Index_int_int p0 p1 = some r) : PC Try.prog 51 [(.list 1 (List.map (AV.int .i64) p0)), (.int .i64 p1)] fun v => v = (.int .i64 r) := by
  refine PC.enter Try.func51 rfl Try.ntmps51 (by simp) ?_
  have hS := Sep.void; unfold slices_Index_int_int at hF
  refine AWP.seqR rfl ?_
  refine ASL.q (v := (.int .i64 0)) rfl rfl (Light.quiet (opAssign rfl rfl)) ?_
  refine ASL.done ?_
  refine AWP.seqM (fun e H => E.Told e [] ∧ E.Sep H [] ∧ slices_Index_int_int.k0 = some r) ?_ ?_
  · rintro e0 G1 ⟨hT, hS, hF⟩; refine AWP.only _ hT ?_; unfold slices_Index_int_int.k0 at hF
    refine AWP.seqR rfl ?_
    refine ASL.q (v := (.int .i64 (-1))) rfl rfl (Light.quiet (opAssign rfl rfl)) ?_
    refine ASL.done ?_
    refine AWP.ret ?_
    obtain rfl := someE hF
    exact QRet.sole (v := (.int .i64 (-1))) ⟨rfl, trivial⟩ rfl
  · skip
    refine AWP.seqR rfl ?_
    refine ASL.q (v := (.list 1 (List.map (AV.int .i64) p0))) rfl rfl (Light.quiet (opMove rfl rfl)) ?_
    refine ASL.q (v := (.int .i64 (p0.length : Int))) rfl rfl (Light.quiet (opLenMap (f := (AV.int .i64)) rfl rfl rfl lenT_34 rfl)) ?_
    refine ASL.q (v := (.int .i64 0)) rfl rfl (Light.quiet (opMove rfl rfl)) ?_
    refine ASL.done ?_
    refine AWP.block ?_
    obtain ⟨o5, hL4, hR6⟩ := bindE hF
    refine AWP.loopF (ω := Unit) hL4 (fun s w => [(0, (.list 1 (List.map (AV.int .i64) p0))), (1, (.int .i64 p1)), (7, (.int .i64 (p0.length : Int))), (8, (.int .i64 s))]) (fun s w => []) () ⟨rfl, rfl, rfl, rfl, trivial⟩ (hS.pick [] rfl rfl) ?_
    rintro x8_l0 _ G7 hS x2 hF hx3
    try dsimp only at hS ⊢
    have hF : slices_Index_int_int.b0 p0 p1 x8_l0 = some x2 := hF; unfold slices_Index_int_int.b0 at hF
    refine AWP.seqR rfl ?_
    refine ASL.q (v := (.bool (decide (x8_l0 < ((p0.length : Int)))))) rfl rfl (Light.quiet (opInt rfl rfl rfl rfl)) ?_
    refine ASL.done ?_
    refine AWP.seq ?_
    refine AWP.ifP hF rfl (fun hc8 hF => ?_) (fun hc8 hF => ?_)
    · skip
      refine AWP.skip ?_
      refine QThen.nrm ?_
      refine AWP.seq ?_
      refine AWP.block ?_
      refine AWP.seqR rfl ?_
      refine ASL.q (v := (.int .i64 x8_l0)) rfl rfl (Light.quiet (opMove rfl rfl)) ?_
      refine ASL.q (v := (.int .i64 x8_l0)) rfl rfl (Light.quiet (opAssign rfl rfl)) ?_
      refine ASL.done ?_
      refine AWP.seqR rfl ?_
      refine ASL.q (v := (.int .i64 p1)) rfl rfl (Light.quiet (opMove rfl rfl)) ?_
      refine ASL.q (v := (.list 1 (List.map (AV.int .i64) p0))) rfl rfl (Light.quiet (opMove rfl rfl)) ?_
      refine ASL.q (v := (.int .i64 x8_l0)) rfl rfl (Light.quiet (opMove rfl rfl)) ?_
      obtain ⟨a14, ha14, hF⟩ := bindE hF
      refine ASL.q (v := (.rptr [(.int .i64 a14)])) rfl rfl (Light.quiet (kIx (f := (AV.int .i64)) ha14 rfl rfl rfl elemA_34 sizeA_3 rfl)) ?_
      refine ASL.q (v := (.int .i64 a14)) rfl rfl (Light.quiet (opLoadR rfl aggA_3 rfl rfl)) ?_
      refine ASL.q (v := (.bool (decide (p1 = a14)))) rfl rfl (Light.quiet (opInt rfl rfl rfl rfl)) ?_
      refine ASL.done ?_
      refine AWP.ifP hF rfl (fun hc9 hF => ?_) (fun hc9 hF => ?_)
      · skip
        refine AWP.seqR rfl ?_
        refine ASL.q (v := (.int .i64 x8_l0)) rfl rfl (Light.quiet (opMove rfl rfl)) ?_
        refine ASL.q (v := (.int .i64 x8_l0)) rfl rfl (Light.quiet (opAssign rfl rfl)) ?_
        refine ASL.done ?_
        refine AWP.ret ?_
        refine QBlock.ret ?_
        refine QThen.rt ?_
        refine QThen.rt ?_
        refine QBlock.ret ?_
        refine QThen.rt ?_
        obtain rfl := (hx3 _ (someE hF).symm)
        have hF := hR6
        have hF := sumR hF
        obtain rfl := someE hF
        exact QRet.sole (v := (.int .i64 x8_l0)) ⟨rfl, trivial⟩ rfl
      · skip
        refine AWP.skip ?_
        refine QBlock.nrm ?_
        refine QThen.nrm ?_
        refine AWP.lastR rfl ?_
        refine ASL.q (v := (.int .i64 (W (x8_l0 + 1)))) rfl rfl (Light.quiet (opInt rfl rfl rfl rfl)) ?_
        refine ASL.q (v := (.int .i64 (W (x8_l0 + 1)))) rfl rfl (Light.quiet (opMove rfl rfl)) ?_
        refine ASL.done ?_
        refine QThen.nrm ?_
        exact ⟨(W (x8_l0 + 1)), (), (someE hF).symm, ⟨rfl, rfl, rfl, rfl, trivial⟩, (hS.pick [] rfl rfl)⟩
    · skip
      refine AWP.exit ?_
      refine QThen.ext ?_
      refine QThen.ext ?_
      refine QBlock.hit ?_
      obtain rfl := (hx3 _ (someE hF).symm)
      have hF := hR6
      have hF := sumL hF
      refine QThen.nrm ?_
      exact ⟨trivial, (hS.pick [] rfl rfl), hF⟩

set_option maxRecDepth 10000 in
theorem impl_AutoScc_ok {p0 : TAuto} {r : (List Int)} (hF : impl_AutoScc p0 = some r) : PO Try.prog 18 [(TAuto.av p0)] 1 (List.map (AV.int .i64) r) := by
  refine HC.enter Try.func18 rfl Try.ntmps18 (by simp) ?_
  have hS := Sep.void; unfold impl_AutoScc at hF
  refine AWP.seqR rfl ?_
  refine ASL.q (v := (.rptr [(.int .i64 p0.letters), (.int .i64 p0.states), (.int .i64 p0.start), (.list 4 (List.map TEdge.av p0.edges))])) rfl rfl ((qBoxI (v := (TAuto.av p0)) rfl rfl rfl rfl)) ?_
  have hS := hNil (s := 1) (f := (AV.int .i64)) hS
  refine ASL.q (v := .nil) rfl rfl (Light.quiet (opAssign rfl rfl)) ?_
  refine ASL.done ?_
  refine AWP.seq ?_
  refine AWP.seqR rfl ?_
  refine ASL.q (v := (TAuto.av p0)) rfl rfl (Light.quiet (opLoadRA rfl aggA_29 sizeA_29 rfl (nlt rfl) rfl)) ?_
  obtain ⟨a8, ha8, hF⟩ := bindE hF
  refine ASL.q (v := (.bool a8)) rfl rfl ((qCall rfl rfl call_43 (impl_AutoOk_ok ha8) rfl)) ?_
  refine ASL.q (v := (.bool (!a8))) rfl rfl (Light.quiet (opNot rfl rfl)) ?_
  refine ASL.done ?_
  refine AWP.ifB hF rfl (fun hc2 hF => ?_) (fun hc2 hF => ?_)
  · skip
    refine AWP.seqR rfl ?_
    have hS := hNil (s := 1) (f := (AV.int .i64)) hS
    refine ASL.q (v := .nil) rfl rfl (Light.quiet (opAssign rfl rfl)) ?_
    refine ASL.done ?_
    refine AWP.ret ?_
    refine QThen.rt ?_
    obtain rfl := someE hF
    exact QRet.sole (v := .nil) ⟨rfl, trivial⟩ (hS.get (k := 0) rfl)
  · skip
    refine AWP.skip ?_
    refine QThen.nrm ?_
    refine AWP.seqR rfl ?_
    obtain ⟨a10, ha10, hF⟩ := bindE hF
    refine ASL.q (v := (.rptr [(.list 1 (List.map (fun xs : (List Tstep) => AV.list 2 (List.map Tstep.av xs)) a10.next_))])) rfl rfl ((qCall rfl rfl call_49 (impl_Auto_graph_ok ha10) rfl)) ?_
    obtain ⟨a11, ha11, hF⟩ := bindE hF
    refine ASL.q (v := (.list 1 (List.map (AV.int .i64) a11))) rfl rfl ((qCall rfl rfl call_50 (PO.list (impl_graph_rings_ok ha11)) rfl)) ?_
    refine ASL.q (v := (.list 1 (List.map (AV.int .i64) a11))) rfl rfl (Light.quiet (opAssign rfl rfl)) ?_
    refine ASL.done ?_
    refine AWP.seqR rfl ?_
    refine ASL.q (v := (.rptr [(.int .i64 p0.states), (.int .i64 p0.start), (.list 4 (List.map TEdge.av p0.edges))])) rfl rfl (Light.quiet (opFieldAddrR rfl fieldA_29_1 rfl rfl)) ?_
    refine ASL.q (v := (.int .i64 p0.states)) rfl rfl (Light.quiet (opLoadR rfl aggA_3 rfl rfl)) ?_
    obtain ⟨z14, hz14, hF⟩ := bindE hF
    refine ASL.x rfl rfl (hMk (f := (AV.int .i64)) hS hz14 (by decide) rfl elemA_34 sizeA_3 bytesA_3 zeroA_3 rfl rfl (by decide) rfl rfl ?_); rintro v14 G4 hK hS
    refine ASL.q (v := v14) rfl rfl (Light.quiet (opAssign rfl rfl)) ?_
    refine ASL.done ?_
    refine AWP.seqM (fun e H => ∃ y6 : (List Int), E.Told e [(4, v14)] ∧ E.Sep H [.row 1 v14 (List.map (AV.int .i64) y6)] ∧ impl_AutoScc.k0 y6 = some r) ?_ ?_
    · rintro e0 G7 ⟨y6, hT, hS, hF⟩; refine AWP.only _ hT ?_; unfold impl_AutoScc.k0 at hF
      refine AWP.seqR rfl ?_
      refine ASL.q (v := v14) rfl rfl (Light.quiet (opMove rfl rfl)) ?_
      refine ASL.q (v := v14) rfl rfl (Light.quiet (opAssign rfl rfl)) ?_
      refine ASL.done ?_
      refine AWP.ret ?_
      obtain rfl := someE hF
      exact QRet.sole (v := v14) ⟨rfl, trivial⟩ (hS.get (k := 0) rfl)
    · skip
      refine AWP.seqR rfl ?_
      refine ASL.q (v := (.list 1 (List.map (AV.int .i64) a11))) rfl rfl (Light.quiet (opMove rfl rfl)) ?_
      refine ASL.q (v := (.int .i64 (a11.length : Int))) rfl rfl (Light.quiet (opLenMap (f := (AV.int .i64)) rfl rfl rfl lenT_34 rfl)) ?_
      refine ASL.q (v := (.int .i64 0)) rfl rfl (Light.quiet (opMove rfl rfl)) ?_
      refine ASL.done ?_
      refine AWP.block ?_
      obtain ⟨o12, hL11, hR13⟩ := bindE hF
      refine AWP.loopF (ω := Unit) hL11 (fun s w => [(3, (.list 1 (List.map (AV.int .i64) a11))), (4, v14), (15, (.list 1 (List.map (AV.int .i64) a11))), (16, (.int .i64 (a11.length : Int))), (17, (.int .i64 s.2))]) (fun s w => [.row 1 v14 (List.map (AV.int .i64) s.1)]) () ⟨rfl, rfl, rfl, rfl, rfl, trivial⟩ (hS.pick [0] rfl rfl) ?_
      rintro ⟨y8, x17_l0⟩ _ G14 hS x9 hF hx10
      try dsimp only at hS ⊢
      have hF : impl_AutoScc.b0 a11 y8 x17_l0 = some x9 := hF; unfold impl_AutoScc.b0 at hF
      refine AWP.seqR rfl ?_
      refine ASL.q (v := (.bool (decide (x17_l0 < ((a11.length : Int)))))) rfl rfl (Light.quiet (opInt rfl rfl rfl rfl)) ?_
      refine ASL.done ?_
      refine AWP.seq ?_
      refine AWP.ifP hF rfl (fun hc15 hF => ?_) (fun hc15 hF => ?_)
      · skip
        refine AWP.skip ?_
        refine QThen.nrm ?_
        refine AWP.seq ?_
        refine AWP.block ?_
        refine AWP.seqR rfl ?_
        refine ASL.q (v := (.int .i64 x17_l0)) rfl rfl (Light.quiet (opMove rfl rfl)) ?_
        obtain ⟨a20, ha20, hF⟩ := bindE hF
        refine ASL.q (v := (.rptr [(.int .i64 a20)])) rfl rfl (Light.quiet (kIx (f := (AV.int .i64)) ha20 rfl rfl rfl elemA_34 sizeA_3 rfl)) ?_
        refine ASL.q (v := (.int .i64 a20)) rfl rfl (Light.quiet (opLoadR rfl aggA_3 rfl rfl)) ?_
        refine ASL.q (v := (.int .i64 x17_l0)) rfl rfl (Light.quiet (opAssign rfl rfl)) ?_
        refine ASL.q (v := (.int .i64 a20)) rfl rfl (Light.quiet (opAssign rfl rfl)) ?_
        refine ASL.done ?_
        refine AWP.lastR rfl ?_
        refine ASL.q (v := v14) rfl rfl (Light.quiet (opMove rfl rfl)) ?_
        refine ASL.q (v := (.int .i64 x17_l0)) rfl rfl (Light.quiet (opMove rfl rfl)) ?_
        refine ASL.q (v := (.list 1 (List.map (AV.int .i64) a11))) rfl rfl (Light.quiet (opMove rfl rfl)) ?_
        refine ASL.q (v := (.int .i64 a20)) rfl rfl (Light.quiet (opMove rfl rfl)) ?_
        obtain ⟨a26, ha26, hF⟩ := bindE hF
        refine ASL.q (v := (.int .i64 a26)) rfl rfl ((qCall rfl rfl call_51 (slices_Index_int_int_ok ha26) rfl)) ?_
        obtain ⟨m27, hm27, hF⟩ := bindE hF
        refine ASL.q (v := (ptrTo v14 m27 1)) rfl rfl (Light.quiet (kIxO hS (j := 0) rfl hm27 rfl rfl rfl elemA_34 sizeA_3)) ?_
        refine ASL.n rfl rfl (hSt (f := (AV.int .i64)) (a := a26) hS (j := 0) rfl hm27 rfl sizeA_3 rfl rfl ⟨rfl, rfl, rfl⟩ ?_); rintro G16 hS
        refine ASL.done ?_
        refine QBlock.nrm ?_
        refine QThen.nrm ?_
        refine AWP.lastR rfl ?_
        refine ASL.q (v := (.int .i64 (W (x17_l0 + 1)))) rfl rfl (Light.quiet (opInt rfl rfl rfl rfl)) ?_
        refine ASL.q (v := (.int .i64 (W (x17_l0 + 1)))) rfl rfl (Light.quiet (opMove rfl rfl)) ?_
        refine ASL.done ?_
        refine QThen.nrm ?_
        exact ⟨((y8.set m27 a26), (W (x17_l0 + 1))), (), (someE hF).symm, ⟨rfl, rfl, rfl, rfl, rfl, trivial⟩, (hS.pick [0] rfl rfl)⟩
      · skip
        refine AWP.exit ?_
        refine QThen.ext ?_
        refine QThen.ext ?_
        refine QBlock.hit ?_
        obtain rfl := (hx10 _ (someE hF).symm)
        have hF := hR13
        refine QThen.nrm ?_
        exact ⟨y8, ⟨rfl, trivial⟩, (hS.pick [0] rfl rfl), hF⟩

set_option maxRecDepth 10000 in
theorem laws_eqIntS_ok {p0 : (List Int)} {p1 : (List Int)} {r : Bool} (hF : laws_eqIntS p0 p1 = some r) : PC Try.prog 19 [(.list 1 (List.map (AV.int .i64) p0)), (.list 1 (List.map (AV.int .i64) p1))] fun v => v = (.bool r) := by
  refine PC.enter Try.func19 rfl Try.ntmps19 (by simp) ?_
  have hS := Sep.void; unfold laws_eqIntS at hF
  refine AWP.seqR rfl ?_
  refine ASL.q (v := (.bool false)) rfl rfl (Light.quiet (opAssign rfl rfl)) ?_
  refine ASL.done ?_
  refine AWP.seq ?_
  refine AWP.seqR rfl ?_
  refine ASL.q (v := (.list 1 (List.map (AV.int .i64) p0))) rfl rfl (Light.quiet (opMove rfl rfl)) ?_
  refine ASL.q (v := (.int .i64 (p0.length : Int))) rfl rfl (Light.quiet (opLenMap (f := (AV.int .i64)) rfl rfl rfl lenT_34 rfl)) ?_
  refine ASL.q (v := (.list 1 (List.map (AV.int .i64) p1))) rfl rfl (Light.quiet (opMove rfl rfl)) ?_
  refine ASL.q (v := (.int .i64 (p1.length : Int))) rfl rfl (Light.quiet (opLenMap (f := (AV.int .i64)) rfl rfl rfl lenT_34 rfl)) ?_
  refine ASL.q (v := (.bool (decide (((p0.length : Int)) ≠ ((p1.length : Int)))))) rfl rfl (Light.quiet (opInt rfl rfl rfl rfl)) ?_
  refine ASL.done ?_
  refine AWP.ifP hF rfl (fun hc1 hF => ?_) (fun hc1 hF => ?_)
  · skip
    refine AWP.seqR rfl ?_
    refine ASL.q (v := (.bool false)) rfl rfl (Light.quiet (opAssign rfl rfl)) ?_
    refine ASL.done ?_
    refine AWP.ret ?_
    refine QThen.rt ?_
    obtain rfl := someE hF
    exact QRet.sole (v := (.bool false)) ⟨rfl, trivial⟩ rfl
  · skip
    refine AWP.skip ?_
    refine QThen.nrm ?_
    refine AWP.seqM (fun e H => E.Told e [] ∧ E.Sep H [] ∧ laws_eqIntS.k0 = some r) ?_ ?_
    · rintro e0 G2 ⟨hT, hS, hF⟩; refine AWP.only _ hT ?_; unfold laws_eqIntS.k0 at hF
      refine AWP.seqR rfl ?_
      refine ASL.q (v := (.bool true)) rfl rfl (Light.quiet (opAssign rfl rfl)) ?_
      refine ASL.done ?_
      refine AWP.ret ?_
      obtain rfl := someE hF
      exact QRet.sole (v := (.bool true)) ⟨rfl, trivial⟩ rfl
    · skip
      refine AWP.seqR rfl ?_
      refine ASL.q (v := (.int .i64 0)) rfl rfl (Light.quiet (opAssign rfl rfl)) ?_
      refine ASL.done ?_
      refine AWP.block ?_
      obtain ⟨o6, hL5, hR7⟩ := bindE hF
      refine AWP.loopF (ω := Unit) hL5 (fun s w => [(0, (.list 1 (List.map (AV.int .i64) p0))), (1, (.list 1 (List.map (AV.int .i64) p1))), (5, (.int .i64 s))]) (fun s w => []) () ⟨rfl, rfl, rfl, trivial⟩ (hS.pick [] rfl rfl) ?_
      rintro x5_l0 _ G8 hS x3 hF hx4
      try dsimp only at hS ⊢
      have hF : laws_eqIntS.b0 p0 p1 x5_l0 = some x3 := hF; unfold laws_eqIntS.b0 at hF
      refine AWP.seq ?_
      refine AWP.seqR rfl ?_
      refine ASL.q (v := (.int .i64 x5_l0)) rfl rfl (Light.quiet (opMove rfl rfl)) ?_
      refine ASL.q (v := (.list 1 (List.map (AV.int .i64) p0))) rfl rfl (Light.quiet (opMove rfl rfl)) ?_
      refine ASL.q (v := (.int .i64 (p0.length : Int))) rfl rfl (Light.quiet (opLenMap (f := (AV.int .i64)) rfl rfl rfl lenT_34 rfl)) ?_
      refine ASL.q (v := (.bool (decide (x5_l0 < ((p0.length : Int)))))) rfl rfl (Light.quiet (opInt rfl rfl rfl rfl)) ?_
      refine ASL.done ?_
      refine AWP.ifP hF rfl (fun hc9 hF => ?_) (fun hc9 hF => ?_)
      · skip
        refine AWP.skip ?_
        refine QThen.nrm ?_
        refine AWP.seq ?_
        refine AWP.block ?_
        refine AWP.seqD [(0, false), (1, false), (2, false), (3, false), (4, false), (5, false), (6, false), (7, false), (8, false)] mixed (by kernel_rfl) rfl ?_
        refine ARL.q0 (v := (.list 1 (List.map (AV.int .i64) p0))) rfl rfl (Light.quiet (opMove rfl rfl)) ?_
        refine ARL.q0 (v := (.int .i64 x5_l0)) rfl rfl (Light.quiet (opMove rfl rfl)) ?_
        obtain ⟨a19, ha19, hF⟩ := bindE hF
        refine ARL.q0 (v := (.rptr [(.int .i64 a19)])) rfl rfl (Light.quiet (kIx (f := (AV.int .i64)) ha19 rfl rfl rfl elemA_34 sizeA_3 rfl)) ?_
        refine ARL.q0 (v := (.int .i64 a19)) rfl rfl (Light.quiet (opLoadR rfl aggA_3 rfl rfl)) ?_
        refine ARL.q0 (v := (.list 1 (List.map (AV.int .i64) p1))) rfl rfl (Light.quiet (opMove rfl rfl)) ?_
        refine ARL.q0 (v := (.int .i64 x5_l0)) rfl rfl (Light.quiet (opMove rfl rfl)) ?_
        obtain ⟨a23, ha23, hF⟩ := bindE hF
        refine ARL.q0 (v := (.rptr [(.int .i64 a23)])) rfl rfl (Light.quiet (kIx (f := (AV.int .i64)) ha23 rfl rfl rfl elemA_34 sizeA_3 rfl)) ?_
        refine ARL.q0 (v := (.int .i64 a23)) rfl rfl (Light.quiet (opLoadR rfl aggA_3 rfl rfl)) ?_
        refine ARL.q0 (v := (.bool (decide (a19 ≠ a23)))) rfl rfl (Light.quiet (opInt rfl rfl rfl rfl)) ?_
        refine ARL.done ?_
        refine AWP.ifP hF rfl (fun hc10 hF => ?_) (fun hc10 hF => ?_)
        · skip
          refine AWP.seqR rfl ?_
          refine ASL.q (v := (.bool false)) rfl rfl (Light.quiet (opAssign rfl rfl)) ?_
          refine ASL.done ?_
          refine AWP.ret ?_
          refine QBlock.ret ?_
          refine QThen.rt ?_
          refine QThen.rt ?_
          refine QBlock.ret ?_
          refine QThen.rt ?_
          obtain rfl := (hx4 _ (someE hF).symm)
          have hF := hR7
          have hF := sumR hF
          obtain rfl := someE hF
          exact QRet.sole (v := (.bool false)) ⟨rfl, trivial⟩ rfl
        · skip
          refine AWP.skip ?_
          refine QBlock.nrm ?_
          refine QThen.nrm ?_
          refine AWP.lastR rfl ?_
          refine ASL.q (v := (.int .i64 x5_l0)) rfl rfl (Light.quiet (opMove rfl rfl)) ?_
          refine ASL.q (v := (.int .i64 (W (x5_l0 + 1)))) rfl rfl (Light.quiet (opInt rfl rfl rfl rfl)) ?_
          refine ASL.q (v := (.int .i64 (W (x5_l0 + 1)))) rfl rfl (Light.quiet (opAssign rfl rfl)) ?_
          refine ASL.done ?_
          refine QThen.nrm ?_
          exact ⟨(W (x5_l0 + 1)), (), (someE hF).symm, ⟨rfl, rfl, rfl, trivial⟩, (hS.pick [] rfl rfl)⟩
      · skip
        refine AWP.exit ?_
        refine QThen.ext ?_
        refine QThen.ext ?_
        refine QBlock.hit ?_
        obtain rfl := (hx4 _ (someE hF).symm)
        have hF := hR7
        have hF := sumL hF
        refine QThen.nrm ?_
        exact ⟨trivial, (hS.pick [] rfl rfl), hF⟩

set_option maxRecDepth 10000 in
theorem laws_markEdgeS_ok {p0 : (List TEdge)} {p1 : Int} {r : (Int × (List TEdge))} {vp0 : AV} (hF : laws_markEdgeS p0 p1 = some r) : HS Try.prog 52 [vp0, (.int .i64 p1)] [.row 4 vp0 (List.map TEdge.av p0)] fun v L' => v = (.int .i64 r.1) ∧ L' = [.row 4 vp0 (List.map TEdge.av r.2)] := by
  intro H S hS
  refine HC.enter Try.func52 rfl Try.ntmps52 (by simp) ?_
  simp only [List.cons_append, List.nil_append] at hS
  unfold laws_markEdgeS at hF
  refine AWP.seqR rfl ?_
  refine ASL.q (v := (.int .i64 0)) rfl rfl (Light.quiet (opAssign rfl rfl)) ?_
  refine ASL.done ?_
  refine AWP.seqM (fun e H => ∃ x1_1 : Int, ∃ y2 : (List TEdge), E.Told e [(1, (.int .i64 x1_1))] ∧ E.Sep H [.row 4 vp0 (List.map TEdge.av y2), .snap S] ∧ laws_markEdgeS.k0 x1_1 y2 = some r) ?_ ?_
  · rintro e0 G3 ⟨x1_1, y2, hT, hS, hF⟩; refine AWP.only _ hT ?_; unfold laws_markEdgeS.k0 at hF
    refine AWP.seqR rfl ?_
    refine ASL.q (v := (.int .i64 x1_1)) rfl rfl (Light.quiet (opMove rfl rfl)) ?_
    refine ASL.q (v := (.int .i64 x1_1)) rfl rfl (Light.quiet (opAssign rfl rfl)) ?_
    refine ASL.done ?_
    refine AWP.ret ?_
    obtain rfl := someE hF
    exact QRet.sole (v := (.int .i64 x1_1)) ⟨rfl, trivial⟩ ⟨_, ⟨rfl, rfl⟩, hS.pick [0, 1] rfl rfl⟩
  · skip
    refine AWP.seqR rfl ?_
    refine ASL.q (v := (.int .i64 0)) rfl rfl (Light.quiet (opAssign rfl rfl)) ?_
    refine ASL.done ?_
    refine AWP.block ?_
    obtain ⟨o8, hL7, hR9⟩ := bindE hF
    refine AWP.loopF (ω := Unit) hL7 (fun s w => [(0, vp0), (1, (.int .i64 s.2.1)), (5, (.int .i64 s.2.2))]) (fun s w => [.row 4 vp0 (List.map TEdge.av s.1), .snap S]) () ⟨rfl, rfl, rfl, trivial⟩ (hS.pick [0, 1] rfl rfl) ?_
    rintro ⟨y4, x1_l0, x5_l0⟩ _ G10 hS x5 hF hx6
    try dsimp only at hS ⊢
    have hF : laws_markEdgeS.b0 y4 x1_l0 x5_l0 = some x5 := hF; unfold laws_markEdgeS.b0 at hF
    refine AWP.seq ?_
    refine AWP.seqR rfl ?_
    refine ASL.q (v := (.int .i64 x5_l0)) rfl rfl (Light.quiet (opMove rfl rfl)) ?_
    refine ASL.q (v := vp0) rfl rfl (Light.quiet (opMove rfl rfl)) ?_
    refine ASL.q (v := (.int .i64 (y4.length : Int))) rfl rfl (Light.quiet (kLen hS (j := 0) rfl rfl rfl rfl lenT_27 rfl)) ?_
    refine ASL.q (v := (.bool (decide (x5_l0 < ((y4.length : Int)))))) rfl rfl (Light.quiet (opInt rfl rfl rfl rfl)) ?_
    refine ASL.done ?_
    refine AWP.ifP hF rfl (fun hc11 hF => ?_) (fun hc11 hF => ?_)
    · skip
      refine AWP.skip ?_
      refine QThen.nrm ?_
      refine AWP.seq ?_
      refine AWP.block ?_
      refine AWP.seqR rfl ?_
      refine ASL.q (v := vp0) rfl rfl (Light.quiet (opMove rfl rfl)) ?_
      refine ASL.q (v := (.int .i64 x5_l0)) rfl rfl (Light.quiet (opMove rfl rfl)) ?_
      refine ASL.q (v := (.int .i64 x1_l0)) rfl rfl (Light.quiet (opMove rfl rfl)) ?_
      obtain ⟨m15, hm15, hF⟩ := bindE hF
      refine ASL.q (v := (ptrTo vp0 m15 4)) rfl rfl (Light.quiet (kIxO hS (j := 0) rfl hm15 rfl rfl rfl elemA_27 sizeA_73)) ?_
      refine ASL.q (v := (ptrOff vp0 m15 4 0)) rfl rfl (Light.quiet (kFldC (p := 0) hS (j := 0) rfl hm15 rfl fieldA_73_0 rfl)) ?_
      refine ASL.n rfl rfl (hStF (f := TEdge.av) (g := (fun q : TEdge => { q with from_ := x1_l0 })) (p := 0) hS (j := 0) rfl hm15 rfl sizeA_3 rfl rfl (fun _ => ⟨_, rfl, nlt rfl, rfl⟩) rfl ?_); rintro G12 hS
      refine ASL.done ?_
      refine AWP.seqR rfl ?_
      refine ASL.q (v := (.int .i64 x1_l0)) rfl rfl (Light.quiet (opMove rfl rfl)) ?_
      refine ASL.q (v := (.int .i64 (W (x1_l0 + 1)))) rfl rfl (Light.quiet (opInt rfl rfl rfl rfl)) ?_
      refine ASL.q (v := (.int .i64 (W (x1_l0 + 1)))) rfl rfl (Light.quiet (opAssign rfl rfl)) ?_
      refine ASL.done ?_
      refine AWP.seqR rfl ?_
      refine ASL.q (v := vp0) rfl rfl (Light.quiet (opMove rfl rfl)) ?_
      refine ASL.q (v := (.int .i64 x5_l0)) rfl rfl (Light.quiet (opMove rfl rfl)) ?_
      refine ASL.q (v := (.int .i64 (W (x1_l0 + 1)))) rfl rfl (Light.quiet (opMove rfl rfl)) ?_
      obtain ⟨m22, hm22, hF⟩ := bindE hF
      refine ASL.q (v := (ptrTo vp0 m22 4)) rfl rfl (Light.quiet (kIxO hS (j := 0) rfl hm22 rfl rfl rfl elemA_27 sizeA_73)) ?_
      refine ASL.q (v := (ptrOff vp0 m22 4 1)) rfl rfl (Light.quiet (kFldC (p := 1) hS (j := 0) rfl hm22 rfl fieldA_73_1 rfl)) ?_
      refine ASL.n rfl rfl (hStF (f := TEdge.av) (g := (fun q : TEdge => { q with letter := (W (x1_l0 + 1)) })) (p := 1) hS (j := 0) rfl hm22 rfl sizeA_3 rfl rfl (fun _ => ⟨_, rfl, nlt rfl, rfl⟩) rfl ?_); rintro G13 hS
      refine ASL.done ?_
      refine AWP.seqR rfl ?_
      refine ASL.q (v := (.int .i64 (W (x1_l0 + 1)))) rfl rfl (Light.quiet (opMove rfl rfl)) ?_
      refine ASL.q (v := (.int .i64 (W (((W (x1_l0 + 1))) + 1)))) rfl rfl (Light.quiet (opInt rfl rfl rfl rfl)) ?_
      refine ASL.q (v := (.int .i64 (W (((W (x1_l0 + 1))) + 1)))) rfl rfl (Light.quiet (opAssign rfl rfl)) ?_
      refine ASL.done ?_
      refine AWP.seqR rfl ?_
      refine ASL.q (v := vp0) rfl rfl (Light.quiet (opMove rfl rfl)) ?_
      refine ASL.q (v := (.int .i64 x5_l0)) rfl rfl (Light.quiet (opMove rfl rfl)) ?_
      refine ASL.q (v := (.int .i64 (W (((W (x1_l0 + 1))) + 1)))) rfl rfl (Light.quiet (opMove rfl rfl)) ?_
      obtain ⟨m29, hm29, hF⟩ := bindE hF
      refine ASL.q (v := (ptrTo vp0 m29 4)) rfl rfl (Light.quiet (kIxO hS (j := 0) rfl hm29 rfl rfl rfl elemA_27 sizeA_73)) ?_
      refine ASL.q (v := (ptrOff vp0 m29 4 2)) rfl rfl (Light.quiet (kFldC (p := 2) hS (j := 0) rfl hm29 rfl fieldA_73_2 rfl)) ?_
      refine ASL.n rfl rfl (hStF (f := TEdge.av) (g := (fun q : TEdge => { q with to_ := (W (((W (x1_l0 + 1))) + 1)) })) (p := 2) hS (j := 0) rfl hm29 rfl sizeA_3 rfl rfl (fun _ => ⟨_, rfl, nlt rfl, rfl⟩) rfl ?_); rintro G14 hS
      refine ASL.done ?_
      refine AWP.seqR rfl ?_
      refine ASL.q (v := (.int .i64 (W (((W (x1_l0 + 1))) + 1)))) rfl rfl (Light.quiet (opMove rfl rfl)) ?_
      refine ASL.q (v := (.int .i64 (W (((W (((W (x1_l0 + 1))) + 1))) + 1)))) rfl rfl (Light.quiet (opInt rfl rfl rfl rfl)) ?_
      refine ASL.q (v := (.int .i64 (W (((W (((W (x1_l0 + 1))) + 1))) + 1)))) rfl rfl (Light.quiet (opAssign rfl rfl)) ?_
      refine ASL.done ?_
      refine AWP.seqR rfl ?_
      refine ASL.q (v := vp0) rfl rfl (Light.quiet (opMove rfl rfl)) ?_
      refine ASL.q (v := (.int .i64 x5_l0)) rfl rfl (Light.quiet (opMove rfl rfl)) ?_
      refine ASL.q (v := (.int .i64 (W (((W (((W (x1_l0 + 1))) + 1))) + 1)))) rfl rfl (Light.quiet (opMove rfl rfl)) ?_
      refine ASL.q (v := (.int .i64 (Int.tmod ((W (((W (((W (x1_l0 + 1))) + 1))) + 1))) 3))) rfl rfl (Light.quiet (opRem rfl rfl rfl (by decide) rfl)) ?_
      refine ASL.q (v := (.bool (decide (((Int.tmod ((W (((W (((W (x1_l0 + 1))) + 1))) + 1))) 3)) = 0)))) rfl rfl (Light.quiet (opInt rfl rfl rfl rfl)) ?_
      obtain ⟨m38, hm38, hF⟩ := bindE hF
      refine ASL.q (v := (ptrTo vp0 m38 4)) rfl rfl (Light.quiet (kIxO hS (j := 0) rfl hm38 rfl rfl rfl elemA_27 sizeA_73)) ?_
      refine ASL.q (v := (ptrOff vp0 m38 4 3)) rfl rfl (Light.quiet (kFldC (p := 3) hS (j := 0) rfl hm38 rfl fieldA_73_3 rfl)) ?_
      refine ASL.n rfl rfl (hStF (f := TEdge.av) (g := (fun q : TEdge => { q with good := (decide (((Int.tmod ((W (((W (((W (x1_l0 + 1))) + 1))) + 1))) 3)) = 0)) })) (p := 3) hS (j := 0) rfl hm38 rfl sizeA_4 rfl rfl (fun _ => ⟨_, rfl, nlt rfl, rfl⟩) rfl ?_); rintro G15 hS
      refine ASL.done ?_
      refine AWP.lastR rfl ?_
      refine ASL.q (v := (.int .i64 (W (((W (((W (x1_l0 + 1))) + 1))) + 1)))) rfl rfl (Light.quiet (opMove rfl rfl)) ?_
      refine ASL.q (v := (.int .i64 (W (((W (((W (((W (x1_l0 + 1))) + 1))) + 1))) + 1)))) rfl rfl (Light.quiet (opInt rfl rfl rfl rfl)) ?_
      refine ASL.q (v := (.int .i64 (W (((W (((W (((W (x1_l0 + 1))) + 1))) + 1))) + 1)))) rfl rfl (Light.quiet (opAssign rfl rfl)) ?_
      refine ASL.done ?_
      refine QBlock.nrm ?_
      refine QThen.nrm ?_
      refine AWP.lastR rfl ?_
      refine ASL.q (v := (.int .i64 x5_l0)) rfl rfl (Light.quiet (opMove rfl rfl)) ?_
      refine ASL.q (v := (.int .i64 (W (x5_l0 + 1)))) rfl rfl (Light.quiet (opInt rfl rfl rfl rfl)) ?_
      refine ASL.q (v := (.int .i64 (W (x5_l0 + 1)))) rfl rfl (Light.quiet (opAssign rfl rfl)) ?_
      refine ASL.done ?_
      refine QThen.nrm ?_
      exact ⟨((((((((y4.set m15 ((fun q : TEdge => { q with from_ := x1_l0 }) (y4.getD m15 default)))).set m22 ((fun q : TEdge => { q with letter := (W (x1_l0 + 1)) }) (((y4.set m15 ((fun q : TEdge => { q with from_ := x1_l0 }) (y4.getD m15 default)))).getD m22 default)))).set m29 ((fun q : TEdge => { q with to_ := (W (((W (x1_l0 + 1))) + 1)) }) (((((y4.set m15 ((fun q : TEdge => { q with from_ := x1_l0 }) (y4.getD m15 default)))).set m22 ((fun q : TEdge => { q with letter := (W (x1_l0 + 1)) }) (((y4.set m15 ((fun q : TEdge => { q with from_ := x1_l0 }) (y4.getD m15 default)))).getD m22 default)))).getD m29 default)))).set m38 ((fun q : TEdge => { q with good := (decide (((Int.tmod ((W (((W (((W (x1_l0 + 1))) + 1))) + 1))) 3)) = 0)) }) (((((((y4.set m15 ((fun q : TEdge => { q with from_ := x1_l0 }) (y4.getD m15 default)))).set m22 ((fun q : TEdge => { q with letter := (W (x1_l0 + 1)) }) (((y4.set m15 ((fun q : TEdge => { q with from_ := x1_l0 }) (y4.getD m15 default)))).getD m22 default)))).set m29 ((fun q : TEdge => { q with to_ := (W (((W (x1_l0 + 1))) + 1)) }) (((((y4.set m15 ((fun q : TEdge => { q with from_ := x1_l0 }) (y4.getD m15 default)))).set m22 ((fun q : TEdge => { q with letter := (W (x1_l0 + 1)) }) (((y4.set m15 ((fun q : TEdge => { q with from_ := x1_l0 }) (y4.getD m15 default)))).getD m22 default)))).getD m29 default)))).getD m38 default))), (W (((W (((W (((W (x1_l0 + 1))) + 1))) + 1))) + 1)), (W (x5_l0 + 1))), (), (someE hF).symm, ⟨rfl, rfl, rfl, trivial⟩, (hS.pick [0, 1] rfl rfl)⟩
    · skip
      refine AWP.exit ?_
      refine QThen.ext ?_
      refine QThen.ext ?_
      refine QBlock.hit ?_
      obtain rfl := (hx6 _ (someE hF).symm)
      have hF := hR9
      refine QThen.nrm ?_
      exact ⟨x1_l0, y4, ⟨rfl, trivial⟩, (hS.pick [0, 1] rfl rfl), hF⟩

set_option maxRecDepth 10000 in
theorem laws_markAuto_ok {p0 : TAuto} {p1 : Int} {r : (Int × TAuto)} {vp0_Edges : AV} (hF : laws_markAuto p0 p1 = some r) : HS Try.prog 20 [(.agg [(.int .i64 p0.letters), (.int .i64 p0.states), (.int .i64 p0.start), vp0_Edges]), (.int .i64 p1)] [.row 4 vp0_Edges (List.map TEdge.av p0.edges)] fun v L' => v = (.int .i64 r.1) ∧ L' = [.row 4 vp0_Edges (List.map TEdge.av r.2.edges)] := by
  intro H S hS
  refine HC.enter Try.func20 rfl Try.ntmps20 (by simp) ?_
  simp only [List.cons_append, List.nil_append] at hS
  unfold laws_markAuto at hF
  refine AWP.seqR rfl ?_
  refine ASL.x rfl rfl (hBox hS rfl rfl rfl ?_); rintro b2 G2 hK hS
  refine ASL.q (v := (.int .i64 0)) rfl rfl (Light.quiet (opAssign rfl rfl)) ?_
  refine ASL.done ?_
  refine AWP.seqR rfl ?_
  refine ASL.q (v := (.ptr b2 3)) rfl rfl (Light.quiet (opFieldAddr rfl fieldA_29_3 rfl rfl)) ?_
  refine ASL.q (v := vp0_Edges) rfl rfl (Light.quiet (kAt hS (j := 0) rfl rfl aggA_27 rfl rfl)) ?_
  refine ASL.q (v := (.int .i64 p1)) rfl rfl (Light.quiet (opMove rfl rfl)) ?_
  obtain ⟨a8, ha8, hF⟩ := bindE hF
  refine ASL.x rfl rfl (hCallS hS [1, 0, 2] (F := [.cell b2 [(.int .i64 p0.letters), (.int .i64 p0.states), (.int .i64 p0.start), vp0_Edges], .snap S]) rfl rfl rfl call_52 (laws_markEdgeS_ok ha8) rfl rfl ?_); rintro _ _ G4 ⟨rfl, rfl⟩ hS
  refine ASL.q (v := (.int .i64 a8.1)) rfl rfl (Light.quiet (opAssign rfl rfl)) ?_
  refine ASL.done ?_
  refine AWP.seqR rfl ?_
  refine ASL.q (v := (.int .i64 a8.1)) rfl rfl (Light.quiet (opMove rfl rfl)) ?_
  refine ASL.q (v := (.int .i64 a8.1)) rfl rfl (Light.quiet (opAssign rfl rfl)) ?_
  refine ASL.done ?_
  refine AWP.ret ?_
  obtain rfl := someE hF
  exact QRet.sole (v := (.int .i64 a8.1)) ⟨rfl, trivial⟩ ⟨_, ⟨rfl, rfl⟩, hS.pick [0, 2] rfl rfl⟩

set_option maxRecDepth 10000 in
theorem laws_markIntS_ok {p0 : (List Int)} {p1 : Int} {r : (Int × (List Int))} {vp0 : AV} (hF : laws_markIntS p0 p1 = some r) : HS Try.prog 21 [vp0, (.int .i64 p1)] [.row 1 vp0 (List.map (AV.int .i64) p0)] fun v L' => v = (.int .i64 r.1) ∧ L' = [.row 1 vp0 (List.map (AV.int .i64) r.2)] := by
  intro H S hS
  refine HC.enter Try.func21 rfl Try.ntmps21 (by simp) ?_
  simp only [List.cons_append, List.nil_append] at hS
  unfold laws_markIntS at hF
  refine AWP.seqR rfl ?_
  refine ASL.q (v := (.int .i64 0)) rfl rfl (Light.quiet (opAssign rfl rfl)) ?_
  refine ASL.done ?_
  refine AWP.seqM (fun e H => ∃ x1_1 : Int, ∃ y2 : (List Int), E.Told e [(1, (.int .i64 x1_1))] ∧ E.Sep H [.row 1 vp0 (List.map (AV.int .i64) y2), .snap S] ∧ laws_markIntS.k0 x1_1 y2 = some r) ?_ ?_
  · rintro e0 G3 ⟨x1_1, y2, hT, hS, hF⟩; refine AWP.only _ hT ?_; unfold laws_markIntS.k0 at hF
    refine AWP.seqR rfl ?_
    refine ASL.q (v := (.int .i64 x1_1)) rfl rfl (Light.quiet (opMove rfl rfl)) ?_
    refine ASL.q (v := (.int .i64 x1_1)) rfl rfl (Light.quiet (opAssign rfl rfl)) ?_
    refine ASL.done ?_
    refine AWP.ret ?_
    obtain rfl := someE hF
    exact QRet.sole (v := (.int .i64 x1_1)) ⟨rfl, trivial⟩ ⟨_, ⟨rfl, rfl⟩, hS.pick [0, 1] rfl rfl⟩
  · skip
    refine AWP.seqR rfl ?_
    refine ASL.q (v := (.int .i64 0)) rfl rfl (Light.quiet (opAssign rfl rfl)) ?_
    refine ASL.done ?_
    refine AWP.block ?_
    obtain ⟨o8, hL7, hR9⟩ := bindE hF
    refine AWP.loopF (ω := Unit) hL7 (fun s w => [(0, vp0), (1, (.int .i64 s.2.1)), (5, (.int .i64 s.2.2))]) (fun s w => [.row 1 vp0 (List.map (AV.int .i64) s.1), .snap S]) () ⟨rfl, rfl, rfl, trivial⟩ (hS.pick [0, 1] rfl rfl) ?_
    rintro ⟨y4, x1_l0, x5_l0⟩ _ G10 hS x5 hF hx6
    try dsimp only at hS ⊢
    have hF : laws_markIntS.b0 y4 x1_l0 x5_l0 = some x5 := hF; unfold laws_markIntS.b0 at hF
    refine AWP.seq ?_
    refine AWP.seqR rfl ?_
    refine ASL.q (v := (.int .i64 x5_l0)) rfl rfl (Light.quiet (opMove rfl rfl)) ?_
    refine ASL.q (v := vp0) rfl rfl (Light.quiet (opMove rfl rfl)) ?_
    refine ASL.q (v := (.int .i64 (y4.length : Int))) rfl rfl (Light.quiet (kLen hS (j := 0) rfl rfl rfl rfl lenT_34 rfl)) ?_
    refine ASL.q (v := (.bool (decide (x5_l0 < ((y4.length : Int)))))) rfl rfl (Light.quiet (opInt rfl rfl rfl rfl)) ?_
    refine ASL.done ?_
    refine AWP.ifP hF rfl (fun hc11 hF => ?_) (fun hc11 hF => ?_)
    · skip
      refine AWP.skip ?_
      refine QThen.nrm ?_
      refine AWP.seq ?_
      refine AWP.block ?_
      refine AWP.seqR rfl ?_
      refine ASL.q (v := vp0) rfl rfl (Light.quiet (opMove rfl rfl)) ?_
      refine ASL.q (v := (.int .i64 x5_l0)) rfl rfl (Light.quiet (opMove rfl rfl)) ?_
      refine ASL.q (v := (.int .i64 x1_l0)) rfl rfl (Light.quiet (opMove rfl rfl)) ?_
      obtain ⟨m15, hm15, hF⟩ := bindE hF
      refine ASL.q (v := (ptrTo vp0 m15 1)) rfl rfl (Light.quiet (kIxO hS (j := 0) rfl hm15 rfl rfl rfl elemA_34 sizeA_3)) ?_
      refine ASL.n rfl rfl (hSt (f := (AV.int .i64)) (a := x1_l0) hS (j := 0) rfl hm15 rfl sizeA_3 rfl rfl ⟨rfl, rfl, rfl⟩ ?_); rintro G12 hS
      refine ASL.done ?_
      refine AWP.lastR rfl ?_
      refine ASL.q (v := (.int .i64 x1_l0)) rfl rfl (Light.quiet (opMove rfl rfl)) ?_
      refine ASL.q (v := (.int .i64 (W (x1_l0 + 1)))) rfl rfl (Light.quiet (opInt rfl rfl rfl rfl)) ?_
      refine ASL.q (v := (.int .i64 (W (x1_l0 + 1)))) rfl rfl (Light.quiet (opAssign rfl rfl)) ?_
      refine ASL.done ?_
      refine QBlock.nrm ?_
      refine QThen.nrm ?_
      refine AWP.lastR rfl ?_
      refine ASL.q (v := (.int .i64 x5_l0)) rfl rfl (Light.quiet (opMove rfl rfl)) ?_
      refine ASL.q (v := (.int .i64 (W (x5_l0 + 1)))) rfl rfl (Light.quiet (opInt rfl rfl rfl rfl)) ?_
      refine ASL.q (v := (.int .i64 (W (x5_l0 + 1)))) rfl rfl (Light.quiet (opAssign rfl rfl)) ?_
      refine ASL.done ?_
      refine QThen.nrm ?_
      exact ⟨((y4.set m15 x1_l0), (W (x1_l0 + 1)), (W (x5_l0 + 1))), (), (someE hF).symm, ⟨rfl, rfl, rfl, trivial⟩, (hS.pick [0, 1] rfl rfl)⟩
    · skip
      refine AWP.exit ?_
      refine QThen.ext ?_
      refine QThen.ext ?_
      refine QBlock.hit ?_
      obtain rfl := (hx6 _ (someE hF).symm)
      have hF := hR9
      refine QThen.nrm ?_
      exact ⟨x1_l0, y4, ⟨rfl, trivial⟩, (hS.pick [0, 1] rfl rfl), hF⟩

set_option maxRecDepth 10000 in
theorem laws_heldIntS_ok {p0 : (List Int)} {p1 : Int} {r : Int} (hF : laws_heldIntS p0 p1 = some r) : PC Try.prog 22 [(.list 1 (List.map (AV.int .i64) p0)), (.int .i64 p1)] fun v => v = (.int .i64 r) := by
  refine PC.enter Try.func22 rfl Try.ntmps22 (by simp) ?_
  have hS := Sep.void; unfold laws_heldIntS at hF
  refine AWP.seqR rfl ?_
  refine ASL.q (v := (.int .i64 0)) rfl rfl (Light.quiet (opAssign rfl rfl)) ?_
  refine ASL.done ?_
  refine AWP.seqM (fun e H => ∃ x1_1 : Int, E.Told e [(1, (.int .i64 x1_1))] ∧ E.Sep H [] ∧ laws_heldIntS.k0 x1_1 = some r) ?_ ?_
  · rintro e0 G1 ⟨x1_1, hT, hS, hF⟩; refine AWP.only _ hT ?_; unfold laws_heldIntS.k0 at hF
    refine AWP.seqR rfl ?_
    refine ASL.q (v := (.int .i64 x1_1)) rfl rfl (Light.quiet (opMove rfl rfl)) ?_
    refine ASL.q (v := (.int .i64 x1_1)) rfl rfl (Light.quiet (opAssign rfl rfl)) ?_
    refine ASL.done ?_
    refine AWP.ret ?_
    obtain rfl := someE hF
    exact QRet.sole (v := (.int .i64 x1_1)) ⟨rfl, trivial⟩ rfl
  · skip
    refine AWP.seqR rfl ?_
    refine ASL.q (v := (.int .i64 0)) rfl rfl (Light.quiet (opAssign rfl rfl)) ?_
    refine ASL.done ?_
    refine AWP.block ?_
    obtain ⟨o5, hL4, hR6⟩ := bindE hF
    refine AWP.loopF (ω := Unit) hL4 (fun s w => [(0, (.list 1 (List.map (AV.int .i64) p0))), (1, (.int .i64 s.1)), (5, (.int .i64 s.2))]) (fun s w => []) () ⟨rfl, rfl, rfl, trivial⟩ (hS.pick [] rfl rfl) ?_
    rintro ⟨x1_l0, x5_l0⟩ _ G7 hS x2 hF hx3
    try dsimp only at hS ⊢
    have hF : laws_heldIntS.b0 p0 x1_l0 x5_l0 = some x2 := hF; unfold laws_heldIntS.b0 at hF
    refine AWP.seq ?_
    refine AWP.seqR rfl ?_
    refine ASL.q (v := (.int .i64 x5_l0)) rfl rfl (Light.quiet (opMove rfl rfl)) ?_
    refine ASL.q (v := (.list 1 (List.map (AV.int .i64) p0))) rfl rfl (Light.quiet (opMove rfl rfl)) ?_
    refine ASL.q (v := (.int .i64 (p0.length : Int))) rfl rfl (Light.quiet (opLenMap (f := (AV.int .i64)) rfl rfl rfl lenT_34 rfl)) ?_
    refine ASL.q (v := (.bool (decide (x5_l0 < ((p0.length : Int)))))) rfl rfl (Light.quiet (opInt rfl rfl rfl rfl)) ?_
    refine ASL.done ?_
    refine AWP.ifP hF rfl (fun hc8 hF => ?_) (fun hc8 hF => ?_)
    · skip
      refine AWP.skip ?_
      refine QThen.nrm ?_
      refine AWP.seq ?_
      refine AWP.block ?_
      refine AWP.seq ?_
      refine AWP.seqR rfl ?_
      refine ASL.q (v := (.list 1 (List.map (AV.int .i64) p0))) rfl rfl (Light.quiet (opMove rfl rfl)) ?_
      refine ASL.q (v := (.int .i64 x5_l0)) rfl rfl (Light.quiet (opMove rfl rfl)) ?_
      obtain ⟨a14, ha14, hF⟩ := bindE hF
      refine ASL.q (v := (.rptr [(.int .i64 a14)])) rfl rfl (Light.quiet (kIx (f := (AV.int .i64)) ha14 rfl rfl rfl elemA_34 sizeA_3 rfl)) ?_
      refine ASL.q (v := (.int .i64 a14)) rfl rfl (Light.quiet (opLoadR rfl aggA_3 rfl rfl)) ?_
      refine ASL.q (v := (.int .i64 x1_l0)) rfl rfl (Light.quiet (opMove rfl rfl)) ?_
      refine ASL.q (v := (.bool (decide (a14 ≠ x1_l0)))) rfl rfl (Light.quiet (opInt rfl rfl rfl rfl)) ?_
      refine ASL.done ?_
      refine AWP.ifP hF rfl (fun hc9 hF => ?_) (fun hc9 hF => ?_)
      · skip
        refine AWP.seqR rfl ?_
        refine ASL.q (v := (.int .i64 (-1))) rfl rfl (Light.quiet (opAssign rfl rfl)) ?_
        refine ASL.done ?_
        refine AWP.ret ?_
        refine QThen.rt ?_
        refine QBlock.ret ?_
        refine QThen.rt ?_
        refine QThen.rt ?_
        refine QBlock.ret ?_
        refine QThen.rt ?_
        obtain rfl := (hx3 _ (someE hF).symm)
        have hF := hR6
        have hF := sumR hF
        obtain rfl := someE hF
        exact QRet.sole (v := (.int .i64 (-1))) ⟨rfl, trivial⟩ rfl
      · skip
        refine AWP.skip ?_
        refine QThen.nrm ?_
        refine AWP.lastR rfl ?_
        refine ASL.q (v := (.int .i64 x1_l0)) rfl rfl (Light.quiet (opMove rfl rfl)) ?_
        refine ASL.q (v := (.int .i64 (W (x1_l0 + 1)))) rfl rfl (Light.quiet (opInt rfl rfl rfl rfl)) ?_
        refine ASL.q (v := (.int .i64 (W (x1_l0 + 1)))) rfl rfl (Light.quiet (opAssign rfl rfl)) ?_
        refine ASL.done ?_
        refine QBlock.nrm ?_
        refine QThen.nrm ?_
        refine AWP.lastR rfl ?_
        refine ASL.q (v := (.int .i64 x5_l0)) rfl rfl (Light.quiet (opMove rfl rfl)) ?_
        refine ASL.q (v := (.int .i64 (W (x5_l0 + 1)))) rfl rfl (Light.quiet (opInt rfl rfl rfl rfl)) ?_
        refine ASL.q (v := (.int .i64 (W (x5_l0 + 1)))) rfl rfl (Light.quiet (opAssign rfl rfl)) ?_
        refine ASL.done ?_
        refine QThen.nrm ?_
        exact ⟨((W (x1_l0 + 1)), (W (x5_l0 + 1))), (), (someE hF).symm, ⟨rfl, rfl, rfl, trivial⟩, (hS.pick [] rfl rfl)⟩
    · skip
      refine AWP.exit ?_
      refine QThen.ext ?_
      refine QThen.ext ?_
      refine QBlock.hit ?_
      obtain rfl := (hx3 _ (someE hF).symm)
      have hF := hR6
      have hF := sumL hF
      refine QThen.nrm ?_
      exact ⟨x1_l0, ⟨rfl, trivial⟩, (hS.pick [] rfl rfl), hF⟩

set_option maxRecDepth 10000 in
theorem laws_FnExactAutoScc_ok {p0 : TAuto} {r : Bool} (hF : laws_FnExactAutoScc p0 = some r) : PC Try.prog 5 [(TAuto.av p0)] fun v => v = (.bool r) := by
  refine PC.enter Try.func5 rfl Try.ntmps5 (by simp) ?_
  have hS := Sep.void; unfold laws_FnExactAutoScc at hF
  refine AWP.seqR rfl ?_
  refine ASL.q (v := (.rptr [(.int .i64 p0.letters), (.int .i64 p0.states), (.int .i64 p0.start), (.list 4 (List.map TEdge.av p0.edges))])) rfl rfl ((qBoxI (v := (TAuto.av p0)) rfl rfl rfl rfl)) ?_
  refine ASL.q (v := (.bool false)) rfl rfl (Light.quiet (opAssign rfl rfl)) ?_
  refine ASL.done ?_
  refine AWP.seqR rfl ?_
  refine ASL.q (v := (.int .i64 1048576)) rfl rfl (Light.quiet (opAssign rfl rfl)) ?_
  refine ASL.done ?_
  refine AWP.seqR rfl ?_
  refine ASL.q (v := (TAuto.av p0)) rfl rfl (Light.quiet (opLoadRA rfl aggA_24 sizeA_24 rfl (nlt rfl) rfl)) ?_
  refine ASL.q (v := (.int .i64 1048576)) rfl rfl (Light.quiet (opMove rfl rfl)) ?_
  refine ASL.q (v := (.int .i64 (laws_szAuto p0 1048576))) rfl rfl ((qCall rfl rfl call_10 (laws_szAuto_ok p0 1048576) rfl)) ?_
  refine ASL.q (v := (.int .i64 (laws_szAuto p0 1048576))) rfl rfl (Light.quiet (opAssign rfl rfl)) ?_
  refine ASL.done ?_
  refine AWP.seq ?_
  refine AWP.seqR rfl ?_
  refine ASL.q (v := (.int .i64 (laws_szAuto p0 1048576))) rfl rfl (Light.quiet (opMove rfl rfl)) ?_
  refine ASL.q (v := (.bool (decide (((laws_szAuto p0 1048576)) < 0)))) rfl rfl (Light.quiet (opInt rfl rfl rfl rfl)) ?_
  refine ASL.done ?_
  refine AWP.ifP hF rfl (fun hc1 hF => ?_) (fun hc1 hF => ?_)
  · skip
    refine AWP.seqR rfl ?_
    refine ASL.q (v := (.bool true)) rfl rfl (Light.quiet (opAssign rfl rfl)) ?_
    refine ASL.done ?_
    refine AWP.ret ?_
    refine QThen.rt ?_
    obtain rfl := someE hF
    exact QRet.sole (v := (.bool true)) ⟨rfl, trivial⟩ rfl
  · skip
    refine AWP.skip ?_
    refine QThen.nrm ?_
    refine AWP.seqR rfl ?_
    refine ASL.q (v := (TAuto.av p0)) rfl rfl (Light.quiet (opLoadRA rfl aggA_24 sizeA_24 rfl (nlt rfl) rfl)) ?_
    obtain ⟨a17, ha17, hF⟩ := bindE hF
    refine ASL.x rfl rfl (hCallSR hS rfl rfl call_12 (laws_toAuto_ok ha17) ⟨.same _, trivial⟩ (by rintro _ _ G ⟨w2, rfl, rfl⟩ hG; exact ⟨(Scal.agg (ScalC.cons (by constructor) (ScalC.cons (by constructor) (ScalC.cons (by constructor) (ScalC.cons (hG.scR (k := 0) rfl) ScalC.nil))))), ⟨(Scal.row (fun _ => by simp only [TEdge.av, cells, List.mem_cons, List.not_mem_nil, or_false]; rintro c hc; rcases hc with rfl | rfl | rfl | rfl <;> constructor)), trivial⟩⟩) ?_); rintro _ _ G4 ⟨w2, rfl, rfl⟩ hK hS
    obtain ⟨a18, ha18, hF⟩ := bindE hF
    refine ASL.q (v := (.list 1 (List.map (AV.int .i64) a18))) rfl rfl ((qCallRL hS rfl rfl call_17 (spec_AutoScc_ok ha18) ⟨.aggL ⟨.same _, .same _, .same _, .row (k := 0) rfl, trivial⟩, trivial⟩ (Scal.ints _ _))) ?_
    refine ASL.q (v := (.list 1 (List.map (AV.int .i64) a18))) rfl rfl (Light.quiet (opAssign rfl rfl)) ?_
    refine ASL.done ?_
    refine AWP.seqR rfl ?_
    refine ASL.q (v := (TAuto.av p0)) rfl rfl (Light.quiet (opLoadRA rfl aggA_24 sizeA_24 rfl (nlt rfl) rfl)) ?_
    obtain ⟨a20, ha20, hF⟩ := bindE hF
    refine ASL.x rfl rfl (hCallSR hS rfl rfl call_12 (laws_toAuto_ok ha20) ⟨.same _, trivial⟩ (by rintro _ _ G ⟨w5, rfl, rfl⟩ hG; exact ⟨(Scal.agg (ScalC.cons (by constructor) (ScalC.cons (by constructor) (ScalC.cons (by constructor) (ScalC.cons (hG.scR (k := 0) rfl) ScalC.nil))))), ⟨(Scal.row (fun _ => by simp only [TEdge.av, cells, List.mem_cons, List.not_mem_nil, or_false]; rintro c hc; rcases hc with rfl | rfl | rfl | rfl <;> constructor)), trivial⟩⟩) ?_); rintro _ _ G7 ⟨w5, rfl, rfl⟩ hK hS
    have hS := hNil (s := 4) (f := TEdge.av) hS
    refine ASL.x rfl rfl (hNewZ hS [(.int .i64 0), (.int .i64 0), (.int .i64 0), .nil] rfl zeroA_29 ⟨.inl rfl, .inl rfl, .inl rfl, .inl rfl, trivial⟩ ?_); rintro b5 G8 hK hS
    refine ASL.n rfl rfl (hPutA hS (j := 0) rfl rfl sizeA_29 rfl rfl rfl rfl (allC rfl (allC rfl (allC rfl (allC (hS.one (k := 2) rfl) rfl)))) (nlt rfl) ?_); rintro G11 hS
    refine ASL.done ?_
    refine AWP.seqR rfl ?_
    refine ASL.q (v := (.agg [(.int .i64 a20.letters), (.int .i64 a20.states), (.int .i64 a20.start), w5])) rfl rfl (Light.quiet (kAtA hS (j := 0) rfl rfl aggA_29 sizeA_29 rfl (nlt rfl) rfl)) ?_
    obtain ⟨a22, ha22, hF⟩ := bindE hF
    refine ASL.x rfl rfl (hCallOR hS rfl rfl call_18 (impl_AutoScc_ok ha22) ⟨.aggL ⟨.same _, .same _, .same _, .row (k := 2) rfl, trivial⟩, trivial⟩ (Scal.ints _ _) ?_); rintro v22 G12 hK hS
    refine ASL.q (v := v22) rfl rfl (Light.quiet (opAssign rfl rfl)) ?_
    refine ASL.done ?_
    refine AWP.seq ?_
    refine AWP.seqR rfl ?_
    refine ASL.q (v := v22) rfl rfl (Light.quiet (opMove rfl rfl)) ?_
    refine ASL.q (v := (.list 1 (List.map (AV.int .i64) a18))) rfl rfl (Light.quiet (opMove rfl rfl)) ?_
    obtain ⟨a25, ha25, hF⟩ := bindE hF
    refine ASL.q (v := (.bool a25)) rfl rfl ((qCallR hS rfl rfl call_19 (laws_eqIntS_ok ha25) ⟨.row (k := 0) rfl, .same _, trivial⟩ (by constructor))) ?_
    refine ASL.q (v := (.bool (!a25))) rfl rfl (Light.quiet (opNot rfl rfl)) ?_
    refine ASL.done ?_
    refine AWP.ifB hF rfl (fun hc14 hF => ?_) (fun hc14 hF => ?_)
    · skip
      refine AWP.seqR rfl ?_
      refine ASL.q (v := (.bool false)) rfl rfl (Light.quiet (opAssign rfl rfl)) ?_
      refine ASL.done ?_
      refine AWP.ret ?_
      refine QThen.rt ?_
      obtain rfl := someE hF
      exact QRet.sole (v := (.bool false)) ⟨rfl, trivial⟩ rfl
    · skip
      refine AWP.skip ?_
      refine QThen.nrm ?_
      refine AWP.seq ?_
      refine AWP.seqD [(0, false), (1, false), (2, true), (3, false), (4, false)] mixed (by kernel_rfl) rfl ?_
      refine ARL.q (v := (.agg [(.int .i64 a20.letters), (.int .i64 a20.states), (.int .i64 a20.start), w5])) rfl rfl (hS.aliveC (k := 1) rfl) (Light.quiet (kAtA hS (j := 1) rfl rfl aggA_29 sizeA_29 rfl (nlt rfl) rfl)) ?_
      refine ARL.q0 (v := (TAuto.av p0)) rfl rfl (Light.quiet (opLoadRA rfl aggA_24 sizeA_24 rfl (nlt rfl) rfl)) ?_
      obtain ⟨a29, ha29, hF⟩ := bindE hF
      refine ARL.x rfl rfl rfl (hCallSR hS rfl rfl call_12 (laws_toAuto_ok ha29) ⟨.same _, trivial⟩ (by rintro _ _ G ⟨w15, rfl, rfl⟩ hG; exact ⟨(Scal.agg (ScalC.cons (by constructor) (ScalC.cons (by constructor) (ScalC.cons (by constructor) (ScalC.cons (hG.scR (k := 0) rfl) ScalC.nil))))), ⟨(Scal.row (fun _ => by simp only [TEdge.av, cells, List.mem_cons, List.not_mem_nil, or_false]; rintro c hc; rcases hc with rfl | rfl | rfl | rfl <;> constructor)), trivial⟩⟩) ?_); rintro _ _ G17 ⟨w15, rfl, rfl⟩ hK hS; refine ⟨hK, ?_⟩
      obtain ⟨a30, ha30, hF⟩ := bindE hF
      refine ARL.q (v := (.bool a30)) rfl rfl (hS.aliveAll) ((qCallR hS rfl rfl call_14 (laws_eqAuto_ok ha30) ⟨.aggL ⟨.same _, .same _, .same _, .row (k := 4) rfl, trivial⟩, .aggL ⟨.same _, .same _, .same _, .row (k := 0) rfl, trivial⟩, trivial⟩ (by constructor))) ?_
      refine ARL.q0 (v := (.bool (!a30))) rfl rfl (Light.quiet (opNot rfl rfl)) ?_
      refine ARL.done ?_
      refine AWP.ifB hF rfl (fun hc18 hF => ?_) (fun hc18 hF => ?_)
      · skip
        refine AWP.seqR rfl ?_
        refine ASL.q (v := (.bool false)) rfl rfl (Light.quiet (opAssign rfl rfl)) ?_
        refine ASL.done ?_
        refine AWP.ret ?_
        refine QThen.rt ?_
        obtain rfl := someE hF
        exact QRet.sole (v := (.bool false)) ⟨rfl, trivial⟩ rfl
      · skip
        refine AWP.skip ?_
        refine QThen.nrm ?_
        refine AWP.seqR rfl ?_
        refine ASL.q (v := (.int .i64 1)) rfl rfl (Light.quiet (opAssign rfl rfl)) ?_
        refine ASL.done ?_
        refine AWP.seqR rfl ?_
        refine ASL.q (v := (.agg [(.int .i64 a20.letters), (.int .i64 a20.states), (.int .i64 a20.start), w5])) rfl rfl (Light.quiet (kAtA hS (j := 2) rfl rfl aggA_29 sizeA_29 rfl (nlt rfl) rfl)) ?_
        refine ASL.q (v := (.int .i64 1)) rfl rfl (Light.quiet (opMove rfl rfl)) ?_
        obtain ⟨a34, ha34, hF⟩ := bindE hF
        refine ASL.x rfl rfl (hCallS hS [4, 0, 1, 2, 3, 5] (F := [.row 4 w15 (List.map TEdge.av a29.edges), .row 1 v22 (List.map (AV.int .i64) a22), .cell b5 [(.int .i64 a20.letters), (.int .i64 a20.states), (.int .i64 a20.start), w5], .row 4 .nil (List.map TEdge.av ([])), .row 4 w2 (List.map TEdge.av a17.edges)]) rfl rfl rfl call_20 (laws_markAuto_ok ha34) rfl rfl ?_); rintro _ _ G19 ⟨rfl, rfl⟩ hS
        refine ASL.q (v := (.int .i64 a34.1)) rfl rfl (Light.quiet (opAssign rfl rfl)) ?_
        refine ASL.done ?_
        refine AWP.seq ?_
        refine AWP.seqR rfl ?_
        refine ASL.q (v := (.int .i64 a34.1)) rfl rfl (Light.quiet (opMove rfl rfl)) ?_
        refine ASL.q (v := (.bool (decide (a34.1 < 0)))) rfl rfl (Light.quiet (opInt rfl rfl rfl rfl)) ?_
        obtain ⟨c37, hc37, hF⟩ := bndE hF
        refine ASL.q (v := (.bool c37)) rfl rfl ((Quiet.cast (Light.quiet (opMove rfl rfl)) (congrArg AV.bool hc37.symm))) ?_
        refine ASL.g (v := v22) (.bool c37) false rfl (wF _) rfl (fun hG => by have q0 := gN hG; subst q0; exact Light.quiet (opMove rfl rfl)) ?_
        refine ASL.g (v := (.list 1 (List.map (AV.int .i64) a18))) (.bool c37) false rfl (wF _) rfl (fun hG => by have q0 := gN hG; subst q0; exact Light.quiet (opMove rfl rfl)) ?_
        obtain ⟨a40, ha40, hF⟩ := bindE hF
        refine ASL.g (v := (.bool a40)) (.bool c37) false rfl (wF _) rfl (fun hG => by have q0 := gN hG; subst q0; exact (qCallR hS rfl rfl call_19 (laws_eqIntS_ok (whenE ha40)) ⟨.row (k := 2) rfl, .same _, trivial⟩ (by constructor))) ?_
        refine ASL.g (v := (.bool (!a40))) (.bool c37) false rfl (wF _) rfl (fun hG => by have q0 := gN hG; subst q0; exact Light.quiet (opNot rfl rfl)) ?_
        refine ASL.q (v := (.bool (c37 || (!a40)))) rfl rfl (Light.quiet (opPick (b := c37) rfl rfl (by cases c37 <;> rfl))) ?_
        refine ASL.done ?_
        refine AWP.ifB hF rfl (fun hc20 hF => ?_) (fun hc20 hF => ?_)
        · skip
          refine AWP.seqR rfl ?_
          refine ASL.q (v := (.bool false)) rfl rfl (Light.quiet (opAssign rfl rfl)) ?_
          refine ASL.done ?_
          refine AWP.ret ?_
          refine QThen.rt ?_
          obtain rfl := someE hF
          exact QRet.sole (v := (.bool false)) ⟨rfl, trivial⟩ rfl
        · skip
          refine AWP.skip ?_
          refine QThen.nrm ?_
          refine AWP.seqR rfl ?_
          refine ASL.q (v := (.int .i64 1)) rfl rfl (Light.quiet (opAssign rfl rfl)) ?_
          refine ASL.done ?_
          refine AWP.seqR rfl ?_
          refine ASL.q (v := v22) rfl rfl (Light.quiet (opMove rfl rfl)) ?_
          refine ASL.q (v := (.int .i64 1)) rfl rfl (Light.quiet (opMove rfl rfl)) ?_
          obtain ⟨a45, ha45, hF⟩ := bindE hF
          refine ASL.x rfl rfl (hCallS hS [2, 0, 1, 3, 4, 5] (F := [.row 4 w5 (List.map TEdge.av a34.2.edges), .row 4 w15 (List.map TEdge.av a29.edges), .cell b5 [(.int .i64 a20.letters), (.int .i64 a20.states), (.int .i64 a20.start), w5], .row 4 .nil (List.map TEdge.av ([])), .row 4 w2 (List.map TEdge.av a17.edges)]) rfl rfl rfl call_21 (laws_markIntS_ok ha45) rfl rfl ?_); rintro _ _ G21 ⟨rfl, rfl⟩ hS
          refine ASL.q (v := (.int .i64 a45.1)) rfl rfl (Light.quiet (opAssign rfl rfl)) ?_
          refine ASL.done ?_
          refine AWP.seqR rfl ?_
          refine ASL.q (v := (.int .i64 1)) rfl rfl (Light.quiet (opAssign rfl rfl)) ?_
          refine ASL.done ?_
          refine AWP.seqR rfl ?_
          refine ASL.q (v := v22) rfl rfl (Light.quiet (opMove rfl rfl)) ?_
          refine ASL.q (v := (.int .i64 1)) rfl rfl (Light.quiet (opMove rfl rfl)) ?_
          obtain ⟨a48, ha48, hF⟩ := bindE hF
          refine ASL.q (v := (.int .i64 a48)) rfl rfl ((qCallR hS rfl rfl call_22 (laws_heldIntS_ok ha48) ⟨.row (k := 0) rfl, .same _, trivial⟩ (by constructor))) ?_
          refine ASL.q (v := (.int .i64 a48)) rfl rfl (Light.quiet (opAssign rfl rfl)) ?_
          refine ASL.done ?_
          refine AWP.seq ?_
          refine AWP.seqR rfl ?_
          refine ASL.q (v := (.int .i64 a48)) rfl rfl (Light.quiet (opMove rfl rfl)) ?_
          refine ASL.q (v := (.bool (decide (a48 < 0)))) rfl rfl (Light.quiet (opInt rfl rfl rfl rfl)) ?_
          refine ASL.done ?_
          refine AWP.ifP hF rfl (fun hc22 hF => ?_) (fun hc22 hF => ?_)
          · skip
            refine AWP.seqR rfl ?_
            refine ASL.q (v := (.bool false)) rfl rfl (Light.quiet (opAssign rfl rfl)) ?_
            refine ASL.done ?_
            refine AWP.ret ?_
            refine QThen.rt ?_
            obtain rfl := someE hF
            exact QRet.sole (v := (.bool false)) ⟨rfl, trivial⟩ rfl
          · skip
            refine AWP.skip ?_
            refine QThen.nrm ?_
            refine AWP.seq ?_
            refine AWP.seqR rfl ?_
            refine ASL.q (v := (.int .i64 a48)) rfl rfl (Light.quiet (opMove rfl rfl)) ?_
            refine ASL.q (v := (.int .i64 a45.1)) rfl rfl (Light.quiet (opMove rfl rfl)) ?_
            refine ASL.q (v := (.bool (decide (a48 ≠ a45.1)))) rfl rfl (Light.quiet (opInt rfl rfl rfl rfl)) ?_
            refine ASL.done ?_
            refine AWP.ifP hF rfl (fun hc23 hF => ?_) (fun hc23 hF => ?_)
            · skip
              refine AWP.seqR rfl ?_
              refine ASL.q (v := (.bool false)) rfl rfl (Light.quiet (opAssign rfl rfl)) ?_
              refine ASL.done ?_
              refine AWP.ret ?_
              refine QThen.rt ?_
              obtain rfl := someE hF
              exact QRet.sole (v := (.bool false)) ⟨rfl, trivial⟩ rfl
            · skip
              refine AWP.skip ?_
              refine QThen.nrm ?_
              refine AWP.seqR rfl ?_
              refine ASL.q (v := (TAuto.av p0)) rfl rfl (Light.quiet (opLoadRA rfl aggA_24 sizeA_24 rfl (nlt rfl) rfl)) ?_
              obtain ⟨a55, ha55, hF⟩ := bindE hF
              refine ASL.x rfl rfl (hCallSR hS rfl rfl call_12 (laws_toAuto_ok ha55) ⟨.same _, trivial⟩ (by rintro _ _ G ⟨w24, rfl, rfl⟩ hG; exact ⟨(Scal.agg (ScalC.cons (by constructor) (ScalC.cons (by constructor) (ScalC.cons (by constructor) (ScalC.cons (hG.scR (k := 0) rfl) ScalC.nil))))), ⟨(Scal.row (fun _ => by simp only [TEdge.av, cells, List.mem_cons, List.not_mem_nil, or_false]; rintro c hc; rcases hc with rfl | rfl | rfl | rfl <;> constructor)), trivial⟩⟩) ?_); rintro _ _ G26 ⟨w24, rfl, rfl⟩ hK hS
              obtain ⟨a56, ha56, hF⟩ := bindE hF
              refine ASL.q (v := (.list 1 (List.map (AV.int .i64) a56))) rfl rfl ((qCallRL hS rfl rfl call_18 (impl_AutoScc_ok ha56) ⟨.aggL ⟨.same _, .same _, .same _, .row (k := 0) rfl, trivial⟩, trivial⟩ (Scal.ints _ _))) ?_
              refine ASL.q (v := (.list 1 (List.map (AV.int .i64) a56))) rfl rfl (Light.quiet (opAssign rfl rfl)) ?_
              refine ASL.done ?_
              refine AWP.seq ?_
              refine AWP.seqR rfl ?_
              refine ASL.q (v := (.list 1 (List.map (AV.int .i64) a56))) rfl rfl (Light.quiet (opMove rfl rfl)) ?_
              refine ASL.q (v := (.list 1 (List.map (AV.int .i64) a18))) rfl rfl (Light.quiet (opMove rfl rfl)) ?_
              obtain ⟨a59, ha59, hF⟩ := bindE hF
              refine ASL.q (v := (.bool a59)) rfl rfl ((qCall rfl rfl call_19 (laws_eqIntS_ok ha59) rfl)) ?_
              refine ASL.q (v := (.bool (!a59))) rfl rfl (Light.quiet (opNot rfl rfl)) ?_
              refine ASL.done ?_
              refine AWP.ifB hF rfl (fun hc27 hF => ?_) (fun hc27 hF => ?_)
              · skip
                refine AWP.seqR rfl ?_
                refine ASL.q (v := (.bool false)) rfl rfl (Light.quiet (opAssign rfl rfl)) ?_
                refine ASL.done ?_
                refine AWP.ret ?_
                refine QThen.rt ?_
                obtain rfl := someE hF
                exact QRet.sole (v := (.bool false)) ⟨rfl, trivial⟩ rfl
              · skip
                refine AWP.skip ?_
                refine QThen.nrm ?_
                refine AWP.seqR rfl ?_
                refine ASL.q (v := (.int .i64 1)) rfl rfl (Light.quiet (opAssign rfl rfl)) ?_
                refine ASL.done ?_
                refine AWP.seqR rfl ?_
                refine ASL.q (v := v22) rfl rfl (Light.quiet (opMove rfl rfl)) ?_
                refine ASL.q (v := (.int .i64 1)) rfl rfl (Light.quiet (opMove rfl rfl)) ?_
                obtain ⟨a63, ha63, hF⟩ := bindE hF
                refine ASL.q (v := (.int .i64 a63)) rfl rfl ((qCallR hS rfl rfl call_22 (laws_heldIntS_ok ha63) ⟨.row (k := 1) rfl, .same _, trivial⟩ (by constructor))) ?_
                refine ASL.q (v := (.int .i64 a63)) rfl rfl (Light.quiet (opAssign rfl rfl)) ?_
                refine ASL.done ?_
                refine AWP.seq ?_
                refine AWP.seqR rfl ?_
                refine ASL.q (v := (.int .i64 a63)) rfl rfl (Light.quiet (opMove rfl rfl)) ?_
                refine ASL.q (v := (.bool (decide (a63 < 0)))) rfl rfl (Light.quiet (opInt rfl rfl rfl rfl)) ?_
                refine ASL.done ?_
                refine AWP.ifP hF rfl (fun hc28 hF => ?_) (fun hc28 hF => ?_)
                · skip
                  refine AWP.seqR rfl ?_
                  refine ASL.q (v := (.bool false)) rfl rfl (Light.quiet (opAssign rfl rfl)) ?_
                  refine ASL.done ?_
                  refine AWP.ret ?_
                  refine QThen.rt ?_
                  obtain rfl := someE hF
                  exact QRet.sole (v := (.bool false)) ⟨rfl, trivial⟩ rfl
                · skip
                  refine AWP.skip ?_
                  refine QThen.nrm ?_
                  refine AWP.seq ?_
                  refine AWP.seqR rfl ?_
                  refine ASL.q (v := (.int .i64 a63)) rfl rfl (Light.quiet (opMove rfl rfl)) ?_
                  refine ASL.q (v := (.int .i64 a45.1)) rfl rfl (Light.quiet (opMove rfl rfl)) ?_
                  refine ASL.q (v := (.bool (decide (a63 ≠ a45.1)))) rfl rfl (Light.quiet (opInt rfl rfl rfl rfl)) ?_
                  refine ASL.done ?_
                  refine AWP.ifP hF rfl (fun hc29 hF => ?_) (fun hc29 hF => ?_)
                  · skip
                    refine AWP.seqR rfl ?_
                    refine ASL.q (v := (.bool false)) rfl rfl (Light.quiet (opAssign rfl rfl)) ?_
                    refine ASL.done ?_
                    refine AWP.ret ?_
                    refine QThen.rt ?_
                    obtain rfl := someE hF
                    exact QRet.sole (v := (.bool false)) ⟨rfl, trivial⟩ rfl
                  · skip
                    refine AWP.skip ?_
                    refine QThen.nrm ?_
                    refine AWP.seqR rfl ?_
                    refine ASL.q (v := (.bool true)) rfl rfl (Light.quiet (opAssign rfl rfl)) ?_
                    refine ASL.done ?_
                    refine AWP.ret ?_
                    obtain rfl := someE hF
                    exact QRet.sole (v := (.bool true)) ⟨rfl, trivial⟩ rfl

end Go.Proofs.Ythdclobnmicdaaa
