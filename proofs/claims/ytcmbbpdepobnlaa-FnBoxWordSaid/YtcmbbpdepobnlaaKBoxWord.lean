/- Each of these functions of the program comes to just what its plain function says: FnBoxWord. -/
import Derived.Test.YtcmbbpdepobnlaaKBoxWordp1
namespace Go.Proofs.Ytcmbbpdepobnlaa
open Go Go.RowKit E
set_option linter.unusedVariables false
set_option maxRecDepth 10000 in
theorem impl_boxTakes_ok {p0 : TAuto} {p1 : (List Int)} {p2 : (List Int)} {r : Bool} (hF : impl_boxTakes p0 p1 p2 = some r) : PC Try.prog 47 [(TAuto.av p0), (.list 1 (List.map (AV.int .i64) p1)), (.list 1 (List.map (AV.int .i64) p2))] fun v => v = (.bool r) := by
  refine PC.enter Try.func47 rfl Try.ntmps47 (by simp) ?_
  have hS := Sep.void; unfold impl_boxTakes at hF
  refine AWP.seqR rfl ?_
  refine ASL.q (v := (.rptr [(.int .i64 p0.letters), (.int .i64 p0.states), (.int .i64 p0.start), (.list 4 (List.map TEdge.av p0.edges))])) rfl rfl ((qBoxI (v := (TAuto.av p0)) rfl rfl rfl rfl)) ?_
  refine ASL.q (v := (.bool false)) rfl rfl (Light.quiet (opAssign rfl rfl)) ?_
  refine ASL.done ?_
  refine AWP.seqR rfl ?_
  refine ASL.q (v := (.rptr [(.int .i64 p0.states), (.int .i64 p0.start), (.list 4 (List.map TEdge.av p0.edges))])) rfl rfl (Light.quiet (opFieldAddrR rfl fieldA_26_1 rfl rfl)) ?_
  refine ASL.q (v := (.int .i64 p0.states)) rfl rfl (Light.quiet (opLoadR rfl aggA_3 rfl rfl)) ?_
  refine ASL.q (v := (.int .i64 p0.states)) rfl rfl (Light.quiet (opAssign rfl rfl)) ?_
  refine ASL.done ?_
  refine AWP.seqR rfl ?_
  refine ASL.q (v := (.list 1 (List.map (AV.int .i64) p2))) rfl rfl (Light.quiet (opMove rfl rfl)) ?_
  refine ASL.q (v := (.list 1 (List.map (AV.int .i64) p2))) rfl rfl (Light.quiet (opAssign rfl rfl)) ?_
  refine ASL.done ?_
  refine AWP.seqM (fun e H => ∃ x8_1 : (List Int), E.Told e [(1, (.list 1 (List.map (AV.int .i64) p1))), (3, (.rptr [(.int .i64 p0.letters), (.int .i64 p0.states), (.int .i64 p0.start), (.list 4 (List.map TEdge.av p0.edges))])), (7, (.int .i64 p0.states)), (8, (.list 1 (List.map (AV.int .i64) x8_1)))] ∧ E.Sep H [] ∧ impl_boxTakes.k0 p0 p1 x8_1 = some r) ?_ ?_
  · rintro e0 G27 ⟨x8_1, hT, hS, hF⟩; refine AWP.only _ hT ?_; unfold impl_boxTakes.k0 at hF
    refine AWP.seqM (fun e H => E.Told e [] ∧ E.Sep H [] ∧ impl_boxTakes.k1 = some r) ?_ ?_
    · rintro e0 G1 ⟨hT, hS, hF⟩; refine AWP.only _ hT ?_; unfold impl_boxTakes.k1 at hF
      refine AWP.seqR rfl ?_
      refine ASL.q (v := (.bool false)) rfl rfl (Light.quiet (opAssign rfl rfl)) ?_
      refine ASL.done ?_
      refine AWP.ret ?_
      obtain rfl := someE hF
      exact QRet.sole (v := (.bool false)) ⟨rfl, trivial⟩ rfl
    · skip
      refine AWP.seqR rfl ?_
      refine ASL.q (v := (.rptr [(.int .i64 p0.start), (.list 4 (List.map TEdge.av p0.edges))])) rfl rfl (Light.quiet (opFieldAddrR rfl fieldA_26_2 rfl rfl)) ?_
      refine ASL.q (v := (.int .i64 p0.start)) rfl rfl (Light.quiet (opLoadR rfl aggA_3 rfl rfl)) ?_
      obtain ⟨a47, ha47, hF⟩ := bindE hF
      refine ASL.q (v := (.list 1 (List.map (AV.int .i64) a47))) rfl rfl ((qCall rfl rfl call_87 (PO.list (impl_SetList_ok ha47)) rfl)) ?_
      refine ASL.q (v := (.int .i64 (a47.length : Int))) rfl rfl (Light.quiet (opLenMap (f := (AV.int .i64)) rfl rfl rfl lenT_27 rfl)) ?_
      refine ASL.q (v := (.int .i64 0)) rfl rfl (Light.quiet (opMove rfl rfl)) ?_
      refine ASL.done ?_
      refine AWP.block ?_
      obtain ⟨o5, hL4, hR6⟩ := bindE hF
      refine AWP.loopF (ω := Unit) hL4 (fun s w => [(1, (.list 1 (List.map (AV.int .i64) p1))), (7, (.int .i64 p0.states)), (8, (.list 1 (List.map (AV.int .i64) x8_1))), (47, (.list 1 (List.map (AV.int .i64) a47))), (48, (.int .i64 (a47.length : Int))), (49, (.int .i64 s))]) (fun s w => []) () ⟨rfl, rfl, rfl, rfl, rfl, rfl, trivial⟩ (hS.pick [] rfl rfl) ?_
      rintro x49_l0 _ G7 hS x2 hF hx3
      try dsimp only at hS ⊢
      have hF : impl_boxTakes.b0 a47 p0 p1 x8_1 x49_l0 = some x2 := hF; unfold impl_boxTakes.b0 at hF
      refine AWP.seqR rfl ?_
      refine ASL.q (v := (.bool (decide (x49_l0 < ((a47.length : Int)))))) rfl rfl (Light.quiet (opInt rfl rfl rfl rfl)) ?_
      refine ASL.done ?_
      refine AWP.seq ?_
      refine AWP.ifP hF rfl (fun hc8 hF => ?_) (fun hc8 hF => ?_)
      · skip
        refine AWP.skip ?_
        refine QThen.nrm ?_
        refine AWP.seqM (fun e H => E.Told e [(1, (.list 1 (List.map (AV.int .i64) p1))), (7, (.int .i64 p0.states)), (8, (.list 1 (List.map (AV.int .i64) x8_1))), (47, (.list 1 (List.map (AV.int .i64) a47))), (48, (.int .i64 (a47.length : Int))), (49, (.int .i64 x49_l0))] ∧ E.Sep H [] ∧ impl_boxTakes.k2 x49_l0 = some x2) ?_ ?_
        · rintro e0 G9 ⟨hT, hS, hF⟩; refine AWP.only _ hT ?_; unfold impl_boxTakes.k2 at hF
          refine AWP.lastR rfl ?_
          refine ASL.q (v := (.int .i64 (W (x49_l0 + 1)))) rfl rfl (Light.quiet (opInt rfl rfl rfl rfl)) ?_
          refine ASL.q (v := (.int .i64 (W (x49_l0 + 1)))) rfl rfl (Light.quiet (opMove rfl rfl)) ?_
          refine ASL.done ?_
          refine QThen.nrm ?_
          exact ⟨(W (x49_l0 + 1)), (), (someE hF).symm, ⟨rfl, rfl, rfl, rfl, rfl, rfl, trivial⟩, (hS.pick [] rfl rfl)⟩
        · skip
          refine AWP.block ?_
          refine AWP.seqR rfl ?_
          obtain ⟨a51, ha51, hF⟩ := bindE hF
          refine ASL.q (v := (.rptr [(.int .i64 a51)])) rfl rfl (Light.quiet (kIx (f := (AV.int .i64)) ha51 rfl rfl rfl elemA_27 sizeA_3 rfl)) ?_
          refine ASL.q (v := (.int .i64 a51)) rfl rfl (Light.quiet (opLoadR rfl aggA_3 rfl rfl)) ?_
          refine ASL.q (v := (.int .i64 a51)) rfl rfl (Light.quiet (opAssign rfl rfl)) ?_
          refine ASL.done ?_
          refine AWP.seqR rfl ?_
          refine ASL.q (v := (.int .i64 p0.states)) rfl rfl (Light.quiet (opMove rfl rfl)) ?_
          refine ASL.q (v := (.int .i64 0)) rfl rfl (Light.quiet (opMove rfl rfl)) ?_
          refine ASL.done ?_
          refine AWP.block ?_
          obtain ⟨o13, hL12, hR14⟩ := bindE hF
          refine AWP.loopF (ω := Unit) hL12 (fun s w => [(1, (.list 1 (List.map (AV.int .i64) p1))), (7, (.int .i64 p0.states)), (8, (.list 1 (List.map (AV.int .i64) x8_1))), (13, (.int .i64 a51)), (47, (.list 1 (List.map (AV.int .i64) a47))), (48, (.int .i64 (a47.length : Int))), (49, (.int .i64 x49_l0)), (53, (.int .i64 p0.states)), (54, (.int .i64 s))]) (fun s w => []) () ⟨rfl, rfl, rfl, rfl, rfl, rfl, rfl, rfl, rfl, trivial⟩ (hS.pick [] rfl rfl) ?_
          rintro x54_l1 _ G15 hS x10 hF hx11
          try dsimp only at hS ⊢
          have hF : impl_boxTakes.b1 p0 p1 a51 x8_1 x54_l1 = some x10 := hF; unfold impl_boxTakes.b1 at hF
          refine AWP.seqR rfl ?_
          refine ASL.q (v := (.bool (decide (x54_l1 < p0.states)))) rfl rfl (Light.quiet (opInt rfl rfl rfl rfl)) ?_
          refine ASL.done ?_
          refine AWP.seq ?_
          refine AWP.ifP hF rfl (fun hc16 hF => ?_) (fun hc16 hF => ?_)
          · skip
            refine AWP.skip ?_
            refine QThen.nrm ?_
            refine AWP.seqM (fun e H => E.Told e [(1, (.list 1 (List.map (AV.int .i64) p1))), (7, (.int .i64 p0.states)), (8, (.list 1 (List.map (AV.int .i64) x8_1))), (13, (.int .i64 a51)), (47, (.list 1 (List.map (AV.int .i64) a47))), (48, (.int .i64 (a47.length : Int))), (49, (.int .i64 x49_l0)), (53, (.int .i64 p0.states)), (54, (.int .i64 x54_l1))] ∧ E.Sep H [] ∧ impl_boxTakes.k3 x54_l1 = some x10) ?_ ?_
            · rintro e0 G17 ⟨hT, hS, hF⟩; refine AWP.only _ hT ?_; unfold impl_boxTakes.k3 at hF
              refine AWP.lastR rfl ?_
              refine ASL.q (v := (.int .i64 (W (x54_l1 + 1)))) rfl rfl (Light.quiet (opInt rfl rfl rfl rfl)) ?_
              refine ASL.q (v := (.int .i64 (W (x54_l1 + 1)))) rfl rfl (Light.quiet (opMove rfl rfl)) ?_
              refine ASL.done ?_
              refine QThen.nrm ?_
              exact ⟨(W (x54_l1 + 1)), (), (someE hF).symm, ⟨rfl, rfl, rfl, rfl, rfl, rfl, rfl, rfl, rfl, trivial⟩, (hS.pick [] rfl rfl)⟩
            · skip
              refine AWP.block ?_
              refine AWP.seqR rfl ?_
              refine ASL.q (v := (.int .i64 x54_l1)) rfl rfl (Light.quiet (opMove rfl rfl)) ?_
              refine ASL.q (v := (.int .i64 x54_l1)) rfl rfl (Light.quiet (opAssign rfl rfl)) ?_
              refine ASL.done ?_
              refine AWP.seq ?_
              refine AWP.seqR rfl ?_
              refine ASL.q (v := (.list 1 (List.map (AV.int .i64) p1))) rfl rfl (Light.quiet (opMove rfl rfl)) ?_
              refine ASL.q (v := (.int .i64 a51)) rfl rfl (Light.quiet (opMove rfl rfl)) ?_
              refine ASL.q (v := (.int .i64 p0.states)) rfl rfl (Light.quiet (opMove rfl rfl)) ?_
              refine ASL.q (v := (.int .i64 (W (a51 * p0.states)))) rfl rfl (Light.quiet (opInt rfl rfl rfl rfl)) ?_
              refine ASL.q (v := (.int .i64 x54_l1)) rfl rfl (Light.quiet (opMove rfl rfl)) ?_
              refine ASL.q (v := (.int .i64 (W (((W (a51 * p0.states))) + x54_l1)))) rfl rfl (Light.quiet (opInt rfl rfl rfl rfl)) ?_
              obtain ⟨a63, ha63, hF⟩ := bindE hF
              refine ASL.q (v := (.rptr [(.int .i64 a63)])) rfl rfl (Light.quiet (kIx (f := (AV.int .i64)) ha63 rfl rfl rfl elemA_27 sizeA_3 rfl)) ?_
              refine ASL.q (v := (.int .i64 a63)) rfl rfl (Light.quiet (opLoadR rfl aggA_3 rfl rfl)) ?_
              refine ASL.q (v := (.bool (decide (a63 = 0)))) rfl rfl (Light.quiet (opInt rfl rfl rfl rfl)) ?_
              refine ASL.done ?_
              refine AWP.ifP hF rfl (fun hc18 hF => ?_) (fun hc18 hF => ?_)
              · skip
                refine AWP.exit ?_
                refine QThen.ext ?_
                refine QBlock.hit ?_
                refine QThen.nrm ?_
                exact ⟨⟨rfl, rfl, rfl, rfl, rfl, rfl, rfl, rfl, rfl, trivial⟩, (hS.pick [] rfl rfl), hF⟩
              · skip
                refine AWP.skip ?_
                refine QThen.nrm ?_
                refine AWP.seqR rfl ?_
                refine ASL.q (v := (.int .i64 p0.states)) rfl rfl (Light.quiet (opMove rfl rfl)) ?_
                refine ASL.q (v := (.int .i64 0)) rfl rfl (Light.quiet (opMove rfl rfl)) ?_
                refine ASL.done ?_
                refine AWP.block ?_
                obtain ⟨o22, hL21, hR23⟩ := bindE hF
                refine AWP.loopF (ω := Unit) hL21 (fun s w => [(1, (.list 1 (List.map (AV.int .i64) p1))), (7, (.int .i64 p0.states)), (8, (.list 1 (List.map (AV.int .i64) x8_1))), (13, (.int .i64 a51)), (14, (.int .i64 x54_l1)), (47, (.list 1 (List.map (AV.int .i64) a47))), (48, (.int .i64 (a47.length : Int))), (49, (.int .i64 x49_l0)), (53, (.int .i64 p0.states)), (54, (.int .i64 x54_l1)), (66, (.int .i64 p0.states)), (67, (.int .i64 s))]) (fun s w => []) () ⟨rfl, rfl, rfl, rfl, rfl, rfl, rfl, rfl, rfl, rfl, rfl, rfl, trivial⟩ (hS.pick [] rfl rfl) ?_
                rintro x67_l2 _ G24 hS x19 hF hx20
                try dsimp only at hS ⊢
                have hF : impl_boxTakes.b2 p0 x54_l1 x8_1 x67_l2 = some x19 := hF; unfold impl_boxTakes.b2 at hF
                refine AWP.seqR rfl ?_
                refine ASL.q (v := (.bool (decide (x67_l2 < p0.states)))) rfl rfl (Light.quiet (opInt rfl rfl rfl rfl)) ?_
                refine ASL.done ?_
                refine AWP.seq ?_
                refine AWP.ifP hF rfl (fun hc25 hF => ?_) (fun hc25 hF => ?_)
                · skip
                  refine AWP.skip ?_
                  refine QThen.nrm ?_
                  refine AWP.seq ?_
                  refine AWP.block ?_
                  refine AWP.seqR rfl ?_
                  refine ASL.q (v := (.int .i64 x67_l2)) rfl rfl (Light.quiet (opMove rfl rfl)) ?_
                  refine ASL.q (v := (.int .i64 x67_l2)) rfl rfl (Light.quiet (opAssign rfl rfl)) ?_
                  refine ASL.done ?_
                  refine AWP.seqR rfl ?_
                  refine ASL.q (v := (.int .i64 x54_l1)) rfl rfl (Light.quiet (opMove rfl rfl)) ?_
                  refine ASL.q (v := (.int .i64 x67_l2)) rfl rfl (Light.quiet (opMove rfl rfl)) ?_
                  refine ASL.q (v := (.bool (decide (x54_l1 = x67_l2)))) rfl rfl (Light.quiet (opInt rfl rfl rfl rfl)) ?_
                  obtain ⟨c73, hc73, hF⟩ := bndE hF
                  refine ASL.q (v := (.bool c73)) rfl rfl ((Quiet.cast (Light.quiet (opMove rfl rfl)) (congrArg AV.bool hc73.symm))) ?_
                  refine ASL.g (v := (.list 1 (List.map (AV.int .i64) x8_1))) (.bool c73) false rfl (wF _) rfl (fun hG => by have q0 := gN hG; subst q0; exact Light.quiet (opMove rfl rfl)) ?_
                  refine ASL.g (v := (.int .i64 x54_l1)) (.bool c73) false rfl (wF _) rfl (fun hG => by have q0 := gN hG; subst q0; exact Light.quiet (opMove rfl rfl)) ?_
                  refine ASL.g (v := (.int .i64 p0.states)) (.bool c73) false rfl (wF _) rfl (fun hG => by have q0 := gN hG; subst q0; exact Light.quiet (opMove rfl rfl)) ?_
                  refine ASL.g (v := (.int .i64 (W (x54_l1 * p0.states)))) (.bool c73) false rfl (wF _) rfl (fun hG => by have q0 := gN hG; subst q0; exact Light.quiet (opInt rfl rfl rfl rfl)) ?_
                  refine ASL.g (v := (.int .i64 x67_l2)) (.bool c73) false rfl (wF _) rfl (fun hG => by have q0 := gN hG; subst q0; exact Light.quiet (opMove rfl rfl)) ?_
                  refine ASL.g (v := (.int .i64 (W (((W (x54_l1 * p0.states))) + x67_l2)))) (.bool c73) false rfl (wF _) rfl (fun hG => by have q0 := gN hG; subst q0; exact Light.quiet (opInt rfl rfl rfl rfl)) ?_
                  obtain ⟨a80, ha80, hF⟩ := bindE hF
                  refine ASL.g (v := (.rptr [(.int .i64 a80)])) (.bool c73) false rfl (wF _) rfl (fun hG => by have q0 := gN hG; subst q0; exact Light.quiet (kIx (f := (AV.int .i64)) (whenE ha80) rfl rfl rfl elemA_27 sizeA_3 rfl)) ?_
                  refine ASL.g (v := (.int .i64 a80)) (.bool c73) false rfl (wF _) rfl (fun hG => by have q0 := gN hG; subst q0; exact Light.quiet (opLoadR rfl aggA_3 rfl rfl)) ?_
                  refine ASL.g (v := (.bool (decide (a80 > 0)))) (.bool c73) false rfl (wF _) rfl (fun hG => by have q0 := gN hG; subst q0; exact Light.quiet (opInt rfl rfl rfl rfl)) ?_
                  refine ASL.q (v := (.bool (c73 || (decide (a80 > 0))))) rfl rfl (Light.quiet (opPick (b := c73) rfl rfl (by cases c73 <;> rfl))) ?_
                  obtain ⟨c84, hc84, hF⟩ := bndE hF
                  refine ASL.q (v := (.bool c84)) rfl rfl ((Quiet.cast (Light.quiet (opMove rfl rfl)) (congrArg AV.bool hc84.symm))) ?_
                  refine ASL.g (v := (.list 1 (List.map (AV.int .i64) x8_1))) (.bool c84) true rfl (wT _) rfl (fun hG => by have q0 := hG; subst q0; exact Light.quiet (opMove rfl rfl)) ?_
                  refine ASL.g (v := (.int .i64 x67_l2)) (.bool c84) true rfl (wT _) rfl (fun hG => by have q0 := hG; subst q0; exact Light.quiet (opMove rfl rfl)) ?_
                  refine ASL.g (v := (.int .i64 p0.states)) (.bool c84) true rfl (wT _) rfl (fun hG => by have q0 := hG; subst q0; exact Light.quiet (opMove rfl rfl)) ?_
                  refine ASL.g (v := (.int .i64 (W (x67_l2 * p0.states)))) (.bool c84) true rfl (wT _) rfl (fun hG => by have q0 := hG; subst q0; exact Light.quiet (opInt rfl rfl rfl rfl)) ?_
                  refine ASL.g (v := (.int .i64 x67_l2)) (.bool c84) true rfl (wT _) rfl (fun hG => by have q0 := hG; subst q0; exact Light.quiet (opMove rfl rfl)) ?_
                  refine ASL.g (v := (.int .i64 (W (((W (x67_l2 * p0.states))) + x67_l2)))) (.bool c84) true rfl (wT _) rfl (fun hG => by have q0 := hG; subst q0; exact Light.quiet (opInt rfl rfl rfl rfl)) ?_
                  obtain ⟨a91, ha91, hF⟩ := bindE hF
                  refine ASL.g (v := (.rptr [(.int .i64 a91)])) (.bool c84) true rfl (wT _) rfl (fun hG => by have q0 := hG; subst q0; exact Light.quiet (kIx (f := (AV.int .i64)) (whenE ha91) rfl rfl rfl elemA_27 sizeA_3 rfl)) ?_
                  refine ASL.g (v := (.int .i64 a91)) (.bool c84) true rfl (wT _) rfl (fun hG => by have q0 := hG; subst q0; exact Light.quiet (opLoadR rfl aggA_3 rfl rfl)) ?_
                  refine ASL.g (v := (.bool (decide (a91 = 2)))) (.bool c84) true rfl (wT _) rfl (fun hG => by have q0 := hG; subst q0; exact Light.quiet (opInt rfl rfl rfl rfl)) ?_
                  refine ASL.q (v := (.bool (c84 && (decide (a91 = 2))))) rfl rfl (Light.quiet (opPick (b := c84) rfl rfl (by cases c84 <;> rfl))) ?_
                  refine ASL.done ?_
                  refine AWP.ifB hF rfl (fun hc26 hF => ?_) (fun hc26 hF => ?_)
                  · skip
                    refine AWP.seqR rfl ?_
                    refine ASL.q (v := (.bool true)) rfl rfl (Light.quiet (opAssign rfl rfl)) ?_
                    refine ASL.done ?_
                    refine AWP.ret ?_
                    refine QBlock.ret ?_
                    refine QThen.rt ?_
                    refine QThen.rt ?_
                    refine QBlock.ret ?_
                    refine QBlock.ret ?_
                    refine QThen.rt ?_
                    refine QThen.rt ?_
                    refine QBlock.ret ?_
                    refine QBlock.ret ?_
                    refine QThen.rt ?_
                    refine QThen.rt ?_
                    refine QBlock.ret ?_
                    refine QThen.rt ?_
                    obtain rfl := (hx20 _ (someE hF).symm)
                    have hF := hR23
                    have hF := sumR hF
                    obtain rfl := (hx11 _ (someE hF).symm)
                    have hF := hR14
                    have hF := sumR hF
                    obtain rfl := (hx3 _ (someE hF).symm)
                    have hF := hR6
                    have hF := sumR hF
                    obtain rfl := someE hF
                    exact QRet.sole (v := (.bool true)) ⟨rfl, trivial⟩ rfl
                  · skip
                    refine AWP.skip ?_
                    refine QBlock.nrm ?_
                    refine QThen.nrm ?_
                    refine AWP.lastR rfl ?_
                    refine ASL.q (v := (.int .i64 (W (x67_l2 + 1)))) rfl rfl (Light.quiet (opInt rfl rfl rfl rfl)) ?_
                    refine ASL.q (v := (.int .i64 (W (x67_l2 + 1)))) rfl rfl (Light.quiet (opMove rfl rfl)) ?_
                    refine ASL.done ?_
                    refine QThen.nrm ?_
                    exact ⟨(W (x67_l2 + 1)), (), (someE hF).symm, ⟨rfl, rfl, rfl, rfl, rfl, rfl, rfl, rfl, rfl, rfl, rfl, rfl, trivial⟩, (hS.pick [] rfl rfl)⟩
                · skip
                  refine AWP.exit ?_
                  refine QThen.ext ?_
                  refine QThen.ext ?_
                  refine QBlock.hit ?_
                  obtain rfl := (hx20 _ (someE hF).symm)
                  have hF := hR23
                  have hF := sumL hF
                  refine QBlock.nrm ?_
                  refine QThen.nrm ?_
                  exact ⟨⟨rfl, rfl, rfl, rfl, rfl, rfl, rfl, rfl, rfl, trivial⟩, (hS.pick [] rfl rfl), hF⟩
          · skip
            refine AWP.exit ?_
            refine QThen.ext ?_
            refine QThen.ext ?_
            refine QBlock.hit ?_
            obtain rfl := (hx11 _ (someE hF).symm)
            have hF := hR14
            have hF := sumL hF
            refine QBlock.nrm ?_
            refine QThen.nrm ?_
            exact ⟨⟨rfl, rfl, rfl, rfl, rfl, rfl, trivial⟩, (hS.pick [] rfl rfl), hF⟩
      · skip
        refine AWP.exit ?_
        refine QThen.ext ?_
        refine QThen.ext ?_
        refine QBlock.hit ?_
        obtain rfl := (hx3 _ (someE hF).symm)
        have hF := hR6
        have hF := sumL hF
        refine QThen.nrm ?_
        exact ⟨trivial, (hS.pick [] rfl rfl), hF⟩
  · skip
    refine AWP.block ?_
    obtain ⟨o31, hL30, hR32⟩ := bindE hF
    refine AWP.loopF (ω := Unit) hL30 (fun s w => [(1, (.list 1 (List.map (AV.int .i64) p1))), (2, (.list 1 (List.map (AV.int .i64) p2))), (3, (.rptr [(.int .i64 p0.letters), (.int .i64 p0.states), (.int .i64 p0.start), (.list 4 (List.map TEdge.av p0.edges))])), (7, (.int .i64 p0.states)), (8, (.list 1 (List.map (AV.int .i64) s)))]) (fun s w => []) () ⟨rfl, rfl, rfl, rfl, rfl, trivial⟩ (hS.pick [] rfl rfl) ?_
    rintro x8_l3 _ G33 hS x28 hF hx29
    try dsimp only at hS ⊢
    have hF : impl_boxTakes.b3 p0 p2 x8_l3 = some x28 := hF; unfold impl_boxTakes.b3 at hF
    refine AWP.block ?_
    refine AWP.seqR rfl ?_
    refine ASL.q (v := (.list 1 (List.map (AV.int .i64) x8_l3))) rfl rfl (Light.quiet (opMove rfl rfl)) ?_
    obtain ⟨a20, ha20, hF⟩ := bindE hF
    refine ASL.x rfl rfl (hCallO hS rfl rfl call_78 (slices_Clone_int_int_ok ha20) rfl ?_); rintro v20 G34 hK hS
    refine ASL.q (v := v20) rfl rfl (Light.quiet (opAssign rfl rfl)) ?_
    refine ASL.done ?_
    refine AWP.seqM (fun e H => ∃ y36 : (List Int), E.Told e [(1, (.list 1 (List.map (AV.int .i64) p1))), (2, (.list 1 (List.map (AV.int .i64) p2))), (3, (.rptr [(.int .i64 p0.letters), (.int .i64 p0.states), (.int .i64 p0.start), (.list 4 (List.map TEdge.av p0.edges))])), (7, (.int .i64 p0.states)), (8, (.list 1 (List.map (AV.int .i64) x8_l3))), (9, v20)] ∧ E.Sep H [.row 1 v20 (List.map (AV.int .i64) y36)] ∧ impl_boxTakes.k4 x8_l3 y36 = some x28) ?_ ?_
    · rintro e0 G39 ⟨y36, hT, hS, hF⟩; refine AWP.only _ hT ?_; unfold impl_boxTakes.k4 at hF
      refine AWP.seq ?_
      refine AWP.seqR rfl ?_
      refine ASL.q (v := v20) rfl rfl (Light.quiet (opMove rfl rfl)) ?_
      refine ASL.q (v := (.list 1 (List.map (AV.int .i64) x8_l3))) rfl rfl (Light.quiet (opMove rfl rfl)) ?_
      obtain ⟨a43, ha43, hF⟩ := bindE hF
      refine ASL.q (v := (.bool a43)) rfl rfl ((qCallR hS rfl rfl call_86 (slices_Equal_int_int_ok ha43) ⟨.row (k := 0) rfl, .same _, trivial⟩ (by constructor))) ?_
      refine ASL.done ?_
      refine AWP.ifB hF rfl (fun hc37 hF => ?_) (fun hc37 hF => ?_)
      · skip
        refine AWP.exit ?_
        refine QThen.ext ?_
        refine QBlock.miss rfl ?_
        refine QThen.ext ?_
        refine QBlock.hit ?_
        obtain rfl := (hx29 _ (someE hF).symm)
        have hF := hR32
        refine QThen.nrm ?_
        exact ⟨x8_l3, ⟨rfl, rfl, rfl, rfl, trivial⟩, (hS.pick [] rfl rfl), hF⟩
      · skip
        refine AWP.skip ?_
        refine QThen.nrm ?_
        refine AWP.frz (L' := []) hS (k := 0) rfl [(1, (.list 1 (List.map (AV.int .i64) p1))), (2, (.list 1 (List.map (AV.int .i64) p2))), (3, (.rptr [(.int .i64 p0.letters), (.int .i64 p0.states), (.int .i64 p0.start), (.list 4 (List.map TEdge.av p0.edges))])), (7, (.int .i64 p0.states)), (9, (.list 1 (List.map (AV.int .i64) y36)))] ⟨.inl rfl, .inl rfl, .inl rfl, .inl rfl, .inr (.inl ⟨rfl, rfl⟩), trivial⟩ trivial (fun G38 hS => ?_)
        refine AWP.lastR rfl ?_
        refine ASL.q (v := (.list 1 (List.map (AV.int .i64) y36))) rfl rfl (Light.quiet (opMove rfl rfl)) ?_
        refine ASL.q (v := (.list 1 (List.map (AV.int .i64) y36))) rfl rfl (Light.quiet (opAssign rfl rfl)) ?_
        refine ASL.done ?_
        refine QBlock.nrm ?_
        refine QThen.nrm ?_
        exact ⟨y36, (), (someE hF).symm, ⟨rfl, rfl, rfl, rfl, rfl, trivial⟩, (hS.pick [] rfl rfl)⟩
    · skip
      refine AWP.seqR rfl ?_
      refine ASL.q (v := (.int .i64 p0.states)) rfl rfl (Light.quiet (opMove rfl rfl)) ?_
      refine ASL.q (v := (.list 1 (List.map (AV.int .i64) x8_l3))) rfl rfl (Light.quiet (opMove rfl rfl)) ?_
      refine ASL.q (v := (.list 1 (List.map (AV.int .i64) p2))) rfl rfl (Light.quiet (opMove rfl rfl)) ?_
      obtain ⟨a24, ha24, hF⟩ := bindE hF
      refine ASL.q (v := (.list 1 (List.map (AV.int .i64) a24))) rfl rfl ((qCall rfl rfl call_51 (PO.list (impl_boxMul_ok ha24)) rfl)) ?_
      refine ASL.q (v := (.int .i64 (a24.length : Int))) rfl rfl (Light.quiet (opLenMap (f := (AV.int .i64)) rfl rfl rfl lenT_27 rfl)) ?_
      refine ASL.q (v := (.int .i64 0)) rfl rfl (Light.quiet (opMove rfl rfl)) ?_
      refine ASL.done ?_
      refine AWP.block ?_
      obtain ⟨o44, hL43, hR45⟩ := bindE hF
      refine AWP.loopF (ω := Unit) hL43 (fun s w => [(1, (.list 1 (List.map (AV.int .i64) p1))), (2, (.list 1 (List.map (AV.int .i64) p2))), (3, (.rptr [(.int .i64 p0.letters), (.int .i64 p0.states), (.int .i64 p0.start), (.list 4 (List.map TEdge.av p0.edges))])), (7, (.int .i64 p0.states)), (8, (.list 1 (List.map (AV.int .i64) x8_l3))), (9, v20), (24, (.list 1 (List.map (AV.int .i64) a24))), (25, (.int .i64 (a24.length : Int))), (26, (.int .i64 s.2))]) (fun s w => [.row 1 v20 (List.map (AV.int .i64) s.1)]) () ⟨rfl, rfl, rfl, rfl, rfl, rfl, rfl, rfl, rfl, trivial⟩ (hS.pick [0] rfl rfl) ?_
      rintro ⟨y40, x26_l4⟩ _ G46 hS x41 hF hx42
      try dsimp only at hS ⊢
      have hF : impl_boxTakes.b4 a24 y40 x26_l4 = some x41 := hF; unfold impl_boxTakes.b4 at hF
      refine AWP.seqR rfl ?_
      refine ASL.q (v := (.bool (decide (x26_l4 < ((a24.length : Int)))))) rfl rfl (Light.quiet (opInt rfl rfl rfl rfl)) ?_
      refine ASL.done ?_
      refine AWP.seq ?_
      refine AWP.ifP hF rfl (fun hc47 hF => ?_) (fun hc47 hF => ?_)
      · skip
        refine AWP.skip ?_
        refine QThen.nrm ?_
        refine AWP.seq ?_
        refine AWP.block ?_
        refine AWP.seqR rfl ?_
        refine ASL.q (v := (.int .i64 x26_l4)) rfl rfl (Light.quiet (opMove rfl rfl)) ?_
        obtain ⟨a29, ha29, hF⟩ := bindE hF
        refine ASL.q (v := (.rptr [(.int .i64 a29)])) rfl rfl (Light.quiet (kIx (f := (AV.int .i64)) ha29 rfl rfl rfl elemA_27 sizeA_3 rfl)) ?_
        refine ASL.q (v := (.int .i64 a29)) rfl rfl (Light.quiet (opLoadR rfl aggA_3 rfl rfl)) ?_
        refine ASL.q (v := (.int .i64 x26_l4)) rfl rfl (Light.quiet (opAssign rfl rfl)) ?_
        refine ASL.q (v := (.int .i64 a29)) rfl rfl (Light.quiet (opAssign rfl rfl)) ?_
        refine ASL.done ?_
        refine AWP.lastR rfl ?_
        refine ASL.q (v := v20) rfl rfl (Light.quiet (opMove rfl rfl)) ?_
        refine ASL.q (v := (.int .i64 x26_l4)) rfl rfl (Light.quiet (opMove rfl rfl)) ?_
        refine ASL.q (v := v20) rfl rfl (Light.quiet (opMove rfl rfl)) ?_
        refine ASL.q (v := (.int .i64 x26_l4)) rfl rfl (Light.quiet (opMove rfl rfl)) ?_
        obtain ⟨a35, ha35, hF⟩ := bindE hF
        refine ASL.q (v := (ptrTo v20 x26_l4.toNat 1)) rfl rfl (Light.quiet (kIxOx hS (j := 0) rfl ha35 rfl rfl rfl elemA_27 sizeA_3)) ?_
        refine ASL.q (v := (.int .i64 a35)) rfl rfl (Light.quiet (kLd (f := (AV.int .i64)) hS (j := 0) rfl ha35 rfl aggA_3 rfl (fun _ => rfl))) ?_
        refine ASL.q (v := (.int .i64 a29)) rfl rfl (Light.quiet (opMove rfl rfl)) ?_
        refine ASL.q (v := (.int .i64 (mx a35 a29))) rfl rfl (Light.quiet (opMax (ns := [a35, a29]) rfl rfl rfl rfl)) ?_
        obtain ⟨m39, hm39, hF⟩ := bindE hF
        refine ASL.q (v := (ptrTo v20 m39 1)) rfl rfl (Light.quiet (kIxO hS (j := 0) rfl hm39 rfl rfl rfl elemA_27 sizeA_3)) ?_
        refine ASL.n rfl rfl (hSt (f := (AV.int .i64)) (a := (mx a35 a29)) hS (j := 0) rfl hm39 rfl sizeA_3 rfl rfl ⟨rfl, rfl, rfl⟩ ?_); rintro G48 hS
        refine ASL.done ?_
        refine QBlock.nrm ?_
        refine QThen.nrm ?_
        refine AWP.lastR rfl ?_
        refine ASL.q (v := (.int .i64 (W (x26_l4 + 1)))) rfl rfl (Light.quiet (opInt rfl rfl rfl rfl)) ?_
        refine ASL.q (v := (.int .i64 (W (x26_l4 + 1)))) rfl rfl (Light.quiet (opMove rfl rfl)) ?_
        refine ASL.done ?_
        refine QThen.nrm ?_
        exact ⟨((y40.set m39 ((mx a35 a29))), (W (x26_l4 + 1))), (), (someE hF).symm, ⟨rfl, rfl, rfl, rfl, rfl, rfl, rfl, rfl, rfl, trivial⟩, (hS.pick [0] rfl rfl)⟩
      · skip
        refine AWP.exit ?_
        refine QThen.ext ?_
        refine QThen.ext ?_
        refine QBlock.hit ?_
        obtain rfl := (hx42 _ (someE hF).symm)
        have hF := hR45
        refine QThen.nrm ?_
        exact ⟨y40, ⟨rfl, rfl, rfl, rfl, rfl, rfl, trivial⟩, (hS.pick [0] rfl rfl), hF⟩

set_option maxRecDepth 10000 in
theorem impl_BoxTakes_ok {p0 : TAuto} {p1 : (List Int)} {p2 : (List Int)} {r : Bool} (hF : impl_BoxTakes p0 p1 p2 = some r) : PC Try.prog 12 [(TAuto.av p0), (.list 1 (List.map (AV.int .i64) p1)), (.list 1 (List.map (AV.int .i64) p2))] fun v => v = (.bool r) := by
  refine PC.enter Try.func12 rfl Try.ntmps12 (by simp) ?_
  have hS := Sep.void; unfold impl_BoxTakes at hF
  refine AWP.seqR rfl ?_
  refine ASL.q (v := (.rptr [(.int .i64 p0.letters), (.int .i64 p0.states), (.int .i64 p0.start), (.list 4 (List.map TEdge.av p0.edges))])) rfl rfl ((qBoxI (v := (TAuto.av p0)) rfl rfl rfl rfl)) ?_
  refine ASL.q (v := (.bool false)) rfl rfl (Light.quiet (opAssign rfl rfl)) ?_
  refine ASL.done ?_
  refine AWP.seqR rfl ?_
  refine ASL.q (v := (TAuto.av p0)) rfl rfl (Light.quiet (opLoadRA rfl aggA_26 sizeA_26 rfl (nlt rfl) rfl)) ?_
  obtain ⟨a8, ha8, hF⟩ := bindE hF
  refine ASL.q (v := (.bool a8)) rfl rfl ((qCall rfl rfl call_46 (impl_AutoOk_ok ha8) rfl)) ?_
  refine ASL.q (v := (.bool a8)) rfl rfl (Light.quiet (opMove rfl rfl)) ?_
  refine ASL.g (v := (.rptr [(.int .i64 p0.states), (.int .i64 p0.start), (.list 4 (List.map TEdge.av p0.edges))])) (.bool a8) true rfl (wT _) rfl (fun hG => by have q0 := hG; subst q0; exact Light.quiet (opFieldAddrR rfl fieldA_26_1 rfl rfl)) ?_
  refine ASL.g (v := (.int .i64 p0.states)) (.bool a8) true rfl (wT _) rfl (fun hG => by have q0 := hG; subst q0; exact Light.quiet (opLoadR rfl aggA_3 rfl rfl)) ?_
  refine ASL.g (v := (.list 1 (List.map (AV.int .i64) p1))) (.bool a8) true rfl (wT _) rfl (fun hG => by have q0 := hG; subst q0; exact Light.quiet (opMove rfl rfl)) ?_
  obtain ⟨a13, ha13, hF⟩ := bindE hF
  refine ASL.g (v := (.bool a13)) (.bool a8) true rfl (wT _) rfl (fun hG => by have q0 := hG; subst q0; exact (qCall rfl rfl call_20 (impl_BoxOk_ok (whenE ha13)) rfl)) ?_
  refine ASL.q (v := (.bool (a8 && a13))) rfl rfl (Light.quiet (opPick (b := a8) rfl rfl (by cases a8 <;> rfl))) ?_
  obtain ⟨c15, hc15, hF⟩ := bndE hF
  refine ASL.q (v := (.bool c15)) rfl rfl ((Quiet.cast (Light.quiet (opMove rfl rfl)) (congrArg AV.bool hc15.symm))) ?_
  refine ASL.g (v := (.rptr [(.int .i64 p0.states), (.int .i64 p0.start), (.list 4 (List.map TEdge.av p0.edges))])) (.bool c15) true rfl (wT _) rfl (fun hG => by have q0 := hG; subst q0; exact Light.quiet (opFieldAddrR rfl fieldA_26_1 rfl rfl)) ?_
  refine ASL.g (v := (.int .i64 p0.states)) (.bool c15) true rfl (wT _) rfl (fun hG => by have q0 := hG; subst q0; exact Light.quiet (opLoadR rfl aggA_3 rfl rfl)) ?_
  refine ASL.g (v := (.list 1 (List.map (AV.int .i64) p2))) (.bool c15) true rfl (wT _) rfl (fun hG => by have q0 := hG; subst q0; exact Light.quiet (opMove rfl rfl)) ?_
  obtain ⟨a19, ha19, hF⟩ := bindE hF
  refine ASL.g (v := (.bool a19)) (.bool c15) true rfl (wT _) rfl (fun hG => by have q0 := hG; subst q0; exact (qCall rfl rfl call_20 (impl_BoxOk_ok (whenE ha19)) rfl)) ?_
  refine ASL.q (v := (.bool (c15 && a19))) rfl rfl (Light.quiet (opPick (b := c15) rfl rfl (by cases c15 <;> rfl))) ?_
  obtain ⟨c21, hc21, hF⟩ := bndE hF
  refine ASL.q (v := (.bool c21)) rfl rfl ((Quiet.cast (Light.quiet (opMove rfl rfl)) (congrArg AV.bool hc21.symm))) ?_
  refine ASL.g (v := (TAuto.av p0)) (.bool c21) true rfl (wT _) rfl (fun hG => by have q0 := hG; subst q0; exact Light.quiet (opLoadRA rfl aggA_26 sizeA_26 rfl (nlt rfl) rfl)) ?_
  refine ASL.g (v := (.list 1 (List.map (AV.int .i64) p1))) (.bool c21) true rfl (wT _) rfl (fun hG => by have q0 := hG; subst q0; exact Light.quiet (opMove rfl rfl)) ?_
  refine ASL.g (v := (.list 1 (List.map (AV.int .i64) p2))) (.bool c21) true rfl (wT _) rfl (fun hG => by have q0 := hG; subst q0; exact Light.quiet (opMove rfl rfl)) ?_
  obtain ⟨a25, ha25, hF⟩ := bindE hF
  refine ASL.g (v := (.bool a25)) (.bool c21) true rfl (wT _) rfl (fun hG => by have q0 := hG; subst q0; exact (qCall rfl rfl call_47 (impl_boxTakes_ok (whenE ha25)) rfl)) ?_
  refine ASL.q (v := (.bool (c21 && a25))) rfl rfl (Light.quiet (opPick (b := c21) rfl rfl (by cases c21 <;> rfl))) ?_
  refine ASL.q (v := (.bool (c21 && a25))) rfl rfl (Light.quiet (opAssign rfl rfl)) ?_
  refine ASL.done ?_
  refine AWP.ret ?_
  obtain rfl := someE hF
  exact QRet.sole (v := (.bool (c21 && a25))) ⟨rfl, trivial⟩ rfl

set_option maxRecDepth 10000 in
theorem impl_areLetters_ok {p0 : (List Int)} {p1 : Int} {r : Bool} (hF : impl_areLetters p0 p1 = some r) : PC Try.prog 49 [(.list 1 (List.map (AV.int .i64) p0)), (.int .i64 p1)] fun v => v = (.bool r) := by
  refine PC.enter Try.func49 rfl Try.ntmps49 (by simp) ?_
  have hS := Sep.void; unfold impl_areLetters at hF
  refine AWP.seqR rfl ?_
  refine ASL.q (v := (.bool false)) rfl rfl (Light.quiet (opAssign rfl rfl)) ?_
  refine ASL.done ?_
  refine AWP.seqM (fun e H => E.Told e [] ∧ E.Sep H [] ∧ impl_areLetters.k0 = some r) ?_ ?_
  · rintro e0 G1 ⟨hT, hS, hF⟩; refine AWP.only _ hT ?_; unfold impl_areLetters.k0 at hF
    refine AWP.seqR rfl ?_
    refine ASL.q (v := (.bool true)) rfl rfl (Light.quiet (opAssign rfl rfl)) ?_
    refine ASL.done ?_
    refine AWP.ret ?_
    obtain rfl := someE hF
    exact QRet.sole (v := (.bool true)) ⟨rfl, trivial⟩ rfl
  · skip
    refine AWP.seqR rfl ?_
    refine ASL.q (v := (.list 1 (List.map (AV.int .i64) p0))) rfl rfl (Light.quiet (opMove rfl rfl)) ?_
    refine ASL.q (v := (.int .i64 (p0.length : Int))) rfl rfl (Light.quiet (opLenMap (f := (AV.int .i64)) rfl rfl rfl lenT_27 rfl)) ?_
    refine ASL.q (v := (.int .i64 0)) rfl rfl (Light.quiet (opMove rfl rfl)) ?_
    refine ASL.done ?_
    refine AWP.block ?_
    obtain ⟨o5, hL4, hR6⟩ := bindE hF
    refine AWP.loopF (ω := Unit) hL4 (fun s w => [(1, (.int .i64 p1)), (7, (.list 1 (List.map (AV.int .i64) p0))), (8, (.int .i64 (p0.length : Int))), (9, (.int .i64 s))]) (fun s w => []) () ⟨rfl, rfl, rfl, rfl, trivial⟩ (hS.pick [] rfl rfl) ?_
    rintro x9_l0 _ G7 hS x2 hF hx3
    try dsimp only at hS ⊢
    have hF : impl_areLetters.b0 p0 p1 x9_l0 = some x2 := hF; unfold impl_areLetters.b0 at hF
    refine AWP.seqR rfl ?_
    refine ASL.q (v := (.bool (decide (x9_l0 < ((p0.length : Int)))))) rfl rfl (Light.quiet (opInt rfl rfl rfl rfl)) ?_
    refine ASL.done ?_
    refine AWP.seq ?_
    refine AWP.ifP hF rfl (fun hc8 hF => ?_) (fun hc8 hF => ?_)
    · skip
      refine AWP.skip ?_
      refine QThen.nrm ?_
      refine AWP.seq ?_
      refine AWP.block ?_
      refine AWP.seqR rfl ?_
      obtain ⟨a11, ha11, hF⟩ := bindE hF
      refine ASL.q (v := (.rptr [(.int .i64 a11)])) rfl rfl (Light.quiet (kIx (f := (AV.int .i64)) ha11 rfl rfl rfl elemA_27 sizeA_3 rfl)) ?_
      refine ASL.q (v := (.int .i64 a11)) rfl rfl (Light.quiet (opLoadR rfl aggA_3 rfl rfl)) ?_
      refine ASL.q (v := (.int .i64 a11)) rfl rfl (Light.quiet (opAssign rfl rfl)) ?_
      refine ASL.done ?_
      refine AWP.seqR rfl ?_
      refine ASL.q (v := (.int .i64 a11)) rfl rfl (Light.quiet (opMove rfl rfl)) ?_
      refine ASL.q (v := (.int .i64 p1)) rfl rfl (Light.quiet (opMove rfl rfl)) ?_
      refine ASL.q (v := (.int .i64 (W (p1 - 1)))) rfl rfl (Light.quiet (opInt rfl rfl rfl rfl)) ?_
      refine ASL.q (v := (.bool (impl_inRange a11 0 ((W (p1 - 1)))))) rfl rfl ((qCall rfl rfl call_59 (impl_inRange_ok a11 0 ((W (p1 - 1)))) rfl)) ?_
      refine ASL.q (v := (.bool (!(impl_inRange a11 0 ((W (p1 - 1))))))) rfl rfl (Light.quiet (opNot rfl rfl)) ?_
      refine ASL.done ?_
      refine AWP.ifB hF rfl (fun hc9 hF => ?_) (fun hc9 hF => ?_)
      · skip
        refine AWP.seqR rfl ?_
        refine ASL.q (v := (.bool false)) rfl rfl (Light.quiet (opAssign rfl rfl)) ?_
        refine ASL.done ?_
        refine AWP.ret ?_
        refine QBlock.ret ?_
        refine QThen.rt ?_
        refine QThen.rt ?_
        refine QBlock.ret ?_
        refine QThen.rt ?_
        obtain rfl := (hx3 _ (someE hF).symm)
        have hF := hR6
        have hF := sumR hF
        obtain rfl := someE hF
        exact QRet.sole (v := (.bool false)) ⟨rfl, trivial⟩ rfl
      · skip
        refine AWP.skip ?_
        refine QBlock.nrm ?_
        refine QThen.nrm ?_
        refine AWP.lastR rfl ?_
        refine ASL.q (v := (.int .i64 (W (x9_l0 + 1)))) rfl rfl (Light.quiet (opInt rfl rfl rfl rfl)) ?_
        refine ASL.q (v := (.int .i64 (W (x9_l0 + 1)))) rfl rfl (Light.quiet (opMove rfl rfl)) ?_
        refine ASL.done ?_
        refine QThen.nrm ?_
        exact ⟨(W (x9_l0 + 1)), (), (someE hF).symm, ⟨rfl, rfl, rfl, rfl, trivial⟩, (hS.pick [] rfl rfl)⟩
    · skip
      refine AWP.exit ?_
      refine QThen.ext ?_
      refine QThen.ext ?_
      refine QBlock.hit ?_
      obtain rfl := (hx3 _ (someE hF).symm)
      have hF := hR6
      have hF := sumL hF
      refine QThen.nrm ?_
      exact ⟨trivial, (hS.pick [] rfl rfl), hF⟩

set_option maxRecDepth 10000 in
theorem impl_boxOne_ok {p0 : Int} {r : (List Int)} (hF : impl_boxOne p0 = some r) : PO Try.prog 50 [(.int .i64 p0)] 1 (List.map (AV.int .i64) r) := by
  refine HC.enter Try.func50 rfl Try.ntmps50 (by simp) ?_
  have hS := Sep.void; unfold impl_boxOne at hF
  refine AWP.seqR rfl ?_
  have hS := hNil (s := 1) (f := (AV.int .i64)) hS
  refine ASL.q (v := .nil) rfl rfl (Light.quiet (opAssign rfl rfl)) ?_
  refine ASL.done ?_
  refine AWP.seqR rfl ?_
  refine ASL.q (v := (.int .i64 p0)) rfl rfl (Light.quiet (opMove rfl rfl)) ?_
  refine ASL.q (v := (.int .i64 p0)) rfl rfl (Light.quiet (opMove rfl rfl)) ?_
  refine ASL.q (v := (.int .i64 (W (p0 * p0)))) rfl rfl (Light.quiet (opInt rfl rfl rfl rfl)) ?_
  obtain ⟨z8, hz8, hF⟩ := bindE hF
  refine ASL.x rfl rfl (hMk (f := (AV.int .i64)) hS hz8 (by decide) rfl elemA_27 sizeA_3 bytesA_3 zeroA_3 rfl rfl (by decide) rfl rfl ?_); rintro v8 G2 hK hS
  refine ASL.q (v := v8) rfl rfl (Light.quiet (opAssign rfl rfl)) ?_
  refine ASL.done ?_
  refine AWP.seqM (fun e H => ∃ y4 : (List Int), E.Told e [(3, v8)] ∧ E.Sep H [.row 1 v8 (List.map (AV.int .i64) y4)] ∧ impl_boxOne.k0 y4 = some r) ?_ ?_
  · rintro e0 G5 ⟨y4, hT, hS, hF⟩; refine AWP.only _ hT ?_; unfold impl_boxOne.k0 at hF
    refine AWP.seqR rfl ?_
    refine ASL.q (v := v8) rfl rfl (Light.quiet (opMove rfl rfl)) ?_
    refine ASL.q (v := v8) rfl rfl (Light.quiet (opAssign rfl rfl)) ?_
    refine ASL.done ?_
    refine AWP.ret ?_
    obtain rfl := someE hF
    exact QRet.sole (v := v8) ⟨rfl, trivial⟩ (hS.get (k := 0) rfl)
  · skip
    refine AWP.seqR rfl ?_
    refine ASL.q (v := (.int .i64 p0)) rfl rfl (Light.quiet (opMove rfl rfl)) ?_
    refine ASL.q (v := (.int .i64 0)) rfl rfl (Light.quiet (opMove rfl rfl)) ?_
    refine ASL.done ?_
    refine AWP.block ?_
    obtain ⟨o10, hL9, hR11⟩ := bindE hF
    refine AWP.loopF (ω := Unit) hL9 (fun s w => [(0, (.int .i64 p0)), (3, v8), (9, (.int .i64 p0)), (10, (.int .i64 s.2))]) (fun s w => [.row 1 v8 (List.map (AV.int .i64) s.1)]) () ⟨rfl, rfl, rfl, rfl, trivial⟩ (hS.pick [0] rfl rfl) ?_
    rintro ⟨y6, x10_l0⟩ _ G12 hS x7 hF hx8
    try dsimp only at hS ⊢
    have hF : impl_boxOne.b0 p0 y6 x10_l0 = some x7 := hF; unfold impl_boxOne.b0 at hF
    refine AWP.seqR rfl ?_
    refine ASL.q (v := (.bool (decide (x10_l0 < p0)))) rfl rfl (Light.quiet (opInt rfl rfl rfl rfl)) ?_
    refine ASL.done ?_
    refine AWP.seq ?_
    refine AWP.ifP hF rfl (fun hc13 hF => ?_) (fun hc13 hF => ?_)
    · skip
      refine AWP.skip ?_
      refine QThen.nrm ?_
      refine AWP.seq ?_
      refine AWP.block ?_
      refine AWP.seqR rfl ?_
      refine ASL.q (v := (.int .i64 x10_l0)) rfl rfl (Light.quiet (opMove rfl rfl)) ?_
      refine ASL.q (v := (.int .i64 x10_l0)) rfl rfl (Light.quiet (opAssign rfl rfl)) ?_
      refine ASL.done ?_
      refine AWP.lastR rfl ?_
      refine ASL.q (v := v8) rfl rfl (Light.quiet (opMove rfl rfl)) ?_
      refine ASL.q (v := (.int .i64 x10_l0)) rfl rfl (Light.quiet (opMove rfl rfl)) ?_
      refine ASL.q (v := (.int .i64 p0)) rfl rfl (Light.quiet (opMove rfl rfl)) ?_
      refine ASL.q (v := (.int .i64 (W (x10_l0 * p0)))) rfl rfl (Light.quiet (opInt rfl rfl rfl rfl)) ?_
      refine ASL.q (v := (.int .i64 x10_l0)) rfl rfl (Light.quiet (opMove rfl rfl)) ?_
      refine ASL.q (v := (.int .i64 (W (((W (x10_l0 * p0))) + x10_l0)))) rfl rfl (Light.quiet (opInt rfl rfl rfl rfl)) ?_
      obtain ⟨m19, hm19, hF⟩ := bindE hF
      refine ASL.q (v := (ptrTo v8 m19 1)) rfl rfl (Light.quiet (kIxO hS (j := 0) rfl hm19 rfl rfl rfl elemA_27 sizeA_3)) ?_
      refine ASL.n rfl rfl (hSt (f := (AV.int .i64)) (a := 1) hS (j := 0) rfl hm19 rfl sizeA_3 rfl rfl ⟨rfl, rfl, rfl⟩ ?_); rintro G14 hS
      refine ASL.done ?_
      refine QBlock.nrm ?_
      refine QThen.nrm ?_
      refine AWP.lastR rfl ?_
      refine ASL.q (v := (.int .i64 (W (x10_l0 + 1)))) rfl rfl (Light.quiet (opInt rfl rfl rfl rfl)) ?_
      refine ASL.q (v := (.int .i64 (W (x10_l0 + 1)))) rfl rfl (Light.quiet (opMove rfl rfl)) ?_
      refine ASL.done ?_
      refine QThen.nrm ?_
      exact ⟨((y6.set m19 1), (W (x10_l0 + 1))), (), (someE hF).symm, ⟨rfl, rfl, rfl, rfl, trivial⟩, (hS.pick [0] rfl rfl)⟩
    · skip
      refine AWP.exit ?_
      refine QThen.ext ?_
      refine QThen.ext ?_
      refine QBlock.hit ?_
      obtain rfl := (hx8 _ (someE hF).symm)
      have hF := hR11
      refine QThen.nrm ?_
      exact ⟨y6, ⟨rfl, trivial⟩, (hS.pick [0] rfl rfl), hF⟩

set_option maxRecDepth 10000 in
theorem impl_boxLetter_ok {p0 : TAuto} {p1 : Int} {r : (List Int)} (hF : impl_boxLetter p0 p1 = some r) : PO Try.prog 52 [(TAuto.av p0), (.int .i64 p1)] 1 (List.map (AV.int .i64) r) := by
  refine HC.enter Try.func52 rfl Try.ntmps52 (by simp) ?_
  have hS := Sep.void; unfold impl_boxLetter at hF
  refine AWP.seqR rfl ?_
  refine ASL.q (v := (.rptr [(.int .i64 p0.letters), (.int .i64 p0.states), (.int .i64 p0.start), (.list 4 (List.map TEdge.av p0.edges))])) rfl rfl ((qBoxI (v := (TAuto.av p0)) rfl rfl rfl rfl)) ?_
  have hS := hNil (s := 1) (f := (AV.int .i64)) hS
  refine ASL.q (v := .nil) rfl rfl (Light.quiet (opAssign rfl rfl)) ?_
  refine ASL.done ?_
  refine AWP.seqR rfl ?_
  refine ASL.q (v := (.rptr [(.int .i64 p0.states), (.int .i64 p0.start), (.list 4 (List.map TEdge.av p0.edges))])) rfl rfl (Light.quiet (opFieldAddrR rfl fieldA_26_1 rfl rfl)) ?_
  refine ASL.q (v := (.int .i64 p0.states)) rfl rfl (Light.quiet (opLoadR rfl aggA_3 rfl rfl)) ?_
  refine ASL.q (v := (.rptr [(.int .i64 p0.states), (.int .i64 p0.start), (.list 4 (List.map TEdge.av p0.edges))])) rfl rfl (Light.quiet (opFieldAddrR rfl fieldA_26_1 rfl rfl)) ?_
  refine ASL.q (v := (.int .i64 p0.states)) rfl rfl (Light.quiet (opLoadR rfl aggA_3 rfl rfl)) ?_
  refine ASL.q (v := (.int .i64 (W (p0.states * p0.states)))) rfl rfl (Light.quiet (opInt rfl rfl rfl rfl)) ?_
  obtain ⟨z13, hz13, hF⟩ := bindE hF
  refine ASL.x rfl rfl (hMk (f := (AV.int .i64)) hS hz13 (by decide) rfl elemA_27 sizeA_3 bytesA_3 zeroA_3 rfl rfl (by decide) rfl rfl ?_); rintro v13 G2 hK hS
  refine ASL.q (v := v13) rfl rfl (Light.quiet (opAssign rfl rfl)) ?_
  refine ASL.done ?_
  refine AWP.seqM (fun e H => ∃ y4 : (List Int), E.Told e [(5, v13)] ∧ E.Sep H [.row 1 v13 (List.map (AV.int .i64) y4)] ∧ impl_boxLetter.k0 y4 = some r) ?_ ?_
  · rintro e0 G5 ⟨y4, hT, hS, hF⟩; refine AWP.only _ hT ?_; unfold impl_boxLetter.k0 at hF
    refine AWP.seqR rfl ?_
    refine ASL.q (v := v13) rfl rfl (Light.quiet (opMove rfl rfl)) ?_
    refine ASL.q (v := v13) rfl rfl (Light.quiet (opAssign rfl rfl)) ?_
    refine ASL.done ?_
    refine AWP.ret ?_
    obtain rfl := someE hF
    exact QRet.sole (v := v13) ⟨rfl, trivial⟩ (hS.get (k := 0) rfl)
  · skip
    refine AWP.seqR rfl ?_
    refine ASL.q (v := (.rptr [(.list 4 (List.map TEdge.av p0.edges))])) rfl rfl (Light.quiet (opFieldAddrR rfl fieldA_26_3 rfl rfl)) ?_
    refine ASL.q (v := (.list 4 (List.map TEdge.av p0.edges))) rfl rfl (Light.quiet (opLoadR rfl aggA_24 rfl rfl)) ?_
    refine ASL.q (v := (.int .i64 (p0.edges.length : Int))) rfl rfl (Light.quiet (opLenMap (f := TEdge.av) rfl rfl rfl lenT_24 rfl)) ?_
    refine ASL.q (v := (.int .i64 0)) rfl rfl (Light.quiet (opMove rfl rfl)) ?_
    refine ASL.done ?_
    refine AWP.block ?_
    obtain ⟨o10, hL9, hR11⟩ := bindE hF
    refine AWP.loopF (ω := Unit) hL9 (fun s w => [(1, (.int .i64 p1)), (2, (.rptr [(.int .i64 p0.letters), (.int .i64 p0.states), (.int .i64 p0.start), (.list 4 (List.map TEdge.av p0.edges))])), (5, v13), (15, (.list 4 (List.map TEdge.av p0.edges))), (16, (.int .i64 (p0.edges.length : Int))), (17, (.int .i64 s.2))]) (fun s w => [.row 1 v13 (List.map (AV.int .i64) s.1)]) () ⟨rfl, rfl, rfl, rfl, rfl, rfl, trivial⟩ (hS.pick [0] rfl rfl) ?_
    rintro ⟨y6, x17_l0⟩ _ G12 hS x7 hF hx8
    try dsimp only at hS ⊢
    have hF : impl_boxLetter.b0 p0 p1 y6 x17_l0 = some x7 := hF; unfold impl_boxLetter.b0 at hF
    refine AWP.seqR rfl ?_
    refine ASL.q (v := (.bool (decide (x17_l0 < ((p0.edges.length : Int)))))) rfl rfl (Light.quiet (opInt rfl rfl rfl rfl)) ?_
    refine ASL.done ?_
    refine AWP.seq ?_
    refine AWP.ifP hF rfl (fun hc13 hF => ?_) (fun hc13 hF => ?_)
    · skip
      refine AWP.skip ?_
      refine QThen.nrm ?_
      refine AWP.seq ?_
      refine AWP.block ?_
      refine AWP.seqR rfl ?_
      obtain ⟨a19, ha19, hF⟩ := bindE hF
      refine ASL.q (v := (.rptr [(.int .i64 a19.from_), (.int .i64 a19.letter), (.int .i64 a19.to_), (.bool a19.good)])) rfl rfl (Light.quiet (kIx (f := TEdge.av) ha19 rfl rfl rfl elemA_24 sizeA_73 rfl)) ?_
      refine ASL.q (v := (TEdge.av a19)) rfl rfl (Light.quiet (opLoadRA rfl aggA_73 sizeA_73 rfl (nlt rfl) rfl)) ?_
      refine ASL.x rfl rfl (hNewZ hS [(.int .i64 0), (.int .i64 0), (.int .i64 0), (.bool false)] rfl zeroA_73 ⟨.inl rfl, .inl rfl, .inl rfl, .inl rfl, trivial⟩ ?_); rintro b7 G14 hK hS
      refine ASL.n rfl rfl (hPutA hS (j := 0) rfl rfl sizeA_73 rfl rfl rfl rfl rfl (nlt rfl) ?_); rintro G16 hS
      refine ASL.done ?_
      refine AWP.seq ?_
      refine AWP.seqR rfl ?_
      refine ASL.q (v := (.ptr b7 1)) rfl rfl (Light.quiet (opFieldAddr rfl fieldA_73_1 rfl rfl)) ?_
      refine ASL.q (v := (.int .i64 a19.letter)) rfl rfl (Light.quiet (kAt hS (j := 0) rfl rfl aggA_3 rfl rfl)) ?_
      refine ASL.q (v := (.int .i64 p1)) rfl rfl (Light.quiet (opMove rfl rfl)) ?_
      refine ASL.q (v := (.bool (decide (a19.letter ≠ p1)))) rfl rfl (Light.quiet (opInt rfl rfl rfl rfl)) ?_
      refine ASL.done ?_
      refine AWP.ifP hF rfl (fun hc17 hF => ?_) (fun hc17 hF => ?_)
      · skip
        refine AWP.exit ?_
        refine QThen.ext ?_
        refine QBlock.hit ?_
        refine QThen.nrm ?_
        refine AWP.lastR rfl ?_
        refine ASL.q (v := (.int .i64 (W (x17_l0 + 1)))) rfl rfl (Light.quiet (opInt rfl rfl rfl rfl)) ?_
        refine ASL.q (v := (.int .i64 (W (x17_l0 + 1)))) rfl rfl (Light.quiet (opMove rfl rfl)) ?_
        refine ASL.done ?_
        refine QThen.nrm ?_
        exact ⟨(y6, (W (x17_l0 + 1))), (), (someE hF).symm, ⟨rfl, rfl, rfl, rfl, rfl, rfl, trivial⟩, (hS.pick [1] rfl rfl)⟩
      · skip
        refine AWP.skip ?_
        refine QThen.nrm ?_
        refine AWP.seqR rfl ?_
        refine ASL.q (v := v13) rfl rfl (Light.quiet (opMove rfl rfl)) ?_
        refine ASL.q (v := (.ptr b7 0)) rfl rfl (Light.quiet (opFieldAddr rfl fieldA_73_0 rfl rfl)) ?_
        refine ASL.q (v := (.int .i64 a19.from_)) rfl rfl (Light.quiet (kAt hS (j := 0) rfl rfl aggA_3 rfl rfl)) ?_
        refine ASL.q (v := (.rptr [(.int .i64 p0.states), (.int .i64 p0.start), (.list 4 (List.map TEdge.av p0.edges))])) rfl rfl (Light.quiet (opFieldAddrR rfl fieldA_26_1 rfl rfl)) ?_
        refine ASL.q (v := (.int .i64 p0.states)) rfl rfl (Light.quiet (opLoadR rfl aggA_3 rfl rfl)) ?_
        refine ASL.q (v := (.int .i64 (W (a19.from_ * p0.states)))) rfl rfl (Light.quiet (opInt rfl rfl rfl rfl)) ?_
        refine ASL.q (v := (.ptr b7 2)) rfl rfl (Light.quiet (opFieldAddr rfl fieldA_73_2 rfl rfl)) ?_
        refine ASL.q (v := (.int .i64 a19.to_)) rfl rfl (Light.quiet (kAt hS (j := 0) rfl rfl aggA_3 rfl rfl)) ?_
        refine ASL.q (v := (.int .i64 (W (((W (a19.from_ * p0.states))) + a19.to_)))) rfl rfl (Light.quiet (opInt rfl rfl rfl rfl)) ?_
        obtain ⟨m34, hm34, hF⟩ := bindE hF
        refine ASL.q (v := (ptrTo v13 m34 1)) rfl rfl (Light.quiet (kIxO hS (j := 1) rfl hm34 rfl rfl rfl elemA_27 sizeA_3)) ?_
        refine ASL.n rfl rfl (hSt (f := (AV.int .i64)) (a := 1) hS (j := 1) rfl hm34 rfl sizeA_3 rfl rfl ⟨rfl, rfl, rfl⟩ ?_); rintro G18 hS
        refine ASL.done ?_
        refine AWP.seqR rfl ?_
        refine ASL.q (v := (.ptr b7 3)) rfl rfl (Light.quiet (opFieldAddr rfl fieldA_73_3 rfl rfl)) ?_
        refine ASL.q (v := (.bool a19.good)) rfl rfl (Light.quiet (kAt hS (j := 0) rfl rfl aggA_4 rfl rfl)) ?_
        refine ASL.done ?_
        refine AWP.ifB hF rfl (fun hc19 hF => ?_) (fun hc19 hF => ?_)
        · skip
          refine AWP.lastR rfl ?_
          refine ASL.q (v := v13) rfl rfl (Light.quiet (opMove rfl rfl)) ?_
          refine ASL.q (v := (.ptr b7 0)) rfl rfl (Light.quiet (opFieldAddr rfl fieldA_73_0 rfl rfl)) ?_
          refine ASL.q (v := (.int .i64 a19.from_)) rfl rfl (Light.quiet (kAt hS (j := 0) rfl rfl aggA_3 rfl rfl)) ?_
          refine ASL.q (v := (.rptr [(.int .i64 p0.states), (.int .i64 p0.start), (.list 4 (List.map TEdge.av p0.edges))])) rfl rfl (Light.quiet (opFieldAddrR rfl fieldA_26_1 rfl rfl)) ?_
          refine ASL.q (v := (.int .i64 p0.states)) rfl rfl (Light.quiet (opLoadR rfl aggA_3 rfl rfl)) ?_
          refine ASL.q (v := (.int .i64 (W (a19.from_ * p0.states)))) rfl rfl (Light.quiet (opInt rfl rfl rfl rfl)) ?_
          refine ASL.q (v := (.ptr b7 2)) rfl rfl (Light.quiet (opFieldAddr rfl fieldA_73_2 rfl rfl)) ?_
          refine ASL.q (v := (.int .i64 a19.to_)) rfl rfl (Light.quiet (kAt hS (j := 0) rfl rfl aggA_3 rfl rfl)) ?_
          refine ASL.q (v := (.int .i64 (W (((W (a19.from_ * p0.states))) + a19.to_)))) rfl rfl (Light.quiet (opInt rfl rfl rfl rfl)) ?_
          obtain ⟨m46, hm46, hF⟩ := bindE hF
          refine ASL.q (v := (ptrTo v13 m46 1)) rfl rfl (Light.quiet (kIxO hS (j := 1) rfl hm46 rfl rfl rfl elemA_27 sizeA_3)) ?_
          refine ASL.n rfl rfl (hSt (f := (AV.int .i64)) (a := 2) hS (j := 1) rfl hm46 rfl sizeA_3 rfl rfl ⟨rfl, rfl, rfl⟩ ?_); rintro G20 hS
          refine ASL.done ?_
          refine QBlock.nrm ?_
          refine QThen.nrm ?_
          refine AWP.lastR rfl ?_
          refine ASL.q (v := (.int .i64 (W (x17_l0 + 1)))) rfl rfl (Light.quiet (opInt rfl rfl rfl rfl)) ?_
          refine ASL.q (v := (.int .i64 (W (x17_l0 + 1)))) rfl rfl (Light.quiet (opMove rfl rfl)) ?_
          refine ASL.done ?_
          refine QThen.nrm ?_
          exact ⟨((((y6.set m34 1)).set m46 2), (W (x17_l0 + 1))), (), (someE hF).symm, ⟨rfl, rfl, rfl, rfl, rfl, rfl, trivial⟩, (hS.pick [1] rfl rfl)⟩
        · skip
          refine AWP.skip ?_
          refine QBlock.nrm ?_
          refine QThen.nrm ?_
          refine AWP.lastR rfl ?_
          refine ASL.q (v := (.int .i64 (W (x17_l0 + 1)))) rfl rfl (Light.quiet (opInt rfl rfl rfl rfl)) ?_
          refine ASL.q (v := (.int .i64 (W (x17_l0 + 1)))) rfl rfl (Light.quiet (opMove rfl rfl)) ?_
          refine ASL.done ?_
          refine QThen.nrm ?_
          exact ⟨((y6.set m34 1), (W (x17_l0 + 1))), (), (someE hF).symm, ⟨rfl, rfl, rfl, rfl, rfl, rfl, trivial⟩, (hS.pick [1] rfl rfl)⟩
    · skip
      refine AWP.exit ?_
      refine QThen.ext ?_
      refine QThen.ext ?_
      refine QBlock.hit ?_
      obtain rfl := (hx8 _ (someE hF).symm)
      have hF := hR11
      refine QThen.nrm ?_
      exact ⟨y6, ⟨rfl, trivial⟩, (hS.pick [0] rfl rfl), hF⟩

set_option maxRecDepth 10000 in
theorem impl_BoxOf_ok {p0 : TAuto} {p1 : (List Int)} {r : (List Int)} (hF : impl_BoxOf p0 p1 = some r) : PO Try.prog 13 [(TAuto.av p0), (.list 1 (List.map (AV.int .i64) p1))] 1 (List.map (AV.int .i64) r) := by
  refine HC.enter Try.func13 rfl Try.ntmps13 (by simp) ?_
  have hS := Sep.void; unfold impl_BoxOf at hF
  refine AWP.seqR rfl ?_
  refine ASL.q (v := (.rptr [(.int .i64 p0.letters), (.int .i64 p0.states), (.int .i64 p0.start), (.list 4 (List.map TEdge.av p0.edges))])) rfl rfl ((qBoxI (v := (TAuto.av p0)) rfl rfl rfl rfl)) ?_
  have hS := hNil (s := 1) (f := (AV.int .i64)) hS
  refine ASL.q (v := .nil) rfl rfl (Light.quiet (opAssign rfl rfl)) ?_
  refine ASL.done ?_
  refine AWP.seq ?_
  refine AWP.seqR rfl ?_
  refine ASL.q (v := (.rptr [(.int .i64 p0.states), (.int .i64 p0.start), (.list 4 (List.map TEdge.av p0.edges))])) rfl rfl (Light.quiet (opFieldAddrR rfl fieldA_26_1 rfl rfl)) ?_
  refine ASL.q (v := (.int .i64 p0.states)) rfl rfl (Light.quiet (opLoadR rfl aggA_3 rfl rfl)) ?_
  refine ASL.q (v := (.bool (impl_isBoxed p0.states))) rfl rfl ((qCall rfl rfl call_48 (impl_isBoxed_ok p0.states) rfl)) ?_
  refine ASL.q (v := (.bool (!(impl_isBoxed p0.states)))) rfl rfl (Light.quiet (opNot rfl rfl)) ?_
  obtain ⟨c12, hc12, hF⟩ := bndE hF
  refine ASL.q (v := (.bool c12)) rfl rfl ((Quiet.cast (Light.quiet (opMove rfl rfl)) (congrArg AV.bool hc12.symm))) ?_
  refine ASL.g (v := (.list 1 (List.map (AV.int .i64) p1))) (.bool c12) false rfl (wF _) rfl (fun hG => by have q0 := gN hG; subst q0; exact Light.quiet (opMove rfl rfl)) ?_
  refine ASL.g (v := (.int .i64 (p1.length : Int))) (.bool c12) false rfl (wF _) rfl (fun hG => by have q0 := gN hG; subst q0; exact Light.quiet (opLenMap (f := (AV.int .i64)) rfl rfl rfl lenT_27 rfl)) ?_
  refine ASL.g (v := (.bool (decide (((p1.length : Int)) > 60)))) (.bool c12) false rfl (wF _) rfl (fun hG => by have q0 := gN hG; subst q0; exact Light.quiet (opInt rfl rfl rfl rfl)) ?_
  refine ASL.q (v := (.bool (c12 || (decide (((p1.length : Int)) > 60))))) rfl rfl (Light.quiet (opPick (b := c12) rfl rfl (by cases c12 <;> rfl))) ?_
  obtain ⟨c17, hc17, hF⟩ := bndE hF
  refine ASL.q (v := (.bool c17)) rfl rfl ((Quiet.cast (Light.quiet (opMove rfl rfl)) (congrArg AV.bool hc17.symm))) ?_
  refine ASL.g (v := (TAuto.av p0)) (.bool c17) false rfl (wF _) rfl (fun hG => by have q0 := gN hG; subst q0; exact Light.quiet (opLoadRA rfl aggA_26 sizeA_26 rfl (nlt rfl) rfl)) ?_
  obtain ⟨a19, ha19, hF⟩ := bindE hF
  refine ASL.g (v := (.bool a19)) (.bool c17) false rfl (wF _) rfl (fun hG => by have q0 := gN hG; subst q0; exact (qCall rfl rfl call_46 (impl_AutoOk_ok (whenE ha19)) rfl)) ?_
  refine ASL.g (v := (.bool (!a19))) (.bool c17) false rfl (wF _) rfl (fun hG => by have q0 := gN hG; subst q0; exact Light.quiet (opNot rfl rfl)) ?_
  refine ASL.q (v := (.bool (c17 || (!a19)))) rfl rfl (Light.quiet (opPick (b := c17) rfl rfl (by cases c17 <;> rfl))) ?_
  obtain ⟨c22, hc22, hF⟩ := bndE hF
  refine ASL.q (v := (.bool c22)) rfl rfl ((Quiet.cast (Light.quiet (opMove rfl rfl)) (congrArg AV.bool hc22.symm))) ?_
  refine ASL.g (v := (.list 1 (List.map (AV.int .i64) p1))) (.bool c22) false rfl (wF _) rfl (fun hG => by have q0 := gN hG; subst q0; exact Light.quiet (opMove rfl rfl)) ?_
  refine ASL.g (v := (.rptr [(.int .i64 p0.letters), (.int .i64 p0.states), (.int .i64 p0.start), (.list 4 (List.map TEdge.av p0.edges))])) (.bool c22) false rfl (wF _) rfl (fun hG => by have q0 := gN hG; subst q0; exact Light.quiet (opFieldAddrR rfl fieldA_26_0 rfl rfl)) ?_
  refine ASL.g (v := (.int .i64 p0.letters)) (.bool c22) false rfl (wF _) rfl (fun hG => by have q0 := gN hG; subst q0; exact Light.quiet (opLoadR rfl aggA_3 rfl rfl)) ?_
  obtain ⟨a26, ha26, hF⟩ := bindE hF
  refine ASL.g (v := (.bool a26)) (.bool c22) false rfl (wF _) rfl (fun hG => by have q0 := gN hG; subst q0; exact (qCall rfl rfl call_49 (impl_areLetters_ok (whenE ha26)) rfl)) ?_
  refine ASL.g (v := (.bool (!a26))) (.bool c22) false rfl (wF _) rfl (fun hG => by have q0 := gN hG; subst q0; exact Light.quiet (opNot rfl rfl)) ?_
  refine ASL.q (v := (.bool (c22 || (!a26)))) rfl rfl (Light.quiet (opPick (b := c22) rfl rfl (by cases c22 <;> rfl))) ?_
  refine ASL.done ?_
  refine AWP.ifB hF rfl (fun hc2 hF => ?_) (fun hc2 hF => ?_)
  · skip
    refine AWP.seqR rfl ?_
    have hS := hNil (s := 1) (f := (AV.int .i64)) hS
    refine ASL.q (v := .nil) rfl rfl (Light.quiet (opAssign rfl rfl)) ?_
    refine ASL.done ?_
    refine AWP.ret ?_
    refine QThen.rt ?_
    obtain rfl := someE hF
    exact QRet.sole (v := .nil) ⟨rfl, trivial⟩ (hS.get (k := 0) rfl)
  · skip
    refine AWP.skip ?_
    refine QThen.nrm ?_
    refine AWP.seqR rfl ?_
    refine ASL.q (v := (.rptr [(.int .i64 p0.states), (.int .i64 p0.start), (.list 4 (List.map TEdge.av p0.edges))])) rfl rfl (Light.quiet (opFieldAddrR rfl fieldA_26_1 rfl rfl)) ?_
    refine ASL.q (v := (.int .i64 p0.states)) rfl rfl (Light.quiet (opLoadR rfl aggA_3 rfl rfl)) ?_
    obtain ⟨a31, ha31, hF⟩ := bindE hF
    refine ASL.x rfl rfl (hCallO hS rfl rfl call_50 (impl_boxOne_ok ha31) rfl ?_); rintro v31 G4 hK hS
    refine ASL.q (v := v31) rfl rfl (Light.quiet (opAssign rfl rfl)) ?_
    refine ASL.done ?_
    refine AWP.seqM (fun e H => ∃ y6 : (List Int), ∃ w7 : AV, E.Told e [(5, w7)] ∧ E.Sep H [.row 1 w7 (List.map (AV.int .i64) y6)] ∧ impl_BoxOf.k0 y6 = some r) ?_ ?_
    · rintro e0 G9 ⟨y6, w7, hT, hS, hF⟩; refine AWP.only _ hT ?_; unfold impl_BoxOf.k0 at hF
      refine AWP.seqR rfl ?_
      refine ASL.q (v := w7) rfl rfl (Light.quiet (opMove rfl rfl)) ?_
      refine ASL.q (v := w7) rfl rfl (Light.quiet (opAssign rfl rfl)) ?_
      refine ASL.done ?_
      refine AWP.ret ?_
      obtain rfl := someE hF
      exact QRet.sole (v := w7) ⟨rfl, trivial⟩ (hS.get (k := 0) rfl)
    · skip
      refine AWP.seqR rfl ?_
      refine ASL.q (v := (.list 1 (List.map (AV.int .i64) p1))) rfl rfl (Light.quiet (opMove rfl rfl)) ?_
      refine ASL.q (v := (.int .i64 (p1.length : Int))) rfl rfl (Light.quiet (opLenMap (f := (AV.int .i64)) rfl rfl rfl lenT_27 rfl)) ?_
      refine ASL.q (v := (.int .i64 0)) rfl rfl (Light.quiet (opMove rfl rfl)) ?_
      refine ASL.done ?_
      refine AWP.block ?_
      obtain ⟨o16, hL15, hR17⟩ := bindE hF
      refine AWP.loopF (ω := AV) hL15 (fun s w => [(2, (.rptr [(.int .i64 p0.letters), (.int .i64 p0.states), (.int .i64 p0.start), (.list 4 (List.map TEdge.av p0.edges))])), (5, w), (32, (.list 1 (List.map (AV.int .i64) p1))), (33, (.int .i64 (p1.length : Int))), (34, (.int .i64 s.2))]) (fun s w => [.row 1 w (List.map (AV.int .i64) s.1)]) v31 ⟨rfl, rfl, rfl, rfl, rfl, trivial⟩ (hS.pick [0] rfl rfl) ?_
      rintro ⟨y10, x34_l0⟩ w11 G18 hS x13 hF hx14
      try dsimp only at hS ⊢
      have hF : impl_BoxOf.b0 p1 p0 y10 x34_l0 = some x13 := hF; unfold impl_BoxOf.b0 at hF
      refine AWP.seqR rfl ?_
      refine ASL.q (v := (.bool (decide (x34_l0 < ((p1.length : Int)))))) rfl rfl (Light.quiet (opInt rfl rfl rfl rfl)) ?_
      refine ASL.done ?_
      refine AWP.seq ?_
      refine AWP.ifP hF rfl (fun hc19 hF => ?_) (fun hc19 hF => ?_)
      · skip
        refine AWP.skip ?_
        refine QThen.nrm ?_
        refine AWP.seq ?_
        refine AWP.block ?_
        refine AWP.seqR rfl ?_
        obtain ⟨a36, ha36, hF⟩ := bindE hF
        refine ASL.q (v := (.rptr [(.int .i64 a36)])) rfl rfl (Light.quiet (kIx (f := (AV.int .i64)) ha36 rfl rfl rfl elemA_27 sizeA_3 rfl)) ?_
        refine ASL.q (v := (.int .i64 a36)) rfl rfl (Light.quiet (opLoadR rfl aggA_3 rfl rfl)) ?_
        refine ASL.q (v := (.int .i64 a36)) rfl rfl (Light.quiet (opAssign rfl rfl)) ?_
        refine ASL.done ?_
        refine AWP.lastD [(0, false), (1, false), (2, false), (3, false), (4, false), (5, false), (6, true), (7, false)] mixed (by kernel_rfl) rfl ?_
        refine ARL.q0 (v := (.rptr [(.int .i64 p0.states), (.int .i64 p0.start), (.list 4 (List.map TEdge.av p0.edges))])) rfl rfl (Light.quiet (opFieldAddrR rfl fieldA_26_1 rfl rfl)) ?_
        refine ARL.q0 (v := (.int .i64 p0.states)) rfl rfl (Light.quiet (opLoadR rfl aggA_3 rfl rfl)) ?_
        refine ARL.q0 (v := w11) rfl rfl (Light.quiet (opMove rfl rfl)) ?_
        refine ARL.q0 (v := (TAuto.av p0)) rfl rfl (Light.quiet (opLoadRA rfl aggA_26 sizeA_26 rfl (nlt rfl) rfl)) ?_
        refine ARL.q0 (v := (.int .i64 a36)) rfl rfl (Light.quiet (opMove rfl rfl)) ?_
        obtain ⟨a43, ha43, hF⟩ := bindE hF
        refine ARL.q0 (v := (.list 1 (List.map (AV.int .i64) a43))) rfl rfl ((qCall rfl rfl call_52 (PO.list (impl_boxLetter_ok ha43)) rfl)) ?_
        obtain ⟨a44, ha44, hF⟩ := bindE hF
        refine ARL.x rfl rfl rfl (hCallOR hS rfl rfl call_51 (impl_boxMul_ok ha44) ⟨.same _, .row (k := 0) rfl, .same _, trivial⟩ (Scal.ints _ _) ?_); rintro v44 G20 hK hS; refine ⟨hK, ?_⟩
        refine ARL.q0 (v := v44) rfl rfl (Light.quiet (opAssign rfl rfl)) ?_
        refine ARL.done ?_
        refine QBlock.nrm ?_
        refine QThen.nrm ?_
        refine AWP.lastR rfl ?_
        refine ASL.q (v := (.int .i64 (W (x34_l0 + 1)))) rfl rfl (Light.quiet (opInt rfl rfl rfl rfl)) ?_
        refine ASL.q (v := (.int .i64 (W (x34_l0 + 1)))) rfl rfl (Light.quiet (opMove rfl rfl)) ?_
        refine ASL.done ?_
        refine QThen.nrm ?_
        exact ⟨(a44, (W (x34_l0 + 1))), v44, (someE hF).symm, ⟨rfl, rfl, rfl, rfl, rfl, trivial⟩, (hS.pick [0] rfl rfl)⟩
      · skip
        refine AWP.exit ?_
        refine QThen.ext ?_
        refine QThen.ext ?_
        refine QBlock.hit ?_
        obtain rfl := (hx14 _ (someE hF).symm)
        have hF := hR17
        refine QThen.nrm ?_
        exact ⟨y10, w11, ⟨rfl, trivial⟩, (hS.pick [0] rfl rfl), hF⟩

set_option maxRecDepth 10000 in
theorem laws_FnBoxWord_ok {p0 : (List Int)} {r : Bool} (hF : laws_FnBoxWord p0 = some r) : PC Try.prog 3 [(.list 1 (List.map (AV.int .u8) p0))] fun v => v = (.bool r) := by
  refine PC.enter Try.func3 rfl Try.ntmps3 (by simp) ?_
  have hS := Sep.void; unfold laws_FnBoxWord at hF
  refine AWP.seqR rfl ?_
  refine ASL.q (v := (.bool false)) rfl rfl (Light.quiet (opAssign rfl rfl)) ?_
  refine ASL.done ?_
  refine AWP.seq ?_
  refine AWP.seqR rfl ?_
  refine ASL.q (v := (.list 1 (List.map (AV.int .u8) p0))) rfl rfl (Light.quiet (opMove rfl rfl)) ?_
  refine ASL.q (v := (.bool (laws_big p0))) rfl rfl ((qCall rfl rfl call_8 (laws_big_ok p0) rfl)) ?_
  refine ASL.done ?_
  refine AWP.ifB hF rfl (fun hc1 hF => ?_) (fun hc1 hF => ?_)
  · skip
    refine AWP.seqR rfl ?_
    refine ASL.q (v := (.bool true)) rfl rfl (Light.quiet (opAssign rfl rfl)) ?_
    refine ASL.done ?_
    refine AWP.ret ?_
    refine QThen.rt ?_
    obtain rfl := someE hF
    exact QRet.sole (v := (.bool true)) ⟨rfl, trivial⟩ rfl
  · skip
    refine AWP.skip ?_
    refine QThen.nrm ?_
    refine AWP.seqR rfl ?_
    refine ASL.q (v := (.list 1 (List.map (AV.int .u8) p0))) rfl rfl (Light.quiet (opMove rfl rfl)) ?_
    obtain ⟨a11, ha11, hF⟩ := bindE hF
    refine ASL.q (v := (.tup [(TAuto.av a11.1), (TWord.av a11.2)])) rfl rfl ((qCall rfl rfl call_9 (spec_DrawAutoTakes_ok ha11) rfl)) ?_
    refine ASL.q (v := (.tup [(TAuto.av a11.1), (TWord.av a11.2)])) rfl rfl (Light.quiet (opMove rfl rfl)) ?_
    refine ASL.q (v := (TAuto.av a11.1)) rfl rfl (Light.quiet (opExtract rfl rfl rfl)) ?_
    refine ASL.q (v := (TWord.av a11.2)) rfl rfl (Light.quiet (opExtract rfl rfl rfl)) ?_
    refine ASL.x rfl rfl (hNewZ hS [(.int .i64 0), (.int .i64 0), (.int .i64 0), (.list 4 (List.map TEdge.av []))] rfl zeroA_26 ⟨.inl rfl, .inl rfl, .inl rfl, .inr ⟨_, rfl, rfl⟩, trivial⟩ ?_); rintro b3 G2 hK hS
    refine ASL.x rfl rfl (hNewZ hS [(.list 1 (List.map (AV.int .i64) [])), (.list 1 (List.map (AV.int .i64) []))] rfl zeroA_29 ⟨.inr ⟨_, rfl, rfl⟩, .inr ⟨_, rfl, rfl⟩, trivial⟩ ?_); rintro b4 G4 hK hS
    refine ASL.n rfl rfl (hPutA hS (j := 1) rfl rfl sizeA_26 rfl rfl rfl rfl rfl (nlt rfl) ?_); rintro G6 hS
    refine ASL.n rfl rfl (hPutA hS (j := 0) rfl rfl sizeA_29 rfl rfl rfl rfl rfl (nlt rfl) ?_); rintro G7 hS
    refine ASL.done ?_
    refine AWP.seq ?_
    refine AWP.seqR rfl ?_
    refine ASL.q (v := (TAuto.av a11.1)) rfl rfl (Light.quiet (kAtA hS (j := 1) rfl rfl aggA_26 sizeA_26 rfl (nlt rfl) rfl)) ?_
    obtain ⟨a15, ha15, hF⟩ := bindE hF
    refine ASL.q (v := (.bool a15)) rfl rfl ((qCall rfl rfl call_10 (spec_AutoOk_ok ha15) rfl)) ?_
    refine ASL.q (v := (.bool (!a15))) rfl rfl (Light.quiet (opNot rfl rfl)) ?_
    obtain ⟨c17, hc17, hF⟩ := bndE hF
    refine ASL.q (v := (.bool c17)) rfl rfl ((Quiet.cast (Light.quiet (opMove rfl rfl)) (congrArg AV.bool hc17.symm))) ?_
    refine ASL.g (v := (.ptr b3 1)) (.bool c17) false rfl (wF _) rfl (fun hG => by have q0 := gN hG; subst q0; exact Light.quiet (opFieldAddr rfl fieldA_26_1 rfl rfl)) ?_
    refine ASL.g (v := (.int .i64 a11.1.states)) (.bool c17) false rfl (wF _) rfl (fun hG => by have q0 := gN hG; subst q0; exact Light.quiet (kAt hS (j := 1) rfl rfl aggA_3 rfl rfl)) ?_
    refine ASL.g (v := (.bool (decide (a11.1.states < 1)))) (.bool c17) false rfl (wF _) rfl (fun hG => by have q0 := gN hG; subst q0; exact Light.quiet (opInt rfl rfl rfl rfl)) ?_
    refine ASL.q (v := (.bool (c17 || (decide (a11.1.states < 1))))) rfl rfl (Light.quiet (opPick (b := c17) rfl rfl (by cases c17 <;> rfl))) ?_
    obtain ⟨c22, hc22, hF⟩ := bndE hF
    refine ASL.q (v := (.bool c22)) rfl rfl ((Quiet.cast (Light.quiet (opMove rfl rfl)) (congrArg AV.bool hc22.symm))) ?_
    refine ASL.g (v := (.ptr b3 1)) (.bool c22) false rfl (wF _) rfl (fun hG => by have q0 := gN hG; subst q0; exact Light.quiet (opFieldAddr rfl fieldA_26_1 rfl rfl)) ?_
    refine ASL.g (v := (.int .i64 a11.1.states)) (.bool c22) false rfl (wF _) rfl (fun hG => by have q0 := gN hG; subst q0; exact Light.quiet (kAt hS (j := 1) rfl rfl aggA_3 rfl rfl)) ?_
    refine ASL.g (v := (.bool (decide (a11.1.states > 4)))) (.bool c22) false rfl (wF _) rfl (fun hG => by have q0 := gN hG; subst q0; exact Light.quiet (opInt rfl rfl rfl rfl)) ?_
    refine ASL.q (v := (.bool (c22 || (decide (a11.1.states > 4))))) rfl rfl (Light.quiet (opPick (b := c22) rfl rfl (by cases c22 <;> rfl))) ?_
    obtain ⟨c27, hc27, hF⟩ := bndE hF
    refine ASL.q (v := (.bool c27)) rfl rfl ((Quiet.cast (Light.quiet (opMove rfl rfl)) (congrArg AV.bool hc27.symm))) ?_
    refine ASL.g (v := (TWord.av a11.2)) (.bool c27) false rfl (wF _) rfl (fun hG => by have q0 := gN hG; subst q0; exact Light.quiet (kAtA hS (j := 0) rfl rfl aggA_29 sizeA_29 rfl (nlt rfl) rfl)) ?_
    refine ASL.g (v := (.ptr b3 0)) (.bool c27) false rfl (wF _) rfl (fun hG => by have q0 := gN hG; subst q0; exact Light.quiet (opFieldAddr rfl fieldA_26_0 rfl rfl)) ?_
    refine ASL.g (v := (.int .i64 a11.1.letters)) (.bool c27) false rfl (wF _) rfl (fun hG => by have q0 := gN hG; subst q0; exact Light.quiet (kAt hS (j := 1) rfl rfl aggA_3 rfl rfl)) ?_
    obtain ⟨a31, ha31, hF⟩ := bindE hF
    refine ASL.g (v := (.bool a31)) (.bool c27) false rfl (wF _) rfl (fun hG => by have q0 := gN hG; subst q0; exact (qCall rfl rfl call_11 (spec_WordOk_ok (whenE ha31)) rfl)) ?_
    refine ASL.g (v := (.bool (!a31))) (.bool c27) false rfl (wF _) rfl (fun hG => by have q0 := gN hG; subst q0; exact Light.quiet (opNot rfl rfl)) ?_
    refine ASL.q (v := (.bool (c27 || (!a31)))) rfl rfl (Light.quiet (opPick (b := c27) rfl rfl (by cases c27 <;> rfl))) ?_
    refine ASL.done ?_
    refine AWP.ifB hF rfl (fun hc8 hF => ?_) (fun hc8 hF => ?_)
    · skip
      refine AWP.seqR rfl ?_
      refine ASL.q (v := (TAuto.av a11.1)) rfl rfl (Light.quiet (kAtA hS (j := 1) rfl rfl aggA_26 sizeA_26 rfl (nlt rfl) rfl)) ?_
      obtain ⟨a35, ha35, hF⟩ := bindE hF
      refine ASL.q (v := (.bool a35)) rfl rfl ((qCallR hS rfl rfl call_12 (impl_BoxTakes_ok ha35) ⟨.same _, .nil _, .nil _, trivial⟩ (by constructor))) ?_
      refine ASL.q (v := (.bool (!a35))) rfl rfl (Light.quiet (opNot rfl rfl)) ?_
      refine ASL.q (v := (.bool (!a35))) rfl rfl (Light.quiet (opAssign rfl rfl)) ?_
      refine ASL.done ?_
      refine AWP.ret ?_
      refine QThen.rt ?_
      obtain rfl := someE hF
      exact QRet.sole (v := (.bool (!a35))) ⟨rfl, trivial⟩ rfl
    · skip
      refine AWP.skip ?_
      refine QThen.nrm ?_
      refine AWP.seqD [(0, false), (1, false), (2, false), (3, false), (4, false), (5, false), (6, false), (7, false), (8, false), (9, false)] mixed (by kernel_rfl) rfl ?_
      refine ARL.q (v := (TAuto.av a11.1)) rfl rfl (hS.aliveC (k := 1) rfl) (Light.quiet (kAtA hS (j := 1) rfl rfl aggA_26 sizeA_26 rfl (nlt rfl) rfl)) ?_
      refine ARL.q0 (v := (.ptr b4 0)) rfl rfl (Light.quiet (opFieldAddr rfl fieldA_29_0 rfl rfl)) ?_
      refine ARL.q (v := (.list 1 (List.map (AV.int .i64) a11.2.stem))) rfl rfl (hS.aliveC (k := 0) rfl) (Light.quiet (kAt hS (j := 0) rfl rfl aggA_27 rfl rfl)) ?_
      obtain ⟨a40, ha40, hF⟩ := bindE hF
      refine ARL.q0 (v := (.list 1 (List.map (AV.int .i64) a40))) rfl rfl ((qCall rfl rfl call_13 (PO.list (impl_BoxOf_ok ha40)) rfl)) ?_
      refine ARL.q (v := (TAuto.av a11.1)) rfl rfl (hS.aliveC (k := 1) rfl) (Light.quiet (kAtA hS (j := 1) rfl rfl aggA_26 sizeA_26 rfl (nlt rfl) rfl)) ?_
      refine ARL.q0 (v := (.ptr b4 1)) rfl rfl (Light.quiet (opFieldAddr rfl fieldA_29_1 rfl rfl)) ?_
      refine ARL.q (v := (.list 1 (List.map (AV.int .i64) a11.2.loop))) rfl rfl (hS.aliveC (k := 0) rfl) (Light.quiet (kAt hS (j := 0) rfl rfl aggA_27 rfl rfl)) ?_
      obtain ⟨a44, ha44, hF⟩ := bindE hF
      refine ARL.q0 (v := (.list 1 (List.map (AV.int .i64) a44))) rfl rfl ((qCall rfl rfl call_13 (PO.list (impl_BoxOf_ok ha44)) rfl)) ?_
      refine ARL.q0 (v := (.list 1 (List.map (AV.int .i64) a40))) rfl rfl (Light.quiet (opAssign rfl rfl)) ?_
      refine ARL.q0 (v := (.list 1 (List.map (AV.int .i64) a44))) rfl rfl (Light.quiet (opAssign rfl rfl)) ?_
      refine ARL.done ?_
      refine AWP.seqD [(0, false), (1, false), (2, false), (3, false), (4, false), (5, false), (6, false), (7, false), (8, false)] mixed (by kernel_rfl) rfl ?_
      refine ARL.q (v := (TAuto.av a11.1)) rfl rfl (hS.aliveC (k := 1) rfl) (Light.quiet (kAtA hS (j := 1) rfl rfl aggA_26 sizeA_26 rfl (nlt rfl) rfl)) ?_
      refine ARL.q0 (v := (.list 1 (List.map (AV.int .i64) a40))) rfl rfl (Light.quiet (opMove rfl rfl)) ?_
      refine ARL.q0 (v := (.list 1 (List.map (AV.int .i64) a44))) rfl rfl (Light.quiet (opMove rfl rfl)) ?_
      obtain ⟨a48, ha48, hF⟩ := bindE hF
      refine ARL.q0 (v := (.bool a48)) rfl rfl ((qCall rfl rfl call_12 (impl_BoxTakes_ok ha48) rfl)) ?_
      refine ARL.q (v := (TAuto.av a11.1)) rfl rfl (hS.aliveC (k := 1) rfl) (Light.quiet (kAtA hS (j := 1) rfl rfl aggA_26 sizeA_26 rfl (nlt rfl) rfl)) ?_
      refine ARL.q (v := (TWord.av a11.2)) rfl rfl (hS.aliveC (k := 0) rfl) (Light.quiet (kAtA hS (j := 0) rfl rfl aggA_29 sizeA_29 rfl (nlt rfl) rfl)) ?_
      obtain ⟨a51, ha51, hF⟩ := bindE hF
      refine ARL.q0 (v := (.bool a51)) rfl rfl ((qCall rfl rfl call_14 (spec_AutoTakes_ok ha51) rfl)) ?_
      refine ARL.q0 (v := (.bool (a48 == a51))) rfl rfl (Light.quiet (opBoolEq rfl rfl rfl und_4 rfl)) ?_
      refine ARL.q0 (v := (.bool (a48 == a51))) rfl rfl (Light.quiet (opAssign rfl rfl)) ?_
      refine ARL.done ?_
      refine AWP.ret ?_
      obtain rfl := someE hF
      exact QRet.sole (v := (.bool (a48 == a51))) ⟨rfl, trivial⟩ rfl

end Go.Proofs.Ytcmbbpdepobnlaa
