/- Each of these functions of the program comes to just what its plain function says: FnExactReTakes. -/
import Derived.Test.YtpikdepigcmfnaaDReTakes
import Derived.Test.YtpikdepigcmfnaaFa
import Derived.Test.YtpikdepigcmfnaaKReOk
import Derived.Test.YtpikdepigcmfnaaKReNull
namespace Go.Proofs.Ytpikdepigcmfnaa
open Go Go.RowKit E
set_option linter.unusedVariables false
set_option maxRecDepth 10000 in
theorem laws_toIntS_ok {p0 : (List Int)} {r : (List Int)} (hF : laws_toIntS p0 = some r) : PO Try.prog 29 [(.list 1 (List.map (AV.int .i64) p0))] 1 (List.map (AV.int .i64) r) := by
  refine HC.enter Try.func29 rfl Try.ntmps29 (by simp) ?_
  have hS := Sep.void; unfold laws_toIntS at hF
  refine AWP.seqR rfl ?_
  have hS := hNil (s := 1) (f := (AV.int .i64)) hS
  refine ASL.q (v := .nil) rfl rfl (Light.quiet (opAssign rfl rfl)) ?_
  refine ASL.done ?_
  refine AWP.seqR rfl ?_
  refine ASL.q (v := (.list 1 (List.map (AV.int .i64) p0))) rfl rfl (Light.quiet (opMove rfl rfl)) ?_
  refine ASL.q (v := (.int .i64 (p0.length : Int))) rfl rfl (Light.quiet (opLenMap (f := (AV.int .i64)) rfl rfl rfl lenT_34 rfl)) ?_
  obtain ⟨z7, hz7, hF⟩ := bindE hF
  refine ASL.x rfl rfl (hMk (f := (AV.int .i64)) hS hz7 (by decide) rfl elemA_34 sizeA_3 bytesA_3 zeroA_3 rfl rfl (by decide) rfl rfl ?_); rintro v7 G2 hK hS
  refine ASL.q (v := v7) rfl rfl (Light.quiet (opAssign rfl rfl)) ?_
  refine ASL.done ?_
  refine AWP.seqM (fun e H => ∃ y4 : (List Int), E.Told e [(3, v7)] ∧ E.Sep H [.row 1 v7 (List.map (AV.int .i64) y4)] ∧ laws_toIntS.k0 y4 = some r) ?_ ?_
  · rintro e0 G5 ⟨y4, hT, hS, hF⟩; refine AWP.only _ hT ?_; unfold laws_toIntS.k0 at hF
    refine AWP.seqR rfl ?_
    refine ASL.q (v := v7) rfl rfl (Light.quiet (opMove rfl rfl)) ?_
    refine ASL.q (v := v7) rfl rfl (Light.quiet (opAssign rfl rfl)) ?_
    refine ASL.done ?_
    refine AWP.ret ?_
    obtain rfl := someE hF
    exact QRet.sole (v := v7) ⟨rfl, trivial⟩ (hS.get (k := 0) rfl)
  · skip
    refine AWP.seqR rfl ?_
    refine ASL.q (v := (.int .i64 0)) rfl rfl (Light.quiet (opAssign rfl rfl)) ?_
    refine ASL.done ?_
    refine AWP.block ?_
    obtain ⟨o10, hL9, hR11⟩ := bindE hF
    refine AWP.loopF (ω := Unit) hL9 (fun s w => [(0, (.list 1 (List.map (AV.int .i64) p0))), (3, v7), (4, (.int .i64 s.2))]) (fun s w => [.row 1 v7 (List.map (AV.int .i64) s.1)]) () ⟨rfl, rfl, rfl, trivial⟩ (hS.pick [0] rfl rfl) ?_
    rintro ⟨y6, x4_l0⟩ _ G12 hS x7 hF hx8
    try dsimp only at hS ⊢
    have hF : laws_toIntS.b0 p0 y6 x4_l0 = some x7 := hF; unfold laws_toIntS.b0 at hF
    refine AWP.seq ?_
    refine AWP.seqR rfl ?_
    refine ASL.q (v := (.int .i64 x4_l0)) rfl rfl (Light.quiet (opMove rfl rfl)) ?_
    refine ASL.q (v := (.list 1 (List.map (AV.int .i64) p0))) rfl rfl (Light.quiet (opMove rfl rfl)) ?_
    refine ASL.q (v := (.int .i64 (p0.length : Int))) rfl rfl (Light.quiet (opLenMap (f := (AV.int .i64)) rfl rfl rfl lenT_34 rfl)) ?_
    refine ASL.q (v := (.bool (decide (x4_l0 < ((p0.length : Int)))))) rfl rfl (Light.quiet (opInt rfl rfl rfl rfl)) ?_
    refine ASL.done ?_
    refine AWP.ifP hF rfl (fun hc13 hF => ?_) (fun hc13 hF => ?_)
    · skip
      refine AWP.skip ?_
      refine QThen.nrm ?_
      refine AWP.seq ?_
      refine AWP.block ?_
      refine AWP.lastR rfl ?_
      refine ASL.q (v := v7) rfl rfl (Light.quiet (opMove rfl rfl)) ?_
      refine ASL.q (v := (.int .i64 x4_l0)) rfl rfl (Light.quiet (opMove rfl rfl)) ?_
      refine ASL.q (v := (.list 1 (List.map (AV.int .i64) p0))) rfl rfl (Light.quiet (opMove rfl rfl)) ?_
      refine ASL.q (v := (.int .i64 x4_l0)) rfl rfl (Light.quiet (opMove rfl rfl)) ?_
      obtain ⟨a18, ha18, hF⟩ := bindE hF
      refine ASL.q (v := (.rptr [(.int .i64 a18)])) rfl rfl (Light.quiet (kIx (f := (AV.int .i64)) ha18 rfl rfl rfl elemA_34 sizeA_3 rfl)) ?_
      refine ASL.q (v := (.int .i64 a18)) rfl rfl (Light.quiet (opLoadR rfl aggA_3 rfl rfl)) ?_
      obtain ⟨m20, hm20, hF⟩ := bindE hF
      refine ASL.q (v := (ptrTo v7 m20 1)) rfl rfl (Light.quiet (kIxO hS (j := 0) rfl hm20 rfl rfl rfl elemA_34 sizeA_3)) ?_
      refine ASL.n rfl rfl (hSt (f := (AV.int .i64)) (a := a18) hS (j := 0) rfl hm20 rfl sizeA_3 rfl rfl ⟨rfl, rfl, rfl⟩ ?_); rintro G14 hS
      refine ASL.done ?_
      refine QBlock.nrm ?_
      refine QThen.nrm ?_
      refine AWP.lastR rfl ?_
      refine ASL.q (v := (.int .i64 x4_l0)) rfl rfl (Light.quiet (opMove rfl rfl)) ?_
      refine ASL.q (v := (.int .i64 (W (x4_l0 + 1)))) rfl rfl (Light.quiet (opInt rfl rfl rfl rfl)) ?_
      refine ASL.q (v := (.int .i64 (W (x4_l0 + 1)))) rfl rfl (Light.quiet (opAssign rfl rfl)) ?_
      refine ASL.done ?_
      refine QThen.nrm ?_
      exact ⟨((y6.set m20 a18), (W (x4_l0 + 1))), (), (someE hF).symm, ⟨rfl, rfl, rfl, trivial⟩, (hS.pick [0] rfl rfl)⟩
    · skip
      refine AWP.exit ?_
      refine QThen.ext ?_
      refine QThen.ext ?_
      refine QBlock.hit ?_
      obtain rfl := (hx8 _ (someE hF).symm)
      have hF := hR11
      refine QThen.nrm ?_
      exact ⟨y6, ⟨rfl, trivial⟩, (hS.pick [0] rfl rfl), hF⟩

set_option maxRecDepth 10000 in
theorem spec_l11Then_ok {p0 : (List Bool)} {p1 : (List Bool)} {p2 : Int} {r : (List Bool)} (hF : spec_l11Then p0 p1 p2 = some r) : PO Try.prog 109 [(.list 1 (List.map AV.bool p0)), (.list 1 (List.map AV.bool p1)), (.int .i64 p2)] 1 (List.map AV.bool r) := by
  refine HC.enter Try.func109 rfl Try.ntmps109 (by simp) ?_
  have hS := Sep.void; unfold spec_l11Then at hF
  refine AWP.seqR rfl ?_
  have hS := hNil (s := 1) (f := AV.bool) hS
  refine ASL.q (v := .nil) rfl rfl (Light.quiet (opAssign rfl rfl)) ?_
  refine ASL.done ?_
  refine AWP.seqR rfl ?_
  refine ASL.q (v := (.int .i64 p2)) rfl rfl (Light.quiet (opMove rfl rfl)) ?_
  refine ASL.q (v := (.int .i64 p2)) rfl rfl (Light.quiet (opMove rfl rfl)) ?_
  refine ASL.q (v := (.int .i64 (W (p2 * p2)))) rfl rfl (Light.quiet (opInt rfl rfl rfl rfl)) ?_
  obtain ⟨z14, hz14, hF⟩ := bindE hF
  refine ASL.x rfl rfl (hMk (f := AV.bool) hS hz14 (by decide) rfl elemA_86 sizeA_4 bytesA_4 zeroA_4 rfl rfl (by decide) rfl rfl ?_); rintro v14 G2 hK hS
  refine ASL.q (v := v14) rfl rfl (Light.quiet (opAssign rfl rfl)) ?_
  refine ASL.done ?_
  refine AWP.seqM (fun e H => ∃ y4 : (List Bool), E.Told e [(7, v14)] ∧ E.Sep H [.row 1 v14 (List.map AV.bool y4)] ∧ spec_l11Then.k0 y4 = some r) ?_ ?_
  · rintro e0 G5 ⟨y4, hT, hS, hF⟩; refine AWP.only _ hT ?_; unfold spec_l11Then.k0 at hF
    refine AWP.seqR rfl ?_
    refine ASL.q (v := v14) rfl rfl (Light.quiet (opMove rfl rfl)) ?_
    refine ASL.q (v := v14) rfl rfl (Light.quiet (opAssign rfl rfl)) ?_
    refine ASL.done ?_
    refine AWP.ret ?_
    obtain rfl := someE hF
    exact QRet.sole (v := v14) ⟨rfl, trivial⟩ (hS.get (k := 0) rfl)
  · skip
    refine AWP.seqR rfl ?_
    refine ASL.q (v := (.int .i64 0)) rfl rfl (Light.quiet (opAssign rfl rfl)) ?_
    refine ASL.done ?_
    refine AWP.block ?_
    obtain ⟨o10, hL9, hR11⟩ := bindE hF
    refine AWP.loopF (ω := Unit) hL9 (fun s w => [(0, (.list 1 (List.map AV.bool p0))), (1, (.list 1 (List.map AV.bool p1))), (2, (.int .i64 p2)), (7, v14), (8, (.int .i64 s.2))]) (fun s w => [.row 1 v14 (List.map AV.bool s.1)]) () ⟨rfl, rfl, rfl, rfl, rfl, trivial⟩ (hS.pick [0] rfl rfl) ?_
    rintro ⟨y6, x8_l0⟩ _ G12 hS x7 hF hx8
    try dsimp only at hS ⊢
    have hF : spec_l11Then.b0 p2 p0 p1 y6 x8_l0 = some x7 := hF; unfold spec_l11Then.b0 at hF
    refine AWP.seq ?_
    refine AWP.seqR rfl ?_
    refine ASL.q (v := (.int .i64 x8_l0)) rfl rfl (Light.quiet (opMove rfl rfl)) ?_
    refine ASL.q (v := (.int .i64 p2)) rfl rfl (Light.quiet (opMove rfl rfl)) ?_
    refine ASL.q (v := (.bool (decide (x8_l0 < p2)))) rfl rfl (Light.quiet (opInt rfl rfl rfl rfl)) ?_
    refine ASL.done ?_
    refine AWP.ifP hF rfl (fun hc13 hF => ?_) (fun hc13 hF => ?_)
    · skip
      refine AWP.skip ?_
      refine QThen.nrm ?_
      refine AWP.seqM (fun e H => ∃ y14 : (List Bool), E.Told e [(0, (.list 1 (List.map AV.bool p0))), (1, (.list 1 (List.map AV.bool p1))), (2, (.int .i64 p2)), (7, v14), (8, (.int .i64 x8_l0))] ∧ E.Sep H [.row 1 v14 (List.map AV.bool y14)] ∧ spec_l11Then.k1 x8_l0 y14 = some x7) ?_ ?_
      · rintro e0 G15 ⟨y14, hT, hS, hF⟩; refine AWP.only _ hT ?_; unfold spec_l11Then.k1 at hF
        refine AWP.lastR rfl ?_
        refine ASL.q (v := (.int .i64 x8_l0)) rfl rfl (Light.quiet (opMove rfl rfl)) ?_
        refine ASL.q (v := (.int .i64 (W (x8_l0 + 1)))) rfl rfl (Light.quiet (opInt rfl rfl rfl rfl)) ?_
        refine ASL.q (v := (.int .i64 (W (x8_l0 + 1)))) rfl rfl (Light.quiet (opAssign rfl rfl)) ?_
        refine ASL.done ?_
        refine QThen.nrm ?_
        exact ⟨(y14, (W (x8_l0 + 1))), (), (someE hF).symm, ⟨rfl, rfl, rfl, rfl, rfl, trivial⟩, (hS.pick [0] rfl rfl)⟩
      · skip
        refine AWP.block ?_
        refine AWP.seqR rfl ?_
        refine ASL.q (v := (.int .i64 x8_l0)) rfl rfl (Light.quiet (opMove rfl rfl)) ?_
        refine ASL.q (v := (.int .i64 x8_l0)) rfl rfl (Light.quiet (opAssign rfl rfl)) ?_
        refine ASL.done ?_
        refine AWP.block ?_
        obtain ⟨o20, hL19, hR21⟩ := bindE hF
        refine AWP.loopF (ω := Unit) hL19 (fun s w => [(0, (.list 1 (List.map AV.bool p0))), (1, (.list 1 (List.map AV.bool p1))), (2, (.int .i64 p2)), (7, v14), (8, (.int .i64 x8_l0)), (9, (.int .i64 s.2))]) (fun s w => [.row 1 v14 (List.map AV.bool s.1)]) () ⟨rfl, rfl, rfl, rfl, rfl, rfl, trivial⟩ (hS.pick [0] rfl rfl) ?_
        rintro ⟨y16, x9_l1⟩ _ G22 hS x17 hF hx18
        try dsimp only at hS ⊢
        have hF : spec_l11Then.b1 p2 p0 x8_l0 p1 y16 x9_l1 = some x17 := hF; unfold spec_l11Then.b1 at hF
        refine AWP.seq ?_
        refine AWP.seqR rfl ?_
        refine ASL.q (v := (.int .i64 x9_l1)) rfl rfl (Light.quiet (opMove rfl rfl)) ?_
        refine ASL.q (v := (.int .i64 p2)) rfl rfl (Light.quiet (opMove rfl rfl)) ?_
        refine ASL.q (v := (.bool (decide (x9_l1 < p2)))) rfl rfl (Light.quiet (opInt rfl rfl rfl rfl)) ?_
        refine ASL.done ?_
        refine AWP.ifP hF rfl (fun hc23 hF => ?_) (fun hc23 hF => ?_)
        · skip
          refine AWP.skip ?_
          refine QThen.nrm ?_
          refine AWP.seqM (fun e H => ∃ y24 : (List Bool), E.Told e [(0, (.list 1 (List.map AV.bool p0))), (1, (.list 1 (List.map AV.bool p1))), (2, (.int .i64 p2)), (7, v14), (8, (.int .i64 x8_l0)), (9, (.int .i64 x9_l1))] ∧ E.Sep H [.row 1 v14 (List.map AV.bool y24)] ∧ spec_l11Then.k2 x9_l1 y24 = some x17) ?_ ?_
          · rintro e0 G25 ⟨y24, hT, hS, hF⟩; refine AWP.only _ hT ?_; unfold spec_l11Then.k2 at hF
            refine AWP.lastR rfl ?_
            refine ASL.q (v := (.int .i64 x9_l1)) rfl rfl (Light.quiet (opMove rfl rfl)) ?_
            refine ASL.q (v := (.int .i64 (W (x9_l1 + 1)))) rfl rfl (Light.quiet (opInt rfl rfl rfl rfl)) ?_
            refine ASL.q (v := (.int .i64 (W (x9_l1 + 1)))) rfl rfl (Light.quiet (opAssign rfl rfl)) ?_
            refine ASL.done ?_
            refine QThen.nrm ?_
            exact ⟨(y24, (W (x9_l1 + 1))), (), (someE hF).symm, ⟨rfl, rfl, rfl, rfl, rfl, rfl, trivial⟩, (hS.pick [0] rfl rfl)⟩
          · skip
            refine AWP.block ?_
            refine AWP.seqR rfl ?_
            refine ASL.q (v := (.int .i64 x9_l1)) rfl rfl (Light.quiet (opMove rfl rfl)) ?_
            refine ASL.q (v := (.int .i64 x9_l1)) rfl rfl (Light.quiet (opAssign rfl rfl)) ?_
            refine ASL.done ?_
            refine AWP.block ?_
            obtain ⟨o30, hL29, hR31⟩ := bindE hF
            refine AWP.loopF (ω := Unit) hL29 (fun s w => [(0, (.list 1 (List.map AV.bool p0))), (1, (.list 1 (List.map AV.bool p1))), (2, (.int .i64 p2)), (7, v14), (8, (.int .i64 x8_l0)), (9, (.int .i64 x9_l1)), (10, (.int .i64 s.2))]) (fun s w => [.row 1 v14 (List.map AV.bool s.1)]) () ⟨rfl, rfl, rfl, rfl, rfl, rfl, rfl, trivial⟩ (hS.pick [0] rfl rfl) ?_
            rintro ⟨y26, x10_l2⟩ _ G32 hS x27 hF hx28
            try dsimp only at hS ⊢
            have hF : spec_l11Then.b2 p2 p0 x8_l0 x9_l1 p1 y26 x10_l2 = some x27 := hF; unfold spec_l11Then.b2 at hF
            refine AWP.seq ?_
            refine AWP.seqR rfl ?_
            refine ASL.q (v := (.int .i64 x10_l2)) rfl rfl (Light.quiet (opMove rfl rfl)) ?_
            refine ASL.q (v := (.int .i64 p2)) rfl rfl (Light.quiet (opMove rfl rfl)) ?_
            refine ASL.q (v := (.bool (decide (x10_l2 < p2)))) rfl rfl (Light.quiet (opInt rfl rfl rfl rfl)) ?_
            obtain ⟨c30, hc30, hF⟩ := bndE hF
            refine ASL.q (v := (.bool c30)) rfl rfl ((Quiet.cast (Light.quiet (opMove rfl rfl)) (congrArg AV.bool hc30.symm))) ?_
            refine ASL.g (v := (.list 1 (List.map AV.bool p0))) (.bool c30) true rfl (wT _) rfl (fun hG => by have q0 := hG; subst q0; exact Light.quiet (opMove rfl rfl)) ?_
            refine ASL.g (v := (.int .i64 x8_l0)) (.bool c30) true rfl (wT _) rfl (fun hG => by have q0 := hG; subst q0; exact Light.quiet (opMove rfl rfl)) ?_
            refine ASL.g (v := (.int .i64 p2)) (.bool c30) true rfl (wT _) rfl (fun hG => by have q0 := hG; subst q0; exact Light.quiet (opMove rfl rfl)) ?_
            refine ASL.g (v := (.int .i64 (W (x8_l0 * p2)))) (.bool c30) true rfl (wT _) rfl (fun hG => by have q0 := hG; subst q0; exact Light.quiet (opInt rfl rfl rfl rfl)) ?_
            refine ASL.g (v := (.int .i64 x9_l1)) (.bool c30) true rfl (wT _) rfl (fun hG => by have q0 := hG; subst q0; exact Light.quiet (opMove rfl rfl)) ?_
            refine ASL.g (v := (.int .i64 (W (((W (x8_l0 * p2))) + x9_l1)))) (.bool c30) true rfl (wT _) rfl (fun hG => by have q0 := hG; subst q0; exact Light.quiet (opInt rfl rfl rfl rfl)) ?_
            obtain ⟨a37, ha37, hF⟩ := bindE hF
            refine ASL.g (v := (.rptr [(.bool a37)])) (.bool c30) true rfl (wT _) rfl (fun hG => by have q0 := hG; subst q0; exact Light.quiet (kIx (f := AV.bool) (whenE ha37) rfl rfl rfl elemA_86 sizeA_4 rfl)) ?_
            refine ASL.g (v := (.bool a37)) (.bool c30) true rfl (wT _) rfl (fun hG => by have q0 := hG; subst q0; exact Light.quiet (opLoadR rfl aggA_4 rfl rfl)) ?_
            refine ASL.q (v := (.bool (c30 && a37))) rfl rfl (Light.quiet (opPick (b := c30) rfl rfl (by cases c30 <;> rfl))) ?_
            refine ASL.done ?_
            refine AWP.ifB hF rfl (fun hc33 hF => ?_) (fun hc33 hF => ?_)
            · skip
              refine AWP.skip ?_
              refine QThen.nrm ?_
              refine AWP.seq ?_
              refine AWP.block ?_
              refine AWP.seqR rfl ?_
              refine ASL.q (v := (.list 1 (List.map AV.bool p1))) rfl rfl (Light.quiet (opMove rfl rfl)) ?_
              refine ASL.q (v := (.int .i64 x9_l1)) rfl rfl (Light.quiet (opMove rfl rfl)) ?_
              refine ASL.q (v := (.int .i64 p2)) rfl rfl (Light.quiet (opMove rfl rfl)) ?_
              refine ASL.q (v := (.int .i64 (W (x9_l1 * p2)))) rfl rfl (Light.quiet (opInt rfl rfl rfl rfl)) ?_
              refine ASL.q (v := (.int .i64 x10_l2)) rfl rfl (Light.quiet (opMove rfl rfl)) ?_
              refine ASL.q (v := (.int .i64 (W (((W (x9_l1 * p2))) + x10_l2)))) rfl rfl (Light.quiet (opInt rfl rfl rfl rfl)) ?_
              obtain ⟨a48, ha48, hF⟩ := bindE hF
              refine ASL.q (v := (.rptr [(.bool a48)])) rfl rfl (Light.quiet (kIx (f := AV.bool) ha48 rfl rfl rfl elemA_86 sizeA_4 rfl)) ?_
              refine ASL.q (v := (.bool a48)) rfl rfl (Light.quiet (opLoadR rfl aggA_4 rfl rfl)) ?_
              refine ASL.done ?_
              refine AWP.ifB hF rfl (fun hc34 hF => ?_) (fun hc34 hF => ?_)
              · skip
                refine AWP.lastR rfl ?_
                refine ASL.q (v := v14) rfl rfl (Light.quiet (opMove rfl rfl)) ?_
                refine ASL.q (v := (.int .i64 x8_l0)) rfl rfl (Light.quiet (opMove rfl rfl)) ?_
                refine ASL.q (v := (.int .i64 p2)) rfl rfl (Light.quiet (opMove rfl rfl)) ?_
                refine ASL.q (v := (.int .i64 (W (x8_l0 * p2)))) rfl rfl (Light.quiet (opInt rfl rfl rfl rfl)) ?_
                refine ASL.q (v := (.int .i64 x10_l2)) rfl rfl (Light.quiet (opMove rfl rfl)) ?_
                refine ASL.q (v := (.int .i64 (W (((W (x8_l0 * p2))) + x10_l2)))) rfl rfl (Light.quiet (opInt rfl rfl rfl rfl)) ?_
                obtain ⟨m56, hm56, hF⟩ := bindE hF
                refine ASL.q (v := (ptrTo v14 m56 1)) rfl rfl (Light.quiet (kIxO hS (j := 0) rfl hm56 rfl rfl rfl elemA_86 sizeA_4)) ?_
                refine ASL.n rfl rfl (hSt (f := AV.bool) (a := true) hS (j := 0) rfl hm56 rfl sizeA_4 rfl rfl ⟨rfl, rfl, rfl⟩ ?_); rintro G35 hS
                refine ASL.done ?_
                refine QBlock.nrm ?_
                refine QThen.nrm ?_
                refine AWP.lastR rfl ?_
                refine ASL.q (v := (.int .i64 x10_l2)) rfl rfl (Light.quiet (opMove rfl rfl)) ?_
                refine ASL.q (v := (.int .i64 (W (x10_l2 + 1)))) rfl rfl (Light.quiet (opInt rfl rfl rfl rfl)) ?_
                refine ASL.q (v := (.int .i64 (W (x10_l2 + 1)))) rfl rfl (Light.quiet (opAssign rfl rfl)) ?_
                refine ASL.done ?_
                refine QThen.nrm ?_
                exact ⟨((y26.set m56 true), (W (x10_l2 + 1))), (), (someE hF).symm, ⟨rfl, rfl, rfl, rfl, rfl, rfl, rfl, trivial⟩, (hS.pick [0] rfl rfl)⟩
              · skip
                refine AWP.skip ?_
                refine QBlock.nrm ?_
                refine QThen.nrm ?_
                refine AWP.lastR rfl ?_
                refine ASL.q (v := (.int .i64 x10_l2)) rfl rfl (Light.quiet (opMove rfl rfl)) ?_
                refine ASL.q (v := (.int .i64 (W (x10_l2 + 1)))) rfl rfl (Light.quiet (opInt rfl rfl rfl rfl)) ?_
                refine ASL.q (v := (.int .i64 (W (x10_l2 + 1)))) rfl rfl (Light.quiet (opAssign rfl rfl)) ?_
                refine ASL.done ?_
                refine QThen.nrm ?_
                exact ⟨(y26, (W (x10_l2 + 1))), (), (someE hF).symm, ⟨rfl, rfl, rfl, rfl, rfl, rfl, rfl, trivial⟩, (hS.pick [0] rfl rfl)⟩
            · skip
              refine AWP.exit ?_
              refine QThen.ext ?_
              refine QThen.ext ?_
              refine QBlock.hit ?_
              obtain rfl := (hx28 _ (someE hF).symm)
              have hF := hR31
              refine QBlock.nrm ?_
              refine QThen.nrm ?_
              exact ⟨y26, ⟨rfl, rfl, rfl, rfl, rfl, rfl, trivial⟩, (hS.pick [0] rfl rfl), hF⟩
        · skip
          refine AWP.exit ?_
          refine QThen.ext ?_
          refine QThen.ext ?_
          refine QBlock.hit ?_
          obtain rfl := (hx18 _ (someE hF).symm)
          have hF := hR21
          refine QBlock.nrm ?_
          refine QThen.nrm ?_
          exact ⟨y16, ⟨rfl, rfl, rfl, rfl, rfl, trivial⟩, (hS.pick [0] rfl rfl), hF⟩
    · skip
      refine AWP.exit ?_
      refine QThen.ext ?_
      refine QThen.ext ?_
      refine QBlock.hit ?_
      obtain rfl := (hx8 _ (someE hF).symm)
      have hF := hR11
      refine QThen.nrm ?_
      exact ⟨y6, ⟨rfl, trivial⟩, (hS.pick [0] rfl rfl), hF⟩

set_option maxRecDepth 10000 in
theorem spec_l11Both_ok {p0 : (List Bool)} {p1 : (List Bool)} {r : (List Bool)} (hF : spec_l11Both p0 p1 = some r) : PO Try.prog 110 [(.list 1 (List.map AV.bool p0)), (.list 1 (List.map AV.bool p1))] 1 (List.map AV.bool r) := by
  refine HC.enter Try.func110 rfl Try.ntmps110 (by simp) ?_
  have hS := Sep.void; unfold spec_l11Both at hF
  refine AWP.seqR rfl ?_
  have hS := hNil (s := 1) (f := AV.bool) hS
  refine ASL.q (v := .nil) rfl rfl (Light.quiet (opAssign rfl rfl)) ?_
  refine ASL.done ?_
  refine AWP.seqR rfl ?_
  refine ASL.q (v := (.list 1 (List.map AV.bool p0))) rfl rfl (Light.quiet (opMove rfl rfl)) ?_
  refine ASL.q (v := (.int .i64 (p0.length : Int))) rfl rfl (Light.quiet (opLenMap (f := AV.bool) rfl rfl rfl lenT_86 rfl)) ?_
  obtain ⟨z9, hz9, hF⟩ := bindE hF
  refine ASL.x rfl rfl (hMk (f := AV.bool) hS hz9 (by decide) rfl elemA_86 sizeA_4 bytesA_4 zeroA_4 rfl rfl (by decide) rfl rfl ?_); rintro v9 G2 hK hS
  refine ASL.q (v := v9) rfl rfl (Light.quiet (opAssign rfl rfl)) ?_
  refine ASL.done ?_
  refine AWP.seqM (fun e H => ∃ y4 : (List Bool), E.Told e [(5, v9)] ∧ E.Sep H [.row 1 v9 (List.map AV.bool y4)] ∧ spec_l11Both.k0 y4 = some r) ?_ ?_
  · rintro e0 G5 ⟨y4, hT, hS, hF⟩; refine AWP.only _ hT ?_; unfold spec_l11Both.k0 at hF
    refine AWP.seqR rfl ?_
    refine ASL.q (v := v9) rfl rfl (Light.quiet (opMove rfl rfl)) ?_
    refine ASL.q (v := v9) rfl rfl (Light.quiet (opAssign rfl rfl)) ?_
    refine ASL.done ?_
    refine AWP.ret ?_
    obtain rfl := someE hF
    exact QRet.sole (v := v9) ⟨rfl, trivial⟩ (hS.get (k := 0) rfl)
  · skip
    refine AWP.seqR rfl ?_
    refine ASL.q (v := (.int .i64 0)) rfl rfl (Light.quiet (opAssign rfl rfl)) ?_
    refine ASL.done ?_
    refine AWP.block ?_
    obtain ⟨o10, hL9, hR11⟩ := bindE hF
    refine AWP.loopF (ω := Unit) hL9 (fun s w => [(0, (.list 1 (List.map AV.bool p0))), (1, (.list 1 (List.map AV.bool p1))), (5, v9), (6, (.int .i64 s.2))]) (fun s w => [.row 1 v9 (List.map AV.bool s.1)]) () ⟨rfl, rfl, rfl, rfl, trivial⟩ (hS.pick [0] rfl rfl) ?_
    rintro ⟨y6, x6_l0⟩ _ G12 hS x7 hF hx8
    try dsimp only at hS ⊢
    have hF : spec_l11Both.b0 p0 p1 y6 x6_l0 = some x7 := hF; unfold spec_l11Both.b0 at hF
    refine AWP.seq ?_
    refine AWP.seqR rfl ?_
    refine ASL.q (v := (.int .i64 x6_l0)) rfl rfl (Light.quiet (opMove rfl rfl)) ?_
    refine ASL.q (v := (.list 1 (List.map AV.bool p0))) rfl rfl (Light.quiet (opMove rfl rfl)) ?_
    refine ASL.q (v := (.int .i64 (p0.length : Int))) rfl rfl (Light.quiet (opLenMap (f := AV.bool) rfl rfl rfl lenT_86 rfl)) ?_
    refine ASL.q (v := (.bool (decide (x6_l0 < ((p0.length : Int)))))) rfl rfl (Light.quiet (opInt rfl rfl rfl rfl)) ?_
    refine ASL.done ?_
    refine AWP.ifP hF rfl (fun hc13 hF => ?_) (fun hc13 hF => ?_)
    · skip
      refine AWP.skip ?_
      refine QThen.nrm ?_
      refine AWP.seq ?_
      refine AWP.block ?_
      refine AWP.lastR rfl ?_
      refine ASL.q (v := v9) rfl rfl (Light.quiet (opMove rfl rfl)) ?_
      refine ASL.q (v := (.int .i64 x6_l0)) rfl rfl (Light.quiet (opMove rfl rfl)) ?_
      refine ASL.q (v := (.list 1 (List.map AV.bool p0))) rfl rfl (Light.quiet (opMove rfl rfl)) ?_
      refine ASL.q (v := (.int .i64 x6_l0)) rfl rfl (Light.quiet (opMove rfl rfl)) ?_
      obtain ⟨a20, ha20, hF⟩ := bindE hF
      refine ASL.q (v := (.rptr [(.bool a20)])) rfl rfl (Light.quiet (kIx (f := AV.bool) ha20 rfl rfl rfl elemA_86 sizeA_4 rfl)) ?_
      refine ASL.q (v := (.bool a20)) rfl rfl (Light.quiet (opLoadR rfl aggA_4 rfl rfl)) ?_
      refine ASL.q (v := (.bool a20)) rfl rfl (Light.quiet (opMove rfl rfl)) ?_
      refine ASL.g (v := (.list 1 (List.map AV.bool p1))) (.bool a20) false rfl (wF _) rfl (fun hG => by have q0 := gN hG; subst q0; exact Light.quiet (opMove rfl rfl)) ?_
      refine ASL.g (v := (.int .i64 x6_l0)) (.bool a20) false rfl (wF _) rfl (fun hG => by have q0 := gN hG; subst q0; exact Light.quiet (opMove rfl rfl)) ?_
      obtain ⟨a25, ha25, hF⟩ := bindE hF
      refine ASL.g (v := (.rptr [(.bool a25)])) (.bool a20) false rfl (wF _) rfl (fun hG => by have q0 := gN hG; subst q0; exact Light.quiet (kIx (f := AV.bool) (whenE ha25) rfl rfl rfl elemA_86 sizeA_4 rfl)) ?_
      refine ASL.g (v := (.bool a25)) (.bool a20) false rfl (wF _) rfl (fun hG => by have q0 := gN hG; subst q0; exact Light.quiet (opLoadR rfl aggA_4 rfl rfl)) ?_
      refine ASL.q (v := (.bool (a20 || a25))) rfl rfl (Light.quiet (opPick (b := a20) rfl rfl (by cases a20 <;> rfl))) ?_
      obtain ⟨m28, hm28, hF⟩ := bindE hF
      refine ASL.q (v := (ptrTo v9 m28 1)) rfl rfl (Light.quiet (kIxO hS (j := 0) rfl hm28 rfl rfl rfl elemA_86 sizeA_4)) ?_
      refine ASL.n rfl rfl (hSt (f := AV.bool) (a := (a20 || a25)) hS (j := 0) rfl hm28 rfl sizeA_4 rfl rfl ⟨rfl, rfl, rfl⟩ ?_); rintro G14 hS
      refine ASL.done ?_
      refine QBlock.nrm ?_
      refine QThen.nrm ?_
      refine AWP.lastR rfl ?_
      refine ASL.q (v := (.int .i64 x6_l0)) rfl rfl (Light.quiet (opMove rfl rfl)) ?_
      refine ASL.q (v := (.int .i64 (W (x6_l0 + 1)))) rfl rfl (Light.quiet (opInt rfl rfl rfl rfl)) ?_
      refine ASL.q (v := (.int .i64 (W (x6_l0 + 1)))) rfl rfl (Light.quiet (opAssign rfl rfl)) ?_
      refine ASL.done ?_
      refine QThen.nrm ?_
      exact ⟨((y6.set m28 ((a20 || a25))), (W (x6_l0 + 1))), (), (someE hF).symm, ⟨rfl, rfl, rfl, rfl, trivial⟩, (hS.pick [0] rfl rfl)⟩
    · skip
      refine AWP.exit ?_
      refine QThen.ext ?_
      refine QThen.ext ?_
      refine QBlock.hit ?_
      obtain rfl := (hx8 _ (someE hF).symm)
      have hF := hR11
      refine QThen.nrm ?_
      exact ⟨y6, ⟨rfl, trivial⟩, (hS.pick [0] rfl rfl), hF⟩

set_option maxRecDepth 10000 in
theorem spec_l11Spans_ok {p0 : (List TNode)} {p1 : (List Int)} {r : (List (List Bool))} (hF : spec_l11Spans p0 p1 = some r) : PO Try.prog 70 [(.list 3 (List.map TNode.av p0)), (.list 1 (List.map (AV.int .i64) p1))] 1 (List.map (fun xs : (List Bool) => AV.list 1 (List.map AV.bool xs)) r) := by
  refine HC.enter Try.func70 rfl Try.ntmps70 (by simp) ?_
  have hS := Sep.void; unfold spec_l11Spans at hF
  refine AWP.seqR rfl ?_
  have hS := hNil (s := 1) (f := (fun xs : (List Bool) => AV.list 1 (List.map AV.bool xs))) hS
  refine ASL.q (v := .nil) rfl rfl (Light.quiet (opAssign rfl rfl)) ?_
  refine ASL.done ?_
  refine AWP.seqR rfl ?_
  refine ASL.q (v := (.list 1 (List.map (AV.int .i64) p1))) rfl rfl (Light.quiet (opMove rfl rfl)) ?_
  refine ASL.q (v := (.int .i64 (p1.length : Int))) rfl rfl (Light.quiet (opLenMap (f := (AV.int .i64)) rfl rfl rfl lenT_34 rfl)) ?_
  refine ASL.q (v := (.int .i64 (W (((p1.length : Int)) + 1)))) rfl rfl (Light.quiet (opInt rfl rfl rfl rfl)) ?_
  refine ASL.q (v := (.int .i64 (W (((p1.length : Int)) + 1)))) rfl rfl (Light.quiet (opAssign rfl rfl)) ?_
  refine ASL.done ?_
  refine AWP.seqR rfl ?_
  refine ASL.x rfl rfl (hLit (f := (fun xs : (List Bool) => AV.list 1 (List.map AV.bool xs))) (zs := []) hS rfl rfl elemA_87 sizeA_86 zeroA_86 rfl rfl rfl rfl (by simp [cells]) (nlt rfl) ?_); rintro v16 G2 hK hS
  refine ASL.q (v := v16) rfl rfl (Light.quiet (opAssign rfl rfl)) ?_
  refine ASL.done ?_
  refine AWP.seqM (fun e H => ∃ y4 : (List (List Bool)), ∃ w5 : AV, E.Told e [(6, w5)] ∧ E.Sep H [.row 1 w5 (List.map (fun xs : (List Bool) => AV.list 1 (List.map AV.bool xs)) y4)] ∧ spec_l11Spans.k0 y4 = some r) ?_ ?_
  · rintro e0 G7 ⟨y4, w5, hT, hS, hF⟩; refine AWP.only _ hT ?_; unfold spec_l11Spans.k0 at hF
    refine AWP.seqR rfl ?_
    refine ASL.q (v := w5) rfl rfl (Light.quiet (opMove rfl rfl)) ?_
    refine ASL.q (v := w5) rfl rfl (Light.quiet (opAssign rfl rfl)) ?_
    refine ASL.done ?_
    refine AWP.ret ?_
    obtain rfl := someE hF
    exact QRet.sole (v := w5) ⟨rfl, trivial⟩ (hS.get (k := 0) rfl)
  · skip
    refine AWP.seqR rfl ?_
    refine ASL.q (v := (.int .i64 0)) rfl rfl (Light.quiet (opAssign rfl rfl)) ?_
    refine ASL.done ?_
    refine AWP.block ?_
    obtain ⟨o14, hL13, hR15⟩ := bindE hF
    refine AWP.loopF (ω := AV) hL13 (fun s w => [(0, (.list 3 (List.map TNode.av p0))), (1, (.list 1 (List.map (AV.int .i64) p1))), (5, (.int .i64 (W (((p1.length : Int)) + 1)))), (6, w), (7, (.int .i64 s.2))]) (fun s w => [.row 1 w (List.map (fun xs : (List Bool) => AV.list 1 (List.map AV.bool xs)) s.1)]) v16 ⟨rfl, rfl, rfl, rfl, rfl, trivial⟩ (hS.pick [0] rfl rfl) ?_
    rintro ⟨y8, x7_l0⟩ w9 G16 hS x11 hF hx12
    try dsimp only at hS ⊢
    have hF : spec_l11Spans.b0 p0 p1 y8 x7_l0 = some x11 := hF; unfold spec_l11Spans.b0 at hF
    refine AWP.seq ?_
    refine AWP.seqR rfl ?_
    refine ASL.q (v := (.int .i64 x7_l0)) rfl rfl (Light.quiet (opMove rfl rfl)) ?_
    refine ASL.q (v := (.list 3 (List.map TNode.av p0))) rfl rfl (Light.quiet (opMove rfl rfl)) ?_
    refine ASL.q (v := (.int .i64 (p0.length : Int))) rfl rfl (Light.quiet (opLenMap (f := TNode.av) rfl rfl rfl lenT_25 rfl)) ?_
    refine ASL.q (v := (.bool (decide (x7_l0 < ((p0.length : Int)))))) rfl rfl (Light.quiet (opInt rfl rfl rfl rfl)) ?_
    refine ASL.done ?_
    refine AWP.ifP hF rfl (fun hc17 hF => ?_) (fun hc17 hF => ?_)
    · skip
      refine AWP.skip ?_
      refine QThen.nrm ?_
      refine AWP.seqM (fun e H => ∃ y18 : (List (List Bool)), ∃ w19 : AV, E.Told e [(0, (.list 3 (List.map TNode.av p0))), (1, (.list 1 (List.map (AV.int .i64) p1))), (5, (.int .i64 (W (((p1.length : Int)) + 1)))), (6, w19), (7, (.int .i64 x7_l0))] ∧ E.Sep H [.row 1 w19 (List.map (fun xs : (List Bool) => AV.list 1 (List.map AV.bool xs)) y18)] ∧ spec_l11Spans.k1 x7_l0 y18 = some x11) ?_ ?_
      · rintro e0 G21 ⟨y18, w19, hT, hS, hF⟩; refine AWP.only _ hT ?_; unfold spec_l11Spans.k1 at hF
        refine AWP.lastR rfl ?_
        refine ASL.q (v := (.int .i64 x7_l0)) rfl rfl (Light.quiet (opMove rfl rfl)) ?_
        refine ASL.q (v := (.int .i64 (W (x7_l0 + 1)))) rfl rfl (Light.quiet (opInt rfl rfl rfl rfl)) ?_
        refine ASL.q (v := (.int .i64 (W (x7_l0 + 1)))) rfl rfl (Light.quiet (opAssign rfl rfl)) ?_
        refine ASL.done ?_
        refine QThen.nrm ?_
        exact ⟨(y18, (W (x7_l0 + 1))), w19, (someE hF).symm, ⟨rfl, rfl, rfl, rfl, rfl, trivial⟩, (hS.pick [0] rfl rfl)⟩
      · skip
        refine AWP.block ?_
        refine AWP.seqR rfl ?_
        refine ASL.q (v := (.list 3 (List.map TNode.av p0))) rfl rfl (Light.quiet (opMove rfl rfl)) ?_
        refine ASL.q (v := (.int .i64 x7_l0)) rfl rfl (Light.quiet (opMove rfl rfl)) ?_
        obtain ⟨a25, ha25, hF⟩ := bindE hF
        refine ASL.q (v := (.rptr [(.int .i64 a25.kind), (.int .i64 a25.a), (.int .i64 a25.b)])) rfl rfl (Light.quiet (kIx (f := TNode.av) ha25 rfl rfl rfl elemA_25 sizeA_54 rfl)) ?_
        refine ASL.q (v := (TNode.av a25)) rfl rfl (Light.quiet (opLoadRA rfl aggA_54 sizeA_54 rfl (nlt rfl) rfl)) ?_
        refine ASL.x rfl rfl (hNewZ hS [(.int .i64 0), (.int .i64 0), (.int .i64 0)] rfl zeroA_54 ⟨.inl rfl, .inl rfl, .inl rfl, trivial⟩ ?_); rintro b8 G22 hK hS
        refine ASL.n rfl rfl (hPutA hS (j := 0) rfl rfl sizeA_54 rfl rfl rfl rfl rfl (nlt rfl) ?_); rintro G24 hS
        refine ASL.done ?_
        refine AWP.seqR rfl ?_
        refine ASL.q (v := (.int .i64 (W (((p1.length : Int)) + 1)))) rfl rfl (Light.quiet (opMove rfl rfl)) ?_
        refine ASL.q (v := (.int .i64 (W (((p1.length : Int)) + 1)))) rfl rfl (Light.quiet (opMove rfl rfl)) ?_
        refine ASL.q (v := (.int .i64 (W (((W (((p1.length : Int)) + 1))) * ((W (((p1.length : Int)) + 1))))))) rfl rfl (Light.quiet (opInt rfl rfl rfl rfl)) ?_
        obtain ⟨z30, hz30, hF⟩ := bindE hF
        refine ASL.x rfl rfl (hMk (f := AV.bool) hS hz30 (by decide) rfl elemA_86 sizeA_4 bytesA_4 zeroA_4 rfl rfl (by decide) rfl rfl ?_); rintro v30 G25 hK hS
        refine ASL.q (v := v30) rfl rfl (Light.quiet (opAssign rfl rfl)) ?_
        refine ASL.done ?_
        refine AWP.seqM (fun e H => ∃ y27 : (List Bool), E.Told e [(0, (.list 3 (List.map TNode.av p0))), (1, (.list 1 (List.map (AV.int .i64) p1))), (5, (.int .i64 (W (((p1.length : Int)) + 1)))), (6, w9), (7, (.int .i64 x7_l0)), (8, (.ptr b8 0)), (9, v30)] ∧ E.Sep H [.row 1 w9 (List.map (fun xs : (List Bool) => AV.list 1 (List.map AV.bool xs)) y8), .cell b8 [(.int .i64 a25.kind), (.int .i64 a25.a), (.int .i64 a25.b)], .row 1 v30 (List.map AV.bool y27)] ∧ spec_l11Spans.k2 a25 p1 y8 x7_l0 y27 = some x11) ?_ ?_
        · rintro e0 G61 ⟨y27, hT, hS, hF⟩; refine AWP.only _ hT ?_; unfold spec_l11Spans.k2 at hF
          refine AWP.seqM (fun e H => ∃ y28 : (List Bool), ∃ w29 : AV, E.Told e [(0, (.list 3 (List.map TNode.av p0))), (1, (.list 1 (List.map (AV.int .i64) p1))), (5, (.int .i64 (W (((p1.length : Int)) + 1)))), (6, w9), (7, (.int .i64 x7_l0)), (9, w29)] ∧ E.Sep H [.row 1 w9 (List.map (fun xs : (List Bool) => AV.list 1 (List.map AV.bool xs)) y8), .row 1 w29 (List.map AV.bool y28)] ∧ spec_l11Spans.k3 y8 x7_l0 y28 = some x11) ?_ ?_
          · rintro e0 G34 ⟨y28, w29, hT, hS, hF⟩; refine AWP.only _ hT ?_; unfold spec_l11Spans.k3 at hF
            refine AWP.frz (L' := [.row 1 w9 (List.map (fun xs : (List Bool) => AV.list 1 (List.map AV.bool xs)) y8)]) hS (k := 1) rfl [(0, (.list 3 (List.map TNode.av p0))), (1, (.list 1 (List.map (AV.int .i64) p1))), (5, (.int .i64 (W (((p1.length : Int)) + 1)))), (6, w9), (7, (.int .i64 x7_l0)), (9, (.list 1 (List.map AV.bool y28)))] ⟨.inl rfl, .inl rfl, .inl rfl, .inl rfl, .inl rfl, .inr ⟨rfl, rfl⟩, trivial⟩ ⟨rfl, trivial⟩ (fun G31 hS => ?_)
            refine AWP.lastR rfl ?_
            refine ASL.q (v := w9) rfl rfl (Light.quiet (opMove rfl rfl)) ?_
            refine ASL.q (v := (.list 1 (List.map AV.bool y28))) rfl rfl (Light.quiet (opMove rfl rfl)) ?_
            refine ASL.q (v := (.list 1 (List.map (fun xs : (List Bool) => AV.list 1 (List.map AV.bool xs)) [y28]))) rfl rfl ((qLit (xs := [(.list 1 (List.map AV.bool y28))]) rfl elemA_87 sizeA_86 zeroA_86 rfl rfl rfl rfl (by simp [cells]) (nlt rfl))) ?_
            obtain ⟨z142, hz142, hF⟩ := bindE hF
            refine ASL.x rfl rfl (hApp (f := (fun xs : (List Bool) => AV.list 1 (List.map AV.bool xs))) (ws := [y28]) hS (j := 0) rfl hz142 rfl elemA_87 rfl sizeA_86 bytesA_86 zeroA_86 rfl rfl rfl (fun _ => rfl) ?_); rintro v142 G32 hS
            refine ASL.q (v := v142) rfl rfl (Light.quiet (opAssign rfl rfl)) ?_
            refine ASL.done ?_
            refine QBlock.nrm ?_
            refine QThen.nrm ?_
            exact ⟨z142, v142, ⟨rfl, rfl, rfl, rfl, rfl, trivial⟩, (hS.pick [0] rfl rfl), hF⟩
          · skip
            refine AWP.seqR rfl ?_
            refine ASL.q (v := (.ptr b8 0)) rfl rfl (Light.quiet (opFieldAddr rfl fieldA_54_0 rfl rfl)) ?_
            refine ASL.q (v := (.int .i64 a25.kind)) rfl rfl (Light.quiet (kAt hS (j := 1) rfl rfl aggA_3 rfl rfl)) ?_
            refine ASL.done ?_
            refine AWP.block ?_
            refine AWP.seqR rfl ?_
            refine ASL.q (v := (.bool (decide (a25.kind = 6)))) rfl rfl (Light.quiet (opInt rfl rfl rfl rfl)) ?_
            refine ASL.q (v := (.bool (decide (a25.kind = 6)))) rfl rfl (Light.quiet (opAssign rfl rfl)) ?_
            refine ASL.done ?_
            refine AWP.ifP hF rfl (fun hc35 hF => ?_) (fun hc35 hF => ?_)
            · skip
              refine AWP.seqR rfl ?_
              refine ASL.q (v := (.int .i64 0)) rfl rfl (Light.quiet (opAssign rfl rfl)) ?_
              refine ASL.done ?_
              refine AWP.block ?_
              obtain ⟨o40, hL39, hR41⟩ := bindE hF
              refine AWP.loopF (ω := Unit) hL39 (fun s w => [(0, (.list 3 (List.map TNode.av p0))), (1, (.list 1 (List.map (AV.int .i64) p1))), (5, (.int .i64 (W (((p1.length : Int)) + 1)))), (6, w9), (7, (.int .i64 x7_l0)), (8, (.ptr b8 0)), (9, v30), (11, (.int .i64 s.2))]) (fun s w => [.row 1 w9 (List.map (fun xs : (List Bool) => AV.list 1 (List.map AV.bool xs)) y8), .cell b8 [(.int .i64 a25.kind), (.int .i64 a25.a), (.int .i64 a25.b)], .row 1 v30 (List.map AV.bool s.1)]) () ⟨rfl, rfl, rfl, rfl, rfl, rfl, rfl, rfl, trivial⟩ (hS.pick [0, 1, 2] rfl rfl) ?_
              rintro ⟨y36, x11_l1⟩ _ G42 hS x37 hF hx38
              try dsimp only at hS ⊢
              have hF : spec_l11Spans.b1 p1 y8 a25 y36 x11_l1 = some x37 := hF; unfold spec_l11Spans.b1 at hF
              refine AWP.seq ?_
              refine AWP.seqR rfl ?_
              refine ASL.q (v := (.int .i64 x11_l1)) rfl rfl (Light.quiet (opMove rfl rfl)) ?_
              refine ASL.q (v := (.int .i64 (W (((p1.length : Int)) + 1)))) rfl rfl (Light.quiet (opMove rfl rfl)) ?_
              refine ASL.q (v := (.int .i64 (W (((p1.length : Int)) + 1)))) rfl rfl (Light.quiet (opMove rfl rfl)) ?_
              refine ASL.q (v := (.int .i64 (W (((W (((p1.length : Int)) + 1))) * ((W (((p1.length : Int)) + 1))))))) rfl rfl (Light.quiet (opInt rfl rfl rfl rfl)) ?_
              refine ASL.q (v := (.bool (decide (x11_l1 < ((W (((W (((p1.length : Int)) + 1))) * ((W (((p1.length : Int)) + 1)))))))))) rfl rfl (Light.quiet (opInt rfl rfl rfl rfl)) ?_
              refine ASL.done ?_
              refine AWP.ifP hF rfl (fun hc43 hF => ?_) (fun hc43 hF => ?_)
              · skip
                refine AWP.skip ?_
                refine QThen.nrm ?_
                refine AWP.seq ?_
                refine AWP.block ?_
                refine AWP.lastR rfl ?_
                refine ASL.q (v := v30) rfl rfl (Light.quiet (opMove rfl rfl)) ?_
                refine ASL.q (v := (.int .i64 x11_l1)) rfl rfl (Light.quiet (opMove rfl rfl)) ?_
                refine ASL.q (v := w9) rfl rfl (Light.quiet (opMove rfl rfl)) ?_
                refine ASL.q (v := (.ptr b8 1)) rfl rfl (Light.quiet (opFieldAddr rfl fieldA_54_1 rfl rfl)) ?_
                refine ASL.q (v := (.int .i64 a25.a)) rfl rfl (Light.quiet (kAt hS (j := 1) rfl rfl aggA_3 rfl rfl)) ?_
                obtain ⟨a91, ha91, hF⟩ := bindE hF
                refine ASL.q (v := (ptrTo w9 a25.a.toNat 1)) rfl rfl (Light.quiet (kIxOx hS (j := 0) rfl ha91 rfl rfl rfl elemA_87 sizeA_86)) ?_
                refine ASL.q (v := (.list 1 (List.map AV.bool a91))) rfl rfl (Light.quiet (kLd (f := (fun xs : (List Bool) => AV.list 1 (List.map AV.bool xs))) hS (j := 0) rfl ha91 rfl aggA_86 rfl (fun _ => rfl))) ?_
                refine ASL.q (v := (.int .i64 x11_l1)) rfl rfl (Light.quiet (opMove rfl rfl)) ?_
                obtain ⟨a94, ha94, hF⟩ := bindE hF
                refine ASL.q (v := (.rptr [(.bool a94)])) rfl rfl (Light.quiet (kIx (f := AV.bool) ha94 rfl rfl rfl elemA_86 sizeA_4 rfl)) ?_
                refine ASL.q (v := (.bool a94)) rfl rfl (Light.quiet (opLoadR rfl aggA_4 rfl rfl)) ?_
                refine ASL.q (v := (.bool a94)) rfl rfl (Light.quiet (opMove rfl rfl)) ?_
                refine ASL.g (v := w9) (.bool a94) false rfl (wF _) rfl (fun hG => by have q0 := gN hG; subst q0; exact Light.quiet (opMove rfl rfl)) ?_
                refine ASL.g (v := (.ptr b8 2)) (.bool a94) false rfl (wF _) rfl (fun hG => by have q0 := gN hG; subst q0; exact Light.quiet (opFieldAddr rfl fieldA_54_2 rfl rfl)) ?_
                refine ASL.g (v := (.int .i64 a25.b)) (.bool a94) false rfl (wF _) rfl (fun hG => by have q0 := gN hG; subst q0; exact Light.quiet (kAt hS (j := 1) rfl rfl aggA_3 rfl rfl)) ?_
                obtain ⟨a100, ha100, hF⟩ := bindE hF
                refine ASL.g (v := (ptrTo w9 a25.b.toNat 1)) (.bool a94) false rfl (wF _) rfl (fun hG => by have q0 := gN hG; subst q0; exact Light.quiet (kIxOx hS (j := 0) rfl (whenE ha100) rfl rfl rfl elemA_87 sizeA_86)) ?_
                refine ASL.g (v := (.list 1 (List.map AV.bool a100))) (.bool a94) false rfl (wF _) rfl (fun hG => by have q0 := gN hG; subst q0; exact Light.quiet (kLd (f := (fun xs : (List Bool) => AV.list 1 (List.map AV.bool xs))) hS (j := 0) rfl (whenE ha100) rfl aggA_86 rfl (fun _ => rfl))) ?_
                refine ASL.g (v := (.int .i64 x11_l1)) (.bool a94) false rfl (wF _) rfl (fun hG => by have q0 := gN hG; subst q0; exact Light.quiet (opMove rfl rfl)) ?_
                obtain ⟨a103, ha103, hF⟩ := bindE hF
                refine ASL.g (v := (.rptr [(.bool a103)])) (.bool a94) false rfl (wF _) rfl (fun hG => by have q0 := gN hG; subst q0; exact Light.quiet (kIx (f := AV.bool) (whenE ha103) rfl rfl rfl elemA_86 sizeA_4 rfl)) ?_
                refine ASL.g (v := (.bool a103)) (.bool a94) false rfl (wF _) rfl (fun hG => by have q0 := gN hG; subst q0; exact Light.quiet (opLoadR rfl aggA_4 rfl rfl)) ?_
                refine ASL.q (v := (.bool (a94 || a103))) rfl rfl (Light.quiet (opPick (b := a94) rfl rfl (by cases a94 <;> rfl))) ?_
                obtain ⟨m106, hm106, hF⟩ := bindE hF
                refine ASL.q (v := (ptrTo v30 m106 1)) rfl rfl (Light.quiet (kIxO hS (j := 2) rfl hm106 rfl rfl rfl elemA_86 sizeA_4)) ?_
                refine ASL.n rfl rfl (hSt (f := AV.bool) (a := (a94 || a103)) hS (j := 2) rfl hm106 rfl sizeA_4 rfl rfl ⟨rfl, rfl, rfl⟩ ?_); rintro G44 hS
                refine ASL.done ?_
                refine QBlock.nrm ?_
                refine QThen.nrm ?_
                refine AWP.lastR rfl ?_
                refine ASL.q (v := (.int .i64 x11_l1)) rfl rfl (Light.quiet (opMove rfl rfl)) ?_
                refine ASL.q (v := (.int .i64 (W (x11_l1 + 1)))) rfl rfl (Light.quiet (opInt rfl rfl rfl rfl)) ?_
                refine ASL.q (v := (.int .i64 (W (x11_l1 + 1)))) rfl rfl (Light.quiet (opAssign rfl rfl)) ?_
                refine ASL.done ?_
                refine QThen.nrm ?_
                exact ⟨((y36.set m106 ((a94 || a103))), (W (x11_l1 + 1))), (), (someE hF).symm, ⟨rfl, rfl, rfl, rfl, rfl, rfl, rfl, rfl, trivial⟩, (hS.pick [0, 1, 2] rfl rfl)⟩
              · skip
                refine AWP.exit ?_
                refine QThen.ext ?_
                refine QThen.ext ?_
                refine QBlock.hit ?_
                obtain rfl := (hx38 _ (someE hF).symm)
                have hF := hR41
                refine QBlock.nrm ?_
                refine QThen.nrm ?_
                exact ⟨y36, v30, ⟨rfl, rfl, rfl, rfl, rfl, rfl, trivial⟩, (hS.pick [0, 2] rfl rfl), hF⟩
            · skip
              refine AWP.seqR rfl ?_
              refine ASL.q (v := (.bool (decide (a25.kind = 5)))) rfl rfl (Light.quiet (opInt rfl rfl rfl rfl)) ?_
              refine ASL.q (v := (.bool (decide (a25.kind = 5)))) rfl rfl (Light.quiet (opAssign rfl rfl)) ?_
              refine ASL.done ?_
              refine AWP.ifP hF rfl (fun hc45 hF => ?_) (fun hc45 hF => ?_)
              · skip
                refine AWP.lastD [(0, false), (1, false), (2, false), (3, false), (4, false), (5, false), (6, false), (7, false), (8, false), (9, false), (10, false), (11, true), (12, false)] mixed (by kernel_rfl) rfl ?_
                refine ARL.q0 (v := w9) rfl rfl (Light.quiet (opMove rfl rfl)) ?_
                refine ARL.q0 (v := (.ptr b8 1)) rfl rfl (Light.quiet (opFieldAddr rfl fieldA_54_1 rfl rfl)) ?_
                refine ARL.q (v := (.int .i64 a25.a)) rfl rfl (hS.aliveC (k := 1) rfl) (Light.quiet (kAt hS (j := 1) rfl rfl aggA_3 rfl rfl)) ?_
                obtain ⟨a112, ha112, hF⟩ := bindE hF
                refine ARL.q0 (v := (ptrTo w9 a25.a.toNat 1)) rfl rfl (Light.quiet (kIxOx hS (j := 0) rfl ha112 rfl rfl rfl elemA_87 sizeA_86)) ?_
                refine ARL.q (v := (.list 1 (List.map AV.bool a112))) rfl rfl (hS.aliveR (k := 0) rfl) (Light.quiet (kLd (f := (fun xs : (List Bool) => AV.list 1 (List.map AV.bool xs))) hS (j := 0) rfl ha112 rfl aggA_86 rfl (fun _ => rfl))) ?_
                refine ARL.q0 (v := w9) rfl rfl (Light.quiet (opMove rfl rfl)) ?_
                refine ARL.q0 (v := (.ptr b8 2)) rfl rfl (Light.quiet (opFieldAddr rfl fieldA_54_2 rfl rfl)) ?_
                refine ARL.q (v := (.int .i64 a25.b)) rfl rfl (hS.aliveC (k := 1) rfl) (Light.quiet (kAt hS (j := 1) rfl rfl aggA_3 rfl rfl)) ?_
                obtain ⟨a117, ha117, hF⟩ := bindE hF
                refine ARL.q0 (v := (ptrTo w9 a25.b.toNat 1)) rfl rfl (Light.quiet (kIxOx hS (j := 0) rfl ha117 rfl rfl rfl elemA_87 sizeA_86)) ?_
                refine ARL.q (v := (.list 1 (List.map AV.bool a117))) rfl rfl (hS.aliveR (k := 0) rfl) (Light.quiet (kLd (f := (fun xs : (List Bool) => AV.list 1 (List.map AV.bool xs))) hS (j := 0) rfl ha117 rfl aggA_86 rfl (fun _ => rfl))) ?_
                refine ARL.q0 (v := (.int .i64 (W (((p1.length : Int)) + 1)))) rfl rfl (Light.quiet (opMove rfl rfl)) ?_
                obtain ⟨a120, ha120, hF⟩ := bindE hF
                refine ARL.x rfl rfl rfl (hCallO hS rfl rfl call_109 (spec_l11Then_ok ha120) rfl ?_); rintro v120 G46 hK hS; refine ⟨hK, ?_⟩
                refine ARL.q0 (v := v120) rfl rfl (Light.quiet (opAssign rfl rfl)) ?_
                refine ARL.done ?_
                refine QBlock.nrm ?_
                refine QThen.nrm ?_
                exact ⟨a120, v120, ⟨rfl, rfl, rfl, rfl, rfl, rfl, trivial⟩, (hS.pick [1, 0] rfl rfl), hF⟩
              · skip
                refine AWP.seqR rfl ?_
                refine ASL.q (v := (.bool (decide (a25.kind = 4)))) rfl rfl (Light.quiet (opInt rfl rfl rfl rfl)) ?_
                refine ASL.q (v := (.bool (decide (a25.kind = 4)))) rfl rfl (Light.quiet (opAssign rfl rfl)) ?_
                refine ASL.done ?_
                refine AWP.ifP hF rfl (fun hc48 hF => ?_) (fun hc48 hF => ?_)
                · skip
                  refine AWP.seqR rfl ?_
                  refine ASL.q (v := (.int .i64 0)) rfl rfl (Light.quiet (opAssign rfl rfl)) ?_
                  refine ASL.done ?_
                  refine AWP.block ?_
                  obtain ⟨o55, hL54, hR56⟩ := bindE hF
                  refine AWP.loopF (ω := AV) hL54 (fun s w => [(0, (.list 3 (List.map TNode.av p0))), (1, (.list 1 (List.map (AV.int .i64) p1))), (5, (.int .i64 (W (((p1.length : Int)) + 1)))), (6, w9), (7, (.int .i64 x7_l0)), (8, (.ptr b8 0)), (9, w), (12, (.int .i64 s.2))]) (fun s w => [.row 1 w9 (List.map (fun xs : (List Bool) => AV.list 1 (List.map AV.bool xs)) y8), .cell b8 [(.int .i64 a25.kind), (.int .i64 a25.a), (.int .i64 a25.b)], .row 1 w (List.map AV.bool s.1)]) v30 ⟨rfl, rfl, rfl, rfl, rfl, rfl, rfl, rfl, trivial⟩ (hS.pick [0, 1, 2] rfl rfl) ?_
                  rintro ⟨y49, x12_l2⟩ w50 G57 hS x52 hF hx53
                  try dsimp only at hS ⊢
                  have hF : spec_l11Spans.b2 y8 a25 p1 y49 x12_l2 = some x52 := hF; unfold spec_l11Spans.b2 at hF
                  refine AWP.seq ?_
                  refine AWP.seqR rfl ?_
                  refine ASL.q (v := (.int .i64 x12_l2)) rfl rfl (Light.quiet (opMove rfl rfl)) ?_
                  refine ASL.q (v := (.bool (decide (x12_l2 < 7)))) rfl rfl (Light.quiet (opInt rfl rfl rfl rfl)) ?_
                  refine ASL.done ?_
                  refine AWP.ifP hF rfl (fun hc58 hF => ?_) (fun hc58 hF => ?_)
                  · skip
                    refine AWP.skip ?_
                    refine QThen.nrm ?_
                    refine AWP.seq ?_
                    refine AWP.block ?_
                    refine AWP.lastR rfl ?_
                    refine ASL.q (v := w50) rfl rfl (Light.quiet (opMove rfl rfl)) ?_
                    refine ASL.q (v := w50) rfl rfl (Light.quiet (opMove rfl rfl)) ?_
                    refine ASL.q (v := w50) rfl rfl (Light.quiet (opMove rfl rfl)) ?_
                    refine ASL.q (v := w9) rfl rfl (Light.quiet (opMove rfl rfl)) ?_
                    refine ASL.q (v := (.ptr b8 1)) rfl rfl (Light.quiet (opFieldAddr rfl fieldA_54_1 rfl rfl)) ?_
                    refine ASL.q (v := (.int .i64 a25.a)) rfl rfl (Light.quiet (kAt hS (j := 1) rfl rfl aggA_3 rfl rfl)) ?_
                    obtain ⟨a133, ha133, hF⟩ := bindE hF
                    refine ASL.q (v := (ptrTo w9 a25.a.toNat 1)) rfl rfl (Light.quiet (kIxOx hS (j := 0) rfl ha133 rfl rfl rfl elemA_87 sizeA_86)) ?_
                    refine ASL.q (v := (.list 1 (List.map AV.bool a133))) rfl rfl (Light.quiet (kLd (f := (fun xs : (List Bool) => AV.list 1 (List.map AV.bool xs))) hS (j := 0) rfl ha133 rfl aggA_86 rfl (fun _ => rfl))) ?_
                    obtain ⟨a135, ha135, hF⟩ := bindE hF
                    refine ASL.q (v := (.list 1 (List.map AV.bool a135))) rfl rfl ((qCallRL hS rfl rfl call_110 (spec_l11Both_ok ha135) ⟨.row (k := 2) rfl, .same _, trivial⟩ (Scal.row (fun _ => by intro c hc; simp only [cells, List.mem_singleton] at hc; subst hc; constructor)))) ?_
                    refine ASL.q (v := (.int .i64 (W (((p1.length : Int)) + 1)))) rfl rfl (Light.quiet (opMove rfl rfl)) ?_
                    obtain ⟨a137, ha137, hF⟩ := bindE hF
                    refine ASL.q (v := (.list 1 (List.map AV.bool a137))) rfl rfl ((qCallRL hS rfl rfl call_109 (spec_l11Then_ok ha137) ⟨.row (k := 2) rfl, .same _, .same _, trivial⟩ (Scal.row (fun _ => by intro c hc; simp only [cells, List.mem_singleton] at hc; subst hc; constructor)))) ?_
                    obtain ⟨a138, ha138, hF⟩ := bindE hF
                    refine ASL.x rfl rfl (hCallOR hS rfl rfl call_110 (spec_l11Both_ok ha138) ⟨.row (k := 2) rfl, .same _, trivial⟩ (Scal.row (fun _ => by intro c hc; simp only [cells, List.mem_singleton] at hc; subst hc; constructor)) ?_); rintro v138 G59 hK hS
                    refine ASL.q (v := v138) rfl rfl (Light.quiet (opAssign rfl rfl)) ?_
                    refine ASL.done ?_
                    refine QBlock.nrm ?_
                    refine QThen.nrm ?_
                    refine AWP.lastR rfl ?_
                    refine ASL.q (v := (.int .i64 x12_l2)) rfl rfl (Light.quiet (opMove rfl rfl)) ?_
                    refine ASL.q (v := (.int .i64 (W (x12_l2 + 1)))) rfl rfl (Light.quiet (opInt rfl rfl rfl rfl)) ?_
                    refine ASL.q (v := (.int .i64 (W (x12_l2 + 1)))) rfl rfl (Light.quiet (opAssign rfl rfl)) ?_
                    refine ASL.done ?_
                    refine QThen.nrm ?_
                    exact ⟨(a138, (W (x12_l2 + 1))), v138, (someE hF).symm, ⟨rfl, rfl, rfl, rfl, rfl, rfl, rfl, rfl, trivial⟩, (hS.pick [1, 2, 0] rfl rfl)⟩
                  · skip
                    refine AWP.exit ?_
                    refine QThen.ext ?_
                    refine QThen.ext ?_
                    refine QBlock.hit ?_
                    obtain rfl := (hx53 _ (someE hF).symm)
                    have hF := hR56
                    refine QBlock.nrm ?_
                    refine QThen.nrm ?_
                    exact ⟨y49, w50, ⟨rfl, rfl, rfl, rfl, rfl, rfl, trivial⟩, (hS.pick [0, 2] rfl rfl), hF⟩
                · skip
                  refine AWP.skip ?_
                  refine QBlock.nrm ?_
                  refine QThen.nrm ?_
                  exact ⟨y27, v30, ⟨rfl, rfl, rfl, rfl, rfl, rfl, trivial⟩, (hS.pick [0, 2] rfl rfl), hF⟩
        · skip
          refine AWP.seqR rfl ?_
          refine ASL.q (v := (.int .i64 0)) rfl rfl (Light.quiet (opAssign rfl rfl)) ?_
          refine ASL.done ?_
          refine AWP.block ?_
          obtain ⟨o66, hL65, hR67⟩ := bindE hF
          refine AWP.loopF (ω := Unit) hL65 (fun s w => [(0, (.list 3 (List.map TNode.av p0))), (1, (.list 1 (List.map (AV.int .i64) p1))), (5, (.int .i64 (W (((p1.length : Int)) + 1)))), (6, w9), (7, (.int .i64 x7_l0)), (8, (.ptr b8 0)), (9, v30), (10, (.int .i64 s.2))]) (fun s w => [.row 1 w9 (List.map (fun xs : (List Bool) => AV.list 1 (List.map AV.bool xs)) y8), .cell b8 [(.int .i64 a25.kind), (.int .i64 a25.a), (.int .i64 a25.b)], .row 1 v30 (List.map AV.bool s.1)]) () ⟨rfl, rfl, rfl, rfl, rfl, rfl, rfl, rfl, trivial⟩ (hS.pick [2, 1, 0] rfl rfl) ?_
          rintro ⟨y62, x10_l3⟩ _ G68 hS x63 hF hx64
          try dsimp only at hS ⊢
          have hF : spec_l11Spans.b3 p1 a25 y62 x10_l3 = some x63 := hF; unfold spec_l11Spans.b3 at hF
          refine AWP.seq ?_
          refine AWP.seqR rfl ?_
          refine ASL.q (v := (.int .i64 x10_l3)) rfl rfl (Light.quiet (opMove rfl rfl)) ?_
          refine ASL.q (v := (.int .i64 (W (((p1.length : Int)) + 1)))) rfl rfl (Light.quiet (opMove rfl rfl)) ?_
          refine ASL.q (v := (.bool (decide (x10_l3 < ((W (((p1.length : Int)) + 1))))))) rfl rfl (Light.quiet (opInt rfl rfl rfl rfl)) ?_
          refine ASL.done ?_
          refine AWP.ifP hF rfl (fun hc69 hF => ?_) (fun hc69 hF => ?_)
          · skip
            refine AWP.skip ?_
            refine QThen.nrm ?_
            refine AWP.seq ?_
            refine AWP.block ?_
            refine AWP.seqR rfl ?_
            refine ASL.q (v := v30) rfl rfl (Light.quiet (opMove rfl rfl)) ?_
            refine ASL.q (v := (.int .i64 x10_l3)) rfl rfl (Light.quiet (opMove rfl rfl)) ?_
            refine ASL.q (v := (.int .i64 (W (((p1.length : Int)) + 1)))) rfl rfl (Light.quiet (opMove rfl rfl)) ?_
            refine ASL.q (v := (.int .i64 (W (x10_l3 * ((W (((p1.length : Int)) + 1))))))) rfl rfl (Light.quiet (opInt rfl rfl rfl rfl)) ?_
            refine ASL.q (v := (.int .i64 x10_l3)) rfl rfl (Light.quiet (opMove rfl rfl)) ?_
            refine ASL.q (v := (.int .i64 (W (((W (x10_l3 * ((W (((p1.length : Int)) + 1)))))) + x10_l3)))) rfl rfl (Light.quiet (opInt rfl rfl rfl rfl)) ?_
            refine ASL.q (v := (.ptr b8 0)) rfl rfl (Light.quiet (opFieldAddr rfl fieldA_54_0 rfl rfl)) ?_
            refine ASL.q (v := (.int .i64 a25.kind)) rfl rfl (Light.quiet (kAt hS (j := 1) rfl rfl aggA_3 rfl rfl)) ?_
            refine ASL.q (v := (.bool (decide (a25.kind = 2)))) rfl rfl (Light.quiet (opInt rfl rfl rfl rfl)) ?_
            obtain ⟨c45, hc45, hF⟩ := bndE hF
            refine ASL.q (v := (.bool c45)) rfl rfl ((Quiet.cast (Light.quiet (opMove rfl rfl)) (congrArg AV.bool hc45.symm))) ?_
            refine ASL.g (v := (.ptr b8 0)) (.bool c45) false rfl (wF _) rfl (fun hG => by have q0 := gN hG; subst q0; exact Light.quiet (opFieldAddr rfl fieldA_54_0 rfl rfl)) ?_
            refine ASL.g (v := (.int .i64 a25.kind)) (.bool c45) false rfl (wF _) rfl (fun hG => by have q0 := gN hG; subst q0; exact Light.quiet (kAt hS (j := 1) rfl rfl aggA_3 rfl rfl)) ?_
            refine ASL.g (v := (.bool (decide (a25.kind = 4)))) (.bool c45) false rfl (wF _) rfl (fun hG => by have q0 := gN hG; subst q0; exact Light.quiet (opInt rfl rfl rfl rfl)) ?_
            refine ASL.q (v := (.bool (c45 || (decide (a25.kind = 4))))) rfl rfl (Light.quiet (opPick (b := c45) rfl rfl (by cases c45 <;> rfl))) ?_
            obtain ⟨m50, hm50, hF⟩ := bindE hF
            refine ASL.q (v := (ptrTo v30 m50 1)) rfl rfl (Light.quiet (kIxO hS (j := 2) rfl hm50 rfl rfl rfl elemA_86 sizeA_4)) ?_
            refine ASL.n rfl rfl (hSt (f := AV.bool) (a := (c45 || (decide (a25.kind = 4)))) hS (j := 2) rfl hm50 rfl sizeA_4 rfl rfl ⟨rfl, rfl, rfl⟩ ?_); rintro G70 hS
            refine ASL.done ?_
            refine AWP.seqR rfl ?_
            refine ASL.q (v := (.ptr b8 0)) rfl rfl (Light.quiet (opFieldAddr rfl fieldA_54_0 rfl rfl)) ?_
            refine ASL.q (v := (.int .i64 a25.kind)) rfl rfl (Light.quiet (kAt hS (j := 1) rfl rfl aggA_3 rfl rfl)) ?_
            refine ASL.q (v := (.bool (decide (a25.kind = 3)))) rfl rfl (Light.quiet (opInt rfl rfl rfl rfl)) ?_
            obtain ⟨c54, hc54, hF⟩ := bndE hF
            refine ASL.q (v := (.bool c54)) rfl rfl ((Quiet.cast (Light.quiet (opMove rfl rfl)) (congrArg AV.bool hc54.symm))) ?_
            refine ASL.g (v := (.int .i64 x10_l3)) (.bool c54) true rfl (wT _) rfl (fun hG => by have q0 := hG; subst q0; exact Light.quiet (opMove rfl rfl)) ?_
            refine ASL.g (v := (.int .i64 (W (x10_l3 + 1)))) (.bool c54) true rfl (wT _) rfl (fun hG => by have q0 := hG; subst q0; exact Light.quiet (opInt rfl rfl rfl rfl)) ?_
            refine ASL.g (v := (.int .i64 (W (((p1.length : Int)) + 1)))) (.bool c54) true rfl (wT _) rfl (fun hG => by have q0 := hG; subst q0; exact Light.quiet (opMove rfl rfl)) ?_
            refine ASL.g (v := (.bool (decide (((W (x10_l3 + 1))) < ((W (((p1.length : Int)) + 1))))))) (.bool c54) true rfl (wT _) rfl (fun hG => by have q0 := hG; subst q0; exact Light.quiet (opInt rfl rfl rfl rfl)) ?_
            refine ASL.q (v := (.bool (c54 && (decide (((W (x10_l3 + 1))) < ((W (((p1.length : Int)) + 1)))))))) rfl rfl (Light.quiet (opPick (b := c54) rfl rfl (by cases c54 <;> rfl))) ?_
            refine ASL.done ?_
            refine AWP.ifB hF rfl (fun hc71 hF => ?_) (fun hc71 hF => ?_)
            · skip
              refine AWP.lastD [(0, false), (1, false), (2, false), (3, false), (4, false), (5, false), (6, false), (7, false), (8, false), (9, false), (10, false), (11, false), (12, false), (13, false), (14, false), (15, true)] mixed (by kernel_rfl) rfl ?_
              refine ARL.q0 (v := v30) rfl rfl (Light.quiet (opMove rfl rfl)) ?_
              refine ARL.q0 (v := (.int .i64 x10_l3)) rfl rfl (Light.quiet (opMove rfl rfl)) ?_
              refine ARL.q0 (v := (.int .i64 (W (((p1.length : Int)) + 1)))) rfl rfl (Light.quiet (opMove rfl rfl)) ?_
              refine ARL.q0 (v := (.int .i64 (W (x10_l3 * ((W (((p1.length : Int)) + 1))))))) rfl rfl (Light.quiet (opInt rfl rfl rfl rfl)) ?_
              refine ARL.q0 (v := (.int .i64 x10_l3)) rfl rfl (Light.quiet (opMove rfl rfl)) ?_
              refine ARL.q0 (v := (.int .i64 (W (((W (x10_l3 * ((W (((p1.length : Int)) + 1)))))) + x10_l3)))) rfl rfl (Light.quiet (opInt rfl rfl rfl rfl)) ?_
              refine ARL.q0 (v := (.int .i64 (W (((W (((W (x10_l3 * ((W (((p1.length : Int)) + 1)))))) + x10_l3))) + 1)))) rfl rfl (Light.quiet (opInt rfl rfl rfl rfl)) ?_
              refine ARL.q0 (v := (.list 1 (List.map (AV.int .i64) p1))) rfl rfl (Light.quiet (opMove rfl rfl)) ?_
              refine ARL.q0 (v := (.int .i64 x10_l3)) rfl rfl (Light.quiet (opMove rfl rfl)) ?_
              obtain ⟨a69, ha69, hF⟩ := bindE hF
              refine ARL.q0 (v := (.rptr [(.int .i64 a69)])) rfl rfl (Light.quiet (kIx (f := (AV.int .i64)) ha69 rfl rfl rfl elemA_34 sizeA_3 rfl)) ?_
              refine ARL.q0 (v := (.int .i64 a69)) rfl rfl (Light.quiet (opLoadR rfl aggA_3 rfl rfl)) ?_
              refine ARL.q0 (v := (.ptr b8 1)) rfl rfl (Light.quiet (opFieldAddr rfl fieldA_54_1 rfl rfl)) ?_
              refine ARL.q (v := (.int .i64 a25.a)) rfl rfl (hS.aliveC (k := 1) rfl) (Light.quiet (kAt hS (j := 1) rfl rfl aggA_3 rfl rfl)) ?_
              refine ARL.q0 (v := (.bool (decide (a69 = a25.a)))) rfl rfl (Light.quiet (opInt rfl rfl rfl rfl)) ?_
              obtain ⟨m74, hm74, hF⟩ := bindE hF
              refine ARL.q0 (v := (ptrTo v30 m74 1)) rfl rfl (Light.quiet (kIxO hS (j := 2) rfl hm74 rfl rfl rfl elemA_86 sizeA_4)) ?_
              refine ARL.n rfl rfl rfl rfl (hSt (f := AV.bool) (a := (decide (a69 = a25.a))) hS (j := 2) rfl hm74 rfl sizeA_4 rfl rfl ⟨rfl, rfl, rfl⟩ ?_); rintro G72 hS
              refine ARL.done ?_
              refine QBlock.nrm ?_
              refine QThen.nrm ?_
              refine AWP.lastR rfl ?_
              refine ASL.q (v := (.int .i64 x10_l3)) rfl rfl (Light.quiet (opMove rfl rfl)) ?_
              refine ASL.q (v := (.int .i64 (W (x10_l3 + 1)))) rfl rfl (Light.quiet (opInt rfl rfl rfl rfl)) ?_
              refine ASL.q (v := (.int .i64 (W (x10_l3 + 1)))) rfl rfl (Light.quiet (opAssign rfl rfl)) ?_
              refine ASL.done ?_
              refine QThen.nrm ?_
              exact ⟨((((y62.set m50 ((c45 || (decide (a25.kind = 4)))))).set m74 ((decide (a69 = a25.a)))), (W (x10_l3 + 1))), (), (someE hF).symm, ⟨rfl, rfl, rfl, rfl, rfl, rfl, rfl, rfl, trivial⟩, (hS.pick [0, 1, 2] rfl rfl)⟩
            · skip
              refine AWP.skip ?_
              refine QBlock.nrm ?_
              refine QThen.nrm ?_
              refine AWP.lastR rfl ?_
              refine ASL.q (v := (.int .i64 x10_l3)) rfl rfl (Light.quiet (opMove rfl rfl)) ?_
              refine ASL.q (v := (.int .i64 (W (x10_l3 + 1)))) rfl rfl (Light.quiet (opInt rfl rfl rfl rfl)) ?_
              refine ASL.q (v := (.int .i64 (W (x10_l3 + 1)))) rfl rfl (Light.quiet (opAssign rfl rfl)) ?_
              refine ASL.done ?_
              refine QThen.nrm ?_
              exact ⟨((y62.set m50 ((c45 || (decide (a25.kind = 4))))), (W (x10_l3 + 1))), (), (someE hF).symm, ⟨rfl, rfl, rfl, rfl, rfl, rfl, rfl, rfl, trivial⟩, (hS.pick [0, 1, 2] rfl rfl)⟩
          · skip
            refine AWP.exit ?_
            refine QThen.ext ?_
            refine QThen.ext ?_
            refine QBlock.hit ?_
            obtain rfl := (hx64 _ (someE hF).symm)
            have hF := hR67
            refine QThen.nrm ?_
            exact ⟨y62, ⟨rfl, rfl, rfl, rfl, rfl, rfl, rfl, trivial⟩, (hS.pick [0, 1, 2] rfl rfl), hF⟩
    · skip
      refine AWP.exit ?_
      refine QThen.ext ?_
      refine QThen.ext ?_
      refine QBlock.hit ?_
      obtain rfl := (hx12 _ (someE hF).symm)
      have hF := hR15
      refine QThen.nrm ?_
      exact ⟨y8, w9, ⟨rfl, trivial⟩, (hS.pick [0] rfl rfl), hF⟩

set_option maxRecDepth 10000 in
theorem spec_ReTakes_ok {p0 : (List TNode)} {p1 : (List Int)} {r : Bool} (hF : spec_ReTakes p0 p1 = some r) : PC Try.prog 28 [(.list 3 (List.map TNode.av p0)), (.list 1 (List.map (AV.int .i64) p1))] fun v => v = (.bool r) := by
  refine PC.enter Try.func28 rfl Try.ntmps28 (by simp) ?_
  have hS := Sep.void; unfold spec_ReTakes at hF
  refine AWP.seqR rfl ?_
  refine ASL.q (v := (.bool false)) rfl rfl (Light.quiet (opAssign rfl rfl)) ?_
  refine ASL.done ?_
  refine AWP.seq ?_
  refine AWP.seqR rfl ?_
  refine ASL.q (v := (.list 3 (List.map TNode.av p0))) rfl rfl (Light.quiet (opMove rfl rfl)) ?_
  obtain ⟨a6, ha6, hF⟩ := bindE hF
  refine ASL.q (v := (.bool a6)) rfl rfl ((qCall rfl rfl call_16 (spec_ReOk_ok ha6) rfl)) ?_
  refine ASL.q (v := (.bool (!a6))) rfl rfl (Light.quiet (opNot rfl rfl)) ?_
  obtain ⟨c8, hc8, hF⟩ := bndE hF
  refine ASL.q (v := (.bool c8)) rfl rfl ((Quiet.cast (Light.quiet (opMove rfl rfl)) (congrArg AV.bool hc8.symm))) ?_
  refine ASL.g (v := (.list 1 (List.map (AV.int .i64) p1))) (.bool c8) false rfl (wF _) rfl (fun hG => by have q0 := gN hG; subst q0; exact Light.quiet (opMove rfl rfl)) ?_
  refine ASL.g (v := (.int .i64 (p1.length : Int))) (.bool c8) false rfl (wF _) rfl (fun hG => by have q0 := gN hG; subst q0; exact Light.quiet (opLenMap (f := (AV.int .i64)) rfl rfl rfl lenT_34 rfl)) ?_
  refine ASL.g (v := (.bool (decide (((p1.length : Int)) > 60)))) (.bool c8) false rfl (wF _) rfl (fun hG => by have q0 := gN hG; subst q0; exact Light.quiet (opInt rfl rfl rfl rfl)) ?_
  refine ASL.q (v := (.bool (c8 || (decide (((p1.length : Int)) > 60))))) rfl rfl (Light.quiet (opPick (b := c8) rfl rfl (by cases c8 <;> rfl))) ?_
  refine ASL.done ?_
  refine AWP.ifB hF rfl (fun hc1 hF => ?_) (fun hc1 hF => ?_)
  · skip
    refine AWP.seqR rfl ?_
    refine ASL.q (v := (.bool false)) rfl rfl (Light.quiet (opAssign rfl rfl)) ?_
    refine ASL.done ?_
    refine AWP.ret ?_
    refine QThen.rt ?_
    obtain rfl := someE hF
    exact QRet.sole (v := (.bool false)) ⟨rfl, trivial⟩ rfl
  · skip
    refine AWP.skip ?_
    refine QThen.nrm ?_
    refine AWP.seqR rfl ?_
    refine ASL.q (v := (.list 3 (List.map TNode.av p0))) rfl rfl (Light.quiet (opMove rfl rfl)) ?_
    refine ASL.q (v := (.list 1 (List.map (AV.int .i64) p1))) rfl rfl (Light.quiet (opMove rfl rfl)) ?_
    obtain ⟨a15, ha15, hF⟩ := bindE hF
    refine ASL.q (v := (.list 1 (List.map (fun xs : (List Bool) => AV.list 1 (List.map AV.bool xs)) a15))) rfl rfl ((qCall rfl rfl call_70 (PO.list (spec_l11Spans_ok ha15)) rfl)) ?_
    refine ASL.q (v := (.list 3 (List.map TNode.av p0))) rfl rfl (Light.quiet (opMove rfl rfl)) ?_
    refine ASL.q (v := (.int .i64 (p0.length : Int))) rfl rfl (Light.quiet (opLenMap (f := TNode.av) rfl rfl rfl lenT_25 rfl)) ?_
    refine ASL.q (v := (.int .i64 (W (((p0.length : Int)) - 1)))) rfl rfl (Light.quiet (opInt rfl rfl rfl rfl)) ?_
    obtain ⟨a19, ha19, hF⟩ := bindE hF
    refine ASL.q (v := (.rptr [(.list 1 (List.map AV.bool a19))])) rfl rfl (Light.quiet (kIx (f := (fun xs : (List Bool) => AV.list 1 (List.map AV.bool xs))) ha19 rfl rfl rfl elemA_87 sizeA_86 rfl)) ?_
    refine ASL.q (v := (.list 1 (List.map AV.bool a19))) rfl rfl (Light.quiet (opLoadR rfl aggA_86 rfl rfl)) ?_
    refine ASL.q (v := (.list 1 (List.map (AV.int .i64) p1))) rfl rfl (Light.quiet (opMove rfl rfl)) ?_
    refine ASL.q (v := (.int .i64 (p1.length : Int))) rfl rfl (Light.quiet (opLenMap (f := (AV.int .i64)) rfl rfl rfl lenT_34 rfl)) ?_
    obtain ⟨a23, ha23, hF⟩ := bindE hF
    refine ASL.q (v := (.rptr [(.bool a23)])) rfl rfl (Light.quiet (kIx (f := AV.bool) ha23 rfl rfl rfl elemA_86 sizeA_4 rfl)) ?_
    refine ASL.q (v := (.bool a23)) rfl rfl (Light.quiet (opLoadR rfl aggA_4 rfl rfl)) ?_
    refine ASL.q (v := (.bool a23)) rfl rfl (Light.quiet (opAssign rfl rfl)) ?_
    refine ASL.done ?_
    refine AWP.ret ?_
    obtain rfl := someE hF
    exact QRet.sole (v := (.bool a23)) ⟨rfl, trivial⟩ rfl

set_option maxRecDepth 10000 in
theorem laws_eqIntS_ok {p0 : (List Int)} {p1 : (List Int)} {r : Bool} (hF : laws_eqIntS p0 p1 = some r) : PC Try.prog 31 [(.list 1 (List.map (AV.int .i64) p0)), (.list 1 (List.map (AV.int .i64) p1))] fun v => v = (.bool r) := by
  refine PC.enter Try.func31 rfl Try.ntmps31 (by simp) ?_
  have hS := Sep.void; unfold laws_eqIntS at hF
  refine AWP.seqR rfl ?_
  refine ASL.q (v := (.bool false)) rfl rfl (Light.quiet (opAssign rfl rfl)) ?_
  refine ASL.done ?_
  refine AWP.seq ?_
  refine AWP.seqR rfl ?_
  refine ASL.q (v := (.list 1 (List.map (AV.int .i64) p0))) rfl rfl (Light.quiet (opMove rfl rfl)) ?_
  refine ASL.q (v := (.int .i64 (p0.length : Int))) rfl rfl (Light.quiet (opLenMap (f := (AV.int .i64)) rfl rfl rfl lenT_34 rfl)) ?_
  refine ASL.q (v := (.list 1 (List.map (AV.int .i64) p1))) rfl rfl (Light.quiet (opMove rfl rfl)) ?_
  refine ASL.q (v := (.int .i64 (p1.length : Int))) rfl rfl (Light.quiet (opLenMap (f := (AV.int .i64)) rfl rfl rfl lenT_34 rfl)) ?_
  refine ASL.q (v := (.bool (decide (((p0.length : Int)) ≠ ((p1.length : Int)))))) rfl rfl (Light.quiet (opInt rfl rfl rfl rfl)) ?_
  refine ASL.done ?_
  refine AWP.ifP hF rfl (fun hc1 hF => ?_) (fun hc1 hF => ?_)
  · skip
    refine AWP.seqR rfl ?_
    refine ASL.q (v := (.bool false)) rfl rfl (Light.quiet (opAssign rfl rfl)) ?_
    refine ASL.done ?_
    refine AWP.ret ?_
    refine QThen.rt ?_
    obtain rfl := someE hF
    exact QRet.sole (v := (.bool false)) ⟨rfl, trivial⟩ rfl
  · skip
    refine AWP.skip ?_
    refine QThen.nrm ?_
    refine AWP.seqM (fun e H => E.Told e [] ∧ E.Sep H [] ∧ laws_eqIntS.k0 = some r) ?_ ?_
    · rintro e0 G2 ⟨hT, hS, hF⟩; refine AWP.only _ hT ?_; unfold laws_eqIntS.k0 at hF
      refine AWP.seqR rfl ?_
      refine ASL.q (v := (.bool true)) rfl rfl (Light.quiet (opAssign rfl rfl)) ?_
      refine ASL.done ?_
      refine AWP.ret ?_
      obtain rfl := someE hF
      exact QRet.sole (v := (.bool true)) ⟨rfl, trivial⟩ rfl
    · skip
      refine AWP.seqR rfl ?_
      refine ASL.q (v := (.int .i64 0)) rfl rfl (Light.quiet (opAssign rfl rfl)) ?_
      refine ASL.done ?_
      refine AWP.block ?_
      obtain ⟨o6, hL5, hR7⟩ := bindE hF
      refine AWP.loopF (ω := Unit) hL5 (fun s w => [(0, (.list 1 (List.map (AV.int .i64) p0))), (1, (.list 1 (List.map (AV.int .i64) p1))), (5, (.int .i64 s))]) (fun s w => []) () ⟨rfl, rfl, rfl, trivial⟩ (hS.pick [] rfl rfl) ?_
      rintro x5_l0 _ G8 hS x3 hF hx4
      try dsimp only at hS ⊢
      have hF : laws_eqIntS.b0 p0 p1 x5_l0 = some x3 := hF; unfold laws_eqIntS.b0 at hF
      refine AWP.seq ?_
      refine AWP.seqR rfl ?_
      refine ASL.q (v := (.int .i64 x5_l0)) rfl rfl (Light.quiet (opMove rfl rfl)) ?_
      refine ASL.q (v := (.list 1 (List.map (AV.int .i64) p0))) rfl rfl (Light.quiet (opMove rfl rfl)) ?_
      refine ASL.q (v := (.int .i64 (p0.length : Int))) rfl rfl (Light.quiet (opLenMap (f := (AV.int .i64)) rfl rfl rfl lenT_34 rfl)) ?_
      refine ASL.q (v := (.bool (decide (x5_l0 < ((p0.length : Int)))))) rfl rfl (Light.quiet (opInt rfl rfl rfl rfl)) ?_
      refine ASL.done ?_
      refine AWP.ifP hF rfl (fun hc9 hF => ?_) (fun hc9 hF => ?_)
      · skip
        refine AWP.skip ?_
        refine QThen.nrm ?_
        refine AWP.seq ?_
        refine AWP.block ?_
        refine AWP.seqD [(0, false), (1, false), (2, false), (3, false), (4, false), (5, false), (6, false), (7, false), (8, false)] mixed (by kernel_rfl) rfl ?_
        refine ARL.q0 (v := (.list 1 (List.map (AV.int .i64) p0))) rfl rfl (Light.quiet (opMove rfl rfl)) ?_
        refine ARL.q0 (v := (.int .i64 x5_l0)) rfl rfl (Light.quiet (opMove rfl rfl)) ?_
        obtain ⟨a19, ha19, hF⟩ := bindE hF
        refine ARL.q0 (v := (.rptr [(.int .i64 a19)])) rfl rfl (Light.quiet (kIx (f := (AV.int .i64)) ha19 rfl rfl rfl elemA_34 sizeA_3 rfl)) ?_
        refine ARL.q0 (v := (.int .i64 a19)) rfl rfl (Light.quiet (opLoadR rfl aggA_3 rfl rfl)) ?_
        refine ARL.q0 (v := (.list 1 (List.map (AV.int .i64) p1))) rfl rfl (Light.quiet (opMove rfl rfl)) ?_
        refine ARL.q0 (v := (.int .i64 x5_l0)) rfl rfl (Light.quiet (opMove rfl rfl)) ?_
        obtain ⟨a23, ha23, hF⟩ := bindE hF
        refine ARL.q0 (v := (.rptr [(.int .i64 a23)])) rfl rfl (Light.quiet (kIx (f := (AV.int .i64)) ha23 rfl rfl rfl elemA_34 sizeA_3 rfl)) ?_
        refine ARL.q0 (v := (.int .i64 a23)) rfl rfl (Light.quiet (opLoadR rfl aggA_3 rfl rfl)) ?_
        refine ARL.q0 (v := (.bool (decide (a19 ≠ a23)))) rfl rfl (Light.quiet (opInt rfl rfl rfl rfl)) ?_
        refine ARL.done ?_
        refine AWP.ifP hF rfl (fun hc10 hF => ?_) (fun hc10 hF => ?_)
        · skip
          refine AWP.seqR rfl ?_
          refine ASL.q (v := (.bool false)) rfl rfl (Light.quiet (opAssign rfl rfl)) ?_
          refine ASL.done ?_
          refine AWP.ret ?_
          refine QBlock.ret ?_
          refine QThen.rt ?_
          refine QThen.rt ?_
          refine QBlock.ret ?_
          refine QThen.rt ?_
          obtain rfl := (hx4 _ (someE hF).symm)
          have hF := hR7
          have hF := sumR hF
          obtain rfl := someE hF
          exact QRet.sole (v := (.bool false)) ⟨rfl, trivial⟩ rfl
        · skip
          refine AWP.skip ?_
          refine QBlock.nrm ?_
          refine QThen.nrm ?_
          refine AWP.lastR rfl ?_
          refine ASL.q (v := (.int .i64 x5_l0)) rfl rfl (Light.quiet (opMove rfl rfl)) ?_
          refine ASL.q (v := (.int .i64 (W (x5_l0 + 1)))) rfl rfl (Light.quiet (opInt rfl rfl rfl rfl)) ?_
          refine ASL.q (v := (.int .i64 (W (x5_l0 + 1)))) rfl rfl (Light.quiet (opAssign rfl rfl)) ?_
          refine ASL.done ?_
          refine QThen.nrm ?_
          exact ⟨(W (x5_l0 + 1)), (), (someE hF).symm, ⟨rfl, rfl, rfl, trivial⟩, (hS.pick [] rfl rfl)⟩
      · skip
        refine AWP.exit ?_
        refine QThen.ext ?_
        refine QThen.ext ?_
        refine QBlock.hit ?_
        obtain rfl := (hx4 _ (someE hF).symm)
        have hF := hR7
        have hF := sumL hF
        refine QThen.nrm ?_
        exact ⟨trivial, (hS.pick [] rfl rfl), hF⟩

set_option maxRecDepth 10000 in
theorem laws_FnExactReTakes_ok {K : Nat} {p0 : (List TNode)} {p1 : (List Int)} {r : Bool} (hF : laws_FnExactReTakes K p0 p1 = some r) : PC Try.prog 7 [(.list 3 (List.map TNode.av p0)), (.list 1 (List.map (AV.int .i64) p1))] fun v => v = (.bool r) := by
  refine PC.enter Try.func7 rfl Try.ntmps7 (by simp) ?_
  have hS := Sep.void; unfold laws_FnExactReTakes at hF
  refine AWP.seqR rfl ?_
  refine ASL.q (v := (.bool false)) rfl rfl (Light.quiet (opAssign rfl rfl)) ?_
  refine ASL.done ?_
  refine AWP.seq ?_
  refine AWP.seqR rfl ?_
  refine ASL.q (v := (.list 1 (List.map (AV.int .i64) p1))) rfl rfl (Light.quiet (opMove rfl rfl)) ?_
  refine ASL.q (v := (.int .i64 (p1.length : Int))) rfl rfl (Light.quiet (opLenMap (f := (AV.int .i64)) rfl rfl rfl lenT_34 rfl)) ?_
  refine ASL.q (v := (.bool (decide (((p1.length : Int)) > 1048576)))) rfl rfl (Light.quiet (opInt rfl rfl rfl rfl)) ?_
  refine ASL.done ?_
  refine AWP.ifP hF rfl (fun hc1 hF => ?_) (fun hc1 hF => ?_)
  · skip
    refine AWP.seqR rfl ?_
    refine ASL.q (v := (.bool true)) rfl rfl (Light.quiet (opAssign rfl rfl)) ?_
    refine ASL.done ?_
    refine AWP.ret ?_
    refine QThen.rt ?_
    obtain rfl := someE hF
    exact QRet.sole (v := (.bool true)) ⟨rfl, trivial⟩ rfl
  · skip
    refine AWP.skip ?_
    refine QThen.nrm ?_
    refine AWP.seqR rfl ?_
    refine ASL.q (v := (.int .i64 1048576)) rfl rfl (Light.quiet (opAssign rfl rfl)) ?_
    refine ASL.done ?_
    refine AWP.seqR rfl ?_
    refine ASL.q (v := (.list 3 (List.map TNode.av p0))) rfl rfl (Light.quiet (opMove rfl rfl)) ?_
    refine ASL.q (v := (.int .i64 1048576)) rfl rfl (Light.quiet (opMove rfl rfl)) ?_
    refine ASL.q (v := (.int .i64 (laws_szNodeS p0 1048576))) rfl rfl ((qCall rfl rfl call_15 (laws_szNodeS_ok p0 1048576) rfl)) ?_
    refine ASL.q (v := (.int .i64 (laws_szNodeS p0 1048576))) rfl rfl (Light.quiet (opAssign rfl rfl)) ?_
    refine ASL.done ?_
    refine AWP.seq ?_
    refine AWP.seqR rfl ?_
    refine ASL.q (v := (.int .i64 (laws_szNodeS p0 1048576))) rfl rfl (Light.quiet (opMove rfl rfl)) ?_
    refine ASL.q (v := (.bool (decide (((laws_szNodeS p0 1048576)) < 0)))) rfl rfl (Light.quiet (opInt rfl rfl rfl rfl)) ?_
    refine ASL.done ?_
    refine AWP.ifP hF rfl (fun hc2 hF => ?_) (fun hc2 hF => ?_)
    · skip
      refine AWP.seqR rfl ?_
      refine ASL.q (v := (.bool true)) rfl rfl (Light.quiet (opAssign rfl rfl)) ?_
      refine ASL.done ?_
      refine AWP.ret ?_
      refine QThen.rt ?_
      obtain rfl := someE hF
      exact QRet.sole (v := (.bool true)) ⟨rfl, trivial⟩ rfl
    · skip
      refine AWP.skip ?_
      refine QThen.nrm ?_
      refine AWP.seqR rfl ?_
      refine ASL.q (v := (.list 3 (List.map TNode.av p0))) rfl rfl (Light.quiet (opMove rfl rfl)) ?_
      obtain ⟨a19, ha19, hF⟩ := bindE hF
      refine ASL.q (v := (.list 3 (List.map TNode.av a19))) rfl rfl ((qCall rfl rfl call_17 (PO.list (laws_toNodeS_ok ha19)) rfl)) ?_
      refine ASL.q (v := (.list 1 (List.map (AV.int .i64) p1))) rfl rfl (Light.quiet (opMove rfl rfl)) ?_
      obtain ⟨a21, ha21, hF⟩ := bindE hF
      refine ASL.q (v := (.list 1 (List.map (AV.int .i64) a21))) rfl rfl ((qCall rfl rfl call_29 (PO.list (laws_toIntS_ok ha21)) rfl)) ?_
      obtain ⟨a22, ha22, hF⟩ := bindE hF
      refine ASL.q (v := (.bool a22)) rfl rfl ((qCall rfl rfl call_28 (spec_ReTakes_ok ha22) rfl)) ?_
      refine ASL.q (v := (.bool a22)) rfl rfl (Light.quiet (opAssign rfl rfl)) ?_
      refine ASL.done ?_
      refine AWP.seqR rfl ?_
      refine ASL.q (v := (.list 3 (List.map TNode.av p0))) rfl rfl (Light.quiet (opMove rfl rfl)) ?_
      obtain ⟨a24, ha24, hF⟩ := bindE hF
      refine ASL.q (v := (.list 3 (List.map TNode.av a24))) rfl rfl ((qCall rfl rfl call_17 (PO.list (laws_toNodeS_ok ha24)) rfl)) ?_
      refine ASL.q (v := (.list 3 (List.map TNode.av a24))) rfl rfl (Light.quiet (opAssign rfl rfl)) ?_
      refine ASL.done ?_
      refine AWP.seqR rfl ?_
      refine ASL.q (v := (.list 1 (List.map (AV.int .i64) p1))) rfl rfl (Light.quiet (opMove rfl rfl)) ?_
      obtain ⟨a26, ha26, hF⟩ := bindE hF
      refine ASL.q (v := (.list 1 (List.map (AV.int .i64) a26))) rfl rfl ((qCall rfl rfl call_29 (PO.list (laws_toIntS_ok ha26)) rfl)) ?_
      refine ASL.q (v := (.list 1 (List.map (AV.int .i64) a26))) rfl rfl (Light.quiet (opAssign rfl rfl)) ?_
      refine ASL.done ?_
      refine AWP.seqR rfl ?_
      refine ASL.q (v := (.list 3 (List.map TNode.av a24))) rfl rfl (Light.quiet (opMove rfl rfl)) ?_
      refine ASL.q (v := (.list 1 (List.map (AV.int .i64) a26))) rfl rfl (Light.quiet (opMove rfl rfl)) ?_
      obtain ⟨a29, ha29, hF⟩ := bindE hF
      refine ASL.q (v := (.bool a29)) rfl rfl ((qCall rfl rfl call_30 (impl_ReTakes_ok ha29) rfl)) ?_
      refine ASL.q (v := (.bool a29)) rfl rfl (Light.quiet (opAssign rfl rfl)) ?_
      refine ASL.done ?_
      refine AWP.seq ?_
      refine AWP.seqR rfl ?_
      refine ASL.q (v := (.bool a29)) rfl rfl (Light.quiet (opMove rfl rfl)) ?_
      refine ASL.q (v := (.bool a22)) rfl rfl (Light.quiet (opMove rfl rfl)) ?_
      refine ASL.q (v := (.bool (!(a29 == a22)))) rfl rfl (Light.quiet (opBoolEq rfl rfl rfl und_4 rfl)) ?_
      refine ASL.done ?_
      refine AWP.ifB hF rfl (fun hc3 hF => ?_) (fun hc3 hF => ?_)
      · skip
        refine AWP.seqR rfl ?_
        refine ASL.q (v := (.bool false)) rfl rfl (Light.quiet (opAssign rfl rfl)) ?_
        refine ASL.done ?_
        refine AWP.ret ?_
        refine QThen.rt ?_
        obtain rfl := someE hF
        exact QRet.sole (v := (.bool false)) ⟨rfl, trivial⟩ rfl
      · skip
        refine AWP.skip ?_
        refine QThen.nrm ?_
        refine AWP.seq ?_
        refine AWP.seqR rfl ?_
        refine ASL.q (v := (.list 3 (List.map TNode.av a24))) rfl rfl (Light.quiet (opMove rfl rfl)) ?_
        refine ASL.q (v := (.list 3 (List.map TNode.av p0))) rfl rfl (Light.quiet (opMove rfl rfl)) ?_
        obtain ⟨a35, ha35, hF⟩ := bindE hF
        refine ASL.q (v := (.list 3 (List.map TNode.av a35))) rfl rfl ((qCall rfl rfl call_17 (PO.list (laws_toNodeS_ok ha35)) rfl)) ?_
        obtain ⟨a36, ha36, hF⟩ := bindE hF
        refine ASL.q (v := (.bool a36)) rfl rfl ((qCall rfl rfl call_19 (laws_eqNodeS_ok ha36) rfl)) ?_
        refine ASL.q (v := (.bool (!a36))) rfl rfl (Light.quiet (opNot rfl rfl)) ?_
        refine ASL.done ?_
        refine AWP.ifB hF rfl (fun hc4 hF => ?_) (fun hc4 hF => ?_)
        · skip
          refine AWP.seqR rfl ?_
          refine ASL.q (v := (.bool false)) rfl rfl (Light.quiet (opAssign rfl rfl)) ?_
          refine ASL.done ?_
          refine AWP.ret ?_
          refine QThen.rt ?_
          obtain rfl := someE hF
          exact QRet.sole (v := (.bool false)) ⟨rfl, trivial⟩ rfl
        · skip
          refine AWP.skip ?_
          refine QThen.nrm ?_
          refine AWP.seq ?_
          refine AWP.seqR rfl ?_
          refine ASL.q (v := (.list 1 (List.map (AV.int .i64) a26))) rfl rfl (Light.quiet (opMove rfl rfl)) ?_
          refine ASL.q (v := (.list 1 (List.map (AV.int .i64) p1))) rfl rfl (Light.quiet (opMove rfl rfl)) ?_
          obtain ⟨a40, ha40, hF⟩ := bindE hF
          refine ASL.q (v := (.list 1 (List.map (AV.int .i64) a40))) rfl rfl ((qCall rfl rfl call_29 (PO.list (laws_toIntS_ok ha40)) rfl)) ?_
          obtain ⟨a41, ha41, hF⟩ := bindE hF
          refine ASL.q (v := (.bool a41)) rfl rfl ((qCall rfl rfl call_31 (laws_eqIntS_ok ha41) rfl)) ?_
          refine ASL.q (v := (.bool (!a41))) rfl rfl (Light.quiet (opNot rfl rfl)) ?_
          refine ASL.done ?_
          refine AWP.ifB hF rfl (fun hc5 hF => ?_) (fun hc5 hF => ?_)
          · skip
            refine AWP.seqR rfl ?_
            refine ASL.q (v := (.bool false)) rfl rfl (Light.quiet (opAssign rfl rfl)) ?_
            refine ASL.done ?_
            refine AWP.ret ?_
            refine QThen.rt ?_
            obtain rfl := someE hF
            exact QRet.sole (v := (.bool false)) ⟨rfl, trivial⟩ rfl
          · skip
            refine AWP.skip ?_
            refine QThen.nrm ?_
            refine AWP.seqR rfl ?_
            refine ASL.q (v := (.bool true)) rfl rfl (Light.quiet (opAssign rfl rfl)) ?_
            refine ASL.done ?_
            refine AWP.ret ?_
            obtain rfl := someE hF
            exact QRet.sole (v := (.bool true)) ⟨rfl, trivial⟩ rfl

end Go.Proofs.Ytpikdepigcmfnaa
