/- Each of these functions of the program comes to just what its plain function says: FnExactExprParse. -/
import Derived.Test.YtpikdepigcmfnaaDExprParse
import Derived.Test.YtpikdepigcmfnaaFa
import Derived.Test.YtpikdepigcmfnaaKReParse
import Derived.Test.YtpikdepigcmfnaaKReOk
namespace Go.Proofs.Ytpikdepigcmfnaa
open Go Go.RowKit E
set_option linter.unusedVariables false
set_option maxRecDepth 10000 in
theorem spec_l2Read.body_ok {p0 : ByteArray} {p1 : Int} {p2 : Int} {p3 : (List TNode)} {r : ((List TNode) × Int × Int)} {vp3 : AV} {rec_spec_l2Read : ByteArray → Int → Int → (List TNode) → Option ((List TNode) × Int × Int)} {rec_spec_l2Atom : ByteArray → Int → (List TNode) → Option ((List TNode) × Int × Int)} (ih_spec_l2Read : ∀ {p0 : ByteArray} {p1 : Int} {p2 : Int} {p3 : (List TNode)} {r : ((List TNode) × Int × Int)} {vp3 : AV} , rec_spec_l2Read p0 p1 p2 p3 = some r → HS Try.prog 76 [(.str p0), (.int .i64 p1), (.int .i64 p2), vp3] [.row 3 vp3 (List.map TNode.av p3)] fun v L' => ∃ o0 : AV, v = .tup [o0, (.int .i64 r.2.1), (.int .i64 r.2.2)] ∧ L' = [.row 3 o0 (List.map TNode.av r.1)]) (ih_spec_l2Atom : ∀ {p0 : ByteArray} {p1 : Int} {p2 : (List TNode)} {r : ((List TNode) × Int × Int)} {vp2 : AV} , rec_spec_l2Atom p0 p1 p2 = some r → HS Try.prog 114 [(.str p0), (.int .i64 p1), vp2] [.row 3 vp2 (List.map TNode.av p2)] fun v L' => ∃ o0 : AV, v = .tup [o0, (.int .i64 r.2.1), (.int .i64 r.2.2)] ∧ L' = [.row 3 o0 (List.map TNode.av r.1)]) (hF : spec_l2Read.body rec_spec_l2Read rec_spec_l2Atom p0 p1 p2 p3 = some r) : HS Try.prog 76 [(.str p0), (.int .i64 p1), (.int .i64 p2), vp3] [.row 3 vp3 (List.map TNode.av p3)] fun v L' => ∃ o0 : AV, v = .tup [o0, (.int .i64 r.2.1), (.int .i64 r.2.2)] ∧ L' = [.row 3 o0 (List.map TNode.av r.1)] := by
  intro H S hS
  refine HC.enter Try.func76 rfl Try.ntmps76 (by simp) ?_
  simp only [List.cons_append, List.nil_append] at hS
  unfold spec_l2Read.body at hF
  refine AWP.seqR rfl ?_
  have hS := hNil (s := 3) (f := TNode.av) hS
  refine ASL.q (v := .nil) rfl rfl (Light.quiet (opAssign rfl rfl)) ?_
  refine ASL.q (v := (.int .i64 0)) rfl rfl (Light.quiet (opAssign rfl rfl)) ?_
  refine ASL.q (v := (.int .i64 0)) rfl rfl (Light.quiet (opAssign rfl rfl)) ?_
  refine ASL.done ?_
  refine AWP.seq ?_
  refine AWP.seqR rfl ?_
  refine ASL.q (v := (.int .i64 p2)) rfl rfl (Light.quiet (opMove rfl rfl)) ?_
  refine ASL.q (v := (.bool (decide (p2 = 2)))) rfl rfl (Light.quiet (opInt rfl rfl rfl rfl)) ?_
  refine ASL.done ?_
  refine AWP.ifP hF rfl (fun hc3 hF => ?_) (fun hc3 hF => ?_)
  · skip
    refine AWP.seqR rfl ?_
    refine ASL.q (v := (.str p0)) rfl rfl (Light.quiet (opMove rfl rfl)) ?_
    refine ASL.q (v := (.int .i64 p1)) rfl rfl (Light.quiet (opMove rfl rfl)) ?_
    refine ASL.q (v := vp3) rfl rfl (Light.quiet (opMove rfl rfl)) ?_
    obtain ⟨a22, ha22, hF⟩ := bindE hF
    refine ASL.x rfl rfl (hCallS hS [1, 0, 2] (F := [.row 3 .nil (List.map TNode.av ([])), .snap S]) rfl rfl rfl call_114 (ih_spec_l2Atom ha22) rfl rfl ?_); rintro _ _ G6 ⟨w4, rfl, rfl⟩ hS
    refine ASL.q (v := w4) rfl rfl (Light.quiet (opExtract rfl rfl rfl)) ?_
    refine ASL.q (v := (.int .i64 a22.2.1)) rfl rfl (Light.quiet (opExtract rfl rfl rfl)) ?_
    refine ASL.q (v := (.int .i64 a22.2.2)) rfl rfl (Light.quiet (opExtract rfl rfl rfl)) ?_
    refine ASL.q (v := w4) rfl rfl (Light.quiet (opAssign rfl rfl)) ?_
    refine ASL.q (v := (.int .i64 a22.2.1)) rfl rfl (Light.quiet (opAssign rfl rfl)) ?_
    refine ASL.q (v := (.int .i64 a22.2.2)) rfl rfl (Light.quiet (opAssign rfl rfl)) ?_
    refine ASL.done ?_
    refine AWP.ret ?_
    refine QThen.rt ?_
    obtain rfl := someE hF
    exact QRet.many (vs := [w4, (.int .i64 a22.2.1), (.int .i64 a22.2.2)]) ⟨rfl, rfl, rfl, trivial⟩ (by simp) ⟨_, ⟨w4, rfl, rfl⟩, hS.pick [0, 2] rfl rfl⟩
  · skip
    refine AWP.skip ?_
    refine QThen.nrm ?_
    refine AWP.seqR rfl ?_
    refine ASL.q (v := (.list 1 (List.map (AV.int .u8) [124, 38]))) rfl rfl ((qLit (xs := [(.int .u8 124), (.int .u8 38)]) rfl elemA_47 sizeA_5 zeroA_5 rfl rfl rfl rfl (by simp [cells]) (nlt rfl))) ?_
    refine ASL.q (v := (.int .i64 p2)) rfl rfl (Light.quiet (opMove rfl rfl)) ?_
    obtain ⟨a28, ha28, hF⟩ := bindE hF
    refine ASL.q (v := (.rptr [(.int .u8 a28)])) rfl rfl (Light.quiet (kIx (f := (AV.int .u8)) ha28 rfl rfl rfl elemA_47 sizeA_5 rfl)) ?_
    refine ASL.q (v := (.int .u8 a28)) rfl rfl (Light.quiet (opLoadR rfl aggA_5 rfl rfl)) ?_
    refine ASL.q (v := (.int .u8 a28)) rfl rfl (Light.quiet (opAssign rfl rfl)) ?_
    refine ASL.done ?_
    refine AWP.seqR rfl ?_
    refine ASL.q (v := (.list 1 (List.map (AV.int .i64) [6, 5]))) rfl rfl ((qLit (xs := [(.int .i64 6), (.int .i64 5)]) rfl elemA_34 sizeA_3 zeroA_3 rfl rfl rfl rfl (by simp [cells]) (nlt rfl))) ?_
    refine ASL.q (v := (.int .i64 p2)) rfl rfl (Light.quiet (opMove rfl rfl)) ?_
    obtain ⟨a32, ha32, hF⟩ := bindE hF
    refine ASL.q (v := (.rptr [(.int .i64 a32)])) rfl rfl (Light.quiet (kIx (f := (AV.int .i64)) ha32 rfl rfl rfl elemA_34 sizeA_3 rfl)) ?_
    refine ASL.q (v := (.int .i64 a32)) rfl rfl (Light.quiet (opLoadR rfl aggA_3 rfl rfl)) ?_
    refine ASL.q (v := (.int .i64 a32)) rfl rfl (Light.quiet (opAssign rfl rfl)) ?_
    refine ASL.done ?_
    refine AWP.seqR rfl ?_
    refine ASL.q (v := (.str p0)) rfl rfl (Light.quiet (opMove rfl rfl)) ?_
    refine ASL.q (v := (.int .i64 p1)) rfl rfl (Light.quiet (opMove rfl rfl)) ?_
    refine ASL.q (v := (.int .i64 p2)) rfl rfl (Light.quiet (opMove rfl rfl)) ?_
    refine ASL.q (v := (.int .i64 (W (p2 + 1)))) rfl rfl (Light.quiet (opInt rfl rfl rfl rfl)) ?_
    refine ASL.q (v := vp3) rfl rfl (Light.quiet (opMove rfl rfl)) ?_
    obtain ⟨a40, ha40, hF⟩ := bindE hF
    refine ASL.x rfl rfl (hCallS hS [1, 0, 2] (F := [.row 3 .nil (List.map TNode.av ([])), .snap S]) rfl rfl rfl call_76 (ih_spec_l2Read ha40) rfl rfl ?_); rintro _ _ G9 ⟨w7, rfl, rfl⟩ hS
    refine ASL.q (v := (.tup [w7, (.int .i64 a40.2.1), (.int .i64 a40.2.2)])) rfl rfl (Light.quiet (opMove rfl rfl)) ?_
    refine ASL.q (v := w7) rfl rfl (Light.quiet (opExtract rfl rfl rfl)) ?_
    refine ASL.q (v := (.int .i64 a40.2.1)) rfl rfl (Light.quiet (opExtract rfl rfl rfl)) ?_
    refine ASL.q (v := (.int .i64 a40.2.2)) rfl rfl (Light.quiet (opExtract rfl rfl rfl)) ?_
    refine ASL.q (v := w7) rfl rfl (Light.quiet (opAssign rfl rfl)) ?_
    refine ASL.q (v := (.int .i64 a40.2.1)) rfl rfl (Light.quiet (opAssign rfl rfl)) ?_
    refine ASL.q (v := (.int .i64 a40.2.2)) rfl rfl (Light.quiet (opAssign rfl rfl)) ?_
    refine ASL.done ?_
    refine AWP.seqM (fun e H => ∃ y10 : (List TNode), ∃ x14_1 : Int, ∃ x15_1 : Int, ∃ w11 : AV, E.Told e [(13, w11), (14, (.int .i64 x14_1)), (15, (.int .i64 x15_1))] ∧ E.Sep H [.row 3 w11 (List.map TNode.av y10), .snap S] ∧ spec_l2Read.k0 y10 x14_1 x15_1 = some r) ?_ ?_
    · rintro e0 G13 ⟨y10, x14_1, x15_1, w11, hT, hS, hF⟩; refine AWP.only _ hT ?_; unfold spec_l2Read.k0 at hF
      refine AWP.seqR rfl ?_
      refine ASL.q (v := w11) rfl rfl (Light.quiet (opMove rfl rfl)) ?_
      refine ASL.q (v := (.int .i64 x14_1)) rfl rfl (Light.quiet (opMove rfl rfl)) ?_
      refine ASL.q (v := (.int .i64 x15_1)) rfl rfl (Light.quiet (opMove rfl rfl)) ?_
      refine ASL.q (v := w11) rfl rfl (Light.quiet (opAssign rfl rfl)) ?_
      refine ASL.q (v := (.int .i64 x14_1)) rfl rfl (Light.quiet (opAssign rfl rfl)) ?_
      refine ASL.q (v := (.int .i64 x15_1)) rfl rfl (Light.quiet (opAssign rfl rfl)) ?_
      refine ASL.done ?_
      refine AWP.ret ?_
      obtain rfl := someE hF
      exact QRet.many (vs := [w11, (.int .i64 x14_1), (.int .i64 x15_1)]) ⟨rfl, rfl, rfl, trivial⟩ (by simp) ⟨_, ⟨w11, rfl, rfl⟩, hS.pick [0, 1] rfl rfl⟩
    · skip
      refine AWP.block ?_
      obtain ⟨o20, hL19, hR21⟩ := bindE hF
      refine AWP.loopF (ω := AV) hL19 (fun s w => [(0, (.str p0)), (2, (.int .i64 p2)), (11, (.int .u8 a28)), (12, (.int .i64 a32)), (13, w), (14, (.int .i64 s.2.1)), (15, (.int .i64 s.2.2))]) (fun s w => [.row 3 w (List.map TNode.av s.1), .snap S]) w7 ⟨rfl, rfl, rfl, rfl, rfl, rfl, rfl, trivial⟩ (hS.pick [0, 2] rfl rfl) ?_
      rintro ⟨y14, x14_l0, x15_l0⟩ w15 G22 hS x17 hF hx18
      try dsimp only at hS ⊢
      have hF : spec_l2Read.b0 p0 a28 rec_spec_l2Read p2 a32 y14 x14_l0 x15_l0 = some x17 := hF; unfold spec_l2Read.b0 at hF
      refine AWP.seq ?_
      refine AWP.seqR rfl ?_
      refine ASL.q (v := (.int .i64 x15_l0)) rfl rfl (Light.quiet (opMove rfl rfl)) ?_
      refine ASL.q (v := (.bool (decide (x15_l0 = 0)))) rfl rfl (Light.quiet (opInt rfl rfl rfl rfl)) ?_
      obtain ⟨c46, hc46, hF⟩ := bndE hF
      refine ASL.q (v := (.bool c46)) rfl rfl ((Quiet.cast (Light.quiet (opMove rfl rfl)) (congrArg AV.bool hc46.symm))) ?_
      refine ASL.g (v := (.int .i64 x14_l0)) (.bool c46) true rfl (wT _) rfl (fun hG => by have q0 := hG; subst q0; exact Light.quiet (opMove rfl rfl)) ?_
      refine ASL.g (v := (.str p0)) (.bool c46) true rfl (wT _) rfl (fun hG => by have q0 := hG; subst q0; exact Light.quiet (opMove rfl rfl)) ?_
      refine ASL.g (v := (.int .i64 (p0.size : Int))) (.bool c46) true rfl (wT _) rfl (fun hG => by have q0 := hG; subst q0; exact Light.quiet (opLenOf rfl rfl rfl lenT_9 rfl rfl)) ?_
      refine ASL.g (v := (.bool (decide (x14_l0 < ((p0.size : Int)))))) (.bool c46) true rfl (wT _) rfl (fun hG => by have q0 := hG; subst q0; exact Light.quiet (opInt rfl rfl rfl rfl)) ?_
      refine ASL.q (v := (.bool (c46 && (decide (x14_l0 < ((p0.size : Int))))))) rfl rfl (Light.quiet (opPick (b := c46) rfl rfl (by cases c46 <;> rfl))) ?_
      obtain ⟨c52, hc52, hF⟩ := bndE hF
      refine ASL.q (v := (.bool c52)) rfl rfl ((Quiet.cast (Light.quiet (opMove rfl rfl)) (congrArg AV.bool hc52.symm))) ?_
      refine ASL.g (v := (.str p0)) (.bool c52) true rfl (wT _) rfl (fun hG => by have q0 := hG; subst q0; exact Light.quiet (opMove rfl rfl)) ?_
      refine ASL.g (v := (.int .i64 x14_l0)) (.bool c52) true rfl (wT _) rfl (fun hG => by have q0 := hG; subst q0; exact Light.quiet (opMove rfl rfl)) ?_
      obtain ⟨a55, ha55, hF⟩ := bindE hF
      refine ASL.g (v := (.int .u8 a55)) (.bool c52) true rfl (wT _) rfl (fun hG => by have q0 := hG; subst q0; exact Light.quiet (kIxS (whenE ha55) rfl und_9 rfl rfl)) ?_
      refine ASL.g (v := (.int .u8 a28)) (.bool c52) true rfl (wT _) rfl (fun hG => by have q0 := hG; subst q0; exact Light.quiet (opMove rfl rfl)) ?_
      refine ASL.g (v := (.bool (decide (a55 = a28)))) (.bool c52) true rfl (wT _) rfl (fun hG => by have q0 := hG; subst q0; exact Light.quiet (opInt rfl rfl rfl rfl)) ?_
      refine ASL.q (v := (.bool (c52 && (decide (a55 = a28))))) rfl rfl (Light.quiet (opPick (b := c52) rfl rfl (by cases c52 <;> rfl))) ?_
      refine ASL.done ?_
      refine AWP.ifB hF rfl (fun hc23 hF => ?_) (fun hc23 hF => ?_)
      · skip
        refine AWP.skip ?_
        refine QThen.nrm ?_
        refine AWP.block ?_
        refine AWP.seqR rfl ?_
        refine ASL.q (v := w15) rfl rfl (Light.quiet (opMove rfl rfl)) ?_
        refine ASL.q (v := (.int .i64 (y14.length : Int))) rfl rfl (Light.quiet (kLen hS (j := 0) rfl rfl rfl rfl lenT_25 rfl)) ?_
        refine ASL.q (v := (.int .i64 (W (((y14.length : Int)) - 1)))) rfl rfl (Light.quiet (opInt rfl rfl rfl rfl)) ?_
        refine ASL.q (v := (.int .i64 (W (((y14.length : Int)) - 1)))) rfl rfl (Light.quiet (opAssign rfl rfl)) ?_
        refine ASL.done ?_
        refine AWP.seqR rfl ?_
        refine ASL.q (v := (.str p0)) rfl rfl (Light.quiet (opMove rfl rfl)) ?_
        refine ASL.q (v := (.int .i64 x14_l0)) rfl rfl (Light.quiet (opMove rfl rfl)) ?_
        refine ASL.q (v := (.int .i64 (W (x14_l0 + 1)))) rfl rfl (Light.quiet (opInt rfl rfl rfl rfl)) ?_
        refine ASL.q (v := (.int .i64 p2)) rfl rfl (Light.quiet (opMove rfl rfl)) ?_
        refine ASL.q (v := (.int .i64 (W (p2 + 1)))) rfl rfl (Light.quiet (opInt rfl rfl rfl rfl)) ?_
        refine ASL.q (v := w15) rfl rfl (Light.quiet (opMove rfl rfl)) ?_
        obtain ⟨a69, ha69, hF⟩ := bindE hF
        refine ASL.x rfl rfl (hCallS hS [0, 1] (F := [.snap S]) rfl rfl rfl call_76 (ih_spec_l2Read ha69) rfl rfl ?_); rintro _ _ G26 ⟨w24, rfl, rfl⟩ hS
        refine ASL.q (v := (.tup [w24, (.int .i64 a69.2.1), (.int .i64 a69.2.2)])) rfl rfl (Light.quiet (opMove rfl rfl)) ?_
        refine ASL.q (v := w24) rfl rfl (Light.quiet (opExtract rfl rfl rfl)) ?_
        refine ASL.q (v := (.int .i64 a69.2.1)) rfl rfl (Light.quiet (opExtract rfl rfl rfl)) ?_
        refine ASL.q (v := (.int .i64 a69.2.2)) rfl rfl (Light.quiet (opExtract rfl rfl rfl)) ?_
        refine ASL.q (v := w24) rfl rfl (Light.quiet (opAssign rfl rfl)) ?_
        refine ASL.q (v := (.int .i64 a69.2.1)) rfl rfl (Light.quiet (opAssign rfl rfl)) ?_
        refine ASL.q (v := (.int .i64 a69.2.2)) rfl rfl (Light.quiet (opAssign rfl rfl)) ?_
        refine ASL.done ?_
        refine AWP.seqR rfl ?_
        refine ASL.q (v := (.int .i64 a69.2.2)) rfl rfl (Light.quiet (opMove rfl rfl)) ?_
        refine ASL.q (v := (.bool (decide (a69.2.2 = 0)))) rfl rfl (Light.quiet (opInt rfl rfl rfl rfl)) ?_
        refine ASL.done ?_
        refine AWP.ifP hF rfl (fun hc27 hF => ?_) (fun hc27 hF => ?_)
        · skip
          refine AWP.lastR rfl ?_
          refine ASL.q (v := w24) rfl rfl (Light.quiet (opMove rfl rfl)) ?_
          refine ASL.q (v := (.int .i64 a32)) rfl rfl (Light.quiet (opMove rfl rfl)) ?_
          refine ASL.q (v := (.int .i64 (W (((y14.length : Int)) - 1)))) rfl rfl (Light.quiet (opMove rfl rfl)) ?_
          refine ASL.q (v := w24) rfl rfl (Light.quiet (opMove rfl rfl)) ?_
          refine ASL.q (v := (.int .i64 (a69.1.length : Int))) rfl rfl (Light.quiet (kLen hS (j := 0) rfl rfl rfl rfl lenT_25 rfl)) ?_
          refine ASL.q (v := (.int .i64 (W (((a69.1.length : Int)) - 1)))) rfl rfl (Light.quiet (opInt rfl rfl rfl rfl)) ?_
          refine ASL.q (v := (.agg [(.int .i64 a32), (.int .i64 (W (((y14.length : Int)) - 1))), (.int .i64 (W (((a69.1.length : Int)) - 1)))])) rfl rfl (Light.quiet (opBuildZ (zs := [(.int .i64 0), (.int .i64 0), (.int .i64 0)]) rfl plan_54 zeroA_54 ⟨.inl rfl, .inl rfl, .inl rfl, trivial⟩ rfl)) ?_
          refine ASL.q (v := (.list 3 (List.map TNode.av [(TNode.mk a32 ((W (((y14.length : Int)) - 1))) ((W (((a69.1.length : Int)) - 1))))]))) rfl rfl ((qLit (xs := [(.agg [(.int .i64 a32), (.int .i64 (W (((y14.length : Int)) - 1))), (.int .i64 (W (((a69.1.length : Int)) - 1)))])]) rfl elemA_25 sizeA_54 zeroA_54 rfl rfl rfl rfl (by simp [cells, TNode.av]) (nlt rfl))) ?_
          obtain ⟨z83, hz83, hF⟩ := bindE hF
          refine ASL.x rfl rfl (hApp (f := TNode.av) (ws := [(TNode.mk a32 ((W (((y14.length : Int)) - 1))) ((W (((a69.1.length : Int)) - 1))))]) hS (j := 0) rfl hz83 rfl elemA_25 rfl sizeA_54 bytesA_54 zeroA_54 rfl rfl rfl (fun _ => rfl) ?_); rintro v83 G28 hS
          refine ASL.q (v := v83) rfl rfl (Light.quiet (opAssign rfl rfl)) ?_
          refine ASL.done ?_
          refine QBlock.nrm ?_
          refine QThen.nrm ?_
          exact ⟨(z83, a69.2.1, a69.2.2), v83, (someE hF).symm, ⟨rfl, rfl, rfl, rfl, rfl, rfl, rfl, trivial⟩, (hS.pick [0, 1] rfl rfl)⟩
        · skip
          refine AWP.skip ?_
          refine QBlock.nrm ?_
          refine QThen.nrm ?_
          exact ⟨(a69.1, a69.2.1, a69.2.2), w24, (someE hF).symm, ⟨rfl, rfl, rfl, rfl, rfl, rfl, rfl, trivial⟩, (hS.pick [0, 1] rfl rfl)⟩
      · skip
        refine AWP.exit ?_
        refine QThen.ext ?_
        refine QThen.ext ?_
        refine QBlock.hit ?_
        obtain rfl := (hx18 _ (someE hF).symm)
        have hF := hR21
        refine QThen.nrm ?_
        exact ⟨y14, x14_l0, x15_l0, w15, ⟨rfl, rfl, rfl, trivial⟩, (hS.pick [0, 1] rfl rfl), hF⟩

set_option maxRecDepth 10000 in
theorem spec_l2Atom.body_ok {p0 : ByteArray} {p1 : Int} {p2 : (List TNode)} {r : ((List TNode) × Int × Int)} {vp2 : AV} {rec_spec_l2Read : ByteArray → Int → Int → (List TNode) → Option ((List TNode) × Int × Int)} {rec_spec_l2Atom : ByteArray → Int → (List TNode) → Option ((List TNode) × Int × Int)} (ih_spec_l2Read : ∀ {p0 : ByteArray} {p1 : Int} {p2 : Int} {p3 : (List TNode)} {r : ((List TNode) × Int × Int)} {vp3 : AV} , rec_spec_l2Read p0 p1 p2 p3 = some r → HS Try.prog 76 [(.str p0), (.int .i64 p1), (.int .i64 p2), vp3] [.row 3 vp3 (List.map TNode.av p3)] fun v L' => ∃ o0 : AV, v = .tup [o0, (.int .i64 r.2.1), (.int .i64 r.2.2)] ∧ L' = [.row 3 o0 (List.map TNode.av r.1)]) (ih_spec_l2Atom : ∀ {p0 : ByteArray} {p1 : Int} {p2 : (List TNode)} {r : ((List TNode) × Int × Int)} {vp2 : AV} , rec_spec_l2Atom p0 p1 p2 = some r → HS Try.prog 114 [(.str p0), (.int .i64 p1), vp2] [.row 3 vp2 (List.map TNode.av p2)] fun v L' => ∃ o0 : AV, v = .tup [o0, (.int .i64 r.2.1), (.int .i64 r.2.2)] ∧ L' = [.row 3 o0 (List.map TNode.av r.1)]) (hF : spec_l2Atom.body rec_spec_l2Read rec_spec_l2Atom p0 p1 p2 = some r) : HS Try.prog 114 [(.str p0), (.int .i64 p1), vp2] [.row 3 vp2 (List.map TNode.av p2)] fun v L' => ∃ o0 : AV, v = .tup [o0, (.int .i64 r.2.1), (.int .i64 r.2.2)] ∧ L' = [.row 3 o0 (List.map TNode.av r.1)] := by
  intro H S hS
  refine HC.enter Try.func114 rfl Try.ntmps114 (by simp) ?_
  simp only [List.cons_append, List.nil_append] at hS
  unfold spec_l2Atom.body at hF
  refine AWP.seqR rfl ?_
  have hS := hNil (s := 3) (f := TNode.av) hS
  refine ASL.q (v := .nil) rfl rfl (Light.quiet (opAssign rfl rfl)) ?_
  refine ASL.q (v := (.int .i64 0)) rfl rfl (Light.quiet (opAssign rfl rfl)) ?_
  refine ASL.q (v := (.int .i64 0)) rfl rfl (Light.quiet (opAssign rfl rfl)) ?_
  refine ASL.done ?_
  refine AWP.seq ?_
  refine AWP.seqR rfl ?_
  refine ASL.q (v := (.int .i64 p1)) rfl rfl (Light.quiet (opMove rfl rfl)) ?_
  refine ASL.q (v := (.str p0)) rfl rfl (Light.quiet (opMove rfl rfl)) ?_
  refine ASL.q (v := (.int .i64 (p0.size : Int))) rfl rfl (Light.quiet (opLenOf rfl rfl rfl lenT_9 rfl rfl)) ?_
  refine ASL.q (v := (.bool (decide (p1 ≥ ((p0.size : Int)))))) rfl rfl (Light.quiet (opInt rfl rfl rfl rfl)) ?_
  refine ASL.done ?_
  refine AWP.ifP hF rfl (fun hc3 hF => ?_) (fun hc3 hF => ?_)
  · skip
    refine AWP.seqR rfl ?_
    refine ASL.q (v := vp2) rfl rfl (Light.quiet (opMove rfl rfl)) ?_
    refine ASL.q (v := (.str p0)) rfl rfl (Light.quiet (opMove rfl rfl)) ?_
    refine ASL.q (v := (.int .i64 (p0.size : Int))) rfl rfl (Light.quiet (opLenOf rfl rfl rfl lenT_9 rfl rfl)) ?_
    refine ASL.q (v := vp2) rfl rfl (Light.quiet (opAssign rfl rfl)) ?_
    refine ASL.q (v := (.int .i64 (p0.size : Int))) rfl rfl (Light.quiet (opAssign rfl rfl)) ?_
    refine ASL.q (v := (.int .i64 2)) rfl rfl (Light.quiet (opAssign rfl rfl)) ?_
    refine ASL.done ?_
    refine AWP.ret ?_
    refine QThen.rt ?_
    obtain rfl := someE hF
    exact QRet.many (vs := [vp2, (.int .i64 (p0.size : Int)), (.int .i64 2)]) ⟨rfl, rfl, rfl, trivial⟩ (by simp) ⟨_, ⟨vp2, rfl, rfl⟩, hS.pick [1, 2] rfl rfl⟩
  · skip
    refine AWP.skip ?_
    refine QThen.nrm ?_
    refine AWP.seq ?_
    refine AWP.block ?_
    refine AWP.seqR rfl ?_
    refine ASL.q (v := (.str p0)) rfl rfl (Light.quiet (opMove rfl rfl)) ?_
    refine ASL.q (v := (.int .i64 p1)) rfl rfl (Light.quiet (opMove rfl rfl)) ?_
    obtain ⟨a25, ha25, hF⟩ := bindE hF
    refine ASL.q (v := (.int .u8 a25)) rfl rfl (Light.quiet (kIxS ha25 rfl und_9 rfl rfl)) ?_
    refine ASL.q (v := (.bool (decide (a25 = 116)))) rfl rfl (Light.quiet (opInt rfl rfl rfl rfl)) ?_
    refine ASL.q (v := (.bool (decide (a25 = 116)))) rfl rfl (Light.quiet (opAssign rfl rfl)) ?_
    refine ASL.done ?_
    refine AWP.ifP hF rfl (fun hc4 hF => ?_) (fun hc4 hF => ?_)
    · skip
      refine AWP.seqR rfl ?_
      refine ASL.q (v := vp2) rfl rfl (Light.quiet (opMove rfl rfl)) ?_
      refine ASL.q (v := (.agg [(.int .i64 1), (.int .i64 0), (.int .i64 0)])) rfl rfl (Light.quiet (opBuildZ (zs := [(.int .i64 0), (.int .i64 0), (.int .i64 0)]) rfl plan_54 zeroA_54 ⟨.inl rfl, .inl rfl, .inl rfl, trivial⟩ rfl)) ?_
      refine ASL.q (v := (.list 3 (List.map TNode.av [(TNode.mk 1 0 0)]))) rfl rfl ((qLit (xs := [(.agg [(.int .i64 1), (.int .i64 0), (.int .i64 0)])]) rfl elemA_25 sizeA_54 zeroA_54 rfl rfl rfl rfl (by simp [cells, TNode.av]) (nlt rfl))) ?_
      obtain ⟨z30, hz30, hF⟩ := bindE hF
      refine ASL.x rfl rfl (hApp (f := TNode.av) (ws := [(TNode.mk 1 0 0)]) hS (j := 1) rfl hz30 rfl elemA_25 rfl sizeA_54 bytesA_54 zeroA_54 rfl rfl rfl (fun _ => rfl) ?_); rintro v30 G5 hS
      refine ASL.q (v := (.int .i64 p1)) rfl rfl (Light.quiet (opMove rfl rfl)) ?_
      refine ASL.q (v := (.int .i64 (W (p1 + 1)))) rfl rfl (Light.quiet (opInt rfl rfl rfl rfl)) ?_
      refine ASL.q (v := v30) rfl rfl (Light.quiet (opAssign rfl rfl)) ?_
      refine ASL.q (v := (.int .i64 (W (p1 + 1)))) rfl rfl (Light.quiet (opAssign rfl rfl)) ?_
      refine ASL.q (v := (.int .i64 0)) rfl rfl (Light.quiet (opAssign rfl rfl)) ?_
      refine ASL.done ?_
      refine AWP.ret ?_
      refine QBlock.ret ?_
      refine QThen.rt ?_
      obtain rfl := someE hF
      exact QRet.many (vs := [v30, (.int .i64 (W (p1 + 1))), (.int .i64 0)]) ⟨rfl, rfl, rfl, trivial⟩ (by simp) ⟨_, ⟨v30, rfl, rfl⟩, hS.pick [1, 2] rfl rfl⟩
    · skip
      refine AWP.seqR rfl ?_
      refine ASL.q (v := (.str p0)) rfl rfl (Light.quiet (opMove rfl rfl)) ?_
      refine ASL.q (v := (.int .i64 p1)) rfl rfl (Light.quiet (opMove rfl rfl)) ?_
      obtain ⟨a36, ha36, hF⟩ := bindE hF
      refine ASL.q (v := (.int .u8 a36)) rfl rfl (Light.quiet (kIxS ha36 rfl und_9 rfl rfl)) ?_
      refine ASL.q (v := (.bool (decide (a36 = 102)))) rfl rfl (Light.quiet (opInt rfl rfl rfl rfl)) ?_
      refine ASL.q (v := (.bool (decide (a36 = 102)))) rfl rfl (Light.quiet (opAssign rfl rfl)) ?_
      refine ASL.done ?_
      refine AWP.ifP hF rfl (fun hc7 hF => ?_) (fun hc7 hF => ?_)
      · skip
        refine AWP.seqR rfl ?_
        refine ASL.q (v := vp2) rfl rfl (Light.quiet (opMove rfl rfl)) ?_
        refine ASL.q (v := (.agg [(.int .i64 2), (.int .i64 0), (.int .i64 0)])) rfl rfl (Light.quiet (opBuildZ (zs := [(.int .i64 0), (.int .i64 0), (.int .i64 0)]) rfl plan_54 zeroA_54 ⟨.inl rfl, .inl rfl, .inl rfl, trivial⟩ rfl)) ?_
        refine ASL.q (v := (.list 3 (List.map TNode.av [(TNode.mk 2 0 0)]))) rfl rfl ((qLit (xs := [(.agg [(.int .i64 2), (.int .i64 0), (.int .i64 0)])]) rfl elemA_25 sizeA_54 zeroA_54 rfl rfl rfl rfl (by simp [cells, TNode.av]) (nlt rfl))) ?_
        obtain ⟨z41, hz41, hF⟩ := bindE hF
        refine ASL.x rfl rfl (hApp (f := TNode.av) (ws := [(TNode.mk 2 0 0)]) hS (j := 1) rfl hz41 rfl elemA_25 rfl sizeA_54 bytesA_54 zeroA_54 rfl rfl rfl (fun _ => rfl) ?_); rintro v41 G8 hS
        refine ASL.q (v := (.int .i64 p1)) rfl rfl (Light.quiet (opMove rfl rfl)) ?_
        refine ASL.q (v := (.int .i64 (W (p1 + 1)))) rfl rfl (Light.quiet (opInt rfl rfl rfl rfl)) ?_
        refine ASL.q (v := v41) rfl rfl (Light.quiet (opAssign rfl rfl)) ?_
        refine ASL.q (v := (.int .i64 (W (p1 + 1)))) rfl rfl (Light.quiet (opAssign rfl rfl)) ?_
        refine ASL.q (v := (.int .i64 0)) rfl rfl (Light.quiet (opAssign rfl rfl)) ?_
        refine ASL.done ?_
        refine AWP.ret ?_
        refine QBlock.ret ?_
        refine QThen.rt ?_
        obtain rfl := someE hF
        exact QRet.many (vs := [v41, (.int .i64 (W (p1 + 1))), (.int .i64 0)]) ⟨rfl, rfl, rfl, trivial⟩ (by simp) ⟨_, ⟨v41, rfl, rfl⟩, hS.pick [1, 2] rfl rfl⟩
      · skip
        refine AWP.seqR rfl ?_
        refine ASL.q (v := (.str p0)) rfl rfl (Light.quiet (opMove rfl rfl)) ?_
        refine ASL.q (v := (.int .i64 p1)) rfl rfl (Light.quiet (opMove rfl rfl)) ?_
        obtain ⟨a47, ha47, hF⟩ := bindE hF
        refine ASL.q (v := (.int .u8 a47)) rfl rfl (Light.quiet (kIxS ha47 rfl und_9 rfl rfl)) ?_
        refine ASL.q (v := (.bool (decide (a47 ≥ 48)))) rfl rfl (Light.quiet (opInt rfl rfl rfl rfl)) ?_
        obtain ⟨c49, hc49, hF⟩ := bndE hF
        refine ASL.q (v := (.bool c49)) rfl rfl ((Quiet.cast (Light.quiet (opMove rfl rfl)) (congrArg AV.bool hc49.symm))) ?_
        refine ASL.g (v := (.str p0)) (.bool c49) true rfl (wT _) rfl (fun hG => by have q0 := hG; subst q0; exact Light.quiet (opMove rfl rfl)) ?_
        refine ASL.g (v := (.int .i64 p1)) (.bool c49) true rfl (wT _) rfl (fun hG => by have q0 := hG; subst q0; exact Light.quiet (opMove rfl rfl)) ?_
        obtain ⟨a52, ha52, hF⟩ := bindE hF
        refine ASL.g (v := (.int .u8 a52)) (.bool c49) true rfl (wT _) rfl (fun hG => by have q0 := hG; subst q0; exact Light.quiet (kIxS (whenE ha52) rfl und_9 rfl rfl)) ?_
        refine ASL.g (v := (.int .i64 (IntKind.i64.wrap a52))) (.bool c49) true rfl (wT _) rfl (fun hG => by have q0 := hG; subst q0; exact Light.quiet (opConv rfl rfl und_5 und_3 rfl)) ?_
        refine ASL.g (v := (.bool (decide (((IntKind.i64.wrap a52)) < 51)))) (.bool c49) true rfl (wT _) rfl (fun hG => by have q0 := hG; subst q0; exact Light.quiet (opInt rfl rfl rfl rfl)) ?_
        refine ASL.q (v := (.bool (c49 && (decide (((IntKind.i64.wrap a52)) < 51))))) rfl rfl (Light.quiet (opPick (b := c49) rfl rfl (by cases c49 <;> rfl))) ?_
        refine ASL.q (v := (.bool (c49 && (decide (((IntKind.i64.wrap a52)) < 51))))) rfl rfl (Light.quiet (opAssign rfl rfl)) ?_
        refine ASL.done ?_
        refine AWP.ifB hF rfl (fun hc10 hF => ?_) (fun hc10 hF => ?_)
        · skip
          refine AWP.seqR rfl ?_
          refine ASL.q (v := vp2) rfl rfl (Light.quiet (opMove rfl rfl)) ?_
          refine ASL.q (v := (.str p0)) rfl rfl (Light.quiet (opMove rfl rfl)) ?_
          refine ASL.q (v := (.int .i64 p1)) rfl rfl (Light.quiet (opMove rfl rfl)) ?_
          obtain ⟨a59, ha59, hF⟩ := bindE hF
          refine ASL.q (v := (.int .u8 a59)) rfl rfl (Light.quiet (kIxS ha59 rfl und_9 rfl rfl)) ?_
          refine ASL.q (v := (.int .i64 (IntKind.i64.wrap a59))) rfl rfl (Light.quiet (opConv rfl rfl und_5 und_3 rfl)) ?_
          refine ASL.q (v := (.int .i64 (W (((IntKind.i64.wrap a59)) - 48)))) rfl rfl (Light.quiet (opInt rfl rfl rfl rfl)) ?_
          refine ASL.q (v := (.agg [(.int .i64 3), (.int .i64 (W (((IntKind.i64.wrap a59)) - 48))), (.int .i64 0)])) rfl rfl (Light.quiet (opBuildZ (zs := [(.int .i64 0), (.int .i64 0), (.int .i64 0)]) rfl plan_54 zeroA_54 ⟨.inl rfl, .inl rfl, .inl rfl, trivial⟩ rfl)) ?_
          refine ASL.q (v := (.list 3 (List.map TNode.av [(TNode.mk 3 ((W (((IntKind.i64.wrap a59)) - 48))) 0)]))) rfl rfl ((qLit (xs := [(.agg [(.int .i64 3), (.int .i64 (W (((IntKind.i64.wrap a59)) - 48))), (.int .i64 0)])]) rfl elemA_25 sizeA_54 zeroA_54 rfl rfl rfl rfl (by simp [cells, TNode.av]) (nlt rfl))) ?_
          obtain ⟨z64, hz64, hF⟩ := bindE hF
          refine ASL.x rfl rfl (hApp (f := TNode.av) (ws := [(TNode.mk 3 ((W (((IntKind.i64.wrap a59)) - 48))) 0)]) hS (j := 1) rfl hz64 rfl elemA_25 rfl sizeA_54 bytesA_54 zeroA_54 rfl rfl rfl (fun _ => rfl) ?_); rintro v64 G11 hS
          refine ASL.q (v := (.int .i64 p1)) rfl rfl (Light.quiet (opMove rfl rfl)) ?_
          refine ASL.q (v := (.int .i64 (W (p1 + 1)))) rfl rfl (Light.quiet (opInt rfl rfl rfl rfl)) ?_
          refine ASL.q (v := v64) rfl rfl (Light.quiet (opAssign rfl rfl)) ?_
          refine ASL.q (v := (.int .i64 (W (p1 + 1)))) rfl rfl (Light.quiet (opAssign rfl rfl)) ?_
          refine ASL.q (v := (.int .i64 0)) rfl rfl (Light.quiet (opAssign rfl rfl)) ?_
          refine ASL.done ?_
          refine AWP.ret ?_
          refine QBlock.ret ?_
          refine QThen.rt ?_
          obtain rfl := someE hF
          exact QRet.many (vs := [v64, (.int .i64 (W (p1 + 1))), (.int .i64 0)]) ⟨rfl, rfl, rfl, trivial⟩ (by simp) ⟨_, ⟨v64, rfl, rfl⟩, hS.pick [1, 2] rfl rfl⟩
        · skip
          refine AWP.seqR rfl ?_
          refine ASL.q (v := (.str p0)) rfl rfl (Light.quiet (opMove rfl rfl)) ?_
          refine ASL.q (v := (.int .i64 p1)) rfl rfl (Light.quiet (opMove rfl rfl)) ?_
          obtain ⟨a70, ha70, hF⟩ := bindE hF
          refine ASL.q (v := (.int .u8 a70)) rfl rfl (Light.quiet (kIxS ha70 rfl und_9 rfl rfl)) ?_
          refine ASL.q (v := (.bool (decide (a70 = 33)))) rfl rfl (Light.quiet (opInt rfl rfl rfl rfl)) ?_
          refine ASL.q (v := (.bool (decide (a70 = 33)))) rfl rfl (Light.quiet (opAssign rfl rfl)) ?_
          refine ASL.done ?_
          refine AWP.ifP hF rfl (fun hc13 hF => ?_) (fun hc13 hF => ?_)
          · skip
            refine AWP.seqR rfl ?_
            refine ASL.q (v := (.str p0)) rfl rfl (Light.quiet (opMove rfl rfl)) ?_
            refine ASL.q (v := (.int .i64 p1)) rfl rfl (Light.quiet (opMove rfl rfl)) ?_
            refine ASL.q (v := (.int .i64 (W (p1 + 1)))) rfl rfl (Light.quiet (opInt rfl rfl rfl rfl)) ?_
            refine ASL.q (v := vp2) rfl rfl (Light.quiet (opMove rfl rfl)) ?_
            obtain ⟨a77, ha77, hF⟩ := bindE hF
            refine ASL.x rfl rfl (hCallS hS [1, 0, 2] (F := [.row 3 .nil (List.map TNode.av ([])), .snap S]) rfl rfl rfl call_114 (ih_spec_l2Atom ha77) rfl rfl ?_); rintro _ _ G16 ⟨w14, rfl, rfl⟩ hS
            refine ASL.q (v := (.tup [w14, (.int .i64 a77.2.1), (.int .i64 a77.2.2)])) rfl rfl (Light.quiet (opMove rfl rfl)) ?_
            refine ASL.q (v := w14) rfl rfl (Light.quiet (opExtract rfl rfl rfl)) ?_
            refine ASL.q (v := (.int .i64 a77.2.1)) rfl rfl (Light.quiet (opExtract rfl rfl rfl)) ?_
            refine ASL.q (v := (.int .i64 a77.2.2)) rfl rfl (Light.quiet (opExtract rfl rfl rfl)) ?_
            refine ASL.q (v := w14) rfl rfl (Light.quiet (opAssign rfl rfl)) ?_
            refine ASL.q (v := (.int .i64 a77.2.1)) rfl rfl (Light.quiet (opAssign rfl rfl)) ?_
            refine ASL.q (v := (.int .i64 a77.2.2)) rfl rfl (Light.quiet (opAssign rfl rfl)) ?_
            refine ASL.done ?_
            refine AWP.seq ?_
            refine AWP.seqR rfl ?_
            refine ASL.q (v := (.int .i64 a77.2.2)) rfl rfl (Light.quiet (opMove rfl rfl)) ?_
            refine ASL.q (v := (.bool (decide (a77.2.2 = 0)))) rfl rfl (Light.quiet (opInt rfl rfl rfl rfl)) ?_
            refine ASL.done ?_
            refine AWP.ifP hF rfl (fun hc17 hF => ?_) (fun hc17 hF => ?_)
            · skip
              refine AWP.lastR rfl ?_
              refine ASL.q (v := w14) rfl rfl (Light.quiet (opMove rfl rfl)) ?_
              refine ASL.q (v := w14) rfl rfl (Light.quiet (opMove rfl rfl)) ?_
              refine ASL.q (v := (.int .i64 (a77.1.length : Int))) rfl rfl (Light.quiet (kLen hS (j := 0) rfl rfl rfl rfl lenT_25 rfl)) ?_
              refine ASL.q (v := (.int .i64 (W (((a77.1.length : Int)) - 1)))) rfl rfl (Light.quiet (opInt rfl rfl rfl rfl)) ?_
              refine ASL.q (v := (.agg [(.int .i64 4), (.int .i64 (W (((a77.1.length : Int)) - 1))), (.int .i64 0)])) rfl rfl (Light.quiet (opBuildZ (zs := [(.int .i64 0), (.int .i64 0), (.int .i64 0)]) rfl plan_54 zeroA_54 ⟨.inl rfl, .inl rfl, .inl rfl, trivial⟩ rfl)) ?_
              refine ASL.q (v := (.list 3 (List.map TNode.av [(TNode.mk 4 ((W (((a77.1.length : Int)) - 1))) 0)]))) rfl rfl ((qLit (xs := [(.agg [(.int .i64 4), (.int .i64 (W (((a77.1.length : Int)) - 1))), (.int .i64 0)])]) rfl elemA_25 sizeA_54 zeroA_54 rfl rfl rfl rfl (by simp [cells, TNode.av]) (nlt rfl))) ?_
              obtain ⟨z89, hz89, hF⟩ := bindE hF
              refine ASL.x rfl rfl (hApp (f := TNode.av) (ws := [(TNode.mk 4 ((W (((a77.1.length : Int)) - 1))) 0)]) hS (j := 0) rfl hz89 rfl elemA_25 rfl sizeA_54 bytesA_54 zeroA_54 rfl rfl rfl (fun _ => rfl) ?_); rintro v89 G18 hS
              refine ASL.q (v := v89) rfl rfl (Light.quiet (opAssign rfl rfl)) ?_
              refine ASL.done ?_
              refine QThen.nrm ?_
              refine AWP.seqR rfl ?_
              refine ASL.q (v := v89) rfl rfl (Light.quiet (opMove rfl rfl)) ?_
              refine ASL.q (v := (.int .i64 a77.2.1)) rfl rfl (Light.quiet (opMove rfl rfl)) ?_
              refine ASL.q (v := (.int .i64 a77.2.2)) rfl rfl (Light.quiet (opMove rfl rfl)) ?_
              refine ASL.q (v := v89) rfl rfl (Light.quiet (opAssign rfl rfl)) ?_
              refine ASL.q (v := (.int .i64 a77.2.1)) rfl rfl (Light.quiet (opAssign rfl rfl)) ?_
              refine ASL.q (v := (.int .i64 a77.2.2)) rfl rfl (Light.quiet (opAssign rfl rfl)) ?_
              refine ASL.done ?_
              refine AWP.ret ?_
              refine QBlock.ret ?_
              refine QThen.rt ?_
              obtain rfl := someE hF
              exact QRet.many (vs := [v89, (.int .i64 a77.2.1), (.int .i64 a77.2.2)]) ⟨rfl, rfl, rfl, trivial⟩ (by simp) ⟨_, ⟨v89, rfl, rfl⟩, hS.pick [0, 2] rfl rfl⟩
            · skip
              refine AWP.skip ?_
              refine QThen.nrm ?_
              refine AWP.seqR rfl ?_
              refine ASL.q (v := w14) rfl rfl (Light.quiet (opMove rfl rfl)) ?_
              refine ASL.q (v := (.int .i64 a77.2.1)) rfl rfl (Light.quiet (opMove rfl rfl)) ?_
              refine ASL.q (v := (.int .i64 a77.2.2)) rfl rfl (Light.quiet (opMove rfl rfl)) ?_
              refine ASL.q (v := w14) rfl rfl (Light.quiet (opAssign rfl rfl)) ?_
              refine ASL.q (v := (.int .i64 a77.2.1)) rfl rfl (Light.quiet (opAssign rfl rfl)) ?_
              refine ASL.q (v := (.int .i64 a77.2.2)) rfl rfl (Light.quiet (opAssign rfl rfl)) ?_
              refine ASL.done ?_
              refine AWP.ret ?_
              refine QBlock.ret ?_
              refine QThen.rt ?_
              obtain rfl := someE hF
              exact QRet.many (vs := [w14, (.int .i64 a77.2.1), (.int .i64 a77.2.2)]) ⟨rfl, rfl, rfl, trivial⟩ (by simp) ⟨_, ⟨w14, rfl, rfl⟩, hS.pick [0, 2] rfl rfl⟩
          · skip
            refine AWP.seqR rfl ?_
            refine ASL.q (v := (.str p0)) rfl rfl (Light.quiet (opMove rfl rfl)) ?_
            refine ASL.q (v := (.int .i64 p1)) rfl rfl (Light.quiet (opMove rfl rfl)) ?_
            obtain ⟨a96, ha96, hF⟩ := bindE hF
            refine ASL.q (v := (.int .u8 a96)) rfl rfl (Light.quiet (kIxS ha96 rfl und_9 rfl rfl)) ?_
            refine ASL.q (v := (.bool (decide (a96 = 40)))) rfl rfl (Light.quiet (opInt rfl rfl rfl rfl)) ?_
            refine ASL.q (v := (.bool (decide (a96 = 40)))) rfl rfl (Light.quiet (opAssign rfl rfl)) ?_
            refine ASL.done ?_
            refine AWP.ifP hF rfl (fun hc20 hF => ?_) (fun hc20 hF => ?_)
            · skip
              refine AWP.seqR rfl ?_
              refine ASL.q (v := (.str p0)) rfl rfl (Light.quiet (opMove rfl rfl)) ?_
              refine ASL.q (v := (.int .i64 p1)) rfl rfl (Light.quiet (opMove rfl rfl)) ?_
              refine ASL.q (v := (.int .i64 (W (p1 + 1)))) rfl rfl (Light.quiet (opInt rfl rfl rfl rfl)) ?_
              refine ASL.q (v := vp2) rfl rfl (Light.quiet (opMove rfl rfl)) ?_
              obtain ⟨a103, ha103, hF⟩ := bindE hF
              refine ASL.x rfl rfl (hCallS hS [1, 0, 2] (F := [.row 3 .nil (List.map TNode.av ([])), .snap S]) rfl rfl rfl call_76 (ih_spec_l2Read ha103) rfl rfl ?_); rintro _ _ G23 ⟨w21, rfl, rfl⟩ hS
              refine ASL.q (v := (.tup [w21, (.int .i64 a103.2.1), (.int .i64 a103.2.2)])) rfl rfl (Light.quiet (opMove rfl rfl)) ?_
              refine ASL.q (v := w21) rfl rfl (Light.quiet (opExtract rfl rfl rfl)) ?_
              refine ASL.q (v := (.int .i64 a103.2.1)) rfl rfl (Light.quiet (opExtract rfl rfl rfl)) ?_
              refine ASL.q (v := (.int .i64 a103.2.2)) rfl rfl (Light.quiet (opExtract rfl rfl rfl)) ?_
              refine ASL.q (v := w21) rfl rfl (Light.quiet (opAssign rfl rfl)) ?_
              refine ASL.q (v := (.int .i64 a103.2.1)) rfl rfl (Light.quiet (opAssign rfl rfl)) ?_
              refine ASL.q (v := (.int .i64 a103.2.2)) rfl rfl (Light.quiet (opAssign rfl rfl)) ?_
              refine ASL.done ?_
              refine AWP.seq ?_
              refine AWP.block ?_
              refine AWP.seqR rfl ?_
              refine ASL.q (v := (.int .i64 a103.2.2)) rfl rfl (Light.quiet (opMove rfl rfl)) ?_
              refine ASL.q (v := (.bool (decide (a103.2.2 ≠ 0)))) rfl rfl (Light.quiet (opInt rfl rfl rfl rfl)) ?_
              refine ASL.q (v := (.bool (decide (a103.2.2 ≠ 0)))) rfl rfl (Light.quiet (opAssign rfl rfl)) ?_
              refine ASL.done ?_
              refine AWP.ifP hF rfl (fun hc24 hF => ?_) (fun hc24 hF => ?_)
              · skip
                refine AWP.seqR rfl ?_
                refine ASL.q (v := w21) rfl rfl (Light.quiet (opMove rfl rfl)) ?_
                refine ASL.q (v := (.int .i64 a103.2.1)) rfl rfl (Light.quiet (opMove rfl rfl)) ?_
                refine ASL.q (v := (.int .i64 a103.2.2)) rfl rfl (Light.quiet (opMove rfl rfl)) ?_
                refine ASL.q (v := w21) rfl rfl (Light.quiet (opAssign rfl rfl)) ?_
                refine ASL.q (v := (.int .i64 a103.2.1)) rfl rfl (Light.quiet (opAssign rfl rfl)) ?_
                refine ASL.q (v := (.int .i64 a103.2.2)) rfl rfl (Light.quiet (opAssign rfl rfl)) ?_
                refine ASL.done ?_
                refine AWP.ret ?_
                refine QBlock.ret ?_
                refine QThen.rt ?_
                refine QBlock.ret ?_
                refine QThen.rt ?_
                obtain rfl := someE hF
                exact QRet.many (vs := [w21, (.int .i64 a103.2.1), (.int .i64 a103.2.2)]) ⟨rfl, rfl, rfl, trivial⟩ (by simp) ⟨_, ⟨w21, rfl, rfl⟩, hS.pick [0, 2] rfl rfl⟩
              · skip
                refine AWP.seqR rfl ?_
                refine ASL.q (v := (.int .i64 a103.2.1)) rfl rfl (Light.quiet (opMove rfl rfl)) ?_
                refine ASL.q (v := (.str p0)) rfl rfl (Light.quiet (opMove rfl rfl)) ?_
                refine ASL.q (v := (.int .i64 (p0.size : Int))) rfl rfl (Light.quiet (opLenOf rfl rfl rfl lenT_9 rfl rfl)) ?_
                refine ASL.q (v := (.bool (decide (a103.2.1 ≥ ((p0.size : Int)))))) rfl rfl (Light.quiet (opInt rfl rfl rfl rfl)) ?_
                refine ASL.q (v := (.bool (decide (a103.2.1 ≥ ((p0.size : Int)))))) rfl rfl (Light.quiet (opAssign rfl rfl)) ?_
                refine ASL.done ?_
                refine AWP.ifP hF rfl (fun hc25 hF => ?_) (fun hc25 hF => ?_)
                · skip
                  refine AWP.seqR rfl ?_
                  refine ASL.q (v := w21) rfl rfl (Light.quiet (opMove rfl rfl)) ?_
                  refine ASL.q (v := (.str p0)) rfl rfl (Light.quiet (opMove rfl rfl)) ?_
                  refine ASL.q (v := (.int .i64 (p0.size : Int))) rfl rfl (Light.quiet (opLenOf rfl rfl rfl lenT_9 rfl rfl)) ?_
                  refine ASL.q (v := w21) rfl rfl (Light.quiet (opAssign rfl rfl)) ?_
                  refine ASL.q (v := (.int .i64 (p0.size : Int))) rfl rfl (Light.quiet (opAssign rfl rfl)) ?_
                  refine ASL.q (v := (.int .i64 2)) rfl rfl (Light.quiet (opAssign rfl rfl)) ?_
                  refine ASL.done ?_
                  refine AWP.ret ?_
                  refine QBlock.ret ?_
                  refine QThen.rt ?_
                  refine QBlock.ret ?_
                  refine QThen.rt ?_
                  obtain rfl := someE hF
                  exact QRet.many (vs := [w21, (.int .i64 (p0.size : Int)), (.int .i64 2)]) ⟨rfl, rfl, rfl, trivial⟩ (by simp) ⟨_, ⟨w21, rfl, rfl⟩, hS.pick [0, 2] rfl rfl⟩
                · skip
                  refine AWP.seqR rfl ?_
                  refine ASL.q (v := (.str p0)) rfl rfl (Light.quiet (opMove rfl rfl)) ?_
                  refine ASL.q (v := (.int .i64 a103.2.1)) rfl rfl (Light.quiet (opMove rfl rfl)) ?_
                  obtain ⟨a124, ha124, hF⟩ := bindE hF
                  refine ASL.q (v := (.int .u8 a124)) rfl rfl (Light.quiet (kIxS ha124 rfl und_9 rfl rfl)) ?_
                  refine ASL.q (v := (.bool (decide (a124 ≠ 41)))) rfl rfl (Light.quiet (opInt rfl rfl rfl rfl)) ?_
                  refine ASL.q (v := (.bool (decide (a124 ≠ 41)))) rfl rfl (Light.quiet (opAssign rfl rfl)) ?_
                  refine ASL.done ?_
                  refine AWP.ifP hF rfl (fun hc26 hF => ?_) (fun hc26 hF => ?_)
                  · skip
                    refine AWP.seqR rfl ?_
                    refine ASL.q (v := w21) rfl rfl (Light.quiet (opMove rfl rfl)) ?_
                    refine ASL.q (v := (.int .i64 a103.2.1)) rfl rfl (Light.quiet (opMove rfl rfl)) ?_
                    refine ASL.q (v := w21) rfl rfl (Light.quiet (opAssign rfl rfl)) ?_
                    refine ASL.q (v := (.int .i64 a103.2.1)) rfl rfl (Light.quiet (opAssign rfl rfl)) ?_
                    refine ASL.q (v := (.int .i64 3)) rfl rfl (Light.quiet (opAssign rfl rfl)) ?_
                    refine ASL.done ?_
                    refine AWP.ret ?_
                    refine QBlock.ret ?_
                    refine QThen.rt ?_
                    refine QBlock.ret ?_
                    refine QThen.rt ?_
                    obtain rfl := someE hF
                    exact QRet.many (vs := [w21, (.int .i64 a103.2.1), (.int .i64 3)]) ⟨rfl, rfl, rfl, trivial⟩ (by simp) ⟨_, ⟨w21, rfl, rfl⟩, hS.pick [0, 2] rfl rfl⟩
                  · skip
                    refine AWP.skip ?_
                    refine QBlock.nrm ?_
                    refine QThen.nrm ?_
                    refine AWP.seqR rfl ?_
                    refine ASL.q (v := w21) rfl rfl (Light.quiet (opMove rfl rfl)) ?_
                    refine ASL.q (v := (.int .i64 a103.2.1)) rfl rfl (Light.quiet (opMove rfl rfl)) ?_
                    refine ASL.q (v := (.int .i64 (W (a103.2.1 + 1)))) rfl rfl (Light.quiet (opInt rfl rfl rfl rfl)) ?_
                    refine ASL.q (v := w21) rfl rfl (Light.quiet (opAssign rfl rfl)) ?_
                    refine ASL.q (v := (.int .i64 (W (a103.2.1 + 1)))) rfl rfl (Light.quiet (opAssign rfl rfl)) ?_
                    refine ASL.q (v := (.int .i64 0)) rfl rfl (Light.quiet (opAssign rfl rfl)) ?_
                    refine ASL.done ?_
                    refine AWP.ret ?_
                    refine QBlock.ret ?_
                    refine QThen.rt ?_
                    obtain rfl := someE hF
                    exact QRet.many (vs := [w21, (.int .i64 (W (a103.2.1 + 1))), (.int .i64 0)]) ⟨rfl, rfl, rfl, trivial⟩ (by simp) ⟨_, ⟨w21, rfl, rfl⟩, hS.pick [0, 2] rfl rfl⟩
            · skip
              refine AWP.skip ?_
              refine QBlock.nrm ?_
              refine QThen.nrm ?_
              refine AWP.seqR rfl ?_
              refine ASL.q (v := vp2) rfl rfl (Light.quiet (opMove rfl rfl)) ?_
              refine ASL.q (v := (.int .i64 p1)) rfl rfl (Light.quiet (opMove rfl rfl)) ?_
              refine ASL.q (v := vp2) rfl rfl (Light.quiet (opAssign rfl rfl)) ?_
              refine ASL.q (v := (.int .i64 p1)) rfl rfl (Light.quiet (opAssign rfl rfl)) ?_
              refine ASL.q (v := (.int .i64 3)) rfl rfl (Light.quiet (opAssign rfl rfl)) ?_
              refine ASL.done ?_
              refine AWP.ret ?_
              obtain rfl := someE hF
              exact QRet.many (vs := [vp2, (.int .i64 p1), (.int .i64 3)]) ⟨rfl, rfl, rfl, trivial⟩ (by simp) ⟨_, ⟨vp2, rfl, rfl⟩, hS.pick [1, 2] rfl rfl⟩
theorem spec_l2Read.grp_ok {K : Nat} : (∀ {p0 : ByteArray} {p1 : Int} {p2 : Int} {p3 : (List TNode)} {r : ((List TNode) × Int × Int)} {vp3 : AV} , spec_l2Read K p0 p1 p2 p3 = some r → HS Try.prog 76 [(.str p0), (.int .i64 p1), (.int .i64 p2), vp3] [.row 3 vp3 (List.map TNode.av p3)] fun v L' => ∃ o0 : AV, v = .tup [o0, (.int .i64 r.2.1), (.int .i64 r.2.2)] ∧ L' = [.row 3 o0 (List.map TNode.av r.1)]) ∧ (∀ {p0 : ByteArray} {p1 : Int} {p2 : (List TNode)} {r : ((List TNode) × Int × Int)} {vp2 : AV} , spec_l2Atom K p0 p1 p2 = some r → HS Try.prog 114 [(.str p0), (.int .i64 p1), vp2] [.row 3 vp2 (List.map TNode.av p2)] fun v L' => ∃ o0 : AV, v = .tup [o0, (.int .i64 r.2.1), (.int .i64 r.2.2)] ∧ L' = [.row 3 o0 (List.map TNode.av r.1)]) := by
  induction K with
  | zero => exact ⟨(by intros; rename_i h; cases h), (by intros; rename_i h; cases h)⟩
  | succ K ih => exact ⟨(by intros; rename_i h; exact spec_l2Read.body_ok ih.1 ih.2 h), (by intros; rename_i h; exact spec_l2Atom.body_ok ih.1 ih.2 h)⟩

theorem spec_l2Read_ok {K : Nat} : (∀ {p0 : ByteArray} {p1 : Int} {p2 : Int} {p3 : (List TNode)} {r : ((List TNode) × Int × Int)} {vp3 : AV} , spec_l2Read K p0 p1 p2 p3 = some r → HS Try.prog 76 [(.str p0), (.int .i64 p1), (.int .i64 p2), vp3] [.row 3 vp3 (List.map TNode.av p3)] fun v L' => ∃ o0 : AV, v = .tup [o0, (.int .i64 r.2.1), (.int .i64 r.2.2)] ∧ L' = [.row 3 o0 (List.map TNode.av r.1)]) := spec_l2Read.grp_ok.1

theorem spec_l2Atom_ok {K : Nat} : (∀ {p0 : ByteArray} {p1 : Int} {p2 : (List TNode)} {r : ((List TNode) × Int × Int)} {vp2 : AV} , spec_l2Atom K p0 p1 p2 = some r → HS Try.prog 114 [(.str p0), (.int .i64 p1), vp2] [.row 3 vp2 (List.map TNode.av p2)] fun v L' => ∃ o0 : AV, v = .tup [o0, (.int .i64 r.2.1), (.int .i64 r.2.2)] ∧ L' = [.row 3 o0 (List.map TNode.av r.1)]) := spec_l2Read.grp_ok.2

set_option maxRecDepth 10000 in
theorem spec_ExprParse_ok {K : Nat} {p0 : ByteArray} {r : ((List TNode) × Int × Int)} (hF : spec_ExprParse K p0 = some r) : HS Try.prog 39 [(.str p0)] [] fun v L' => ∃ o0 : AV, v = .tup [o0, (.int .i64 r.2.1), (.int .i64 r.2.2)] ∧ L' = [.row 3 o0 (List.map TNode.av r.1)] := by
  intro H S hS
  refine HC.enter Try.func39 rfl Try.ntmps39 (by simp) ?_
  simp only [List.cons_append, List.nil_append] at hS
  unfold spec_ExprParse at hF
  refine AWP.seqR rfl ?_
  have hS := hNil (s := 3) (f := TNode.av) hS
  refine ASL.q (v := .nil) rfl rfl (Light.quiet (opAssign rfl rfl)) ?_
  refine ASL.q (v := (.int .i64 0)) rfl rfl (Light.quiet (opAssign rfl rfl)) ?_
  refine ASL.q (v := (.int .i64 0)) rfl rfl (Light.quiet (opAssign rfl rfl)) ?_
  refine ASL.done ?_
  refine AWP.seq ?_
  refine AWP.seqR rfl ?_
  refine ASL.q (v := (.str p0)) rfl rfl (Light.quiet (opMove rfl rfl)) ?_
  refine ASL.q (v := (.int .i64 (p0.size : Int))) rfl rfl (Light.quiet (opLenOf rfl rfl rfl lenT_9 rfl rfl)) ?_
  refine ASL.q (v := (.bool (decide (((p0.size : Int)) > 200)))) rfl rfl (Light.quiet (opInt rfl rfl rfl rfl)) ?_
  refine ASL.done ?_
  refine AWP.ifP hF rfl (fun hc2 hF => ?_) (fun hc2 hF => ?_)
  · skip
    refine AWP.seqR rfl ?_
    refine ASL.x rfl rfl (hLit (f := TNode.av) (zs := []) hS rfl rfl elemA_25 sizeA_54 zeroA_54 rfl rfl rfl rfl (by simp [cells, TNode.av]) (nlt rfl) ?_); rintro v11 G3 hK hS
    refine ASL.q (v := v11) rfl rfl (Light.quiet (opAssign rfl rfl)) ?_
    refine ASL.q (v := (.int .i64 0)) rfl rfl (Light.quiet (opAssign rfl rfl)) ?_
    refine ASL.q (v := (.int .i64 1)) rfl rfl (Light.quiet (opAssign rfl rfl)) ?_
    refine ASL.done ?_
    refine AWP.ret ?_
    refine QThen.rt ?_
    obtain rfl := someE hF
    exact QRet.many (vs := [v11, (.int .i64 0), (.int .i64 1)]) ⟨rfl, rfl, rfl, trivial⟩ (by simp) ⟨_, ⟨v11, rfl, rfl⟩, hS.pick [0, 2] rfl rfl⟩
  · skip
    refine AWP.skip ?_
    refine QThen.nrm ?_
    refine AWP.seqR rfl ?_
    refine ASL.q (v := (.str p0)) rfl rfl (Light.quiet (opMove rfl rfl)) ?_
    refine ASL.x rfl rfl (hLit (f := TNode.av) (zs := []) hS rfl rfl elemA_25 sizeA_54 zeroA_54 rfl rfl rfl rfl (by simp [cells, TNode.av]) (nlt rfl) ?_); rintro v14 G5 hK hS
    obtain ⟨a15, ha15, hF⟩ := bindE hF
    refine ASL.x rfl rfl (hCallS hS [0, 1, 2] (F := [.row 3 .nil (List.map TNode.av ([])), .snap S]) rfl rfl rfl call_76 (spec_l2Read_ok ha15) rfl rfl ?_); rintro _ _ G9 ⟨w7, rfl, rfl⟩ hS
    refine ASL.q (v := (.tup [w7, (.int .i64 a15.2.1), (.int .i64 a15.2.2)])) rfl rfl (Light.quiet (opMove rfl rfl)) ?_
    refine ASL.q (v := w7) rfl rfl (Light.quiet (opExtract rfl rfl rfl)) ?_
    refine ASL.q (v := (.int .i64 a15.2.1)) rfl rfl (Light.quiet (opExtract rfl rfl rfl)) ?_
    refine ASL.q (v := (.int .i64 a15.2.2)) rfl rfl (Light.quiet (opExtract rfl rfl rfl)) ?_
    refine ASL.q (v := w7) rfl rfl (Light.quiet (opAssign rfl rfl)) ?_
    refine ASL.q (v := (.int .i64 a15.2.1)) rfl rfl (Light.quiet (opAssign rfl rfl)) ?_
    refine ASL.q (v := (.int .i64 a15.2.2)) rfl rfl (Light.quiet (opAssign rfl rfl)) ?_
    refine ASL.done ?_
    refine AWP.seq ?_
    refine AWP.block ?_
    refine AWP.seqR rfl ?_
    refine ASL.q (v := (.int .i64 a15.2.2)) rfl rfl (Light.quiet (opMove rfl rfl)) ?_
    refine ASL.q (v := (.bool (decide (a15.2.2 ≠ 0)))) rfl rfl (Light.quiet (opInt rfl rfl rfl rfl)) ?_
    refine ASL.q (v := (.bool (decide (a15.2.2 ≠ 0)))) rfl rfl (Light.quiet (opAssign rfl rfl)) ?_
    refine ASL.done ?_
    refine AWP.ifP hF rfl (fun hc10 hF => ?_) (fun hc10 hF => ?_)
    · skip
      refine AWP.seqR rfl ?_
      refine ASL.x rfl rfl (hLit (f := TNode.av) (zs := []) hS rfl rfl elemA_25 sizeA_54 zeroA_54 rfl rfl rfl rfl (by simp [cells, TNode.av]) (nlt rfl) ?_); rintro v22 G11 hK hS
      refine ASL.q (v := (.int .i64 a15.2.1)) rfl rfl (Light.quiet (opMove rfl rfl)) ?_
      refine ASL.q (v := (.int .i64 a15.2.2)) rfl rfl (Light.quiet (opMove rfl rfl)) ?_
      refine ASL.q (v := v22) rfl rfl (Light.quiet (opAssign rfl rfl)) ?_
      refine ASL.q (v := (.int .i64 a15.2.1)) rfl rfl (Light.quiet (opAssign rfl rfl)) ?_
      refine ASL.q (v := (.int .i64 a15.2.2)) rfl rfl (Light.quiet (opAssign rfl rfl)) ?_
      refine ASL.done ?_
      refine AWP.ret ?_
      refine QBlock.ret ?_
      refine QThen.rt ?_
      obtain rfl := someE hF
      exact QRet.many (vs := [v22, (.int .i64 a15.2.1), (.int .i64 a15.2.2)]) ⟨rfl, rfl, rfl, trivial⟩ (by simp) ⟨_, ⟨v22, rfl, rfl⟩, hS.pick [0, 3] rfl rfl⟩
    · skip
      refine AWP.seqR rfl ?_
      refine ASL.q (v := (.int .i64 a15.2.1)) rfl rfl (Light.quiet (opMove rfl rfl)) ?_
      refine ASL.q (v := (.str p0)) rfl rfl (Light.quiet (opMove rfl rfl)) ?_
      refine ASL.q (v := (.int .i64 (p0.size : Int))) rfl rfl (Light.quiet (opLenOf rfl rfl rfl lenT_9 rfl rfl)) ?_
      refine ASL.q (v := (.bool (decide (a15.2.1 < ((p0.size : Int)))))) rfl rfl (Light.quiet (opInt rfl rfl rfl rfl)) ?_
      refine ASL.q (v := (.bool (decide (a15.2.1 < ((p0.size : Int)))))) rfl rfl (Light.quiet (opAssign rfl rfl)) ?_
      refine ASL.done ?_
      refine AWP.ifP hF rfl (fun hc13 hF => ?_) (fun hc13 hF => ?_)
      · skip
        refine AWP.seqR rfl ?_
        refine ASL.x rfl rfl (hLit (f := TNode.av) (zs := []) hS rfl rfl elemA_25 sizeA_54 zeroA_54 rfl rfl rfl rfl (by simp [cells, TNode.av]) (nlt rfl) ?_); rintro v30 G14 hK hS
        refine ASL.q (v := (.int .i64 a15.2.1)) rfl rfl (Light.quiet (opMove rfl rfl)) ?_
        refine ASL.q (v := v30) rfl rfl (Light.quiet (opAssign rfl rfl)) ?_
        refine ASL.q (v := (.int .i64 a15.2.1)) rfl rfl (Light.quiet (opAssign rfl rfl)) ?_
        refine ASL.q (v := (.int .i64 5)) rfl rfl (Light.quiet (opAssign rfl rfl)) ?_
        refine ASL.done ?_
        refine AWP.ret ?_
        refine QBlock.ret ?_
        refine QThen.rt ?_
        obtain rfl := someE hF
        exact QRet.many (vs := [v30, (.int .i64 a15.2.1), (.int .i64 5)]) ⟨rfl, rfl, rfl, trivial⟩ (by simp) ⟨_, ⟨v30, rfl, rfl⟩, hS.pick [0, 3] rfl rfl⟩
      · skip
        refine AWP.seqR rfl ?_
        refine ASL.q (v := w7) rfl rfl (Light.quiet (opMove rfl rfl)) ?_
        refine ASL.q (v := (.int .i64 (a15.1.length : Int))) rfl rfl (Light.quiet (kLen hS (j := 0) rfl rfl rfl rfl lenT_25 rfl)) ?_
        refine ASL.q (v := (.bool (decide (((a15.1.length : Int)) > 31)))) rfl rfl (Light.quiet (opInt rfl rfl rfl rfl)) ?_
        refine ASL.q (v := (.bool (decide (((a15.1.length : Int)) > 31)))) rfl rfl (Light.quiet (opAssign rfl rfl)) ?_
        refine ASL.done ?_
        refine AWP.ifP hF rfl (fun hc16 hF => ?_) (fun hc16 hF => ?_)
        · skip
          refine AWP.seqR rfl ?_
          refine ASL.x rfl rfl (hLit (f := TNode.av) (zs := []) hS rfl rfl elemA_25 sizeA_54 zeroA_54 rfl rfl rfl rfl (by simp [cells, TNode.av]) (nlt rfl) ?_); rintro v36 G17 hK hS
          refine ASL.q (v := v36) rfl rfl (Light.quiet (opAssign rfl rfl)) ?_
          refine ASL.q (v := (.int .i64 0)) rfl rfl (Light.quiet (opAssign rfl rfl)) ?_
          refine ASL.q (v := (.int .i64 4)) rfl rfl (Light.quiet (opAssign rfl rfl)) ?_
          refine ASL.done ?_
          refine AWP.ret ?_
          refine QBlock.ret ?_
          refine QThen.rt ?_
          obtain rfl := someE hF
          exact QRet.many (vs := [v36, (.int .i64 0), (.int .i64 4)]) ⟨rfl, rfl, rfl, trivial⟩ (by simp) ⟨_, ⟨v36, rfl, rfl⟩, hS.pick [0, 3] rfl rfl⟩
        · skip
          refine AWP.skip ?_
          refine QBlock.nrm ?_
          refine QThen.nrm ?_
          refine AWP.seqR rfl ?_
          refine ASL.q (v := w7) rfl rfl (Light.quiet (opMove rfl rfl)) ?_
          refine ASL.q (v := (.str p0)) rfl rfl (Light.quiet (opMove rfl rfl)) ?_
          refine ASL.q (v := (.int .i64 (p0.size : Int))) rfl rfl (Light.quiet (opLenOf rfl rfl rfl lenT_9 rfl rfl)) ?_
          refine ASL.q (v := w7) rfl rfl (Light.quiet (opAssign rfl rfl)) ?_
          refine ASL.q (v := (.int .i64 (p0.size : Int))) rfl rfl (Light.quiet (opAssign rfl rfl)) ?_
          refine ASL.q (v := (.int .i64 0)) rfl rfl (Light.quiet (opAssign rfl rfl)) ?_
          refine ASL.done ?_
          refine AWP.ret ?_
          obtain rfl := someE hF
          exact QRet.many (vs := [w7, (.int .i64 (p0.size : Int)), (.int .i64 0)]) ⟨rfl, rfl, rfl, trivial⟩ (by simp) ⟨_, ⟨w7, rfl, rfl⟩, hS.pick [0, 2] rfl rfl⟩

set_option maxRecDepth 10000 in
theorem impl_plainAtom_ok {p0 : Treader} {g1 : (Treader → Option (Treader))} {r : Treader} {bp0 : Nat} {wp0_list : AV} {k1 : Nat} (hcal1 : callable Try.prog k1 = true) (hg1 : ∀ q0 y bq0 wq0_list, g1 q0 = some y → HS Try.prog k1 [(.ptr bq0 0)] [.cell bq0 [(.str q0.s), (.int .i64 q0.at_), (.int .i64 q0.code), wq0_list, .undef], .row 3 wq0_list (List.map TNode.av q0.list)] fun v L' => ∃ uq0_list : AV, v = .tup [] ∧ L' = [.cell bq0 [(.str y.s), (.int .i64 y.at_), (.int .i64 y.code), uq0_list, .undef], .row 3 uq0_list (List.map TNode.av y.list)]) (hF : impl_plainAtom p0 g1 = some r) : HS Try.prog 153 [(.ptr bp0 0), (.fn (.func k1) [] [])] [.cell bp0 [(.str p0.s), (.int .i64 p0.at_), (.int .i64 p0.code), wp0_list, .undef], .row 3 wp0_list (List.map TNode.av p0.list)] fun v L' => ∃ up0_list : AV, v = .tup [] ∧ L' = [.cell bp0 [(.str r.s), (.int .i64 r.at_), (.int .i64 r.code), up0_list, .undef], .row 3 up0_list (List.map TNode.av r.list)] := by
  intro H S hS
  refine HC.enter Try.func153 rfl Try.ntmps153 (by simp) ?_
  simp only [List.cons_append, List.nil_append] at hS
  unfold impl_plainAtom at hF
  refine AWP.seqR rfl ?_
  refine ASL.q (v := (.ptr bp0 0)) rfl rfl (Light.quiet (opMove rfl rfl)) ?_
  obtain ⟨a6, ha6, hF⟩ := bindE hF
  refine ASL.q (v := (.int .u8 a6)) rfl rfl ((qCallR hS rfl rfl call_146 (impl_reader_peek_ok ha6) ⟨RAS.cellL (k := 0) rfl ⟨.same _, .same _, .same _, .row (k := 1) rfl, .same _, trivial⟩, trivial⟩ (by constructor))) ?_
  refine ASL.q (v := (.int .u8 a6)) rfl rfl (Light.quiet (opAssign rfl rfl)) ?_
  refine ASL.done ?_
  refine AWP.block ?_
  refine AWP.seqR rfl ?_
  refine ASL.q (v := (.ptr bp0 0)) rfl rfl (Light.quiet (opMove rfl rfl)) ?_
  obtain ⟨a11, ha11, hF⟩ := bindE hF
  refine ASL.x rfl rfl (hCallS hS [0, 1, 2] (F := [.snap S]) rfl rfl rfl call_133 (impl_reader_skip_ok ha11) rfl rfl ?_); rintro _ _ G5 ⟨w3, rfl, rfl⟩ hS
  refine ASL.q (v := (.bool a11.1)) rfl rfl (Light.quiet (opAssign rfl rfl)) ?_
  refine ASL.done ?_
  refine AWP.ifB hF rfl (fun hc6 hF => ?_) (fun hc6 hF => ?_)
  · skip
    refine AWP.lastR rfl ?_
    refine ASL.q (v := (.ptr bp0 0)) rfl rfl (Light.quiet (opMove rfl rfl)) ?_
    refine ASL.q (v := (.fn (.func k1) [] [])) rfl rfl (Light.quiet (opMove rfl rfl)) ?_
    obtain ⟨a14, ha14, hF⟩ := bindE hF
    refine ASL.x rfl rfl (hCallS hS [0, 1, 2] (F := [.snap S]) rfl rfl rfl call_147 (impl_reader_bracket_ok hcal1 hg1 ha14) rfl rfl ?_); rintro _ _ G9 ⟨w7, rfl, rfl⟩ hS
    refine ASL.done ?_
    refine QBlock.nrm ?_
    refine QRet.end ?_
    obtain rfl := someE hF
    exact QRet.many (vs := []) trivial (by simp) ⟨_, ⟨w7, rfl, rfl⟩, hS.pick [0, 1, 2] rfl rfl⟩
  · skip
    refine AWP.seqR rfl ?_
    refine ASL.q (v := (.ptr bp0 0)) rfl rfl (Light.quiet (opMove rfl rfl)) ?_
    obtain ⟨a17, ha17, hF⟩ := bindE hF
    refine ASL.x rfl rfl (hCallS hS [0, 1, 2] (F := [.snap S]) rfl rfl rfl call_133 (impl_reader_skip_ok ha17) rfl rfl ?_); rintro _ _ G12 ⟨w10, rfl, rfl⟩ hS
    refine ASL.q (v := (.bool a17.1)) rfl rfl (Light.quiet (opAssign rfl rfl)) ?_
    refine ASL.done ?_
    refine AWP.ifB hF rfl (fun hc13 hF => ?_) (fun hc13 hF => ?_)
    · skip
      refine AWP.lastR rfl ?_
      refine ASL.q (v := (.ptr bp0 0)) rfl rfl (Light.quiet (opMove rfl rfl)) ?_
      obtain ⟨a19, ha19, hF⟩ := bindE hF
      refine ASL.x rfl rfl (hCallS hS [0, 1, 2] (F := [.snap S]) rfl rfl rfl call_148 (impl_reader_leaf_ok ha19) rfl rfl ?_); rintro _ _ G16 ⟨w14, rfl, rfl⟩ hS
      refine ASL.done ?_
      refine QBlock.nrm ?_
      refine QRet.end ?_
      obtain rfl := someE hF
      exact QRet.many (vs := []) trivial (by simp) ⟨_, ⟨w14, rfl, rfl⟩, hS.pick [0, 1, 2] rfl rfl⟩
    · skip
      refine AWP.seqR rfl ?_
      refine ASL.q (v := (.ptr bp0 0)) rfl rfl (Light.quiet (opMove rfl rfl)) ?_
      obtain ⟨a22, ha22, hF⟩ := bindE hF
      refine ASL.x rfl rfl (hCallS hS [0, 1, 2] (F := [.snap S]) rfl rfl rfl call_133 (impl_reader_skip_ok ha22) rfl rfl ?_); rintro _ _ G19 ⟨w17, rfl, rfl⟩ hS
      refine ASL.q (v := (.bool a22.1)) rfl rfl (Light.quiet (opAssign rfl rfl)) ?_
      refine ASL.done ?_
      refine AWP.ifB hF rfl (fun hc20 hF => ?_) (fun hc20 hF => ?_)
      · skip
        refine AWP.lastR rfl ?_
        refine ASL.q (v := (.ptr bp0 0)) rfl rfl (Light.quiet (opMove rfl rfl)) ?_
        obtain ⟨a24, ha24, hF⟩ := bindE hF
        refine ASL.x rfl rfl (hCallS hS [0, 1, 2] (F := [.snap S]) rfl rfl rfl call_148 (impl_reader_leaf_ok ha24) rfl rfl ?_); rintro _ _ G23 ⟨w21, rfl, rfl⟩ hS
        refine ASL.done ?_
        refine QBlock.nrm ?_
        refine QRet.end ?_
        obtain rfl := someE hF
        exact QRet.many (vs := []) trivial (by simp) ⟨_, ⟨w21, rfl, rfl⟩, hS.pick [0, 1, 2] rfl rfl⟩
      · skip
        refine AWP.seqR rfl ?_
        refine ASL.q (v := (.int .u8 a6)) rfl rfl (Light.quiet (opMove rfl rfl)) ?_
        refine ASL.q (v := (.bool (decide (a6 ≥ 48)))) rfl rfl (Light.quiet (opInt rfl rfl rfl rfl)) ?_
        obtain ⟨c28, hc28, hF⟩ := bndE hF
        refine ASL.q (v := (.bool c28)) rfl rfl ((Quiet.cast (Light.quiet (opMove rfl rfl)) (congrArg AV.bool hc28.symm))) ?_
        refine ASL.g (v := (.int .u8 a6)) (.bool c28) true rfl (wT _) rfl (fun hG => by have q0 := hG; subst q0; exact Light.quiet (opMove rfl rfl)) ?_
        refine ASL.g (v := (.bool (decide (a6 < 51)))) (.bool c28) true rfl (wT _) rfl (fun hG => by have q0 := hG; subst q0; exact Light.quiet (opInt rfl rfl rfl rfl)) ?_
        refine ASL.q (v := (.bool (c28 && (decide (a6 < 51))))) rfl rfl (Light.quiet (opPick (b := c28) rfl rfl (by cases c28 <;> rfl))) ?_
        refine ASL.q (v := (.bool (c28 && (decide (a6 < 51))))) rfl rfl (Light.quiet (opAssign rfl rfl)) ?_
        refine ASL.done ?_
        refine AWP.ifB hF rfl (fun hc24 hF => ?_) (fun hc24 hF => ?_)
        · skip
          refine AWP.seqR rfl ?_
          refine ASL.q (v := (.ptr bp0 0)) rfl rfl (Light.quiet (opMove rfl rfl)) ?_
          refine ASL.q (v := (.ptr bp0 0)) rfl rfl (Light.quiet (opNil rfl rfl rfl)) ?_
          refine ASL.q (v := (.ptr bp0 1)) rfl rfl (Light.quiet (opFieldAddr rfl fieldA_123_1 rfl rfl)) ?_
          refine ASL.q (v := (.int .i64 a22.2.at_)) rfl rfl (Light.quiet (kAt hS (j := 0) rfl rfl aggA_3 rfl rfl)) ?_
          refine ASL.q (v := (.int .i64 (W (a22.2.at_ + 1)))) rfl rfl (Light.quiet (opInt rfl rfl rfl rfl)) ?_
          refine ASL.q (v := (.ptr bp0 0)) rfl rfl (Light.quiet (opNil rfl rfl rfl)) ?_
          refine ASL.q (v := (.ptr bp0 1)) rfl rfl (Light.quiet (opFieldAddr rfl fieldA_123_1 rfl rfl)) ?_
          refine ASL.n rfl rfl (hPut hS (j := 0) rfl rfl sizeA_3 rfl rfl rfl (nlt rfl) ?_); rintro G25 hS
          refine ASL.done ?_
          refine AWP.lastR rfl ?_
          refine ASL.q (v := (.ptr bp0 0)) rfl rfl (Light.quiet (opMove rfl rfl)) ?_
          refine ASL.q (v := (.int .u8 a6)) rfl rfl (Light.quiet (opMove rfl rfl)) ?_
          refine ASL.q (v := (.int .u8 (IntKind.u8.wrap (a6 - 48)))) rfl rfl (Light.quiet (opInt rfl rfl rfl rfl)) ?_
          refine ASL.q (v := (.int .i64 (IntKind.i64.wrap ((IntKind.u8.wrap (a6 - 48)))))) rfl rfl (Light.quiet (opConv rfl rfl und_5 und_3 rfl)) ?_
          obtain ⟨a43, ha43, hF⟩ := bindE hF
          refine ASL.x rfl rfl (hCallS hS [0, 1, 2] (F := [.snap S]) rfl rfl rfl call_148 (impl_reader_leaf_ok ha43) rfl rfl ?_); rintro _ _ G28 ⟨w26, rfl, rfl⟩ hS
          refine ASL.done ?_
          refine QBlock.nrm ?_
          refine QRet.end ?_
          obtain rfl := someE hF
          exact QRet.many (vs := []) trivial (by simp) ⟨_, ⟨w26, rfl, rfl⟩, hS.pick [0, 1, 2] rfl rfl⟩
        · skip
          refine AWP.lastR rfl ?_
          refine ASL.q (v := (.ptr bp0 0)) rfl rfl (Light.quiet (opMove rfl rfl)) ?_
          obtain ⟨a8, ha8, hF⟩ := bindE hF
          refine ASL.x rfl rfl (hCallS hS [0, 1, 2] (F := [.snap S]) rfl rfl rfl call_149 (impl_reader_fail_ok ha8) rfl rfl ?_); rintro _ _ G31 ⟨w29, rfl, rfl⟩ hS
          refine ASL.done ?_
          refine QBlock.nrm ?_
          refine QRet.end ?_
          obtain rfl := someE hF
          exact QRet.many (vs := []) trivial (by simp) ⟨_, ⟨w29, rfl, rfl⟩, hS.pick [0, 1, 2] rfl rfl⟩

set_option maxRecDepth 10000 in
theorem impl_exprSum.body_ok {p0 : Treader} {r : Treader} {bp0 : Nat} {wp0_list : AV} {rec_impl_exprSum : Treader → Option Treader} {rec_impl_exprProduct : Treader → Option Treader} {rec_impl_exprAtom : Treader → Option Treader} (ih_impl_exprSum : ∀ {p0 : Treader} {r : Treader} {bp0 : Nat} {wp0_list : AV} , rec_impl_exprSum p0 = some r → HS Try.prog 77 [(.ptr bp0 0)] [.cell bp0 [(.str p0.s), (.int .i64 p0.at_), (.int .i64 p0.code), wp0_list, .undef], .row 3 wp0_list (List.map TNode.av p0.list)] fun v L' => ∃ up0_list : AV, v = .tup [] ∧ L' = [.cell bp0 [(.str r.s), (.int .i64 r.at_), (.int .i64 r.code), up0_list, .undef], .row 3 up0_list (List.map TNode.av r.list)]) (ih_impl_exprProduct : ∀ {p0 : Treader} {r : Treader} {bp0 : Nat} {wp0_list : AV} , rec_impl_exprProduct p0 = some r → HS Try.prog 115 [(.ptr bp0 0)] [.cell bp0 [(.str p0.s), (.int .i64 p0.at_), (.int .i64 p0.code), wp0_list, .undef], .row 3 wp0_list (List.map TNode.av p0.list)] fun v L' => ∃ up0_list : AV, v = .tup [] ∧ L' = [.cell bp0 [(.str r.s), (.int .i64 r.at_), (.int .i64 r.code), up0_list, .undef], .row 3 up0_list (List.map TNode.av r.list)]) (ih_impl_exprAtom : ∀ {p0 : Treader} {r : Treader} {bp0 : Nat} {wp0_list : AV} , rec_impl_exprAtom p0 = some r → HS Try.prog 138 [(.ptr bp0 0)] [.cell bp0 [(.str p0.s), (.int .i64 p0.at_), (.int .i64 p0.code), wp0_list, .undef], .row 3 wp0_list (List.map TNode.av p0.list)] fun v L' => ∃ up0_list : AV, v = .tup [] ∧ L' = [.cell bp0 [(.str r.s), (.int .i64 r.at_), (.int .i64 r.code), up0_list, .undef], .row 3 up0_list (List.map TNode.av r.list)]) (hF : impl_exprSum.body rec_impl_exprSum rec_impl_exprProduct rec_impl_exprAtom p0 = some r) : HS Try.prog 77 [(.ptr bp0 0)] [.cell bp0 [(.str p0.s), (.int .i64 p0.at_), (.int .i64 p0.code), wp0_list, .undef], .row 3 wp0_list (List.map TNode.av p0.list)] fun v L' => ∃ up0_list : AV, v = .tup [] ∧ L' = [.cell bp0 [(.str r.s), (.int .i64 r.at_), (.int .i64 r.code), up0_list, .undef], .row 3 up0_list (List.map TNode.av r.list)] := by
  intro H S hS
  refine HC.enter Try.func77 rfl Try.ntmps77 (by simp) ?_
  simp only [List.cons_append, List.nil_append] at hS
  unfold impl_exprSum.body at hF
  refine AWP.lastR rfl ?_
  refine ASL.q (v := (.ptr bp0 0)) rfl rfl (Light.quiet (opMove rfl rfl)) ?_
  obtain ⟨a3, ha3, hF⟩ := bindE hF
  refine ASL.x rfl rfl (hCallS hS [0, 1, 2] (F := [.snap S]) rfl rfl rfl call_107 (impl_reader_row_ok call_115 (fun _ _ _ _ h => ih_impl_exprProduct h) ha3) rfl rfl ?_); rintro _ _ G5 ⟨w3, rfl, rfl⟩ hS
  refine ASL.done ?_
  refine QRet.end ?_
  obtain rfl := someE hF
  exact QRet.many (vs := []) trivial (by simp) ⟨_, ⟨w3, rfl, rfl⟩, hS.pick [0, 1, 2] rfl rfl⟩

set_option maxRecDepth 10000 in
theorem impl_exprProduct.body_ok {p0 : Treader} {r : Treader} {bp0 : Nat} {wp0_list : AV} {rec_impl_exprSum : Treader → Option Treader} {rec_impl_exprProduct : Treader → Option Treader} {rec_impl_exprAtom : Treader → Option Treader} (ih_impl_exprSum : ∀ {p0 : Treader} {r : Treader} {bp0 : Nat} {wp0_list : AV} , rec_impl_exprSum p0 = some r → HS Try.prog 77 [(.ptr bp0 0)] [.cell bp0 [(.str p0.s), (.int .i64 p0.at_), (.int .i64 p0.code), wp0_list, .undef], .row 3 wp0_list (List.map TNode.av p0.list)] fun v L' => ∃ up0_list : AV, v = .tup [] ∧ L' = [.cell bp0 [(.str r.s), (.int .i64 r.at_), (.int .i64 r.code), up0_list, .undef], .row 3 up0_list (List.map TNode.av r.list)]) (ih_impl_exprProduct : ∀ {p0 : Treader} {r : Treader} {bp0 : Nat} {wp0_list : AV} , rec_impl_exprProduct p0 = some r → HS Try.prog 115 [(.ptr bp0 0)] [.cell bp0 [(.str p0.s), (.int .i64 p0.at_), (.int .i64 p0.code), wp0_list, .undef], .row 3 wp0_list (List.map TNode.av p0.list)] fun v L' => ∃ up0_list : AV, v = .tup [] ∧ L' = [.cell bp0 [(.str r.s), (.int .i64 r.at_), (.int .i64 r.code), up0_list, .undef], .row 3 up0_list (List.map TNode.av r.list)]) (ih_impl_exprAtom : ∀ {p0 : Treader} {r : Treader} {bp0 : Nat} {wp0_list : AV} , rec_impl_exprAtom p0 = some r → HS Try.prog 138 [(.ptr bp0 0)] [.cell bp0 [(.str p0.s), (.int .i64 p0.at_), (.int .i64 p0.code), wp0_list, .undef], .row 3 wp0_list (List.map TNode.av p0.list)] fun v L' => ∃ up0_list : AV, v = .tup [] ∧ L' = [.cell bp0 [(.str r.s), (.int .i64 r.at_), (.int .i64 r.code), up0_list, .undef], .row 3 up0_list (List.map TNode.av r.list)]) (hF : impl_exprProduct.body rec_impl_exprSum rec_impl_exprProduct rec_impl_exprAtom p0 = some r) : HS Try.prog 115 [(.ptr bp0 0)] [.cell bp0 [(.str p0.s), (.int .i64 p0.at_), (.int .i64 p0.code), wp0_list, .undef], .row 3 wp0_list (List.map TNode.av p0.list)] fun v L' => ∃ up0_list : AV, v = .tup [] ∧ L' = [.cell bp0 [(.str r.s), (.int .i64 r.at_), (.int .i64 r.code), up0_list, .undef], .row 3 up0_list (List.map TNode.av r.list)] := by
  intro H S hS
  refine HC.enter Try.func115 rfl Try.ntmps115 (by simp) ?_
  simp only [List.cons_append, List.nil_append] at hS
  unfold impl_exprProduct.body at hF
  refine AWP.lastR rfl ?_
  refine ASL.q (v := (.ptr bp0 0)) rfl rfl (Light.quiet (opMove rfl rfl)) ?_
  obtain ⟨a3, ha3, hF⟩ := bindE hF
  refine ASL.x rfl rfl (hCallS hS [0, 1, 2] (F := [.snap S]) rfl rfl rfl call_107 (impl_reader_row_ok call_138 (fun _ _ _ _ h => ih_impl_exprAtom h) ha3) rfl rfl ?_); rintro _ _ G5 ⟨w3, rfl, rfl⟩ hS
  refine ASL.done ?_
  refine QRet.end ?_
  obtain rfl := someE hF
  exact QRet.many (vs := []) trivial (by simp) ⟨_, ⟨w3, rfl, rfl⟩, hS.pick [0, 1, 2] rfl rfl⟩

set_option maxRecDepth 10000 in
theorem impl_exprAtom.body_ok {p0 : Treader} {r : Treader} {bp0 : Nat} {wp0_list : AV} {rec_impl_exprSum : Treader → Option Treader} {rec_impl_exprProduct : Treader → Option Treader} {rec_impl_exprAtom : Treader → Option Treader} (ih_impl_exprSum : ∀ {p0 : Treader} {r : Treader} {bp0 : Nat} {wp0_list : AV} , rec_impl_exprSum p0 = some r → HS Try.prog 77 [(.ptr bp0 0)] [.cell bp0 [(.str p0.s), (.int .i64 p0.at_), (.int .i64 p0.code), wp0_list, .undef], .row 3 wp0_list (List.map TNode.av p0.list)] fun v L' => ∃ up0_list : AV, v = .tup [] ∧ L' = [.cell bp0 [(.str r.s), (.int .i64 r.at_), (.int .i64 r.code), up0_list, .undef], .row 3 up0_list (List.map TNode.av r.list)]) (ih_impl_exprProduct : ∀ {p0 : Treader} {r : Treader} {bp0 : Nat} {wp0_list : AV} , rec_impl_exprProduct p0 = some r → HS Try.prog 115 [(.ptr bp0 0)] [.cell bp0 [(.str p0.s), (.int .i64 p0.at_), (.int .i64 p0.code), wp0_list, .undef], .row 3 wp0_list (List.map TNode.av p0.list)] fun v L' => ∃ up0_list : AV, v = .tup [] ∧ L' = [.cell bp0 [(.str r.s), (.int .i64 r.at_), (.int .i64 r.code), up0_list, .undef], .row 3 up0_list (List.map TNode.av r.list)]) (ih_impl_exprAtom : ∀ {p0 : Treader} {r : Treader} {bp0 : Nat} {wp0_list : AV} , rec_impl_exprAtom p0 = some r → HS Try.prog 138 [(.ptr bp0 0)] [.cell bp0 [(.str p0.s), (.int .i64 p0.at_), (.int .i64 p0.code), wp0_list, .undef], .row 3 wp0_list (List.map TNode.av p0.list)] fun v L' => ∃ up0_list : AV, v = .tup [] ∧ L' = [.cell bp0 [(.str r.s), (.int .i64 r.at_), (.int .i64 r.code), up0_list, .undef], .row 3 up0_list (List.map TNode.av r.list)]) (hF : impl_exprAtom.body rec_impl_exprSum rec_impl_exprProduct rec_impl_exprAtom p0 = some r) : HS Try.prog 138 [(.ptr bp0 0)] [.cell bp0 [(.str p0.s), (.int .i64 p0.at_), (.int .i64 p0.code), wp0_list, .undef], .row 3 wp0_list (List.map TNode.av p0.list)] fun v L' => ∃ up0_list : AV, v = .tup [] ∧ L' = [.cell bp0 [(.str r.s), (.int .i64 r.at_), (.int .i64 r.code), up0_list, .undef], .row 3 up0_list (List.map TNode.av r.list)] := by
  intro H S hS
  refine HC.enter Try.func138 rfl Try.ntmps138 (by simp) ?_
  simp only [List.cons_append, List.nil_append] at hS
  unfold impl_exprAtom.body at hF
  refine AWP.seq ?_
  refine AWP.seqR rfl ?_
  refine ASL.q (v := (.ptr bp0 0)) rfl rfl (Light.quiet (opMove rfl rfl)) ?_
  obtain ⟨a3, ha3, hF⟩ := bindE hF
  refine ASL.x rfl rfl (hCallS hS [0, 1, 2] (F := [.snap S]) rfl rfl rfl call_133 (impl_reader_skip_ok ha3) rfl rfl ?_); rintro _ _ G5 ⟨w3, rfl, rfl⟩ hS
  refine ASL.done ?_
  refine AWP.ifB hF rfl (fun hc6 hF => ?_) (fun hc6 hF => ?_)
  · skip
    refine AWP.seqR rfl ?_
    refine ASL.q (v := (.ptr bp0 0)) rfl rfl (Light.quiet (opMove rfl rfl)) ?_
    obtain ⟨a5, ha5, hF⟩ := bindE hF
    refine ASL.x rfl rfl (hCallS hS [0, 1, 2] (F := [.snap S]) rfl rfl rfl call_138 (ih_impl_exprAtom ha5) rfl rfl ?_); rintro _ _ G9 ⟨w7, rfl, rfl⟩ hS
    refine ASL.done ?_
    refine AWP.seqR rfl ?_
    refine ASL.q (v := (.ptr bp0 0)) rfl rfl (Light.quiet (opMove rfl rfl)) ?_
    obtain ⟨a7, ha7, hF⟩ := bindE hF
    refine ASL.x rfl rfl (hCallS hS [0, 1, 2] (F := [.snap S]) rfl rfl rfl call_150 (impl_reader_one_ok ha7) rfl rfl ?_); rintro _ _ G12 ⟨w10, rfl, rfl⟩ hS
    refine ASL.done ?_
    refine AWP.ret ?_
    refine QThen.rt ?_
    obtain rfl := someE hF
    exact QRet.many (vs := []) trivial (by simp) ⟨_, ⟨w10, rfl, rfl⟩, hS.pick [0, 1, 2] rfl rfl⟩
  · skip
    refine AWP.skip ?_
    refine QThen.nrm ?_
    refine AWP.lastR rfl ?_
    refine ASL.q (v := (.ptr bp0 0)) rfl rfl (Light.quiet (opMove rfl rfl)) ?_
    obtain ⟨a9, ha9, hF⟩ := bindE hF
    refine ASL.x rfl rfl (hCallS hS [0, 1, 2] (F := [.snap S]) rfl rfl rfl call_153 (impl_plainAtom_ok call_77 (fun _ _ _ _ h => ih_impl_exprSum h) ha9) rfl rfl ?_); rintro _ _ G15 ⟨w13, rfl, rfl⟩ hS
    refine ASL.done ?_
    refine QRet.end ?_
    obtain rfl := someE hF
    exact QRet.many (vs := []) trivial (by simp) ⟨_, ⟨w13, rfl, rfl⟩, hS.pick [0, 1, 2] rfl rfl⟩
theorem impl_exprSum.grp_ok {K : Nat} : (∀ {p0 : Treader} {r : Treader} {bp0 : Nat} {wp0_list : AV} , impl_exprSum K p0 = some r → HS Try.prog 77 [(.ptr bp0 0)] [.cell bp0 [(.str p0.s), (.int .i64 p0.at_), (.int .i64 p0.code), wp0_list, .undef], .row 3 wp0_list (List.map TNode.av p0.list)] fun v L' => ∃ up0_list : AV, v = .tup [] ∧ L' = [.cell bp0 [(.str r.s), (.int .i64 r.at_), (.int .i64 r.code), up0_list, .undef], .row 3 up0_list (List.map TNode.av r.list)]) ∧ (∀ {p0 : Treader} {r : Treader} {bp0 : Nat} {wp0_list : AV} , impl_exprProduct K p0 = some r → HS Try.prog 115 [(.ptr bp0 0)] [.cell bp0 [(.str p0.s), (.int .i64 p0.at_), (.int .i64 p0.code), wp0_list, .undef], .row 3 wp0_list (List.map TNode.av p0.list)] fun v L' => ∃ up0_list : AV, v = .tup [] ∧ L' = [.cell bp0 [(.str r.s), (.int .i64 r.at_), (.int .i64 r.code), up0_list, .undef], .row 3 up0_list (List.map TNode.av r.list)]) ∧ (∀ {p0 : Treader} {r : Treader} {bp0 : Nat} {wp0_list : AV} , impl_exprAtom K p0 = some r → HS Try.prog 138 [(.ptr bp0 0)] [.cell bp0 [(.str p0.s), (.int .i64 p0.at_), (.int .i64 p0.code), wp0_list, .undef], .row 3 wp0_list (List.map TNode.av p0.list)] fun v L' => ∃ up0_list : AV, v = .tup [] ∧ L' = [.cell bp0 [(.str r.s), (.int .i64 r.at_), (.int .i64 r.code), up0_list, .undef], .row 3 up0_list (List.map TNode.av r.list)]) := by
  induction K with
  | zero => exact ⟨(by intros; rename_i h; cases h), (by intros; rename_i h; cases h), (by intros; rename_i h; cases h)⟩
  | succ K ih => exact ⟨(by intros; rename_i h; exact impl_exprSum.body_ok ih.1 ih.2.1 ih.2.2 h), (by intros; rename_i h; exact impl_exprProduct.body_ok ih.1 ih.2.1 ih.2.2 h), (by intros; rename_i h; exact impl_exprAtom.body_ok ih.1 ih.2.1 ih.2.2 h)⟩

theorem impl_exprSum_ok {K : Nat} : (∀ {p0 : Treader} {r : Treader} {bp0 : Nat} {wp0_list : AV} , impl_exprSum K p0 = some r → HS Try.prog 77 [(.ptr bp0 0)] [.cell bp0 [(.str p0.s), (.int .i64 p0.at_), (.int .i64 p0.code), wp0_list, .undef], .row 3 wp0_list (List.map TNode.av p0.list)] fun v L' => ∃ up0_list : AV, v = .tup [] ∧ L' = [.cell bp0 [(.str r.s), (.int .i64 r.at_), (.int .i64 r.code), up0_list, .undef], .row 3 up0_list (List.map TNode.av r.list)]) := impl_exprSum.grp_ok.1

theorem impl_exprProduct_ok {K : Nat} : (∀ {p0 : Treader} {r : Treader} {bp0 : Nat} {wp0_list : AV} , impl_exprProduct K p0 = some r → HS Try.prog 115 [(.ptr bp0 0)] [.cell bp0 [(.str p0.s), (.int .i64 p0.at_), (.int .i64 p0.code), wp0_list, .undef], .row 3 wp0_list (List.map TNode.av p0.list)] fun v L' => ∃ up0_list : AV, v = .tup [] ∧ L' = [.cell bp0 [(.str r.s), (.int .i64 r.at_), (.int .i64 r.code), up0_list, .undef], .row 3 up0_list (List.map TNode.av r.list)]) := impl_exprSum.grp_ok.2.1

theorem impl_exprAtom_ok {K : Nat} : (∀ {p0 : Treader} {r : Treader} {bp0 : Nat} {wp0_list : AV} , impl_exprAtom K p0 = some r → HS Try.prog 138 [(.ptr bp0 0)] [.cell bp0 [(.str p0.s), (.int .i64 p0.at_), (.int .i64 p0.code), wp0_list, .undef], .row 3 wp0_list (List.map TNode.av p0.list)] fun v L' => ∃ up0_list : AV, v = .tup [] ∧ L' = [.cell bp0 [(.str r.s), (.int .i64 r.at_), (.int .i64 r.code), up0_list, .undef], .row 3 up0_list (List.map TNode.av r.list)]) := impl_exprSum.grp_ok.2.2

set_option maxRecDepth 10000 in
theorem impl_ExprParse_ok {K : Nat} {p0 : ByteArray} {r : ((List TNode) × Int × Int)} (hF : impl_ExprParse K p0 = some r) : HS Try.prog 40 [(.str p0)] [] fun v L' => ∃ o0 : AV, v = .tup [o0, (.int .i64 r.2.1), (.int .i64 r.2.2)] ∧ L' = [.row 3 o0 (List.map TNode.av r.1)] := by
  intro H S hS
  refine HC.enter Try.func40 rfl Try.ntmps40 (by simp) ?_
  simp only [List.cons_append, List.nil_append] at hS
  unfold impl_ExprParse at hF
  refine AWP.seqR rfl ?_
  have hS := hNil (s := 3) (f := TNode.av) hS
  refine ASL.q (v := .nil) rfl rfl (Light.quiet (opAssign rfl rfl)) ?_
  refine ASL.q (v := (.int .i64 0)) rfl rfl (Light.quiet (opAssign rfl rfl)) ?_
  refine ASL.q (v := (.int .i64 0)) rfl rfl (Light.quiet (opAssign rfl rfl)) ?_
  refine ASL.done ?_
  refine AWP.seqR rfl ?_
  refine ASL.q (v := (.str p0)) rfl rfl (Light.quiet (opMove rfl rfl)) ?_
  obtain ⟨a6, ha6, hF⟩ := bindE hF
  refine ASL.x rfl rfl (hCallS hS [0, 1] (F := [.row 3 .nil (List.map TNode.av ([])), .snap S]) rfl rfl rfl call_68 (impl_parsed_ok call_77 (fun _ _ _ _ h => impl_exprSum_ok h) ha6) rfl rfl ?_); rintro _ _ G4 ⟨w2, rfl, rfl⟩ hS
  refine ASL.q (v := w2) rfl rfl (Light.quiet (opExtract rfl rfl rfl)) ?_
  refine ASL.q (v := (.int .i64 a6.2.1)) rfl rfl (Light.quiet (opExtract rfl rfl rfl)) ?_
  refine ASL.q (v := (.int .i64 a6.2.2)) rfl rfl (Light.quiet (opExtract rfl rfl rfl)) ?_
  refine ASL.q (v := w2) rfl rfl (Light.quiet (opAssign rfl rfl)) ?_
  refine ASL.q (v := (.int .i64 a6.2.1)) rfl rfl (Light.quiet (opAssign rfl rfl)) ?_
  refine ASL.q (v := (.int .i64 a6.2.2)) rfl rfl (Light.quiet (opAssign rfl rfl)) ?_
  refine ASL.done ?_
  refine AWP.ret ?_
  obtain rfl := someE hF
  exact QRet.many (vs := [w2, (.int .i64 a6.2.1), (.int .i64 a6.2.2)]) ⟨rfl, rfl, rfl, trivial⟩ (by simp) ⟨_, ⟨w2, rfl, rfl⟩, hS.pick [0, 2] rfl rfl⟩

set_option maxRecDepth 10000 in
theorem laws_FnExactExprParse_ok {K : Nat} {p0 : ByteArray} {r : Bool} (hF : laws_FnExactExprParse K p0 = some r) : PC Try.prog 10 [(.str p0)] fun v => v = (.bool r) := by
  refine PC.enter Try.func10 rfl Try.ntmps10 (by simp) ?_
  have hS := Sep.void; unfold laws_FnExactExprParse at hF
  refine AWP.seqR rfl ?_
  refine ASL.q (v := (.bool false)) rfl rfl (Light.quiet (opAssign rfl rfl)) ?_
  refine ASL.done ?_
  refine AWP.seq ?_
  refine AWP.seqR rfl ?_
  refine ASL.q (v := (.str p0)) rfl rfl (Light.quiet (opMove rfl rfl)) ?_
  refine ASL.q (v := (.int .i64 (p0.size : Int))) rfl rfl (Light.quiet (opLenOf rfl rfl rfl lenT_9 rfl rfl)) ?_
  refine ASL.q (v := (.bool (decide (((p0.size : Int)) > 1048576)))) rfl rfl (Light.quiet (opInt rfl rfl rfl rfl)) ?_
  refine ASL.done ?_
  refine AWP.ifP hF rfl (fun hc1 hF => ?_) (fun hc1 hF => ?_)
  · skip
    refine AWP.seqR rfl ?_
    refine ASL.q (v := (.bool true)) rfl rfl (Light.quiet (opAssign rfl rfl)) ?_
    refine ASL.done ?_
    refine AWP.ret ?_
    refine QThen.rt ?_
    obtain rfl := someE hF
    exact QRet.sole (v := (.bool true)) ⟨rfl, trivial⟩ rfl
  · skip
    refine AWP.skip ?_
    refine QThen.nrm ?_
    refine AWP.seqR rfl ?_
    refine ASL.q (v := (.str p0)) rfl rfl (Light.quiet (opMove rfl rfl)) ?_
    obtain ⟨a19, ha19, hF⟩ := bindE hF
    refine ASL.x rfl rfl (hCallS hS [] (F := []) rfl rfl rfl call_39 (spec_ExprParse_ok ha19) rfl rfl ?_); rintro _ _ G4 ⟨w2, rfl, rfl⟩ hS
    refine ASL.q (v := (.tup [w2, (.int .i64 a19.2.1), (.int .i64 a19.2.2)])) rfl rfl (Light.quiet (opMove rfl rfl)) ?_
    refine ASL.q (v := w2) rfl rfl (Light.quiet (opExtract rfl rfl rfl)) ?_
    refine ASL.q (v := (.int .i64 a19.2.1)) rfl rfl (Light.quiet (opExtract rfl rfl rfl)) ?_
    refine ASL.q (v := (.int .i64 a19.2.2)) rfl rfl (Light.quiet (opExtract rfl rfl rfl)) ?_
    refine ASL.q (v := w2) rfl rfl (Light.quiet (opAssign rfl rfl)) ?_
    refine ASL.q (v := (.int .i64 a19.2.1)) rfl rfl (Light.quiet (opAssign rfl rfl)) ?_
    refine ASL.q (v := (.int .i64 a19.2.2)) rfl rfl (Light.quiet (opAssign rfl rfl)) ?_
    refine ASL.done ?_
    refine AWP.seqR rfl ?_
    refine ASL.q (v := (.str p0)) rfl rfl (Light.quiet (opMove rfl rfl)) ?_
    obtain ⟨a25, ha25, hF⟩ := bindE hF
    refine ASL.x rfl rfl (hCallS hS [0] (F := [.row 3 w2 (List.map TNode.av a19.1)]) rfl rfl rfl call_40 (impl_ExprParse_ok ha25) rfl rfl ?_); rintro _ _ G7 ⟨w5, rfl, rfl⟩ hS
    refine ASL.q (v := (.tup [w5, (.int .i64 a25.2.1), (.int .i64 a25.2.2)])) rfl rfl (Light.quiet (opMove rfl rfl)) ?_
    refine ASL.q (v := w5) rfl rfl (Light.quiet (opExtract rfl rfl rfl)) ?_
    refine ASL.q (v := (.int .i64 a25.2.1)) rfl rfl (Light.quiet (opExtract rfl rfl rfl)) ?_
    refine ASL.q (v := (.int .i64 a25.2.2)) rfl rfl (Light.quiet (opExtract rfl rfl rfl)) ?_
    refine ASL.q (v := w5) rfl rfl (Light.quiet (opAssign rfl rfl)) ?_
    refine ASL.q (v := (.int .i64 a25.2.1)) rfl rfl (Light.quiet (opAssign rfl rfl)) ?_
    refine ASL.q (v := (.int .i64 a25.2.2)) rfl rfl (Light.quiet (opAssign rfl rfl)) ?_
    refine ASL.done ?_
    refine AWP.seq ?_
    refine AWP.seqR rfl ?_
    refine ASL.q (v := w5) rfl rfl (Light.quiet (opMove rfl rfl)) ?_
    refine ASL.q (v := w2) rfl rfl (Light.quiet (opMove rfl rfl)) ?_
    obtain ⟨a31, ha31, hF⟩ := bindE hF
    refine ASL.q (v := (.bool a31)) rfl rfl ((qCallR hS rfl rfl call_19 (laws_eqNodeS_ok ha31) ⟨.row (k := 0) rfl, .row (k := 1) rfl, trivial⟩ (by constructor))) ?_
    refine ASL.q (v := (.bool (!a31))) rfl rfl (Light.quiet (opNot rfl rfl)) ?_
    obtain ⟨c33, hc33, hF⟩ := bndE hF
    refine ASL.q (v := (.bool c33)) rfl rfl ((Quiet.cast (Light.quiet (opMove rfl rfl)) (congrArg AV.bool hc33.symm))) ?_
    refine ASL.g (v := (.int .i64 a25.2.1)) (.bool c33) false rfl (wF _) rfl (fun hG => by have q0 := gN hG; subst q0; exact Light.quiet (opMove rfl rfl)) ?_
    refine ASL.g (v := (.int .i64 a19.2.1)) (.bool c33) false rfl (wF _) rfl (fun hG => by have q0 := gN hG; subst q0; exact Light.quiet (opMove rfl rfl)) ?_
    refine ASL.g (v := (.bool (decide (a25.2.1 ≠ a19.2.1)))) (.bool c33) false rfl (wF _) rfl (fun hG => by have q0 := gN hG; subst q0; exact Light.quiet (opInt rfl rfl rfl rfl)) ?_
    refine ASL.q (v := (.bool (c33 || (decide (a25.2.1 ≠ a19.2.1))))) rfl rfl (Light.quiet (opPick (b := c33) rfl rfl (by cases c33 <;> rfl))) ?_
    obtain ⟨c38, hc38, hF⟩ := bndE hF
    refine ASL.q (v := (.bool c38)) rfl rfl ((Quiet.cast (Light.quiet (opMove rfl rfl)) (congrArg AV.bool hc38.symm))) ?_
    refine ASL.g (v := (.int .i64 a25.2.2)) (.bool c38) false rfl (wF _) rfl (fun hG => by have q0 := gN hG; subst q0; exact Light.quiet (opMove rfl rfl)) ?_
    refine ASL.g (v := (.int .i64 a19.2.2)) (.bool c38) false rfl (wF _) rfl (fun hG => by have q0 := gN hG; subst q0; exact Light.quiet (opMove rfl rfl)) ?_
    refine ASL.g (v := (.bool (decide (a25.2.2 ≠ a19.2.2)))) (.bool c38) false rfl (wF _) rfl (fun hG => by have q0 := gN hG; subst q0; exact Light.quiet (opInt rfl rfl rfl rfl)) ?_
    refine ASL.q (v := (.bool (c38 || (decide (a25.2.2 ≠ a19.2.2))))) rfl rfl (Light.quiet (opPick (b := c38) rfl rfl (by cases c38 <;> rfl))) ?_
    refine ASL.done ?_
    refine AWP.ifB hF rfl (fun hc8 hF => ?_) (fun hc8 hF => ?_)
    · skip
      refine AWP.seqR rfl ?_
      refine ASL.q (v := (.bool false)) rfl rfl (Light.quiet (opAssign rfl rfl)) ?_
      refine ASL.done ?_
      refine AWP.ret ?_
      refine QThen.rt ?_
      obtain rfl := someE hF
      exact QRet.sole (v := (.bool false)) ⟨rfl, trivial⟩ rfl
    · skip
      refine AWP.skip ?_
      refine QThen.nrm ?_
      refine AWP.seqR rfl ?_
      refine ASL.q (v := (.int .i64 1)) rfl rfl (Light.quiet (opAssign rfl rfl)) ?_
      refine ASL.done ?_
      refine AWP.seqR rfl ?_
      refine ASL.q (v := w5) rfl rfl (Light.quiet (opMove rfl rfl)) ?_
      refine ASL.q (v := (.int .i64 1)) rfl rfl (Light.quiet (opMove rfl rfl)) ?_
      obtain ⟨a45, ha45, hF⟩ := bindE hF
      refine ASL.x rfl rfl (hCallS hS [0, 1] (F := [.row 3 w2 (List.map TNode.av a19.1)]) rfl rfl rfl call_26 (laws_markNodeS_ok ha45) rfl rfl ?_); rintro _ _ G9 ⟨rfl, rfl⟩ hS
      refine ASL.q (v := (.int .i64 a45.1)) rfl rfl (Light.quiet (opAssign rfl rfl)) ?_
      refine ASL.done ?_
      refine AWP.seqR rfl ?_
      refine ASL.q (v := (.int .i64 1)) rfl rfl (Light.quiet (opAssign rfl rfl)) ?_
      refine ASL.done ?_
      refine AWP.seqR rfl ?_
      refine ASL.q (v := w5) rfl rfl (Light.quiet (opMove rfl rfl)) ?_
      refine ASL.q (v := (.int .i64 1)) rfl rfl (Light.quiet (opMove rfl rfl)) ?_
      obtain ⟨a48, ha48, hF⟩ := bindE hF
      refine ASL.q (v := (.int .i64 a48)) rfl rfl ((qCallR hS rfl rfl call_27 (laws_heldNodeS_ok ha48) ⟨.row (k := 0) rfl, .same _, trivial⟩ (by constructor))) ?_
      refine ASL.q (v := (.int .i64 a48)) rfl rfl (Light.quiet (opAssign rfl rfl)) ?_
      refine ASL.done ?_
      refine AWP.seq ?_
      refine AWP.seqR rfl ?_
      refine ASL.q (v := (.int .i64 a48)) rfl rfl (Light.quiet (opMove rfl rfl)) ?_
      refine ASL.q (v := (.bool (decide (a48 < 0)))) rfl rfl (Light.quiet (opInt rfl rfl rfl rfl)) ?_
      refine ASL.done ?_
      refine AWP.ifP hF rfl (fun hc10 hF => ?_) (fun hc10 hF => ?_)
      · skip
        refine AWP.seqR rfl ?_
        refine ASL.q (v := (.bool false)) rfl rfl (Light.quiet (opAssign rfl rfl)) ?_
        refine ASL.done ?_
        refine AWP.ret ?_
        refine QThen.rt ?_
        obtain rfl := someE hF
        exact QRet.sole (v := (.bool false)) ⟨rfl, trivial⟩ rfl
      · skip
        refine AWP.skip ?_
        refine QThen.nrm ?_
        refine AWP.seq ?_
        refine AWP.seqR rfl ?_
        refine ASL.q (v := (.int .i64 a48)) rfl rfl (Light.quiet (opMove rfl rfl)) ?_
        refine ASL.q (v := (.int .i64 a45.1)) rfl rfl (Light.quiet (opMove rfl rfl)) ?_
        refine ASL.q (v := (.bool (decide (a48 ≠ a45.1)))) rfl rfl (Light.quiet (opInt rfl rfl rfl rfl)) ?_
        refine ASL.done ?_
        refine AWP.ifP hF rfl (fun hc11 hF => ?_) (fun hc11 hF => ?_)
        · skip
          refine AWP.seqR rfl ?_
          refine ASL.q (v := (.bool false)) rfl rfl (Light.quiet (opAssign rfl rfl)) ?_
          refine ASL.done ?_
          refine AWP.ret ?_
          refine QThen.rt ?_
          obtain rfl := someE hF
          exact QRet.sole (v := (.bool false)) ⟨rfl, trivial⟩ rfl
        · skip
          refine AWP.skip ?_
          refine QThen.nrm ?_
          refine AWP.seqR rfl ?_
          refine ASL.q (v := (.str p0)) rfl rfl (Light.quiet (opMove rfl rfl)) ?_
          obtain ⟨a56, ha56, hF⟩ := bindE hF
          refine ASL.x rfl rfl (hCallS hS [0, 1] (F := [.row 3 w5 (List.map TNode.av a45.2), .row 3 w2 (List.map TNode.av a19.1)]) rfl rfl rfl call_40 (impl_ExprParse_ok ha56) rfl rfl ?_); rintro _ _ G14 ⟨w12, rfl, rfl⟩ hS
          refine ASL.q (v := (.tup [w12, (.int .i64 a56.2.1), (.int .i64 a56.2.2)])) rfl rfl (Light.quiet (opMove rfl rfl)) ?_
          refine ASL.q (v := w12) rfl rfl (Light.quiet (opExtract rfl rfl rfl)) ?_
          refine ASL.q (v := (.int .i64 a56.2.1)) rfl rfl (Light.quiet (opExtract rfl rfl rfl)) ?_
          refine ASL.q (v := (.int .i64 a56.2.2)) rfl rfl (Light.quiet (opExtract rfl rfl rfl)) ?_
          refine ASL.q (v := w12) rfl rfl (Light.quiet (opAssign rfl rfl)) ?_
          refine ASL.q (v := (.int .i64 a56.2.1)) rfl rfl (Light.quiet (opAssign rfl rfl)) ?_
          refine ASL.q (v := (.int .i64 a56.2.2)) rfl rfl (Light.quiet (opAssign rfl rfl)) ?_
          refine ASL.done ?_
          refine AWP.seq ?_
          refine AWP.seqR rfl ?_
          refine ASL.q (v := w12) rfl rfl (Light.quiet (opMove rfl rfl)) ?_
          refine ASL.q (v := w2) rfl rfl (Light.quiet (opMove rfl rfl)) ?_
          obtain ⟨a62, ha62, hF⟩ := bindE hF
          refine ASL.q (v := (.bool a62)) rfl rfl ((qCallR hS rfl rfl call_19 (laws_eqNodeS_ok ha62) ⟨.row (k := 0) rfl, .row (k := 2) rfl, trivial⟩ (by constructor))) ?_
          refine ASL.q (v := (.bool (!a62))) rfl rfl (Light.quiet (opNot rfl rfl)) ?_
          obtain ⟨c64, hc64, hF⟩ := bndE hF
          refine ASL.q (v := (.bool c64)) rfl rfl ((Quiet.cast (Light.quiet (opMove rfl rfl)) (congrArg AV.bool hc64.symm))) ?_
          refine ASL.g (v := (.int .i64 a56.2.1)) (.bool c64) false rfl (wF _) rfl (fun hG => by have q0 := gN hG; subst q0; exact Light.quiet (opMove rfl rfl)) ?_
          refine ASL.g (v := (.int .i64 a19.2.1)) (.bool c64) false rfl (wF _) rfl (fun hG => by have q0 := gN hG; subst q0; exact Light.quiet (opMove rfl rfl)) ?_
          refine ASL.g (v := (.bool (decide (a56.2.1 ≠ a19.2.1)))) (.bool c64) false rfl (wF _) rfl (fun hG => by have q0 := gN hG; subst q0; exact Light.quiet (opInt rfl rfl rfl rfl)) ?_
          refine ASL.q (v := (.bool (c64 || (decide (a56.2.1 ≠ a19.2.1))))) rfl rfl (Light.quiet (opPick (b := c64) rfl rfl (by cases c64 <;> rfl))) ?_
          obtain ⟨c69, hc69, hF⟩ := bndE hF
          refine ASL.q (v := (.bool c69)) rfl rfl ((Quiet.cast (Light.quiet (opMove rfl rfl)) (congrArg AV.bool hc69.symm))) ?_
          refine ASL.g (v := (.int .i64 a56.2.2)) (.bool c69) false rfl (wF _) rfl (fun hG => by have q0 := gN hG; subst q0; exact Light.quiet (opMove rfl rfl)) ?_
          refine ASL.g (v := (.int .i64 a19.2.2)) (.bool c69) false rfl (wF _) rfl (fun hG => by have q0 := gN hG; subst q0; exact Light.quiet (opMove rfl rfl)) ?_
          refine ASL.g (v := (.bool (decide (a56.2.2 ≠ a19.2.2)))) (.bool c69) false rfl (wF _) rfl (fun hG => by have q0 := gN hG; subst q0; exact Light.quiet (opInt rfl rfl rfl rfl)) ?_
          refine ASL.q (v := (.bool (c69 || (decide (a56.2.2 ≠ a19.2.2))))) rfl rfl (Light.quiet (opPick (b := c69) rfl rfl (by cases c69 <;> rfl))) ?_
          refine ASL.done ?_
          refine AWP.ifB hF rfl (fun hc15 hF => ?_) (fun hc15 hF => ?_)
          · skip
            refine AWP.seqR rfl ?_
            refine ASL.q (v := (.bool false)) rfl rfl (Light.quiet (opAssign rfl rfl)) ?_
            refine ASL.done ?_
            refine AWP.ret ?_
            refine QThen.rt ?_
            obtain rfl := someE hF
            exact QRet.sole (v := (.bool false)) ⟨rfl, trivial⟩ rfl
          · skip
            refine AWP.skip ?_
            refine QThen.nrm ?_
            refine AWP.seqR rfl ?_
            refine ASL.q (v := (.int .i64 1)) rfl rfl (Light.quiet (opAssign rfl rfl)) ?_
            refine ASL.done ?_
            refine AWP.seqR rfl ?_
            refine ASL.q (v := w5) rfl rfl (Light.quiet (opMove rfl rfl)) ?_
            refine ASL.q (v := (.int .i64 1)) rfl rfl (Light.quiet (opMove rfl rfl)) ?_
            obtain ⟨a76, ha76, hF⟩ := bindE hF
            refine ASL.q (v := (.int .i64 a76)) rfl rfl ((qCallR hS rfl rfl call_27 (laws_heldNodeS_ok ha76) ⟨.row (k := 1) rfl, .same _, trivial⟩ (by constructor))) ?_
            refine ASL.q (v := (.int .i64 a76)) rfl rfl (Light.quiet (opAssign rfl rfl)) ?_
            refine ASL.done ?_
            refine AWP.seq ?_
            refine AWP.seqR rfl ?_
            refine ASL.q (v := (.int .i64 a76)) rfl rfl (Light.quiet (opMove rfl rfl)) ?_
            refine ASL.q (v := (.bool (decide (a76 < 0)))) rfl rfl (Light.quiet (opInt rfl rfl rfl rfl)) ?_
            refine ASL.done ?_
            refine AWP.ifP hF rfl (fun hc16 hF => ?_) (fun hc16 hF => ?_)
            · skip
              refine AWP.seqR rfl ?_
              refine ASL.q (v := (.bool false)) rfl rfl (Light.quiet (opAssign rfl rfl)) ?_
              refine ASL.done ?_
              refine AWP.ret ?_
              refine QThen.rt ?_
              obtain rfl := someE hF
              exact QRet.sole (v := (.bool false)) ⟨rfl, trivial⟩ rfl
            · skip
              refine AWP.skip ?_
              refine QThen.nrm ?_
              refine AWP.seq ?_
              refine AWP.seqR rfl ?_
              refine ASL.q (v := (.int .i64 a76)) rfl rfl (Light.quiet (opMove rfl rfl)) ?_
              refine ASL.q (v := (.int .i64 a45.1)) rfl rfl (Light.quiet (opMove rfl rfl)) ?_
              refine ASL.q (v := (.bool (decide (a76 ≠ a45.1)))) rfl rfl (Light.quiet (opInt rfl rfl rfl rfl)) ?_
              refine ASL.done ?_
              refine AWP.ifP hF rfl (fun hc17 hF => ?_) (fun hc17 hF => ?_)
              · skip
                refine AWP.seqR rfl ?_
                refine ASL.q (v := (.bool false)) rfl rfl (Light.quiet (opAssign rfl rfl)) ?_
                refine ASL.done ?_
                refine AWP.ret ?_
                refine QThen.rt ?_
                obtain rfl := someE hF
                exact QRet.sole (v := (.bool false)) ⟨rfl, trivial⟩ rfl
              · skip
                refine AWP.skip ?_
                refine QThen.nrm ?_
                refine AWP.seqR rfl ?_
                refine ASL.q (v := (.bool true)) rfl rfl (Light.quiet (opAssign rfl rfl)) ?_
                refine ASL.done ?_
                refine AWP.ret ?_
                obtain rfl := someE hF
                exact QRet.sole (v := (.bool true)) ⟨rfl, trivial⟩ rfl

end Go.Proofs.Ytpikdepigcmfnaa
