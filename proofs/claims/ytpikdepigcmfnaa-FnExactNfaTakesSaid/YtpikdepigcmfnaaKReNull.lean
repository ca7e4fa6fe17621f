/- Each of these functions of the program comes to just what its plain function says: FnExactReNull. -/
import Derived.Test.YtpikdepigcmfnaaDReNull
import Derived.Test.YtpikdepigcmfnaaFa
import Derived.Test.YtpikdepigcmfnaaKReOk
namespace Go.Proofs.Ytpikdepigcmfnaa
open Go Go.RowKit E
set_option linter.unusedVariables false
set_option maxRecDepth 10000 in
theorem spec_l11Null.body_ok {p0 : (List TNode)} {p1 : Int} {r : Bool} {rec_spec_l11Null : (List TNode) → Int → Option Bool} (ih_spec_l11Null : ∀ {p0 : (List TNode)} {p1 : Int} {r : Bool} , rec_spec_l11Null p0 p1 = some r → PC Try.prog 66 [(.list 3 (List.map TNode.av p0)), (.int .i64 p1)] fun v => v = (.bool r)) (hF : spec_l11Null.body rec_spec_l11Null p0 p1 = some r) : PC Try.prog 66 [(.list 3 (List.map TNode.av p0)), (.int .i64 p1)] fun v => v = (.bool r) := by
  refine PC.enter Try.func66 rfl Try.ntmps66 (by simp) ?_
  have hS := Sep.void; unfold spec_l11Null.body at hF
  refine AWP.seqR rfl ?_
  refine ASL.q (v := (.bool false)) rfl rfl (Light.quiet (opAssign rfl rfl)) ?_
  refine ASL.done ?_
  refine AWP.seqR rfl ?_
  refine ASL.q (v := (.list 3 (List.map TNode.av p0))) rfl rfl (Light.quiet (opMove rfl rfl)) ?_
  refine ASL.q (v := (.int .i64 p1)) rfl rfl (Light.quiet (opMove rfl rfl)) ?_
  obtain ⟨a8, ha8, hF⟩ := bindE hF
  refine ASL.q (v := (.rptr [(.int .i64 a8.kind), (.int .i64 a8.a), (.int .i64 a8.b)])) rfl rfl (Light.quiet (kIx (f := TNode.av) ha8 rfl rfl rfl elemA_25 sizeA_54 rfl)) ?_
  refine ASL.q (v := (TNode.av a8)) rfl rfl (Light.quiet (opLoadRA rfl aggA_54 sizeA_54 rfl (nlt rfl) rfl)) ?_
  refine ASL.x rfl rfl (hNewZ hS [(.int .i64 0), (.int .i64 0), (.int .i64 0)] rfl zeroA_54 ⟨.inl rfl, .inl rfl, .inl rfl, trivial⟩ ?_); rintro b5 G1 hK hS
  refine ASL.n rfl rfl (hPutA hS (j := 0) rfl rfl sizeA_54 rfl rfl rfl rfl rfl (nlt rfl) ?_); rintro G3 hS
  refine ASL.done ?_
  refine AWP.seq ?_
  refine AWP.seqR rfl ?_
  refine ASL.q (v := (.ptr b5 0)) rfl rfl (Light.quiet (opFieldAddr rfl fieldA_54_0 rfl rfl)) ?_
  refine ASL.q (v := (.int .i64 a8.kind)) rfl rfl (Light.quiet (kAt hS (j := 0) rfl rfl aggA_3 rfl rfl)) ?_
  refine ASL.done ?_
  refine AWP.block ?_
  refine AWP.seqM (fun e H => ∃ x12_1 : Bool, E.Told e [(0, (.list 3 (List.map TNode.av p0))), (5, (.ptr b5 0)), (11, (.int .i64 a8.kind)), (12, (.bool x12_1))] ∧ E.Sep H [.cell b5 [(.int .i64 a8.kind), (.int .i64 a8.a), (.int .i64 a8.b)]] ∧ spec_l11Null.k0 a8 rec_spec_l11Null p0 x12_1 = some r) ?_ ?_
  · rintro e0 G7 ⟨x12_1, hT, hS, hF⟩; refine AWP.only _ hT ?_; unfold spec_l11Null.k0 at hF
    refine AWP.ifB hF rfl (fun hc4 hF => ?_) (fun hc4 hF => ?_)
    · skip
      refine AWP.seqR rfl ?_
      refine ASL.q (v := (.bool true)) rfl rfl (Light.quiet (opAssign rfl rfl)) ?_
      refine ASL.done ?_
      refine AWP.ret ?_
      refine QBlock.ret ?_
      refine QThen.rt ?_
      obtain rfl := someE hF
      exact QRet.sole (v := (.bool true)) ⟨rfl, trivial⟩ rfl
    · skip
      refine AWP.seqR rfl ?_
      refine ASL.q (v := (.bool (decide (a8.kind = 5)))) rfl rfl (Light.quiet (opInt rfl rfl rfl rfl)) ?_
      refine ASL.q (v := (.bool (decide (a8.kind = 5)))) rfl rfl (Light.quiet (opAssign rfl rfl)) ?_
      refine ASL.done ?_
      refine AWP.ifP hF rfl (fun hc5 hF => ?_) (fun hc5 hF => ?_)
      · skip
        refine AWP.seqR rfl ?_
        refine ASL.q (v := (.list 3 (List.map TNode.av p0))) rfl rfl (Light.quiet (opMove rfl rfl)) ?_
        refine ASL.q (v := (.ptr b5 1)) rfl rfl (Light.quiet (opFieldAddr rfl fieldA_54_1 rfl rfl)) ?_
        refine ASL.q (v := (.int .i64 a8.a)) rfl rfl (Light.quiet (kAt hS (j := 0) rfl rfl aggA_3 rfl rfl)) ?_
        obtain ⟨a20, ha20, hF⟩ := bindE hF
        refine ASL.q (v := (.bool a20)) rfl rfl ((qCall rfl rfl call_66 (ih_spec_l11Null ha20) rfl)) ?_
        refine ASL.q (v := (.bool a20)) rfl rfl (Light.quiet (opMove rfl rfl)) ?_
        refine ASL.g (v := (.list 3 (List.map TNode.av p0))) (.bool a20) true rfl (wT _) rfl (fun hG => by have q0 := hG; subst q0; exact Light.quiet (opMove rfl rfl)) ?_
        refine ASL.g (v := (.ptr b5 2)) (.bool a20) true rfl (wT _) rfl (fun hG => by have q0 := hG; subst q0; exact Light.quiet (opFieldAddr rfl fieldA_54_2 rfl rfl)) ?_
        refine ASL.g (v := (.int .i64 a8.b)) (.bool a20) true rfl (wT _) rfl (fun hG => by have q0 := hG; subst q0; exact Light.quiet (kAt hS (j := 0) rfl rfl aggA_3 rfl rfl)) ?_
        obtain ⟨a25, ha25, hF⟩ := bindE hF
        refine ASL.g (v := (.bool a25)) (.bool a20) true rfl (wT _) rfl (fun hG => by have q0 := hG; subst q0; exact (qCall rfl rfl call_66 (ih_spec_l11Null (whenE ha25)) rfl)) ?_
        refine ASL.q (v := (.bool (a20 && a25))) rfl rfl (Light.quiet (opPick (b := a20) rfl rfl (by cases a20 <;> rfl))) ?_
        refine ASL.q (v := (.bool (a20 && a25))) rfl rfl (Light.quiet (opAssign rfl rfl)) ?_
        refine ASL.done ?_
        refine AWP.ret ?_
        refine QBlock.ret ?_
        refine QThen.rt ?_
        obtain rfl := someE hF
        exact QRet.sole (v := (.bool (a20 && a25))) ⟨rfl, trivial⟩ rfl
      · skip
        refine AWP.seqR rfl ?_
        refine ASL.q (v := (.bool (decide (a8.kind = 6)))) rfl rfl (Light.quiet (opInt rfl rfl rfl rfl)) ?_
        refine ASL.q (v := (.bool (decide (a8.kind = 6)))) rfl rfl (Light.quiet (opAssign rfl rfl)) ?_
        refine ASL.done ?_
        refine AWP.ifP hF rfl (fun hc6 hF => ?_) (fun hc6 hF => ?_)
        · skip
          refine AWP.seqR rfl ?_
          refine ASL.q (v := (.list 3 (List.map TNode.av p0))) rfl rfl (Light.quiet (opMove rfl rfl)) ?_
          refine ASL.q (v := (.ptr b5 1)) rfl rfl (Light.quiet (opFieldAddr rfl fieldA_54_1 rfl rfl)) ?_
          refine ASL.q (v := (.int .i64 a8.a)) rfl rfl (Light.quiet (kAt hS (j := 0) rfl rfl aggA_3 rfl rfl)) ?_
          obtain ⟨a32, ha32, hF⟩ := bindE hF
          refine ASL.q (v := (.bool a32)) rfl rfl ((qCall rfl rfl call_66 (ih_spec_l11Null ha32) rfl)) ?_
          refine ASL.q (v := (.bool a32)) rfl rfl (Light.quiet (opMove rfl rfl)) ?_
          refine ASL.g (v := (.list 3 (List.map TNode.av p0))) (.bool a32) false rfl (wF _) rfl (fun hG => by have q0 := gN hG; subst q0; exact Light.quiet (opMove rfl rfl)) ?_
          refine ASL.g (v := (.ptr b5 2)) (.bool a32) false rfl (wF _) rfl (fun hG => by have q0 := gN hG; subst q0; exact Light.quiet (opFieldAddr rfl fieldA_54_2 rfl rfl)) ?_
          refine ASL.g (v := (.int .i64 a8.b)) (.bool a32) false rfl (wF _) rfl (fun hG => by have q0 := gN hG; subst q0; exact Light.quiet (kAt hS (j := 0) rfl rfl aggA_3 rfl rfl)) ?_
          obtain ⟨a37, ha37, hF⟩ := bindE hF
          refine ASL.g (v := (.bool a37)) (.bool a32) false rfl (wF _) rfl (fun hG => by have q0 := gN hG; subst q0; exact (qCall rfl rfl call_66 (ih_spec_l11Null (whenE ha37)) rfl)) ?_
          refine ASL.q (v := (.bool (a32 || a37))) rfl rfl (Light.quiet (opPick (b := a32) rfl rfl (by cases a32 <;> rfl))) ?_
          refine ASL.q (v := (.bool (a32 || a37))) rfl rfl (Light.quiet (opAssign rfl rfl)) ?_
          refine ASL.done ?_
          refine AWP.ret ?_
          refine QBlock.ret ?_
          refine QThen.rt ?_
          obtain rfl := someE hF
          exact QRet.sole (v := (.bool (a32 || a37))) ⟨rfl, trivial⟩ rfl
        · skip
          refine AWP.skip ?_
          refine QBlock.nrm ?_
          refine QThen.nrm ?_
          refine AWP.seqR rfl ?_
          refine ASL.q (v := (.bool false)) rfl rfl (Light.quiet (opAssign rfl rfl)) ?_
          refine ASL.done ?_
          refine AWP.ret ?_
          obtain rfl := someE hF
          exact QRet.sole (v := (.bool false)) ⟨rfl, trivial⟩ rfl
  · skip
    refine AWP.seqR rfl ?_
    refine ASL.q (v := (.bool (decide (a8.kind = 2)))) rfl rfl (Light.quiet (opInt rfl rfl rfl rfl)) ?_
    refine ASL.q (v := (.bool (decide (a8.kind = 2)))) rfl rfl (Light.quiet (opAssign rfl rfl)) ?_
    refine ASL.done ?_
    refine AWP.ifP hF rfl (fun hc8 hF => ?_) (fun hc8 hF => ?_)
    · skip
      refine AWP.skip ?_
      refine QThen.nrm ?_
      exact ⟨(decide (a8.kind = 2)), ⟨rfl, rfl, rfl, rfl, trivial⟩, (hS.pick [0] rfl rfl), hF⟩
    · skip
      refine AWP.lastR rfl ?_
      refine ASL.q (v := (.bool (decide (a8.kind = 4)))) rfl rfl (Light.quiet (opInt rfl rfl rfl rfl)) ?_
      refine ASL.q (v := (.bool (decide (a8.kind = 4)))) rfl rfl (Light.quiet (opAssign rfl rfl)) ?_
      refine ASL.done ?_
      refine QThen.nrm ?_
      exact ⟨(decide (a8.kind = 4)), ⟨rfl, rfl, rfl, rfl, trivial⟩, (hS.pick [0] rfl rfl), hF⟩
theorem spec_l11Null_ok {K : Nat} : ∀ {p0 : (List TNode)} {p1 : Int} {r : Bool} , spec_l11Null K p0 p1 = some r → PC Try.prog 66 [(.list 3 (List.map TNode.av p0)), (.int .i64 p1)] fun v => v = (.bool r) := by
  induction K with
  | zero => intros; rename_i h; cases h
  | succ K ih => intros; rename_i h; exact spec_l11Null.body_ok ih h

set_option maxRecDepth 10000 in
theorem spec_ReNull_ok {K : Nat} {p0 : (List TNode)} {r : Bool} (hF : spec_ReNull K p0 = some r) : PC Try.prog 22 [(.list 3 (List.map TNode.av p0))] fun v => v = (.bool r) := by
  refine PC.enter Try.func22 rfl Try.ntmps22 (by simp) ?_
  have hS := Sep.void; unfold spec_ReNull at hF
  refine AWP.seqR rfl ?_
  refine ASL.q (v := (.bool false)) rfl rfl (Light.quiet (opAssign rfl rfl)) ?_
  refine ASL.done ?_
  refine AWP.seqR rfl ?_
  refine ASL.q (v := (.list 3 (List.map TNode.av p0))) rfl rfl (Light.quiet (opMove rfl rfl)) ?_
  obtain ⟨a4, ha4, hF⟩ := bindE hF
  refine ASL.q (v := (.bool a4)) rfl rfl ((qCall rfl rfl call_16 (spec_ReOk_ok ha4) rfl)) ?_
  refine ASL.q (v := (.bool a4)) rfl rfl (Light.quiet (opMove rfl rfl)) ?_
  refine ASL.g (v := (.list 3 (List.map TNode.av p0))) (.bool a4) true rfl (wT _) rfl (fun hG => by have q0 := hG; subst q0; exact Light.quiet (opMove rfl rfl)) ?_
  refine ASL.g (v := (.list 3 (List.map TNode.av p0))) (.bool a4) true rfl (wT _) rfl (fun hG => by have q0 := hG; subst q0; exact Light.quiet (opMove rfl rfl)) ?_
  refine ASL.g (v := (.int .i64 (p0.length : Int))) (.bool a4) true rfl (wT _) rfl (fun hG => by have q0 := hG; subst q0; exact Light.quiet (opLenMap (f := TNode.av) rfl rfl rfl lenT_25 rfl)) ?_
  refine ASL.g (v := (.int .i64 (W (((p0.length : Int)) - 1)))) (.bool a4) true rfl (wT _) rfl (fun hG => by have q0 := hG; subst q0; exact Light.quiet (opInt rfl rfl rfl rfl)) ?_
  obtain ⟨a10, ha10, hF⟩ := bindE hF
  refine ASL.g (v := (.bool a10)) (.bool a4) true rfl (wT _) rfl (fun hG => by have q0 := hG; subst q0; exact (qCall rfl rfl call_66 (spec_l11Null_ok (whenE ha10)) rfl)) ?_
  refine ASL.q (v := (.bool (a4 && a10))) rfl rfl (Light.quiet (opPick (b := a4) rfl rfl (by cases a4 <;> rfl))) ?_
  refine ASL.q (v := (.bool (a4 && a10))) rfl rfl (Light.quiet (opAssign rfl rfl)) ?_
  refine ASL.done ?_
  refine AWP.ret ?_
  obtain rfl := someE hF
  exact QRet.sole (v := (.bool (a4 && a10))) ⟨rfl, trivial⟩ rfl

set_option maxRecDepth 10000 in
theorem impl_ends.body_ok {p0 : (List TNode)} {p1 : Int} {p2 : (List Int)} {p3 : Int} {r : Int} {rec_impl_ends : (List TNode) → Int → (List Int) → Int → Option Int} (ih_impl_ends : ∀ {p0 : (List TNode)} {p1 : Int} {p2 : (List Int)} {p3 : Int} {r : Int} , rec_impl_ends p0 p1 p2 p3 = some r → PC Try.prog 71 [(.list 3 (List.map TNode.av p0)), (.int .i64 p1), (.list 1 (List.map (AV.int .i64) p2)), (.int .u64 p3)] fun v => v = (.int .u64 r)) (hF : impl_ends.body rec_impl_ends p0 p1 p2 p3 = some r) : PC Try.prog 71 [(.list 3 (List.map TNode.av p0)), (.int .i64 p1), (.list 1 (List.map (AV.int .i64) p2)), (.int .u64 p3)] fun v => v = (.int .u64 r) := by
  refine PC.enter Try.func71 rfl Try.ntmps71 (by simp) ?_
  have hS := Sep.void; unfold impl_ends.body at hF
  refine AWP.seqR rfl ?_
  refine ASL.q (v := (.int .u64 0)) rfl rfl (Light.quiet (opAssign rfl rfl)) ?_
  refine ASL.done ?_
  refine AWP.seqR rfl ?_
  refine ASL.q (v := (.list 3 (List.map TNode.av p0))) rfl rfl (Light.quiet (opMove rfl rfl)) ?_
  refine ASL.q (v := (.int .i64 p1)) rfl rfl (Light.quiet (opMove rfl rfl)) ?_
  obtain ⟨a16, ha16, hF⟩ := bindE hF
  refine ASL.q (v := (.rptr [(.int .i64 a16.kind), (.int .i64 a16.a), (.int .i64 a16.b)])) rfl rfl (Light.quiet (kIx (f := TNode.av) ha16 rfl rfl rfl elemA_25 sizeA_54 rfl)) ?_
  refine ASL.q (v := (TNode.av a16)) rfl rfl (Light.quiet (opLoadRA rfl aggA_54 sizeA_54 rfl (nlt rfl) rfl)) ?_
  refine ASL.x rfl rfl (hNewZ hS [(.int .i64 0), (.int .i64 0), (.int .i64 0)] rfl zeroA_54 ⟨.inl rfl, .inl rfl, .inl rfl, trivial⟩ ?_); rintro b9 G1 hK hS
  refine ASL.n rfl rfl (hPutA hS (j := 0) rfl rfl sizeA_54 rfl rfl rfl rfl rfl (nlt rfl) ?_); rintro G3 hS
  refine ASL.done ?_
  refine AWP.seqM (fun e H => E.Told e [] ∧ E.Sep H [] ∧ impl_ends.k0 = some r) ?_ ?_
  · rintro e0 G4 ⟨hT, hS, hF⟩; refine AWP.only _ hT ?_; unfold impl_ends.k0 at hF
    refine AWP.seqR rfl ?_
    refine ASL.q (v := (.int .u64 0)) rfl rfl (Light.quiet (opAssign rfl rfl)) ?_
    refine ASL.done ?_
    refine AWP.ret ?_
    obtain rfl := someE hF
    exact QRet.sole (v := (.int .u64 0)) ⟨rfl, trivial⟩ rfl
  · skip
    refine AWP.seqR rfl ?_
    refine ASL.q (v := (.ptr b9 0)) rfl rfl (Light.quiet (opFieldAddr rfl fieldA_54_0 rfl rfl)) ?_
    refine ASL.q (v := (.int .i64 a16.kind)) rfl rfl (Light.quiet (kAt hS (j := 0) rfl rfl aggA_3 rfl rfl)) ?_
    refine ASL.done ?_
    refine AWP.block ?_
    refine AWP.seqR rfl ?_
    refine ASL.q (v := (.bool (decide (a16.kind = 2)))) rfl rfl (Light.quiet (opInt rfl rfl rfl rfl)) ?_
    refine ASL.q (v := (.bool (decide (a16.kind = 2)))) rfl rfl (Light.quiet (opAssign rfl rfl)) ?_
    refine ASL.done ?_
    refine AWP.ifP hF rfl (fun hc5 hF => ?_) (fun hc5 hF => ?_)
    · skip
      refine AWP.seqR rfl ?_
      refine ASL.q (v := (.int .u64 p3)) rfl rfl (Light.quiet (opMove rfl rfl)) ?_
      refine ASL.q (v := (.int .u64 p3)) rfl rfl (Light.quiet (opAssign rfl rfl)) ?_
      refine ASL.done ?_
      refine AWP.ret ?_
      refine QBlock.ret ?_
      refine QThen.rt ?_
      obtain rfl := someE hF
      exact QRet.sole (v := (.int .u64 p3)) ⟨rfl, trivial⟩ rfl
    · skip
      refine AWP.seqR rfl ?_
      refine ASL.q (v := (.bool (decide (a16.kind = 3)))) rfl rfl (Light.quiet (opInt rfl rfl rfl rfl)) ?_
      refine ASL.q (v := (.bool (decide (a16.kind = 3)))) rfl rfl (Light.quiet (opAssign rfl rfl)) ?_
      refine ASL.done ?_
      refine AWP.ifP hF rfl (fun hc6 hF => ?_) (fun hc6 hF => ?_)
      · skip
        refine AWP.seqR rfl ?_
        refine ASL.q (v := (.int .u64 0)) rfl rfl (Light.quiet (opAssign rfl rfl)) ?_
        refine ASL.done ?_
        refine AWP.seqM (fun e H => ∃ x10_2 : Int, E.Told e [(10, (.int .u64 x10_2))] ∧ E.Sep H [] ∧ impl_ends.k1 x10_2 = some r) ?_ ?_
        · rintro e0 G7 ⟨x10_2, hT, hS, hF⟩; refine AWP.only _ hT ?_; unfold impl_ends.k1 at hF
          refine AWP.seqR rfl ?_
          refine ASL.q (v := (.int .u64 x10_2)) rfl rfl (Light.quiet (opMove rfl rfl)) ?_
          refine ASL.q (v := (.int .u64 x10_2)) rfl rfl (Light.quiet (opAssign rfl rfl)) ?_
          refine ASL.done ?_
          refine AWP.ret ?_
          refine QBlock.ret ?_
          refine QThen.rt ?_
          obtain rfl := someE hF
          exact QRet.sole (v := (.int .u64 x10_2)) ⟨rfl, trivial⟩ rfl
        · skip
          refine AWP.seqR rfl ?_
          refine ASL.q (v := (.list 1 (List.map (AV.int .i64) p2))) rfl rfl (Light.quiet (opMove rfl rfl)) ?_
          refine ASL.q (v := (.int .i64 (p2.length : Int))) rfl rfl (Light.quiet (opLenMap (f := (AV.int .i64)) rfl rfl rfl lenT_34 rfl)) ?_
          refine ASL.q (v := (.int .i64 0)) rfl rfl (Light.quiet (opMove rfl rfl)) ?_
          refine ASL.done ?_
          refine AWP.block ?_
          obtain ⟨o11, hL10, hR12⟩ := bindE hF
          refine AWP.loopF (ω := Unit) hL10 (fun s w => [(3, (.int .u64 p3)), (9, (.ptr b9 0)), (10, (.int .u64 s.1)), (25, (.list 1 (List.map (AV.int .i64) p2))), (26, (.int .i64 (p2.length : Int))), (27, (.int .i64 s.2))]) (fun s w => [.cell b9 [(.int .i64 a16.kind), (.int .i64 a16.a), (.int .i64 a16.b)]]) () ⟨rfl, rfl, rfl, rfl, rfl, rfl, trivial⟩ (hS.pick [0] rfl rfl) ?_
          rintro ⟨x10_l0, x27_l0⟩ _ G13 hS x8 hF hx9
          try dsimp only at hS ⊢
          have hF : impl_ends.b0 p2 a16 p3 x10_l0 x27_l0 = some x8 := hF; unfold impl_ends.b0 at hF
          refine AWP.seqR rfl ?_
          refine ASL.q (v := (.bool (decide (x27_l0 < ((p2.length : Int)))))) rfl rfl (Light.quiet (opInt rfl rfl rfl rfl)) ?_
          refine ASL.done ?_
          refine AWP.seq ?_
          refine AWP.ifP hF rfl (fun hc14 hF => ?_) (fun hc14 hF => ?_)
          · skip
            refine AWP.skip ?_
            refine QThen.nrm ?_
            refine AWP.seq ?_
            refine AWP.block ?_
            refine AWP.seqR rfl ?_
            refine ASL.q (v := (.int .i64 x27_l0)) rfl rfl (Light.quiet (opMove rfl rfl)) ?_
            obtain ⟨a30, ha30, hF⟩ := bindE hF
            refine ASL.q (v := (.rptr [(.int .i64 a30)])) rfl rfl (Light.quiet (kIx (f := (AV.int .i64)) ha30 rfl rfl rfl elemA_34 sizeA_3 rfl)) ?_
            refine ASL.q (v := (.int .i64 a30)) rfl rfl (Light.quiet (opLoadR rfl aggA_3 rfl rfl)) ?_
            refine ASL.q (v := (.int .i64 x27_l0)) rfl rfl (Light.quiet (opAssign rfl rfl)) ?_
            refine ASL.q (v := (.int .i64 a30)) rfl rfl (Light.quiet (opAssign rfl rfl)) ?_
            refine ASL.done ?_
            refine AWP.seqR rfl ?_
            refine ASL.q (v := (.int .i64 a30)) rfl rfl (Light.quiet (opMove rfl rfl)) ?_
            refine ASL.q (v := (.ptr b9 1)) rfl rfl (Light.quiet (opFieldAddr rfl fieldA_54_1 rfl rfl)) ?_
            refine ASL.q (v := (.int .i64 a16.a)) rfl rfl (Light.quiet (kAt hS (j := 0) rfl rfl aggA_3 rfl rfl)) ?_
            refine ASL.q (v := (.bool (decide (a30 = a16.a)))) rfl rfl (Light.quiet (opInt rfl rfl rfl rfl)) ?_
            obtain ⟨c36, hc36, hF⟩ := bndE hF
            refine ASL.q (v := (.bool c36)) rfl rfl ((Quiet.cast (Light.quiet (opMove rfl rfl)) (congrArg AV.bool hc36.symm))) ?_
            refine ASL.g (v := (.int .u64 p3)) (.bool c36) true rfl (wT _) rfl (fun hG => by have q0 := hG; subst q0; exact Light.quiet (opMove rfl rfl)) ?_
            refine ASL.g (v := (.int .i64 x27_l0)) (.bool c36) true rfl (wT _) rfl (fun hG => by have q0 := hG; subst q0; exact Light.quiet (opMove rfl rfl)) ?_
            refine ASL.g (v := (.int .u64 (IntKind.u64.wrap x27_l0))) (.bool c36) true rfl (wT _) rfl (fun hG => by have q0 := hG; subst q0; exact Light.quiet (opConv rfl rfl und_3 und_91 rfl)) ?_
            refine ASL.g (v := (.int .u64 (shr .u64 p3 ((IntKind.u64.wrap x27_l0))))) (.bool c36) true rfl (wT _) rfl (fun hG => by have q0 := hG; subst q0; exact Light.quiet (opShr rfl rfl rfl (wrapU_nn rfl _) rfl)) ?_
            refine ASL.g (v := (.int .u64 (bAnd .u64 ((shr .u64 p3 ((IntKind.u64.wrap x27_l0)))) 1))) (.bool c36) true rfl (wT _) rfl (fun hG => by have q0 := hG; subst q0; exact Light.quiet (opInt rfl rfl rfl rfl)) ?_
            refine ASL.g (v := (.bool (decide (((bAnd .u64 ((shr .u64 p3 ((IntKind.u64.wrap x27_l0)))) 1)) = 1)))) (.bool c36) true rfl (wT _) rfl (fun hG => by have q0 := hG; subst q0; exact Light.quiet (opInt rfl rfl rfl rfl)) ?_
            refine ASL.q (v := (.bool (c36 && (decide (((bAnd .u64 ((shr .u64 p3 ((IntKind.u64.wrap x27_l0)))) 1)) = 1))))) rfl rfl (Light.quiet (opPick (b := c36) rfl rfl (by cases c36 <;> rfl))) ?_
            refine ASL.done ?_
            refine AWP.ifB hF rfl (fun hc15 hF => ?_) (fun hc15 hF => ?_)
            · skip
              refine AWP.lastR rfl ?_
              refine ASL.q (v := (.int .u64 x10_l0)) rfl rfl (Light.quiet (opMove rfl rfl)) ?_
              refine ASL.q (v := (.int .i64 x27_l0)) rfl rfl (Light.quiet (opMove rfl rfl)) ?_
              refine ASL.q (v := (.int .i64 (W (x27_l0 + 1)))) rfl rfl (Light.quiet (opInt rfl rfl rfl rfl)) ?_
              refine ASL.q (v := (.int .u64 (IntKind.u64.wrap ((W (x27_l0 + 1)))))) rfl rfl (Light.quiet (opConv rfl rfl und_3 und_91 rfl)) ?_
              refine ASL.q (v := (.int .u64 (shl .u64 1 ((IntKind.u64.wrap ((W (x27_l0 + 1)))))))) rfl rfl (Light.quiet (opShl rfl rfl rfl (wrapU_nn rfl _) rfl)) ?_
              refine ASL.q (v := (.int .u64 (bOr .u64 x10_l0 ((shl .u64 1 ((IntKind.u64.wrap ((W (x27_l0 + 1)))))))))) rfl rfl (Light.quiet (opInt rfl rfl rfl rfl)) ?_
              refine ASL.q (v := (.int .u64 (bOr .u64 x10_l0 ((shl .u64 1 ((IntKind.u64.wrap ((W (x27_l0 + 1)))))))))) rfl rfl (Light.quiet (opAssign rfl rfl)) ?_
              refine ASL.done ?_
              refine QBlock.nrm ?_
              refine QThen.nrm ?_
              refine AWP.lastR rfl ?_
              refine ASL.q (v := (.int .i64 (W (x27_l0 + 1)))) rfl rfl (Light.quiet (opInt rfl rfl rfl rfl)) ?_
              refine ASL.q (v := (.int .i64 (W (x27_l0 + 1)))) rfl rfl (Light.quiet (opMove rfl rfl)) ?_
              refine ASL.done ?_
              refine QThen.nrm ?_
              exact ⟨((bOr .u64 x10_l0 ((shl .u64 1 ((IntKind.u64.wrap ((W (x27_l0 + 1)))))))), (W (x27_l0 + 1))), (), (someE hF).symm, ⟨rfl, rfl, rfl, rfl, rfl, rfl, trivial⟩, (hS.pick [0] rfl rfl)⟩
            · skip
              refine AWP.skip ?_
              refine QBlock.nrm ?_
              refine QThen.nrm ?_
              refine AWP.lastR rfl ?_
              refine ASL.q (v := (.int .i64 (W (x27_l0 + 1)))) rfl rfl (Light.quiet (opInt rfl rfl rfl rfl)) ?_
              refine ASL.q (v := (.int .i64 (W (x27_l0 + 1)))) rfl rfl (Light.quiet (opMove rfl rfl)) ?_
              refine ASL.done ?_
              refine QThen.nrm ?_
              exact ⟨(x10_l0, (W (x27_l0 + 1))), (), (someE hF).symm, ⟨rfl, rfl, rfl, rfl, rfl, rfl, trivial⟩, (hS.pick [0] rfl rfl)⟩
          · skip
            refine AWP.exit ?_
            refine QThen.ext ?_
            refine QThen.ext ?_
            refine QBlock.hit ?_
            obtain rfl := (hx9 _ (someE hF).symm)
            have hF := hR12
            refine QThen.nrm ?_
            exact ⟨x10_l0, ⟨rfl, trivial⟩, (hS.pick [] rfl rfl), hF⟩
      · skip
        refine AWP.seqR rfl ?_
        refine ASL.q (v := (.bool (decide (a16.kind = 4)))) rfl rfl (Light.quiet (opInt rfl rfl rfl rfl)) ?_
        refine ASL.q (v := (.bool (decide (a16.kind = 4)))) rfl rfl (Light.quiet (opAssign rfl rfl)) ?_
        refine ASL.done ?_
        refine AWP.ifP hF rfl (fun hc16 hF => ?_) (fun hc16 hF => ?_)
        · skip
          refine AWP.block ?_
          obtain ⟨o20, hL19, hR21⟩ := bindE hF
          refine AWP.loopF (ω := Unit) hL19 (fun s w => [(0, (.list 3 (List.map TNode.av p0))), (2, (.list 1 (List.map (AV.int .i64) p2))), (3, (.int .u64 s)), (9, (.ptr b9 0))]) (fun s w => [.cell b9 [(.int .i64 a16.kind), (.int .i64 a16.a), (.int .i64 a16.b)]]) () ⟨rfl, rfl, rfl, rfl, trivial⟩ (hS.pick [0] rfl rfl) ?_
          rintro x3_l1 _ G22 hS x17 hF hx18
          try dsimp only at hS ⊢
          have hF : impl_ends.b1 rec_impl_ends p0 a16 p2 x3_l1 = some x17 := hF; unfold impl_ends.b1 at hF
          refine AWP.block ?_
          refine AWP.seqR rfl ?_
          refine ASL.q (v := (.int .u64 x3_l1)) rfl rfl (Light.quiet (opMove rfl rfl)) ?_
          refine ASL.q (v := (.list 3 (List.map TNode.av p0))) rfl rfl (Light.quiet (opMove rfl rfl)) ?_
          refine ASL.q (v := (.ptr b9 1)) rfl rfl (Light.quiet (opFieldAddr rfl fieldA_54_1 rfl rfl)) ?_
          refine ASL.q (v := (.int .i64 a16.a)) rfl rfl (Light.quiet (kAt hS (j := 0) rfl rfl aggA_3 rfl rfl)) ?_
          refine ASL.q (v := (.list 1 (List.map (AV.int .i64) p2))) rfl rfl (Light.quiet (opMove rfl rfl)) ?_
          refine ASL.q (v := (.int .u64 x3_l1)) rfl rfl (Light.quiet (opMove rfl rfl)) ?_
          obtain ⟨a60, ha60, hF⟩ := bindE hF
          refine ASL.q (v := (.int .u64 a60)) rfl rfl ((qCall rfl rfl call_71 (ih_impl_ends ha60) rfl)) ?_
          refine ASL.q (v := (.int .u64 (bOr .u64 x3_l1 a60))) rfl rfl (Light.quiet (opInt rfl rfl rfl rfl)) ?_
          refine ASL.q (v := (.int .u64 (bOr .u64 x3_l1 a60))) rfl rfl (Light.quiet (opAssign rfl rfl)) ?_
          refine ASL.done ?_
          refine AWP.seq ?_
          refine AWP.seqR rfl ?_
          refine ASL.q (v := (.int .u64 (bOr .u64 x3_l1 a60))) rfl rfl (Light.quiet (opMove rfl rfl)) ?_
          refine ASL.q (v := (.int .u64 x3_l1)) rfl rfl (Light.quiet (opMove rfl rfl)) ?_
          refine ASL.q (v := (.bool (decide (((bOr .u64 x3_l1 a60)) = x3_l1)))) rfl rfl (Light.quiet (opInt rfl rfl rfl rfl)) ?_
          refine ASL.done ?_
          refine AWP.ifP hF rfl (fun hc23 hF => ?_) (fun hc23 hF => ?_)
          · skip
            refine AWP.seqR rfl ?_
            refine ASL.q (v := (.int .u64 x3_l1)) rfl rfl (Light.quiet (opMove rfl rfl)) ?_
            refine ASL.q (v := (.int .u64 x3_l1)) rfl rfl (Light.quiet (opAssign rfl rfl)) ?_
            refine ASL.done ?_
            refine AWP.ret ?_
            refine QThen.rt ?_
            refine QBlock.ret ?_
            refine QThen.rt ?_
            refine QBlock.ret ?_
            refine QBlock.ret ?_
            refine QThen.rt ?_
            obtain rfl := (hx18 _ (someE hF).symm)
            have hF := hR21
            obtain rfl := someE hF
            exact QRet.sole (v := (.int .u64 x3_l1)) ⟨rfl, trivial⟩ rfl
          · skip
            refine AWP.skip ?_
            refine QThen.nrm ?_
            refine AWP.lastR rfl ?_
            refine ASL.q (v := (.int .u64 (bOr .u64 x3_l1 a60))) rfl rfl (Light.quiet (opMove rfl rfl)) ?_
            refine ASL.q (v := (.int .u64 (bOr .u64 x3_l1 a60))) rfl rfl (Light.quiet (opAssign rfl rfl)) ?_
            refine ASL.done ?_
            refine QBlock.nrm ?_
            refine QThen.nrm ?_
            exact ⟨(bOr .u64 x3_l1 a60), (), (someE hF).symm, ⟨rfl, rfl, rfl, rfl, trivial⟩, (hS.pick [0] rfl rfl)⟩
        · skip
          refine AWP.seqR rfl ?_
          refine ASL.q (v := (.bool (decide (a16.kind = 5)))) rfl rfl (Light.quiet (opInt rfl rfl rfl rfl)) ?_
          refine ASL.q (v := (.bool (decide (a16.kind = 5)))) rfl rfl (Light.quiet (opAssign rfl rfl)) ?_
          refine ASL.done ?_
          refine AWP.ifP hF rfl (fun hc24 hF => ?_) (fun hc24 hF => ?_)
          · skip
            refine AWP.seqD [(0, false), (1, false), (2, false), (3, false), (4, false), (5, false), (6, false), (7, false), (8, false), (9, false), (10, false), (11, false)] mixed (by kernel_rfl) rfl ?_
            refine ARL.q0 (v := (.list 3 (List.map TNode.av p0))) rfl rfl (Light.quiet (opMove rfl rfl)) ?_
            refine ARL.q0 (v := (.ptr b9 2)) rfl rfl (Light.quiet (opFieldAddr rfl fieldA_54_2 rfl rfl)) ?_
            refine ARL.q (v := (.int .i64 a16.b)) rfl rfl (hS.aliveC (k := 0) rfl) (Light.quiet (kAt hS (j := 0) rfl rfl aggA_3 rfl rfl)) ?_
            refine ARL.q0 (v := (.list 1 (List.map (AV.int .i64) p2))) rfl rfl (Light.quiet (opMove rfl rfl)) ?_
            refine ARL.q0 (v := (.list 3 (List.map TNode.av p0))) rfl rfl (Light.quiet (opMove rfl rfl)) ?_
            refine ARL.q0 (v := (.ptr b9 1)) rfl rfl (Light.quiet (opFieldAddr rfl fieldA_54_1 rfl rfl)) ?_
            refine ARL.q (v := (.int .i64 a16.a)) rfl rfl (hS.aliveC (k := 0) rfl) (Light.quiet (kAt hS (j := 0) rfl rfl aggA_3 rfl rfl)) ?_
            refine ARL.q0 (v := (.list 1 (List.map (AV.int .i64) p2))) rfl rfl (Light.quiet (opMove rfl rfl)) ?_
            refine ARL.q0 (v := (.int .u64 p3)) rfl rfl (Light.quiet (opMove rfl rfl)) ?_
            obtain ⟨a78, ha78, hF⟩ := bindE hF
            refine ARL.q0 (v := (.int .u64 a78)) rfl rfl ((qCall rfl rfl call_71 (ih_impl_ends ha78) rfl)) ?_
            obtain ⟨a79, ha79, hF⟩ := bindE hF
            refine ARL.q0 (v := (.int .u64 a79)) rfl rfl ((qCall rfl rfl call_71 (ih_impl_ends ha79) rfl)) ?_
            refine ARL.q0 (v := (.int .u64 a79)) rfl rfl (Light.quiet (opAssign rfl rfl)) ?_
            refine ARL.done ?_
            refine AWP.ret ?_
            refine QBlock.ret ?_
            refine QThen.rt ?_
            obtain rfl := someE hF
            exact QRet.sole (v := (.int .u64 a79)) ⟨rfl, trivial⟩ rfl
          · skip
            refine AWP.seqR rfl ?_
            refine ASL.q (v := (.bool (decide (a16.kind = 6)))) rfl rfl (Light.quiet (opInt rfl rfl rfl rfl)) ?_
            refine ASL.q (v := (.bool (decide (a16.kind = 6)))) rfl rfl (Light.quiet (opAssign rfl rfl)) ?_
            refine ASL.done ?_
            refine AWP.ifP hF rfl (fun hc25 hF => ?_) (fun hc25 hF => ?_)
            · skip
              refine AWP.seqD [(0, false), (1, false), (2, false), (3, false), (4, false), (5, false), (6, false), (7, false), (8, false), (9, false), (10, false), (11, false), (12, false), (13, false)] mixed (by kernel_rfl) rfl ?_
              refine ARL.q0 (v := (.list 3 (List.map TNode.av p0))) rfl rfl (Light.quiet (opMove rfl rfl)) ?_
              refine ARL.q0 (v := (.ptr b9 1)) rfl rfl (Light.quiet (opFieldAddr rfl fieldA_54_1 rfl rfl)) ?_
              refine ARL.q (v := (.int .i64 a16.a)) rfl rfl (hS.aliveC (k := 0) rfl) (Light.quiet (kAt hS (j := 0) rfl rfl aggA_3 rfl rfl)) ?_
              refine ARL.q0 (v := (.list 1 (List.map (AV.int .i64) p2))) rfl rfl (Light.quiet (opMove rfl rfl)) ?_
              refine ARL.q0 (v := (.int .u64 p3)) rfl rfl (Light.quiet (opMove rfl rfl)) ?_
              obtain ⟨a87, ha87, hF⟩ := bindE hF
              refine ARL.q0 (v := (.int .u64 a87)) rfl rfl ((qCall rfl rfl call_71 (ih_impl_ends ha87) rfl)) ?_
              refine ARL.q0 (v := (.list 3 (List.map TNode.av p0))) rfl rfl (Light.quiet (opMove rfl rfl)) ?_
              refine ARL.q0 (v := (.ptr b9 2)) rfl rfl (Light.quiet (opFieldAddr rfl fieldA_54_2 rfl rfl)) ?_
              refine ARL.q (v := (.int .i64 a16.b)) rfl rfl (hS.aliveC (k := 0) rfl) (Light.quiet (kAt hS (j := 0) rfl rfl aggA_3 rfl rfl)) ?_
              refine ARL.q0 (v := (.list 1 (List.map (AV.int .i64) p2))) rfl rfl (Light.quiet (opMove rfl rfl)) ?_
              refine ARL.q0 (v := (.int .u64 p3)) rfl rfl (Light.quiet (opMove rfl rfl)) ?_
              obtain ⟨a93, ha93, hF⟩ := bindE hF
              refine ARL.q0 (v := (.int .u64 a93)) rfl rfl ((qCall rfl rfl call_71 (ih_impl_ends ha93) rfl)) ?_
              refine ARL.q0 (v := (.int .u64 (bOr .u64 a87 a93))) rfl rfl (Light.quiet (opInt rfl rfl rfl rfl)) ?_
              refine ARL.q0 (v := (.int .u64 (bOr .u64 a87 a93))) rfl rfl (Light.quiet (opAssign rfl rfl)) ?_
              refine ARL.done ?_
              refine AWP.ret ?_
              refine QBlock.ret ?_
              refine QThen.rt ?_
              obtain rfl := someE hF
              exact QRet.sole (v := (.int .u64 (bOr .u64 a87 a93))) ⟨rfl, trivial⟩ rfl
            · skip
              refine AWP.skip ?_
              refine QBlock.nrm ?_
              refine QThen.nrm ?_
              exact ⟨trivial, (hS.pick [] rfl rfl), hF⟩
theorem impl_ends_ok {K : Nat} : ∀ {p0 : (List TNode)} {p1 : Int} {p2 : (List Int)} {p3 : Int} {r : Int} , impl_ends K p0 p1 p2 p3 = some r → PC Try.prog 71 [(.list 3 (List.map TNode.av p0)), (.int .i64 p1), (.list 1 (List.map (AV.int .i64) p2)), (.int .u64 p3)] fun v => v = (.int .u64 r) := by
  induction K with
  | zero => intros; rename_i h; cases h
  | succ K ih => intros; rename_i h; exact impl_ends.body_ok ih h

set_option maxRecDepth 10000 in
theorem impl_ReTakes_ok {K : Nat} {p0 : (List TNode)} {p1 : (List Int)} {r : Bool} (hF : impl_ReTakes K p0 p1 = some r) : PC Try.prog 30 [(.list 3 (List.map TNode.av p0)), (.list 1 (List.map (AV.int .i64) p1))] fun v => v = (.bool r) := by
  refine PC.enter Try.func30 rfl Try.ntmps30 (by simp) ?_
  have hS := Sep.void; unfold impl_ReTakes at hF
  refine AWP.seqR rfl ?_
  refine ASL.q (v := (.bool false)) rfl rfl (Light.quiet (opAssign rfl rfl)) ?_
  refine ASL.done ?_
  refine AWP.seq ?_
  refine AWP.seqR rfl ?_
  refine ASL.q (v := (.list 1 (List.map (AV.int .i64) p1))) rfl rfl (Light.quiet (opMove rfl rfl)) ?_
  refine ASL.q (v := (.int .i64 (p1.length : Int))) rfl rfl (Light.quiet (opLenMap (f := (AV.int .i64)) rfl rfl rfl lenT_34 rfl)) ?_
  refine ASL.q (v := (.bool (decide (((p1.length : Int)) > 60)))) rfl rfl (Light.quiet (opInt rfl rfl rfl rfl)) ?_
  obtain ⟨c8, hc8, hF⟩ := bndE hF
  refine ASL.q (v := (.bool c8)) rfl rfl ((Quiet.cast (Light.quiet (opMove rfl rfl)) (congrArg AV.bool hc8.symm))) ?_
  refine ASL.g (v := (.list 3 (List.map TNode.av p0))) (.bool c8) false rfl (wF _) rfl (fun hG => by have q0 := gN hG; subst q0; exact Light.quiet (opMove rfl rfl)) ?_
  obtain ⟨a10, ha10, hF⟩ := bindE hF
  refine ASL.g (v := (.bool a10)) (.bool c8) false rfl (wF _) rfl (fun hG => by have q0 := gN hG; subst q0; exact (qCall rfl rfl call_18 (impl_ReOk_ok (whenE ha10)) rfl)) ?_
  refine ASL.g (v := (.bool (!a10))) (.bool c8) false rfl (wF _) rfl (fun hG => by have q0 := gN hG; subst q0; exact Light.quiet (opNot rfl rfl)) ?_
  refine ASL.q (v := (.bool (c8 || (!a10)))) rfl rfl (Light.quiet (opPick (b := c8) rfl rfl (by cases c8 <;> rfl))) ?_
  refine ASL.done ?_
  refine AWP.ifB hF rfl (fun hc1 hF => ?_) (fun hc1 hF => ?_)
  · skip
    refine AWP.seqR rfl ?_
    refine ASL.q (v := (.bool false)) rfl rfl (Light.quiet (opAssign rfl rfl)) ?_
    refine ASL.done ?_
    refine AWP.ret ?_
    refine QThen.rt ?_
    obtain rfl := someE hF
    exact QRet.sole (v := (.bool false)) ⟨rfl, trivial⟩ rfl
  · skip
    refine AWP.skip ?_
    refine QThen.nrm ?_
    refine AWP.seqR rfl ?_
    refine ASL.q (v := (.list 3 (List.map TNode.av p0))) rfl rfl (Light.quiet (opMove rfl rfl)) ?_
    refine ASL.q (v := (.list 3 (List.map TNode.av p0))) rfl rfl (Light.quiet (opMove rfl rfl)) ?_
    refine ASL.q (v := (.int .i64 (p0.length : Int))) rfl rfl (Light.quiet (opLenMap (f := TNode.av) rfl rfl rfl lenT_25 rfl)) ?_
    refine ASL.q (v := (.int .i64 (W (((p0.length : Int)) - 1)))) rfl rfl (Light.quiet (opInt rfl rfl rfl rfl)) ?_
    refine ASL.q (v := (.list 1 (List.map (AV.int .i64) p1))) rfl rfl (Light.quiet (opMove rfl rfl)) ?_
    obtain ⟨a18, ha18, hF⟩ := bindE hF
    refine ASL.q (v := (.int .u64 a18)) rfl rfl ((qCall rfl rfl call_71 (impl_ends_ok ha18) rfl)) ?_
    refine ASL.q (v := (.list 1 (List.map (AV.int .i64) p1))) rfl rfl (Light.quiet (opMove rfl rfl)) ?_
    refine ASL.q (v := (.int .i64 (p1.length : Int))) rfl rfl (Light.quiet (opLenMap (f := (AV.int .i64)) rfl rfl rfl lenT_34 rfl)) ?_
    refine ASL.q (v := (.int .u64 (IntKind.u64.wrap ((p1.length : Int))))) rfl rfl (Light.quiet (opConv rfl rfl und_3 und_91 rfl)) ?_
    refine ASL.q (v := (.int .u64 (shr .u64 a18 ((IntKind.u64.wrap ((p1.length : Int))))))) rfl rfl (Light.quiet (opShr rfl rfl rfl (wrapU_nn rfl _) rfl)) ?_
    refine ASL.q (v := (.int .u64 (bAnd .u64 ((shr .u64 a18 ((IntKind.u64.wrap ((p1.length : Int)))))) 1))) rfl rfl (Light.quiet (opInt rfl rfl rfl rfl)) ?_
    refine ASL.q (v := (.bool (decide (((bAnd .u64 ((shr .u64 a18 ((IntKind.u64.wrap ((p1.length : Int)))))) 1)) = 1)))) rfl rfl (Light.quiet (opInt rfl rfl rfl rfl)) ?_
    refine ASL.q (v := (.bool (decide (((bAnd .u64 ((shr .u64 a18 ((IntKind.u64.wrap ((p1.length : Int)))))) 1)) = 1)))) rfl rfl (Light.quiet (opAssign rfl rfl)) ?_
    refine ASL.done ?_
    refine AWP.ret ?_
    obtain rfl := someE hF
    exact QRet.sole (v := (.bool (decide (((bAnd .u64 ((shr .u64 a18 ((IntKind.u64.wrap ((p1.length : Int)))))) 1)) = 1)))) ⟨rfl, trivial⟩ rfl

set_option maxRecDepth 10000 in
theorem impl_ReNull_ok {K : Nat} {p0 : (List TNode)} {r : Bool} (hF : impl_ReNull K p0 = some r) : PC Try.prog 23 [(.list 3 (List.map TNode.av p0))] fun v => v = (.bool r) := by
  refine PC.enter Try.func23 rfl Try.ntmps23 (by simp) ?_
  have hS := Sep.void; unfold impl_ReNull at hF
  refine AWP.seqR rfl ?_
  refine ASL.q (v := (.bool false)) rfl rfl (Light.quiet (opAssign rfl rfl)) ?_
  refine ASL.done ?_
  refine AWP.seqR rfl ?_
  refine ASL.q (v := (.list 3 (List.map TNode.av p0))) rfl rfl (Light.quiet (opMove rfl rfl)) ?_
  obtain ⟨a4, ha4, hF⟩ := bindE hF
  refine ASL.q (v := (.bool a4)) rfl rfl ((qCallR hS rfl rfl call_30 (impl_ReTakes_ok ha4) ⟨.same _, .nil _, trivial⟩ (by constructor))) ?_
  refine ASL.q (v := (.bool a4)) rfl rfl (Light.quiet (opAssign rfl rfl)) ?_
  refine ASL.done ?_
  refine AWP.ret ?_
  obtain rfl := someE hF
  exact QRet.sole (v := (.bool a4)) ⟨rfl, trivial⟩ rfl

set_option maxRecDepth 10000 in
theorem laws_FnExactReNull_ok {K : Nat} {p0 : (List TNode)} {r : Bool} (hF : laws_FnExactReNull K p0 = some r) : PC Try.prog 5 [(.list 3 (List.map TNode.av p0))] fun v => v = (.bool r) := by
  refine PC.enter Try.func5 rfl Try.ntmps5 (by simp) ?_
  have hS := Sep.void; unfold laws_FnExactReNull at hF
  refine AWP.seqR rfl ?_
  refine ASL.q (v := (.bool false)) rfl rfl (Light.quiet (opAssign rfl rfl)) ?_
  refine ASL.done ?_
  refine AWP.seqR rfl ?_
  refine ASL.q (v := (.int .i64 1048576)) rfl rfl (Light.quiet (opAssign rfl rfl)) ?_
  refine ASL.done ?_
  refine AWP.seqR rfl ?_
  refine ASL.q (v := (.list 3 (List.map TNode.av p0))) rfl rfl (Light.quiet (opMove rfl rfl)) ?_
  refine ASL.q (v := (.int .i64 1048576)) rfl rfl (Light.quiet (opMove rfl rfl)) ?_
  refine ASL.q (v := (.int .i64 (laws_szNodeS p0 1048576))) rfl rfl ((qCall rfl rfl call_15 (laws_szNodeS_ok p0 1048576) rfl)) ?_
  refine ASL.q (v := (.int .i64 (laws_szNodeS p0 1048576))) rfl rfl (Light.quiet (opAssign rfl rfl)) ?_
  refine ASL.done ?_
  refine AWP.seq ?_
  refine AWP.seqR rfl ?_
  refine ASL.q (v := (.int .i64 (laws_szNodeS p0 1048576))) rfl rfl (Light.quiet (opMove rfl rfl)) ?_
  refine ASL.q (v := (.bool (decide (((laws_szNodeS p0 1048576)) < 0)))) rfl rfl (Light.quiet (opInt rfl rfl rfl rfl)) ?_
  refine ASL.done ?_
  refine AWP.ifP hF rfl (fun hc1 hF => ?_) (fun hc1 hF => ?_)
  · skip
    refine AWP.seqR rfl ?_
    refine ASL.q (v := (.bool true)) rfl rfl (Light.quiet (opAssign rfl rfl)) ?_
    refine ASL.done ?_
    refine AWP.ret ?_
    refine QThen.rt ?_
    obtain rfl := someE hF
    exact QRet.sole (v := (.bool true)) ⟨rfl, trivial⟩ rfl
  · skip
    refine AWP.skip ?_
    refine QThen.nrm ?_
    refine AWP.seqR rfl ?_
    refine ASL.q (v := (.list 3 (List.map TNode.av p0))) rfl rfl (Light.quiet (opMove rfl rfl)) ?_
    obtain ⟨a13, ha13, hF⟩ := bindE hF
    refine ASL.q (v := (.list 3 (List.map TNode.av a13))) rfl rfl ((qCall rfl rfl call_17 (PO.list (laws_toNodeS_ok ha13)) rfl)) ?_
    obtain ⟨a14, ha14, hF⟩ := bindE hF
    refine ASL.q (v := (.bool a14)) rfl rfl ((qCall rfl rfl call_22 (spec_ReNull_ok ha14) rfl)) ?_
    refine ASL.q (v := (.bool a14)) rfl rfl (Light.quiet (opAssign rfl rfl)) ?_
    refine ASL.done ?_
    refine AWP.seqR rfl ?_
    refine ASL.q (v := (.list 3 (List.map TNode.av p0))) rfl rfl (Light.quiet (opMove rfl rfl)) ?_
    obtain ⟨a16, ha16, hF⟩ := bindE hF
    refine ASL.q (v := (.list 3 (List.map TNode.av a16))) rfl rfl ((qCall rfl rfl call_17 (PO.list (laws_toNodeS_ok ha16)) rfl)) ?_
    refine ASL.q (v := (.list 3 (List.map TNode.av a16))) rfl rfl (Light.quiet (opAssign rfl rfl)) ?_
    refine ASL.done ?_
    refine AWP.seqR rfl ?_
    refine ASL.q (v := (.list 3 (List.map TNode.av a16))) rfl rfl (Light.quiet (opMove rfl rfl)) ?_
    obtain ⟨a18, ha18, hF⟩ := bindE hF
    refine ASL.q (v := (.bool a18)) rfl rfl ((qCall rfl rfl call_23 (impl_ReNull_ok ha18) rfl)) ?_
    refine ASL.q (v := (.bool a18)) rfl rfl (Light.quiet (opAssign rfl rfl)) ?_
    refine ASL.done ?_
    refine AWP.seq ?_
    refine AWP.seqR rfl ?_
    refine ASL.q (v := (.bool a18)) rfl rfl (Light.quiet (opMove rfl rfl)) ?_
    refine ASL.q (v := (.bool a14)) rfl rfl (Light.quiet (opMove rfl rfl)) ?_
    refine ASL.q (v := (.bool (!(a18 == a14)))) rfl rfl (Light.quiet (opBoolEq rfl rfl rfl und_4 rfl)) ?_
    refine ASL.done ?_
    refine AWP.ifB hF rfl (fun hc2 hF => ?_) (fun hc2 hF => ?_)
    · skip
      refine AWP.seqR rfl ?_
      refine ASL.q (v := (.bool false)) rfl rfl (Light.quiet (opAssign rfl rfl)) ?_
      refine ASL.done ?_
      refine AWP.ret ?_
      refine QThen.rt ?_
      obtain rfl := someE hF
      exact QRet.sole (v := (.bool false)) ⟨rfl, trivial⟩ rfl
    · skip
      refine AWP.skip ?_
      refine QThen.nrm ?_
      refine AWP.seq ?_
      refine AWP.seqR rfl ?_
      refine ASL.q (v := (.list 3 (List.map TNode.av a16))) rfl rfl (Light.quiet (opMove rfl rfl)) ?_
      refine ASL.q (v := (.list 3 (List.map TNode.av p0))) rfl rfl (Light.quiet (opMove rfl rfl)) ?_
      obtain ⟨a24, ha24, hF⟩ := bindE hF
      refine ASL.q (v := (.list 3 (List.map TNode.av a24))) rfl rfl ((qCall rfl rfl call_17 (PO.list (laws_toNodeS_ok ha24)) rfl)) ?_
      obtain ⟨a25, ha25, hF⟩ := bindE hF
      refine ASL.q (v := (.bool a25)) rfl rfl ((qCall rfl rfl call_19 (laws_eqNodeS_ok ha25) rfl)) ?_
      refine ASL.q (v := (.bool (!a25))) rfl rfl (Light.quiet (opNot rfl rfl)) ?_
      refine ASL.done ?_
      refine AWP.ifB hF rfl (fun hc3 hF => ?_) (fun hc3 hF => ?_)
      · skip
        refine AWP.seqR rfl ?_
        refine ASL.q (v := (.bool false)) rfl rfl (Light.quiet (opAssign rfl rfl)) ?_
        refine ASL.done ?_
        refine AWP.ret ?_
        refine QThen.rt ?_
        obtain rfl := someE hF
        exact QRet.sole (v := (.bool false)) ⟨rfl, trivial⟩ rfl
      · skip
        refine AWP.skip ?_
        refine QThen.nrm ?_
        refine AWP.seqR rfl ?_
        refine ASL.q (v := (.bool true)) rfl rfl (Light.quiet (opAssign rfl rfl)) ?_
        refine ASL.done ?_
        refine AWP.ret ?_
        obtain rfl := someE hF
        exact QRet.sole (v := (.bool true)) ⟨rfl, trivial⟩ rfl

end Go.Proofs.Ytpikdepigcmfnaa
