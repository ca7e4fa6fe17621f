/- Each of these functions of the program comes to just what its plain function says: FnExactRePrint. -/
import Derived.Test.YtpikdepigcmfnaaDRePrint
import Derived.Test.YtpikdepigcmfnaaFa
import Derived.Test.YtpikdepigcmfnaaKReOk
namespace Go.Proofs.Ytpikdepigcmfnaa
open Go Go.RowKit E
set_option linter.unusedVariables false
set_option maxRecDepth 10000 in
theorem spec_l2Digit_ok (p0 : Int) : PC Try.prog 104 [(.int .i64 p0)] fun v => v = (.str (spec_l2Digit p0)) := by
  generalize hF : spec_l2Digit p0 = r
  refine PC.enter Try.func104 rfl Try.ntmps104 (by simp) ?_
  have hS := Sep.void; unfold spec_l2Digit at hF
  refine AWP.seqR rfl ?_
  refine ASL.q (v := (.str { data := #[] })) rfl rfl (Light.quiet (opAssign rfl rfl)) ?_
  refine ASL.done ?_
  refine AWP.seqR rfl ?_
  refine ASL.q (v := (.int .i64 p0)) rfl rfl (Light.quiet (opMove rfl rfl)) ?_
  refine ASL.q (v := (.int .i64 (W (48 + p0)))) rfl rfl (Light.quiet (opInt rfl rfl rfl rfl)) ?_
  refine ASL.q (v := (.int .u8 (IntKind.u8.wrap ((W (48 + p0)))))) rfl rfl (Light.quiet (opConv rfl rfl und_3 und_5 rfl)) ?_
  refine ASL.q (v := (.list 1 (List.map (AV.int .u8) [(IntKind.u8.wrap ((W (48 + p0))))]))) rfl rfl ((qLit (xs := [(.int .u8 (IntKind.u8.wrap ((W (48 + p0)))))]) rfl elemA_47 sizeA_5 zeroA_5 rfl rfl rfl rfl (by simp [cells]) (nlt rfl))) ?_
  refine ASL.q (v := (.str (bstr ([(IntKind.u8.wrap ((W (48 + p0))))])))) rfl rfl (Light.quiet (opBstr rfl elemA_47 und_5 und_9 rfl)) ?_
  refine ASL.q (v := (.str (bstr ([(IntKind.u8.wrap ((W (48 + p0))))])))) rfl rfl (Light.quiet (opAssign rfl rfl)) ?_
  refine ASL.done ?_
  refine AWP.ret ?_
  obtain rfl := hF
  exact QRet.sole (v := (.str (bstr ([(IntKind.u8.wrap ((W (48 + p0))))])))) ⟨rfl, trivial⟩ rfl

set_option maxRecDepth 10000 in
theorem spec_l11Print.body_ok {p0 : (List TNode)} {p1 : Int} {r : ByteArray} {rec_spec_l11Print : (List TNode) → Int → Option ByteArray} (ih_spec_l11Print : ∀ {p0 : (List TNode)} {p1 : Int} {r : ByteArray} , rec_spec_l11Print p0 p1 = some r → PC Try.prog 64 [(.list 3 (List.map TNode.av p0)), (.int .i64 p1)] fun v => v = (.str r)) (hF : spec_l11Print.body rec_spec_l11Print p0 p1 = some r) : PC Try.prog 64 [(.list 3 (List.map TNode.av p0)), (.int .i64 p1)] fun v => v = (.str r) := by
  refine PC.enter Try.func64 rfl Try.ntmps64 (by simp) ?_
  have hS := Sep.void; unfold spec_l11Print.body at hF
  refine AWP.seqR rfl ?_
  refine ASL.q (v := (.str { data := #[] })) rfl rfl (Light.quiet (opAssign rfl rfl)) ?_
  refine ASL.done ?_
  refine AWP.seqR rfl ?_
  refine ASL.q (v := (.list 3 (List.map TNode.av p0))) rfl rfl (Light.quiet (opMove rfl rfl)) ?_
  refine ASL.q (v := (.int .i64 p1)) rfl rfl (Light.quiet (opMove rfl rfl)) ?_
  obtain ⟨a8, ha8, hF⟩ := bindE hF
  refine ASL.q (v := (.rptr [(.int .i64 a8.kind), (.int .i64 a8.a), (.int .i64 a8.b)])) rfl rfl (Light.quiet (kIx (f := TNode.av) ha8 rfl rfl rfl elemA_25 sizeA_54 rfl)) ?_
  refine ASL.q (v := (TNode.av a8)) rfl rfl (Light.quiet (opLoadRA rfl aggA_54 sizeA_54 rfl (nlt rfl) rfl)) ?_
  refine ASL.x rfl rfl (hNewZ hS [(.int .i64 0), (.int .i64 0), (.int .i64 0)] rfl zeroA_54 ⟨.inl rfl, .inl rfl, .inl rfl, trivial⟩ ?_); rintro b5 G1 hK hS
  refine ASL.n rfl rfl (hPutA hS (j := 0) rfl rfl sizeA_54 rfl rfl rfl rfl rfl (nlt rfl) ?_); rintro G3 hS
  refine ASL.done ?_
  refine AWP.seq ?_
  refine AWP.seqR rfl ?_
  refine ASL.q (v := (.ptr b5 0)) rfl rfl (Light.quiet (opFieldAddr rfl fieldA_54_0 rfl rfl)) ?_
  refine ASL.q (v := (.int .i64 a8.kind)) rfl rfl (Light.quiet (kAt hS (j := 0) rfl rfl aggA_3 rfl rfl)) ?_
  refine ASL.done ?_
  refine AWP.block ?_
  refine AWP.seqR rfl ?_
  refine ASL.q (v := (.bool (decide (a8.kind = 1)))) rfl rfl (Light.quiet (opInt rfl rfl rfl rfl)) ?_
  refine ASL.q (v := (.bool (decide (a8.kind = 1)))) rfl rfl (Light.quiet (opAssign rfl rfl)) ?_
  refine ASL.done ?_
  refine AWP.ifP hF rfl (fun hc4 hF => ?_) (fun hc4 hF => ?_)
  · skip
    refine AWP.seqR rfl ?_
    refine ASL.q (v := (.str { data := #[64] })) rfl rfl (Light.quiet (opAssign rfl rfl)) ?_
    refine ASL.done ?_
    refine AWP.ret ?_
    refine QBlock.ret ?_
    refine QThen.rt ?_
    obtain rfl := someE hF
    exact QRet.sole (v := (.str { data := #[64] })) ⟨rfl, trivial⟩ rfl
  · skip
    refine AWP.seqR rfl ?_
    refine ASL.q (v := (.bool (decide (a8.kind = 2)))) rfl rfl (Light.quiet (opInt rfl rfl rfl rfl)) ?_
    refine ASL.q (v := (.bool (decide (a8.kind = 2)))) rfl rfl (Light.quiet (opAssign rfl rfl)) ?_
    refine ASL.done ?_
    refine AWP.ifP hF rfl (fun hc5 hF => ?_) (fun hc5 hF => ?_)
    · skip
      refine AWP.seqR rfl ?_
      refine ASL.q (v := (.str { data := #[95] })) rfl rfl (Light.quiet (opAssign rfl rfl)) ?_
      refine ASL.done ?_
      refine AWP.ret ?_
      refine QBlock.ret ?_
      refine QThen.rt ?_
      obtain rfl := someE hF
      exact QRet.sole (v := (.str { data := #[95] })) ⟨rfl, trivial⟩ rfl
    · skip
      refine AWP.seqR rfl ?_
      refine ASL.q (v := (.bool (decide (a8.kind = 3)))) rfl rfl (Light.quiet (opInt rfl rfl rfl rfl)) ?_
      refine ASL.q (v := (.bool (decide (a8.kind = 3)))) rfl rfl (Light.quiet (opAssign rfl rfl)) ?_
      refine ASL.done ?_
      refine AWP.ifP hF rfl (fun hc6 hF => ?_) (fun hc6 hF => ?_)
      · skip
        refine AWP.seqR rfl ?_
        refine ASL.q (v := (.ptr b5 1)) rfl rfl (Light.quiet (opFieldAddr rfl fieldA_54_1 rfl rfl)) ?_
        refine ASL.q (v := (.int .i64 a8.a)) rfl rfl (Light.quiet (kAt hS (j := 0) rfl rfl aggA_3 rfl rfl)) ?_
        refine ASL.q (v := (.str (spec_l2Digit a8.a))) rfl rfl ((qCall rfl rfl call_104 (spec_l2Digit_ok a8.a) rfl)) ?_
        refine ASL.q (v := (.str (spec_l2Digit a8.a))) rfl rfl (Light.quiet (opAssign rfl rfl)) ?_
        refine ASL.done ?_
        refine AWP.ret ?_
        refine QBlock.ret ?_
        refine QThen.rt ?_
        obtain rfl := someE hF
        exact QRet.sole (v := (.str (spec_l2Digit a8.a))) ⟨rfl, trivial⟩ rfl
      · skip
        refine AWP.seqR rfl ?_
        refine ASL.q (v := (.bool (decide (a8.kind = 4)))) rfl rfl (Light.quiet (opInt rfl rfl rfl rfl)) ?_
        refine ASL.q (v := (.bool (decide (a8.kind = 4)))) rfl rfl (Light.quiet (opAssign rfl rfl)) ?_
        refine ASL.done ?_
        refine AWP.ifP hF rfl (fun hc7 hF => ?_) (fun hc7 hF => ?_)
        · skip
          refine AWP.seqR rfl ?_
          refine ASL.q (v := (.list 3 (List.map TNode.av p0))) rfl rfl (Light.quiet (opMove rfl rfl)) ?_
          refine ASL.q (v := (.ptr b5 1)) rfl rfl (Light.quiet (opFieldAddr rfl fieldA_54_1 rfl rfl)) ?_
          refine ASL.q (v := (.int .i64 a8.a)) rfl rfl (Light.quiet (kAt hS (j := 0) rfl rfl aggA_3 rfl rfl)) ?_
          obtain ⟨a26, ha26, hF⟩ := bindE hF
          refine ASL.q (v := (.str a26)) rfl rfl ((qCall rfl rfl call_64 (ih_spec_l11Print ha26) rfl)) ?_
          obtain ⟨a27, ha27, hF⟩ := bindE hF
          refine ASL.q (v := (.str a27)) rfl rfl (Light.quiet (opCat ha27 rfl rfl rfl)) ?_
          refine ASL.q (v := (.str a27)) rfl rfl (Light.quiet (opAssign rfl rfl)) ?_
          refine ASL.done ?_
          refine AWP.ret ?_
          refine QBlock.ret ?_
          refine QThen.rt ?_
          obtain rfl := someE hF
          exact QRet.sole (v := (.str a27)) ⟨rfl, trivial⟩ rfl
        · skip
          refine AWP.seqR rfl ?_
          refine ASL.q (v := (.bool (decide (a8.kind = 5)))) rfl rfl (Light.quiet (opInt rfl rfl rfl rfl)) ?_
          refine ASL.q (v := (.bool (decide (a8.kind = 5)))) rfl rfl (Light.quiet (opAssign rfl rfl)) ?_
          refine ASL.done ?_
          refine AWP.ifP hF rfl (fun hc8 hF => ?_) (fun hc8 hF => ?_)
          · skip
            refine AWP.seqD [(0, false), (1, false), (2, false), (3, false), (4, false), (5, false), (6, false), (7, false), (8, false), (9, false), (10, false), (11, false), (12, false)] mixed (by kernel_rfl) rfl ?_
            refine ARL.q0 (v := (.list 3 (List.map TNode.av p0))) rfl rfl (Light.quiet (opMove rfl rfl)) ?_
            refine ARL.q0 (v := (.ptr b5 1)) rfl rfl (Light.quiet (opFieldAddr rfl fieldA_54_1 rfl rfl)) ?_
            refine ARL.q (v := (.int .i64 a8.a)) rfl rfl (hS.aliveC (k := 0) rfl) (Light.quiet (kAt hS (j := 0) rfl rfl aggA_3 rfl rfl)) ?_
            obtain ⟨a33, ha33, hF⟩ := bindE hF
            refine ARL.q0 (v := (.str a33)) rfl rfl ((qCall rfl rfl call_64 (ih_spec_l11Print ha33) rfl)) ?_
            obtain ⟨a34, ha34, hF⟩ := bindE hF
            refine ARL.q0 (v := (.str a34)) rfl rfl (Light.quiet (opCat ha34 rfl rfl rfl)) ?_
            obtain ⟨a35, ha35, hF⟩ := bindE hF
            refine ARL.q0 (v := (.str a35)) rfl rfl (Light.quiet (opCat ha35 rfl rfl rfl)) ?_
            refine ARL.q0 (v := (.list 3 (List.map TNode.av p0))) rfl rfl (Light.quiet (opMove rfl rfl)) ?_
            refine ARL.q0 (v := (.ptr b5 2)) rfl rfl (Light.quiet (opFieldAddr rfl fieldA_54_2 rfl rfl)) ?_
            refine ARL.q (v := (.int .i64 a8.b)) rfl rfl (hS.aliveC (k := 0) rfl) (Light.quiet (kAt hS (j := 0) rfl rfl aggA_3 rfl rfl)) ?_
            obtain ⟨a39, ha39, hF⟩ := bindE hF
            refine ARL.q0 (v := (.str a39)) rfl rfl ((qCall rfl rfl call_64 (ih_spec_l11Print ha39) rfl)) ?_
            obtain ⟨a40, ha40, hF⟩ := bindE hF
            refine ARL.q0 (v := (.str a40)) rfl rfl (Light.quiet (opCat ha40 rfl rfl rfl)) ?_
            obtain ⟨a41, ha41, hF⟩ := bindE hF
            refine ARL.q0 (v := (.str a41)) rfl rfl (Light.quiet (opCat ha41 rfl rfl rfl)) ?_
            refine ARL.q0 (v := (.str a41)) rfl rfl (Light.quiet (opAssign rfl rfl)) ?_
            refine ARL.done ?_
            refine AWP.ret ?_
            refine QBlock.ret ?_
            refine QThen.rt ?_
            obtain rfl := someE hF
            exact QRet.sole (v := (.str a41)) ⟨rfl, trivial⟩ rfl
          · skip
            refine AWP.skip ?_
            refine QBlock.nrm ?_
            refine QThen.nrm ?_
            refine AWP.seqD [(0, false), (1, false), (2, false), (3, false), (4, false), (5, false), (6, false), (7, false), (8, false), (9, false), (10, false), (11, false), (12, false)] mixed (by kernel_rfl) rfl ?_
            refine ARL.q0 (v := (.list 3 (List.map TNode.av p0))) rfl rfl (Light.quiet (opMove rfl rfl)) ?_
            refine ARL.q0 (v := (.ptr b5 1)) rfl rfl (Light.quiet (opFieldAddr rfl fieldA_54_1 rfl rfl)) ?_
            refine ARL.q (v := (.int .i64 a8.a)) rfl rfl (hS.aliveC (k := 0) rfl) (Light.quiet (kAt hS (j := 0) rfl rfl aggA_3 rfl rfl)) ?_
            obtain ⟨a45, ha45, hF⟩ := bindE hF
            refine ARL.q0 (v := (.str a45)) rfl rfl ((qCall rfl rfl call_64 (ih_spec_l11Print ha45) rfl)) ?_
            obtain ⟨a46, ha46, hF⟩ := bindE hF
            refine ARL.q0 (v := (.str a46)) rfl rfl (Light.quiet (opCat ha46 rfl rfl rfl)) ?_
            obtain ⟨a47, ha47, hF⟩ := bindE hF
            refine ARL.q0 (v := (.str a47)) rfl rfl (Light.quiet (opCat ha47 rfl rfl rfl)) ?_
            refine ARL.q0 (v := (.list 3 (List.map TNode.av p0))) rfl rfl (Light.quiet (opMove rfl rfl)) ?_
            refine ARL.q0 (v := (.ptr b5 2)) rfl rfl (Light.quiet (opFieldAddr rfl fieldA_54_2 rfl rfl)) ?_
            refine ARL.q (v := (.int .i64 a8.b)) rfl rfl (hS.aliveC (k := 0) rfl) (Light.quiet (kAt hS (j := 0) rfl rfl aggA_3 rfl rfl)) ?_
            obtain ⟨a51, ha51, hF⟩ := bindE hF
            refine ARL.q0 (v := (.str a51)) rfl rfl ((qCall rfl rfl call_64 (ih_spec_l11Print ha51) rfl)) ?_
            obtain ⟨a52, ha52, hF⟩ := bindE hF
            refine ARL.q0 (v := (.str a52)) rfl rfl (Light.quiet (opCat ha52 rfl rfl rfl)) ?_
            obtain ⟨a53, ha53, hF⟩ := bindE hF
            refine ARL.q0 (v := (.str a53)) rfl rfl (Light.quiet (opCat ha53 rfl rfl rfl)) ?_
            refine ARL.q0 (v := (.str a53)) rfl rfl (Light.quiet (opAssign rfl rfl)) ?_
            refine ARL.done ?_
            refine AWP.ret ?_
            obtain rfl := someE hF
            exact QRet.sole (v := (.str a53)) ⟨rfl, trivial⟩ rfl
theorem spec_l11Print_ok {K : Nat} : ∀ {p0 : (List TNode)} {p1 : Int} {r : ByteArray} , spec_l11Print K p0 p1 = some r → PC Try.prog 64 [(.list 3 (List.map TNode.av p0)), (.int .i64 p1)] fun v => v = (.str r) := by
  induction K with
  | zero => intros; rename_i h; cases h
  | succ K ih => intros; rename_i h; exact spec_l11Print.body_ok ih h

set_option maxRecDepth 10000 in
theorem spec_RePrint_ok {K : Nat} {p0 : (List TNode)} {r : ByteArray} (hF : spec_RePrint K p0 = some r) : PC Try.prog 20 [(.list 3 (List.map TNode.av p0))] fun v => v = (.str r) := by
  refine PC.enter Try.func20 rfl Try.ntmps20 (by simp) ?_
  have hS := Sep.void; unfold spec_RePrint at hF
  refine AWP.seqR rfl ?_
  refine ASL.q (v := (.str { data := #[] })) rfl rfl (Light.quiet (opAssign rfl rfl)) ?_
  refine ASL.done ?_
  refine AWP.seq ?_
  refine AWP.seqR rfl ?_
  refine ASL.q (v := (.list 3 (List.map TNode.av p0))) rfl rfl (Light.quiet (opMove rfl rfl)) ?_
  obtain ⟨a4, ha4, hF⟩ := bindE hF
  refine ASL.q (v := (.bool a4)) rfl rfl ((qCall rfl rfl call_16 (spec_ReOk_ok ha4) rfl)) ?_
  refine ASL.q (v := (.bool (!a4))) rfl rfl (Light.quiet (opNot rfl rfl)) ?_
  refine ASL.done ?_
  refine AWP.ifB hF rfl (fun hc1 hF => ?_) (fun hc1 hF => ?_)
  · skip
    refine AWP.seqR rfl ?_
    refine ASL.q (v := (.str { data := #[] })) rfl rfl (Light.quiet (opAssign rfl rfl)) ?_
    refine ASL.done ?_
    refine AWP.ret ?_
    refine QThen.rt ?_
    obtain rfl := someE hF
    exact QRet.sole (v := (.str { data := #[] })) ⟨rfl, trivial⟩ rfl
  · skip
    refine AWP.skip ?_
    refine QThen.nrm ?_
    refine AWP.seqR rfl ?_
    refine ASL.q (v := (.list 3 (List.map TNode.av p0))) rfl rfl (Light.quiet (opMove rfl rfl)) ?_
    refine ASL.q (v := (.list 3 (List.map TNode.av p0))) rfl rfl (Light.quiet (opMove rfl rfl)) ?_
    refine ASL.q (v := (.int .i64 (p0.length : Int))) rfl rfl (Light.quiet (opLenMap (f := TNode.av) rfl rfl rfl lenT_25 rfl)) ?_
    refine ASL.q (v := (.int .i64 (W (((p0.length : Int)) - 1)))) rfl rfl (Light.quiet (opInt rfl rfl rfl rfl)) ?_
    obtain ⟨a10, ha10, hF⟩ := bindE hF
    refine ASL.q (v := (.str a10)) rfl rfl ((qCall rfl rfl call_64 (spec_l11Print_ok ha10) rfl)) ?_
    refine ASL.q (v := (.str a10)) rfl rfl (Light.quiet (opAssign rfl rfl)) ?_
    refine ASL.done ?_
    refine AWP.ret ?_
    obtain rfl := someE hF
    exact QRet.sole (v := (.str a10)) ⟨rfl, trivial⟩ rfl

set_option maxRecDepth 10000 in
theorem impl_digit_ok (p0 : Int) : PC Try.prog 65 [(.int .i64 p0)] fun v => v = (.str (impl_digit p0)) := by
  generalize hF : impl_digit p0 = r
  refine PC.enter Try.func65 rfl Try.ntmps65 (by simp) ?_
  have hS := Sep.void; unfold impl_digit at hF
  refine AWP.seqR rfl ?_
  refine ASL.q (v := (.str { data := #[] })) rfl rfl (Light.quiet (opAssign rfl rfl)) ?_
  refine ASL.done ?_
  refine AWP.seqR rfl ?_
  refine ASL.q (v := (.int .i64 p0)) rfl rfl (Light.quiet (opMove rfl rfl)) ?_
  refine ASL.q (v := (.int .i64 (W (48 + p0)))) rfl rfl (Light.quiet (opInt rfl rfl rfl rfl)) ?_
  refine ASL.q (v := (.int .u8 (IntKind.u8.wrap ((W (48 + p0)))))) rfl rfl (Light.quiet (opConv rfl rfl und_3 und_5 rfl)) ?_
  refine ASL.q (v := (.list 1 (List.map (AV.int .u8) [(IntKind.u8.wrap ((W (48 + p0))))]))) rfl rfl ((qLit (xs := [(.int .u8 (IntKind.u8.wrap ((W (48 + p0)))))]) rfl elemA_47 sizeA_5 zeroA_5 rfl rfl rfl rfl (by simp [cells]) (nlt rfl))) ?_
  refine ASL.q (v := (.str (bstr ([(IntKind.u8.wrap ((W (48 + p0))))])))) rfl rfl (Light.quiet (opBstr rfl elemA_47 und_5 und_9 rfl)) ?_
  refine ASL.q (v := (.str (bstr ([(IntKind.u8.wrap ((W (48 + p0))))])))) rfl rfl (Light.quiet (opAssign rfl rfl)) ?_
  refine ASL.done ?_
  refine AWP.ret ?_
  obtain rfl := hF
  exact QRet.sole (v := (.str (bstr ([(IntKind.u8.wrap ((W (48 + p0))))])))) ⟨rfl, trivial⟩ rfl

set_option maxRecDepth 10000 in
theorem impl_RePrint_ok {p0 : (List TNode)} {r : ByteArray} (hF : impl_RePrint p0 = some r) : PC Try.prog 21 [(.list 3 (List.map TNode.av p0))] fun v => v = (.str r) := by
  refine PC.enter Try.func21 rfl Try.ntmps21 (by simp) ?_
  have hS := Sep.void; unfold impl_RePrint at hF
  refine AWP.seqR rfl ?_
  refine ASL.q (v := (.str { data := #[] })) rfl rfl (Light.quiet (opAssign rfl rfl)) ?_
  refine ASL.done ?_
  refine AWP.seq ?_
  refine AWP.seqR rfl ?_
  refine ASL.q (v := (.list 3 (List.map TNode.av p0))) rfl rfl (Light.quiet (opMove rfl rfl)) ?_
  obtain ⟨a7, ha7, hF⟩ := bindE hF
  refine ASL.q (v := (.bool a7)) rfl rfl ((qCall rfl rfl call_18 (impl_ReOk_ok ha7) rfl)) ?_
  refine ASL.q (v := (.bool (!a7))) rfl rfl (Light.quiet (opNot rfl rfl)) ?_
  refine ASL.done ?_
  refine AWP.ifB hF rfl (fun hc1 hF => ?_) (fun hc1 hF => ?_)
  · skip
    refine AWP.seqR rfl ?_
    refine ASL.q (v := (.str { data := #[] })) rfl rfl (Light.quiet (opAssign rfl rfl)) ?_
    refine ASL.done ?_
    refine AWP.ret ?_
    refine QThen.rt ?_
    obtain rfl := someE hF
    exact QRet.sole (v := (.str { data := #[] })) ⟨rfl, trivial⟩ rfl
  · skip
    refine AWP.skip ?_
    refine QThen.nrm ?_
    refine AWP.seqR rfl ?_
    refine ASL.q (v := (.list 3 (List.map TNode.av p0))) rfl rfl (Light.quiet (opMove rfl rfl)) ?_
    refine ASL.q (v := (.int .i64 (p0.length : Int))) rfl rfl (Light.quiet (opLenMap (f := TNode.av) rfl rfl rfl lenT_25 rfl)) ?_
    obtain ⟨z11, hz11, hF⟩ := bindE hF
    refine ASL.x rfl rfl (hMk (f := AV.str) hS hz11 (by decide) rfl elemA_80 sizeA_9 bytesA_9 zeroA_9 rfl rfl (by decide) rfl rfl ?_); rintro v11 G2 hK hS
    refine ASL.q (v := v11) rfl rfl (Light.quiet (opAssign rfl rfl)) ?_
    refine ASL.done ?_
    refine AWP.seqM (fun e H => ∃ y4 : (List ByteArray), E.Told e [(0, (.list 3 (List.map TNode.av p0))), (3, v11)] ∧ E.Sep H [.row 1 v11 (List.map AV.str y4)] ∧ impl_RePrint.k0 p0 y4 = some r) ?_ ?_
    · rintro e0 G5 ⟨y4, hT, hS, hF⟩; refine AWP.only _ hT ?_; unfold impl_RePrint.k0 at hF
      refine AWP.seqR rfl ?_
      refine ASL.q (v := v11) rfl rfl (Light.quiet (opMove rfl rfl)) ?_
      refine ASL.q (v := (.list 3 (List.map TNode.av p0))) rfl rfl (Light.quiet (opMove rfl rfl)) ?_
      refine ASL.q (v := (.int .i64 (p0.length : Int))) rfl rfl (Light.quiet (opLenMap (f := TNode.av) rfl rfl rfl lenT_25 rfl)) ?_
      refine ASL.q (v := (.int .i64 (W (((p0.length : Int)) - 1)))) rfl rfl (Light.quiet (opInt rfl rfl rfl rfl)) ?_
      obtain ⟨a93, ha93, hF⟩ := bindE hF
      refine ASL.q (v := (ptrTo v11 ((W (((p0.length : Int)) - 1))).toNat 1)) rfl rfl (Light.quiet (kIxOx hS (j := 0) rfl ha93 rfl rfl rfl elemA_80 sizeA_9)) ?_
      refine ASL.q (v := (.str a93)) rfl rfl (Light.quiet (kLd (f := AV.str) hS (j := 0) rfl ha93 rfl aggA_9 rfl (fun _ => rfl))) ?_
      refine ASL.q (v := (.str a93)) rfl rfl (Light.quiet (opAssign rfl rfl)) ?_
      refine ASL.done ?_
      refine AWP.ret ?_
      obtain rfl := someE hF
      exact QRet.sole (v := (.str a93)) ⟨rfl, trivial⟩ rfl
    · skip
      refine AWP.seqR rfl ?_
      refine ASL.q (v := (.list 3 (List.map TNode.av p0))) rfl rfl (Light.quiet (opMove rfl rfl)) ?_
      refine ASL.q (v := (.int .i64 (p0.length : Int))) rfl rfl (Light.quiet (opLenMap (f := TNode.av) rfl rfl rfl lenT_25 rfl)) ?_
      refine ASL.q (v := (.int .i64 0)) rfl rfl (Light.quiet (opMove rfl rfl)) ?_
      refine ASL.done ?_
      refine AWP.block ?_
      obtain ⟨o10, hL9, hR11⟩ := bindE hF
      refine AWP.loopF (ω := Unit) hL9 (fun s w => [(0, (.list 3 (List.map TNode.av p0))), (3, v11), (12, (.list 3 (List.map TNode.av p0))), (13, (.int .i64 (p0.length : Int))), (14, (.int .i64 s.2))]) (fun s w => [.row 1 v11 (List.map AV.str s.1)]) () ⟨rfl, rfl, rfl, rfl, rfl, trivial⟩ (hS.pick [0] rfl rfl) ?_
      rintro ⟨y6, x14_l0⟩ _ G12 hS x7 hF hx8
      try dsimp only at hS ⊢
      have hF : impl_RePrint.b0 p0 y6 x14_l0 = some x7 := hF; unfold impl_RePrint.b0 at hF
      refine AWP.seqR rfl ?_
      refine ASL.q (v := (.bool (decide (x14_l0 < ((p0.length : Int)))))) rfl rfl (Light.quiet (opInt rfl rfl rfl rfl)) ?_
      refine ASL.done ?_
      refine AWP.seq ?_
      refine AWP.ifP hF rfl (fun hc13 hF => ?_) (fun hc13 hF => ?_)
      · skip
        refine AWP.skip ?_
        refine QThen.nrm ?_
        refine AWP.seqM (fun e H => ∃ y14 : (List ByteArray), E.Told e [(0, (.list 3 (List.map TNode.av p0))), (3, v11), (12, (.list 3 (List.map TNode.av p0))), (13, (.int .i64 (p0.length : Int))), (14, (.int .i64 x14_l0))] ∧ E.Sep H [.row 1 v11 (List.map AV.str y14)] ∧ impl_RePrint.k1 x14_l0 y14 = some x7) ?_ ?_
        · rintro e0 G15 ⟨y14, hT, hS, hF⟩; refine AWP.only _ hT ?_; unfold impl_RePrint.k1 at hF
          refine AWP.lastR rfl ?_
          refine ASL.q (v := (.int .i64 (W (x14_l0 + 1)))) rfl rfl (Light.quiet (opInt rfl rfl rfl rfl)) ?_
          refine ASL.q (v := (.int .i64 (W (x14_l0 + 1)))) rfl rfl (Light.quiet (opMove rfl rfl)) ?_
          refine ASL.done ?_
          refine QThen.nrm ?_
          exact ⟨(y14, (W (x14_l0 + 1))), (), (someE hF).symm, ⟨rfl, rfl, rfl, rfl, rfl, trivial⟩, (hS.pick [0] rfl rfl)⟩
        · skip
          refine AWP.block ?_
          refine AWP.seqR rfl ?_
          refine ASL.q (v := (.int .i64 x14_l0)) rfl rfl (Light.quiet (opMove rfl rfl)) ?_
          obtain ⟨a17, ha17, hF⟩ := bindE hF
          refine ASL.q (v := (.rptr [(.int .i64 a17.kind), (.int .i64 a17.a), (.int .i64 a17.b)])) rfl rfl (Light.quiet (kIx (f := TNode.av) ha17 rfl rfl rfl elemA_25 sizeA_54 rfl)) ?_
          refine ASL.q (v := (TNode.av a17)) rfl rfl (Light.quiet (opLoadRA rfl aggA_54 sizeA_54 rfl (nlt rfl) rfl)) ?_
          refine ASL.x rfl rfl (hNewZ hS [(.int .i64 0), (.int .i64 0), (.int .i64 0)] rfl zeroA_54 ⟨.inl rfl, .inl rfl, .inl rfl, trivial⟩ ?_); rintro b5 G16 hK hS
          refine ASL.q (v := (.int .i64 x14_l0)) rfl rfl (Light.quiet (opAssign rfl rfl)) ?_
          refine ASL.n rfl rfl (hPutA hS (j := 0) rfl rfl sizeA_54 rfl rfl rfl rfl rfl (nlt rfl) ?_); rintro G18 hS
          refine ASL.done ?_
          refine AWP.seqR rfl ?_
          refine ASL.q (v := (.ptr b5 0)) rfl rfl (Light.quiet (opFieldAddr rfl fieldA_54_0 rfl rfl)) ?_
          refine ASL.q (v := (.int .i64 a17.kind)) rfl rfl (Light.quiet (kAt hS (j := 0) rfl rfl aggA_3 rfl rfl)) ?_
          refine ASL.done ?_
          refine AWP.block ?_
          refine AWP.seqR rfl ?_
          refine ASL.q (v := (.bool (decide (a17.kind = 1)))) rfl rfl (Light.quiet (opInt rfl rfl rfl rfl)) ?_
          refine ASL.q (v := (.bool (decide (a17.kind = 1)))) rfl rfl (Light.quiet (opAssign rfl rfl)) ?_
          refine ASL.done ?_
          refine AWP.ifP hF rfl (fun hc19 hF => ?_) (fun hc19 hF => ?_)
          · skip
            refine AWP.lastR rfl ?_
            refine ASL.q (v := v11) rfl rfl (Light.quiet (opMove rfl rfl)) ?_
            refine ASL.q (v := (.int .i64 x14_l0)) rfl rfl (Light.quiet (opMove rfl rfl)) ?_
            obtain ⟨m25, hm25, hF⟩ := bindE hF
            refine ASL.q (v := (ptrTo v11 m25 1)) rfl rfl (Light.quiet (kIxO hS (j := 1) rfl hm25 rfl rfl rfl elemA_80 sizeA_9)) ?_
            refine ASL.n rfl rfl (hSt (f := AV.str) (a := { data := #[64] }) hS (j := 1) rfl hm25 rfl sizeA_9 rfl rfl ⟨rfl, rfl, rfl⟩ ?_); rintro G20 hS
            refine ASL.done ?_
            refine QBlock.nrm ?_
            refine QBlock.nrm ?_
            refine QThen.nrm ?_
            exact ⟨(y6.set m25 ({ data := #[64] })), ⟨rfl, rfl, rfl, rfl, rfl, trivial⟩, (hS.pick [1] rfl rfl), hF⟩
          · skip
            refine AWP.seqR rfl ?_
            refine ASL.q (v := (.bool (decide (a17.kind = 2)))) rfl rfl (Light.quiet (opInt rfl rfl rfl rfl)) ?_
            refine ASL.q (v := (.bool (decide (a17.kind = 2)))) rfl rfl (Light.quiet (opAssign rfl rfl)) ?_
            refine ASL.done ?_
            refine AWP.ifP hF rfl (fun hc21 hF => ?_) (fun hc21 hF => ?_)
            · skip
              refine AWP.lastR rfl ?_
              refine ASL.q (v := v11) rfl rfl (Light.quiet (opMove rfl rfl)) ?_
              refine ASL.q (v := (.int .i64 x14_l0)) rfl rfl (Light.quiet (opMove rfl rfl)) ?_
              obtain ⟨m30, hm30, hF⟩ := bindE hF
              refine ASL.q (v := (ptrTo v11 m30 1)) rfl rfl (Light.quiet (kIxO hS (j := 1) rfl hm30 rfl rfl rfl elemA_80 sizeA_9)) ?_
              refine ASL.n rfl rfl (hSt (f := AV.str) (a := { data := #[95] }) hS (j := 1) rfl hm30 rfl sizeA_9 rfl rfl ⟨rfl, rfl, rfl⟩ ?_); rintro G22 hS
              refine ASL.done ?_
              refine QBlock.nrm ?_
              refine QBlock.nrm ?_
              refine QThen.nrm ?_
              exact ⟨(y6.set m30 ({ data := #[95] })), ⟨rfl, rfl, rfl, rfl, rfl, trivial⟩, (hS.pick [1] rfl rfl), hF⟩
            · skip
              refine AWP.seqR rfl ?_
              refine ASL.q (v := (.bool (decide (a17.kind = 3)))) rfl rfl (Light.quiet (opInt rfl rfl rfl rfl)) ?_
              refine ASL.q (v := (.bool (decide (a17.kind = 3)))) rfl rfl (Light.quiet (opAssign rfl rfl)) ?_
              refine ASL.done ?_
              refine AWP.ifP hF rfl (fun hc23 hF => ?_) (fun hc23 hF => ?_)
              · skip
                refine AWP.lastR rfl ?_
                refine ASL.q (v := v11) rfl rfl (Light.quiet (opMove rfl rfl)) ?_
                refine ASL.q (v := (.int .i64 x14_l0)) rfl rfl (Light.quiet (opMove rfl rfl)) ?_
                refine ASL.q (v := (.ptr b5 1)) rfl rfl (Light.quiet (opFieldAddr rfl fieldA_54_1 rfl rfl)) ?_
                refine ASL.q (v := (.int .i64 a17.a)) rfl rfl (Light.quiet (kAt hS (j := 0) rfl rfl aggA_3 rfl rfl)) ?_
                refine ASL.q (v := (.str (impl_digit a17.a))) rfl rfl ((qCall rfl rfl call_65 (impl_digit_ok a17.a) rfl)) ?_
                obtain ⟨m38, hm38, hF⟩ := bindE hF
                refine ASL.q (v := (ptrTo v11 m38 1)) rfl rfl (Light.quiet (kIxO hS (j := 1) rfl hm38 rfl rfl rfl elemA_80 sizeA_9)) ?_
                refine ASL.n rfl rfl (hSt (f := AV.str) (a := (impl_digit a17.a)) hS (j := 1) rfl hm38 rfl sizeA_9 rfl rfl ⟨rfl, rfl, rfl⟩ ?_); rintro G24 hS
                refine ASL.done ?_
                refine QBlock.nrm ?_
                refine QBlock.nrm ?_
                refine QThen.nrm ?_
                exact ⟨(y6.set m38 ((impl_digit a17.a))), ⟨rfl, rfl, rfl, rfl, rfl, trivial⟩, (hS.pick [1] rfl rfl), hF⟩
              · skip
                refine AWP.seqR rfl ?_
                refine ASL.q (v := (.bool (decide (a17.kind = 4)))) rfl rfl (Light.quiet (opInt rfl rfl rfl rfl)) ?_
                refine ASL.q (v := (.bool (decide (a17.kind = 4)))) rfl rfl (Light.quiet (opAssign rfl rfl)) ?_
                refine ASL.done ?_
                refine AWP.ifP hF rfl (fun hc25 hF => ?_) (fun hc25 hF => ?_)
                · skip
                  refine AWP.lastR rfl ?_
                  refine ASL.q (v := v11) rfl rfl (Light.quiet (opMove rfl rfl)) ?_
                  refine ASL.q (v := (.int .i64 x14_l0)) rfl rfl (Light.quiet (opMove rfl rfl)) ?_
                  refine ASL.q (v := v11) rfl rfl (Light.quiet (opMove rfl rfl)) ?_
                  refine ASL.q (v := (.ptr b5 1)) rfl rfl (Light.quiet (opFieldAddr rfl fieldA_54_1 rfl rfl)) ?_
                  refine ASL.q (v := (.int .i64 a17.a)) rfl rfl (Light.quiet (kAt hS (j := 0) rfl rfl aggA_3 rfl rfl)) ?_
                  obtain ⟨a46, ha46, hF⟩ := bindE hF
                  refine ASL.q (v := (ptrTo v11 a17.a.toNat 1)) rfl rfl (Light.quiet (kIxOx hS (j := 1) rfl ha46 rfl rfl rfl elemA_80 sizeA_9)) ?_
                  refine ASL.q (v := (.str a46)) rfl rfl (Light.quiet (kLd (f := AV.str) hS (j := 1) rfl ha46 rfl aggA_9 rfl (fun _ => rfl))) ?_
                  obtain ⟨a48, ha48, hF⟩ := bindE hF
                  refine ASL.q (v := (.str a48)) rfl rfl (Light.quiet (opCat ha48 rfl rfl rfl)) ?_
                  obtain ⟨m49, hm49, hF⟩ := bindE hF
                  refine ASL.q (v := (ptrTo v11 m49 1)) rfl rfl (Light.quiet (kIxO hS (j := 1) rfl hm49 rfl rfl rfl elemA_80 sizeA_9)) ?_
                  refine ASL.n rfl rfl (hSt (f := AV.str) (a := a48) hS (j := 1) rfl hm49 rfl sizeA_9 rfl rfl ⟨rfl, rfl, rfl⟩ ?_); rintro G26 hS
                  refine ASL.done ?_
                  refine QBlock.nrm ?_
                  refine QBlock.nrm ?_
                  refine QThen.nrm ?_
                  exact ⟨(y6.set m49 a48), ⟨rfl, rfl, rfl, rfl, rfl, trivial⟩, (hS.pick [1] rfl rfl), hF⟩
                · skip
                  refine AWP.seqR rfl ?_
                  refine ASL.q (v := (.bool (decide (a17.kind = 5)))) rfl rfl (Light.quiet (opInt rfl rfl rfl rfl)) ?_
                  refine ASL.q (v := (.bool (decide (a17.kind = 5)))) rfl rfl (Light.quiet (opAssign rfl rfl)) ?_
                  refine ASL.done ?_
                  refine AWP.ifP hF rfl (fun hc27 hF => ?_) (fun hc27 hF => ?_)
                  · skip
                    refine AWP.lastD [(0, false), (1, false), (2, false), (3, false), (4, false), (5, false), (6, false), (7, false), (8, false), (9, false), (10, false), (11, false), (12, false), (13, false), (14, false), (15, false), (16, false), (17, true)] mixed (by kernel_rfl) rfl ?_
                    refine ARL.q0 (v := v11) rfl rfl (Light.quiet (opMove rfl rfl)) ?_
                    refine ARL.q0 (v := (.int .i64 x14_l0)) rfl rfl (Light.quiet (opMove rfl rfl)) ?_
                    refine ARL.q0 (v := v11) rfl rfl (Light.quiet (opMove rfl rfl)) ?_
                    refine ARL.q0 (v := (.ptr b5 1)) rfl rfl (Light.quiet (opFieldAddr rfl fieldA_54_1 rfl rfl)) ?_
                    refine ARL.q (v := (.int .i64 a17.a)) rfl rfl (hS.aliveC (k := 0) rfl) (Light.quiet (kAt hS (j := 0) rfl rfl aggA_3 rfl rfl)) ?_
                    obtain ⟨a57, ha57, hF⟩ := bindE hF
                    refine ARL.q0 (v := (ptrTo v11 a17.a.toNat 1)) rfl rfl (Light.quiet (kIxOx hS (j := 1) rfl ha57 rfl rfl rfl elemA_80 sizeA_9)) ?_
                    refine ARL.q (v := (.str a57)) rfl rfl (hS.aliveR (k := 1) rfl) (Light.quiet (kLd (f := AV.str) hS (j := 1) rfl ha57 rfl aggA_9 rfl (fun _ => rfl))) ?_
                    obtain ⟨a59, ha59, hF⟩ := bindE hF
                    refine ARL.q0 (v := (.str a59)) rfl rfl (Light.quiet (opCat ha59 rfl rfl rfl)) ?_
                    obtain ⟨a60, ha60, hF⟩ := bindE hF
                    refine ARL.q0 (v := (.str a60)) rfl rfl (Light.quiet (opCat ha60 rfl rfl rfl)) ?_
                    refine ARL.q0 (v := v11) rfl rfl (Light.quiet (opMove rfl rfl)) ?_
                    refine ARL.q0 (v := (.ptr b5 2)) rfl rfl (Light.quiet (opFieldAddr rfl fieldA_54_2 rfl rfl)) ?_
                    refine ARL.q (v := (.int .i64 a17.b)) rfl rfl (hS.aliveC (k := 0) rfl) (Light.quiet (kAt hS (j := 0) rfl rfl aggA_3 rfl rfl)) ?_
                    obtain ⟨a64, ha64, hF⟩ := bindE hF
                    refine ARL.q0 (v := (ptrTo v11 a17.b.toNat 1)) rfl rfl (Light.quiet (kIxOx hS (j := 1) rfl ha64 rfl rfl rfl elemA_80 sizeA_9)) ?_
                    refine ARL.q (v := (.str a64)) rfl rfl (hS.aliveR (k := 1) rfl) (Light.quiet (kLd (f := AV.str) hS (j := 1) rfl ha64 rfl aggA_9 rfl (fun _ => rfl))) ?_
                    obtain ⟨a66, ha66, hF⟩ := bindE hF
                    refine ARL.q0 (v := (.str a66)) rfl rfl (Light.quiet (opCat ha66 rfl rfl rfl)) ?_
                    obtain ⟨a67, ha67, hF⟩ := bindE hF
                    refine ARL.q0 (v := (.str a67)) rfl rfl (Light.quiet (opCat ha67 rfl rfl rfl)) ?_
                    obtain ⟨m68, hm68, hF⟩ := bindE hF
                    refine ARL.q0 (v := (ptrTo v11 m68 1)) rfl rfl (Light.quiet (kIxO hS (j := 1) rfl hm68 rfl rfl rfl elemA_80 sizeA_9)) ?_
                    refine ARL.n rfl rfl rfl rfl (hSt (f := AV.str) (a := a67) hS (j := 1) rfl hm68 rfl sizeA_9 rfl rfl ⟨rfl, rfl, rfl⟩ ?_); rintro G28 hS
                    refine ARL.done ?_
                    refine QBlock.nrm ?_
                    refine QBlock.nrm ?_
                    refine QThen.nrm ?_
                    exact ⟨(y6.set m68 a67), ⟨rfl, rfl, rfl, rfl, rfl, trivial⟩, (hS.pick [1] rfl rfl), hF⟩
                  · skip
                    refine AWP.seqR rfl ?_
                    refine ASL.q (v := (.bool (decide (a17.kind = 6)))) rfl rfl (Light.quiet (opInt rfl rfl rfl rfl)) ?_
                    refine ASL.q (v := (.bool (decide (a17.kind = 6)))) rfl rfl (Light.quiet (opAssign rfl rfl)) ?_
                    refine ASL.done ?_
                    refine AWP.ifP hF rfl (fun hc29 hF => ?_) (fun hc29 hF => ?_)
                    · skip
                      refine AWP.lastD [(0, false), (1, false), (2, false), (3, false), (4, false), (5, false), (6, false), (7, false), (8, false), (9, false), (10, false), (11, false), (12, false), (13, false), (14, false), (15, false), (16, false), (17, true)] mixed (by kernel_rfl) rfl ?_
                      refine ARL.q0 (v := v11) rfl rfl (Light.quiet (opMove rfl rfl)) ?_
                      refine ARL.q0 (v := (.int .i64 x14_l0)) rfl rfl (Light.quiet (opMove rfl rfl)) ?_
                      refine ARL.q0 (v := v11) rfl rfl (Light.quiet (opMove rfl rfl)) ?_
                      refine ARL.q0 (v := (.ptr b5 1)) rfl rfl (Light.quiet (opFieldAddr rfl fieldA_54_1 rfl rfl)) ?_
                      refine ARL.q (v := (.int .i64 a17.a)) rfl rfl (hS.aliveC (k := 0) rfl) (Light.quiet (kAt hS (j := 0) rfl rfl aggA_3 rfl rfl)) ?_
                      obtain ⟨a76, ha76, hF⟩ := bindE hF
                      refine ARL.q0 (v := (ptrTo v11 a17.a.toNat 1)) rfl rfl (Light.quiet (kIxOx hS (j := 1) rfl ha76 rfl rfl rfl elemA_80 sizeA_9)) ?_
                      refine ARL.q (v := (.str a76)) rfl rfl (hS.aliveR (k := 1) rfl) (Light.quiet (kLd (f := AV.str) hS (j := 1) rfl ha76 rfl aggA_9 rfl (fun _ => rfl))) ?_
                      obtain ⟨a78, ha78, hF⟩ := bindE hF
                      refine ARL.q0 (v := (.str a78)) rfl rfl (Light.quiet (opCat ha78 rfl rfl rfl)) ?_
                      obtain ⟨a79, ha79, hF⟩ := bindE hF
                      refine ARL.q0 (v := (.str a79)) rfl rfl (Light.quiet (opCat ha79 rfl rfl rfl)) ?_
                      refine ARL.q0 (v := v11) rfl rfl (Light.quiet (opMove rfl rfl)) ?_
                      refine ARL.q0 (v := (.ptr b5 2)) rfl rfl (Light.quiet (opFieldAddr rfl fieldA_54_2 rfl rfl)) ?_
                      refine ARL.q (v := (.int .i64 a17.b)) rfl rfl (hS.aliveC (k := 0) rfl) (Light.quiet (kAt hS (j := 0) rfl rfl aggA_3 rfl rfl)) ?_
                      obtain ⟨a83, ha83, hF⟩ := bindE hF
                      refine ARL.q0 (v := (ptrTo v11 a17.b.toNat 1)) rfl rfl (Light.quiet (kIxOx hS (j := 1) rfl ha83 rfl rfl rfl elemA_80 sizeA_9)) ?_
                      refine ARL.q (v := (.str a83)) rfl rfl (hS.aliveR (k := 1) rfl) (Light.quiet (kLd (f := AV.str) hS (j := 1) rfl ha83 rfl aggA_9 rfl (fun _ => rfl))) ?_
                      obtain ⟨a85, ha85, hF⟩ := bindE hF
                      refine ARL.q0 (v := (.str a85)) rfl rfl (Light.quiet (opCat ha85 rfl rfl rfl)) ?_
                      obtain ⟨a86, ha86, hF⟩ := bindE hF
                      refine ARL.q0 (v := (.str a86)) rfl rfl (Light.quiet (opCat ha86 rfl rfl rfl)) ?_
                      obtain ⟨m87, hm87, hF⟩ := bindE hF
                      refine ARL.q0 (v := (ptrTo v11 m87 1)) rfl rfl (Light.quiet (kIxO hS (j := 1) rfl hm87 rfl rfl rfl elemA_80 sizeA_9)) ?_
                      refine ARL.n rfl rfl rfl rfl (hSt (f := AV.str) (a := a86) hS (j := 1) rfl hm87 rfl sizeA_9 rfl rfl ⟨rfl, rfl, rfl⟩ ?_); rintro G30 hS
                      refine ARL.done ?_
                      refine QBlock.nrm ?_
                      refine QBlock.nrm ?_
                      refine QThen.nrm ?_
                      exact ⟨(y6.set m87 a86), ⟨rfl, rfl, rfl, rfl, rfl, trivial⟩, (hS.pick [1] rfl rfl), hF⟩
                    · skip
                      refine AWP.skip ?_
                      refine QBlock.nrm ?_
                      refine QBlock.nrm ?_
                      refine QThen.nrm ?_
                      exact ⟨y6, ⟨rfl, rfl, rfl, rfl, rfl, trivial⟩, (hS.pick [1] rfl rfl), hF⟩
      · skip
        refine AWP.exit ?_
        refine QThen.ext ?_
        refine QThen.ext ?_
        refine QBlock.hit ?_
        obtain rfl := (hx8 _ (someE hF).symm)
        have hF := hR11
        refine QThen.nrm ?_
        exact ⟨y6, ⟨rfl, rfl, trivial⟩, (hS.pick [0] rfl rfl), hF⟩

set_option maxRecDepth 10000 in
theorem laws_FnExactRePrint_ok {K : Nat} {p0 : (List TNode)} {r : Bool} (hF : laws_FnExactRePrint K p0 = some r) : PC Try.prog 4 [(.list 3 (List.map TNode.av p0))] fun v => v = (.bool r) := by
  refine PC.enter Try.func4 rfl Try.ntmps4 (by simp) ?_
  have hS := Sep.void; unfold laws_FnExactRePrint at hF
  refine AWP.seqR rfl ?_
  refine ASL.q (v := (.bool false)) rfl rfl (Light.quiet (opAssign rfl rfl)) ?_
  refine ASL.done ?_
  refine AWP.seqR rfl ?_
  refine ASL.q (v := (.int .i64 1048576)) rfl rfl (Light.quiet (opAssign rfl rfl)) ?_
  refine ASL.done ?_
  refine AWP.seqR rfl ?_
  refine ASL.q (v := (.list 3 (List.map TNode.av p0))) rfl rfl (Light.quiet (opMove rfl rfl)) ?_
  refine ASL.q (v := (.int .i64 1048576)) rfl rfl (Light.quiet (opMove rfl rfl)) ?_
  refine ASL.q (v := (.int .i64 (laws_szNodeS p0 1048576))) rfl rfl ((qCall rfl rfl call_15 (laws_szNodeS_ok p0 1048576) rfl)) ?_
  refine ASL.q (v := (.int .i64 (laws_szNodeS p0 1048576))) rfl rfl (Light.quiet (opAssign rfl rfl)) ?_
  refine ASL.done ?_
  refine AWP.seq ?_
  refine AWP.seqR rfl ?_
  refine ASL.q (v := (.int .i64 (laws_szNodeS p0 1048576))) rfl rfl (Light.quiet (opMove rfl rfl)) ?_
  refine ASL.q (v := (.bool (decide (((laws_szNodeS p0 1048576)) < 0)))) rfl rfl (Light.quiet (opInt rfl rfl rfl rfl)) ?_
  refine ASL.done ?_
  refine AWP.ifP hF rfl (fun hc1 hF => ?_) (fun hc1 hF => ?_)
  · skip
    refine AWP.seqR rfl ?_
    refine ASL.q (v := (.bool true)) rfl rfl (Light.quiet (opAssign rfl rfl)) ?_
    refine ASL.done ?_
    refine AWP.ret ?_
    refine QThen.rt ?_
    obtain rfl := someE hF
    exact QRet.sole (v := (.bool true)) ⟨rfl, trivial⟩ rfl
  · skip
    refine AWP.skip ?_
    refine QThen.nrm ?_
    refine AWP.seqR rfl ?_
    refine ASL.q (v := (.list 3 (List.map TNode.av p0))) rfl rfl (Light.quiet (opMove rfl rfl)) ?_
    obtain ⟨a13, ha13, hF⟩ := bindE hF
    refine ASL.q (v := (.list 3 (List.map TNode.av a13))) rfl rfl ((qCall rfl rfl call_17 (PO.list (laws_toNodeS_ok ha13)) rfl)) ?_
    obtain ⟨a14, ha14, hF⟩ := bindE hF
    refine ASL.q (v := (.str a14)) rfl rfl ((qCall rfl rfl call_20 (spec_RePrint_ok ha14) rfl)) ?_
    refine ASL.q (v := (.str a14)) rfl rfl (Light.quiet (opAssign rfl rfl)) ?_
    refine ASL.done ?_
    refine AWP.seqR rfl ?_
    refine ASL.q (v := (.list 3 (List.map TNode.av p0))) rfl rfl (Light.quiet (opMove rfl rfl)) ?_
    obtain ⟨a16, ha16, hF⟩ := bindE hF
    refine ASL.q (v := (.list 3 (List.map TNode.av a16))) rfl rfl ((qCall rfl rfl call_17 (PO.list (laws_toNodeS_ok ha16)) rfl)) ?_
    refine ASL.q (v := (.list 3 (List.map TNode.av a16))) rfl rfl (Light.quiet (opAssign rfl rfl)) ?_
    refine ASL.done ?_
    refine AWP.seqR rfl ?_
    refine ASL.q (v := (.list 3 (List.map TNode.av a16))) rfl rfl (Light.quiet (opMove rfl rfl)) ?_
    obtain ⟨a18, ha18, hF⟩ := bindE hF
    refine ASL.q (v := (.str a18)) rfl rfl ((qCall rfl rfl call_21 (impl_RePrint_ok ha18) rfl)) ?_
    refine ASL.q (v := (.str a18)) rfl rfl (Light.quiet (opAssign rfl rfl)) ?_
    refine ASL.done ?_
    refine AWP.seq ?_
    refine AWP.seqR rfl ?_
    refine ASL.q (v := (.str a18)) rfl rfl (Light.quiet (opMove rfl rfl)) ?_
    refine ASL.q (v := (.str a14)) rfl rfl (Light.quiet (opMove rfl rfl)) ?_
    refine ASL.q (v := (.bool (!(a18.toList == a14.toList)))) rfl rfl (Light.quiet (opStr rfl rfl rfl rfl)) ?_
    refine ASL.done ?_
    refine AWP.ifB hF rfl (fun hc2 hF => ?_) (fun hc2 hF => ?_)
    · skip
      refine AWP.seqR rfl ?_
      refine ASL.q (v := (.bool false)) rfl rfl (Light.quiet (opAssign rfl rfl)) ?_
      refine ASL.done ?_
      refine AWP.ret ?_
      refine QThen.rt ?_
      obtain rfl := someE hF
      exact QRet.sole (v := (.bool false)) ⟨rfl, trivial⟩ rfl
    · skip
      refine AWP.skip ?_
      refine QThen.nrm ?_
      refine AWP.seq ?_
      refine AWP.seqR rfl ?_
      refine ASL.q (v := (.list 3 (List.map TNode.av a16))) rfl rfl (Light.quiet (opMove rfl rfl)) ?_
      refine ASL.q (v := (.list 3 (List.map TNode.av p0))) rfl rfl (Light.quiet (opMove rfl rfl)) ?_
      obtain ⟨a24, ha24, hF⟩ := bindE hF
      refine ASL.q (v := (.list 3 (List.map TNode.av a24))) rfl rfl ((qCall rfl rfl call_17 (PO.list (laws_toNodeS_ok ha24)) rfl)) ?_
      obtain ⟨a25, ha25, hF⟩ := bindE hF
      refine ASL.q (v := (.bool a25)) rfl rfl ((qCall rfl rfl call_19 (laws_eqNodeS_ok ha25) rfl)) ?_
      refine ASL.q (v := (.bool (!a25))) rfl rfl (Light.quiet (opNot rfl rfl)) ?_
      refine ASL.done ?_
      refine AWP.ifB hF rfl (fun hc3 hF => ?_) (fun hc3 hF => ?_)
      · skip
        refine AWP.seqR rfl ?_
        refine ASL.q (v := (.bool false)) rfl rfl (Light.quiet (opAssign rfl rfl)) ?_
        refine ASL.done ?_
        refine AWP.ret ?_
        refine QThen.rt ?_
        obtain rfl := someE hF
        exact QRet.sole (v := (.bool false)) ⟨rfl, trivial⟩ rfl
      · skip
        refine AWP.skip ?_
        refine QThen.nrm ?_
        refine AWP.seqR rfl ?_
        refine ASL.q (v := (.bool true)) rfl rfl (Light.quiet (opAssign rfl rfl)) ?_
        refine ASL.done ?_
        refine AWP.ret ?_
        obtain rfl := someE hF
        exact QRet.sole (v := (.bool true)) ⟨rfl, trivial⟩ rfl

end Go.Proofs.Ytpikdepigcmfnaa
