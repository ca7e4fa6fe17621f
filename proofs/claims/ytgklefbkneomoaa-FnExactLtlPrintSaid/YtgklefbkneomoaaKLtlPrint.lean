/- Each of these functions of the program comes to just what its plain function says: FnExactLtlPrint. -/
import Derived.Test.YtgklefbkneomoaaDLtlPrint
import Derived.Test.YtgklefbkneomoaaFa
import Derived.Test.YtgklefbkneomoaaKLtlTemporal
namespace Go.Proofs.Ytgklefbkneomoaa
open Go Go.RowKit E
set_option linter.unusedVariables false
set_option maxRecDepth 10000 in
theorem spec_l2Digit_ok (p0 : Int) : PC Try.prog 49 [(.int .i64 p0)] fun v => v = (.str (spec_l2Digit p0)) := by
  generalize hF : spec_l2Digit p0 = r
  refine PC.enter Try.func49 rfl Try.ntmps49 (by simp) ?_
  have hS := Sep.void; unfold spec_l2Digit at hF
  refine AWP.seqR rfl ?_
  refine ASL.q (v := (.str { data := #[] })) rfl rfl (Light.quiet (opAssign rfl rfl)) ?_
  refine ASL.done ?_
  refine AWP.seqR rfl ?_
  refine ASL.q (v := (.int .i64 p0)) rfl rfl (Light.quiet (opMove rfl rfl)) ?_
  refine ASL.q (v := (.int .i64 (W (48 + p0)))) rfl rfl (Light.quiet (opInt rfl rfl rfl rfl)) ?_
  refine ASL.q (v := (.int .u8 (IntKind.u8.wrap ((W (48 + p0)))))) rfl rfl (Light.quiet (opConv rfl rfl und_3 und_5 rfl)) ?_
  refine ASL.q (v := (.list 1 (List.map (AV.int .u8) [(IntKind.u8.wrap ((W (48 + p0))))]))) rfl rfl ((qLit (xs := [(.int .u8 (IntKind.u8.wrap ((W (48 + p0)))))]) rfl elemA_70 sizeA_5 zeroA_5 rfl rfl rfl rfl (by simp [cells]) (nlt rfl))) ?_
  refine ASL.q (v := (.str (bstr ([(IntKind.u8.wrap ((W (48 + p0))))])))) rfl rfl (Light.quiet (opBstr rfl elemA_70 und_5 und_9 rfl)) ?_
  refine ASL.q (v := (.str (bstr ([(IntKind.u8.wrap ((W (48 + p0))))])))) rfl rfl (Light.quiet (opAssign rfl rfl)) ?_
  refine ASL.done ?_
  refine AWP.ret ?_
  obtain rfl := hF
  exact QRet.sole (v := (.str (bstr ([(IntKind.u8.wrap ((W (48 + p0))))])))) ⟨rfl, trivial⟩ rfl

set_option maxRecDepth 10000 in
theorem spec_l8Sign_ok (p0 : Int) : PC Try.prog 50 [(.int .i64 p0)] fun v => v = (.str (spec_l8Sign p0)) := by
  generalize hF : spec_l8Sign p0 = r
  refine PC.enter Try.func50 rfl Try.ntmps50 (by simp) ?_
  have hS := Sep.void; unfold spec_l8Sign at hF
  refine AWP.seqR rfl ?_
  refine ASL.q (v := (.str { data := #[] })) rfl rfl (Light.quiet (opAssign rfl rfl)) ?_
  refine ASL.done ?_
  refine AWP.seq ?_
  refine AWP.seqR rfl ?_
  refine ASL.q (v := (.int .i64 p0)) rfl rfl (Light.quiet (opMove rfl rfl)) ?_
  refine ASL.done ?_
  refine AWP.block ?_
  refine AWP.seqR rfl ?_
  refine ASL.q (v := (.bool (decide (p0 = 4)))) rfl rfl (Light.quiet (opInt rfl rfl rfl rfl)) ?_
  refine ASL.q (v := (.bool (decide (p0 = 4)))) rfl rfl (Light.quiet (opAssign rfl rfl)) ?_
  refine ASL.done ?_
  refine AWP.ifP hF rfl (fun hc1 hF => ?_) (fun hc1 hF => ?_)
  · skip
    refine AWP.seqR rfl ?_
    refine ASL.q (v := (.str { data := #[33] })) rfl rfl (Light.quiet (opAssign rfl rfl)) ?_
    refine ASL.done ?_
    refine AWP.ret ?_
    refine QBlock.ret ?_
    refine QThen.rt ?_
    obtain rfl := hF
    exact QRet.sole (v := (.str { data := #[33] })) ⟨rfl, trivial⟩ rfl
  · skip
    refine AWP.seqR rfl ?_
    refine ASL.q (v := (.bool (decide (p0 = 5)))) rfl rfl (Light.quiet (opInt rfl rfl rfl rfl)) ?_
    refine ASL.q (v := (.bool (decide (p0 = 5)))) rfl rfl (Light.quiet (opAssign rfl rfl)) ?_
    refine ASL.done ?_
    refine AWP.ifP hF rfl (fun hc2 hF => ?_) (fun hc2 hF => ?_)
    · skip
      refine AWP.seqR rfl ?_
      refine ASL.q (v := (.str { data := #[38] })) rfl rfl (Light.quiet (opAssign rfl rfl)) ?_
      refine ASL.done ?_
      refine AWP.ret ?_
      refine QBlock.ret ?_
      refine QThen.rt ?_
      obtain rfl := hF
      exact QRet.sole (v := (.str { data := #[38] })) ⟨rfl, trivial⟩ rfl
    · skip
      refine AWP.seqR rfl ?_
      refine ASL.q (v := (.bool (decide (p0 = 6)))) rfl rfl (Light.quiet (opInt rfl rfl rfl rfl)) ?_
      refine ASL.q (v := (.bool (decide (p0 = 6)))) rfl rfl (Light.quiet (opAssign rfl rfl)) ?_
      refine ASL.done ?_
      refine AWP.ifP hF rfl (fun hc3 hF => ?_) (fun hc3 hF => ?_)
      · skip
        refine AWP.seqR rfl ?_
        refine ASL.q (v := (.str { data := #[124] })) rfl rfl (Light.quiet (opAssign rfl rfl)) ?_
        refine ASL.done ?_
        refine AWP.ret ?_
        refine QBlock.ret ?_
        refine QThen.rt ?_
        obtain rfl := hF
        exact QRet.sole (v := (.str { data := #[124] })) ⟨rfl, trivial⟩ rfl
      · skip
        refine AWP.seqR rfl ?_
        refine ASL.q (v := (.bool (decide (p0 = 7)))) rfl rfl (Light.quiet (opInt rfl rfl rfl rfl)) ?_
        refine ASL.q (v := (.bool (decide (p0 = 7)))) rfl rfl (Light.quiet (opAssign rfl rfl)) ?_
        refine ASL.done ?_
        refine AWP.ifP hF rfl (fun hc4 hF => ?_) (fun hc4 hF => ?_)
        · skip
          refine AWP.seqR rfl ?_
          refine ASL.q (v := (.str { data := #[88] })) rfl rfl (Light.quiet (opAssign rfl rfl)) ?_
          refine ASL.done ?_
          refine AWP.ret ?_
          refine QBlock.ret ?_
          refine QThen.rt ?_
          obtain rfl := hF
          exact QRet.sole (v := (.str { data := #[88] })) ⟨rfl, trivial⟩ rfl
        · skip
          refine AWP.seqR rfl ?_
          refine ASL.q (v := (.bool (decide (p0 = 8)))) rfl rfl (Light.quiet (opInt rfl rfl rfl rfl)) ?_
          refine ASL.q (v := (.bool (decide (p0 = 8)))) rfl rfl (Light.quiet (opAssign rfl rfl)) ?_
          refine ASL.done ?_
          refine AWP.ifP hF rfl (fun hc5 hF => ?_) (fun hc5 hF => ?_)
          · skip
            refine AWP.seqR rfl ?_
            refine ASL.q (v := (.str { data := #[85] })) rfl rfl (Light.quiet (opAssign rfl rfl)) ?_
            refine ASL.done ?_
            refine AWP.ret ?_
            refine QBlock.ret ?_
            refine QThen.rt ?_
            obtain rfl := hF
            exact QRet.sole (v := (.str { data := #[85] })) ⟨rfl, trivial⟩ rfl
          · skip
            refine AWP.seqR rfl ?_
            refine ASL.q (v := (.bool (decide (p0 = 9)))) rfl rfl (Light.quiet (opInt rfl rfl rfl rfl)) ?_
            refine ASL.q (v := (.bool (decide (p0 = 9)))) rfl rfl (Light.quiet (opAssign rfl rfl)) ?_
            refine ASL.done ?_
            refine AWP.ifP hF rfl (fun hc6 hF => ?_) (fun hc6 hF => ?_)
            · skip
              refine AWP.seqR rfl ?_
              refine ASL.q (v := (.str { data := #[82] })) rfl rfl (Light.quiet (opAssign rfl rfl)) ?_
              refine ASL.done ?_
              refine AWP.ret ?_
              refine QBlock.ret ?_
              refine QThen.rt ?_
              obtain rfl := hF
              exact QRet.sole (v := (.str { data := #[82] })) ⟨rfl, trivial⟩ rfl
            · skip
              refine AWP.seqR rfl ?_
              refine ASL.q (v := (.bool (decide (p0 = 10)))) rfl rfl (Light.quiet (opInt rfl rfl rfl rfl)) ?_
              refine ASL.q (v := (.bool (decide (p0 = 10)))) rfl rfl (Light.quiet (opAssign rfl rfl)) ?_
              refine ASL.done ?_
              refine AWP.ifP hF rfl (fun hc7 hF => ?_) (fun hc7 hF => ?_)
              · skip
                refine AWP.seqR rfl ?_
                refine ASL.q (v := (.str { data := #[70] })) rfl rfl (Light.quiet (opAssign rfl rfl)) ?_
                refine ASL.done ?_
                refine AWP.ret ?_
                refine QBlock.ret ?_
                refine QThen.rt ?_
                obtain rfl := hF
                exact QRet.sole (v := (.str { data := #[70] })) ⟨rfl, trivial⟩ rfl
              · skip
                refine AWP.seqR rfl ?_
                refine ASL.q (v := (.bool (decide (p0 = 11)))) rfl rfl (Light.quiet (opInt rfl rfl rfl rfl)) ?_
                refine ASL.q (v := (.bool (decide (p0 = 11)))) rfl rfl (Light.quiet (opAssign rfl rfl)) ?_
                refine ASL.done ?_
                refine AWP.ifP hF rfl (fun hc8 hF => ?_) (fun hc8 hF => ?_)
                · skip
                  refine AWP.seqR rfl ?_
                  refine ASL.q (v := (.str { data := #[71] })) rfl rfl (Light.quiet (opAssign rfl rfl)) ?_
                  refine ASL.done ?_
                  refine AWP.ret ?_
                  refine QBlock.ret ?_
                  refine QThen.rt ?_
                  obtain rfl := hF
                  exact QRet.sole (v := (.str { data := #[71] })) ⟨rfl, trivial⟩ rfl
                · skip
                  refine AWP.skip ?_
                  refine QBlock.nrm ?_
                  refine QThen.nrm ?_
                  refine AWP.seqR rfl ?_
                  refine ASL.q (v := (.str { data := #[] })) rfl rfl (Light.quiet (opAssign rfl rfl)) ?_
                  refine ASL.done ?_
                  refine AWP.ret ?_
                  obtain rfl := hF
                  exact QRet.sole (v := (.str { data := #[] })) ⟨rfl, trivial⟩ rfl

set_option maxRecDepth 10000 in
theorem spec_l8Print.body_ok {p0 : (List TNode)} {p1 : Int} {r : ByteArray} {rec_spec_l8Print : (List TNode) → Int → Option ByteArray} (ih_spec_l8Print : ∀ {p0 : (List TNode)} {p1 : Int} {r : ByteArray} , rec_spec_l8Print p0 p1 = some r → PC Try.prog 32 [(.list 3 (List.map TNode.av p0)), (.int .i64 p1)] fun v => v = (.str r)) (hF : spec_l8Print.body rec_spec_l8Print p0 p1 = some r) : PC Try.prog 32 [(.list 3 (List.map TNode.av p0)), (.int .i64 p1)] fun v => v = (.str r) := by
  refine PC.enter Try.func32 rfl Try.ntmps32 (by simp) ?_
  have hS := Sep.void; unfold spec_l8Print.body at hF
  refine AWP.seqR rfl ?_
  refine ASL.q (v := (.str { data := #[] })) rfl rfl (Light.quiet (opAssign rfl rfl)) ?_
  refine ASL.done ?_
  refine AWP.seqR rfl ?_
  refine ASL.q (v := (.list 3 (List.map TNode.av p0))) rfl rfl (Light.quiet (opMove rfl rfl)) ?_
  refine ASL.q (v := (.int .i64 p1)) rfl rfl (Light.quiet (opMove rfl rfl)) ?_
  obtain ⟨a8, ha8, hF⟩ := bindE hF
  refine ASL.q (v := (.rptr [(.int .i64 a8.kind), (.int .i64 a8.a), (.int .i64 a8.b)])) rfl rfl (Light.quiet (kIx (f := TNode.av) ha8 rfl rfl rfl elemA_26 sizeA_43 rfl)) ?_
  refine ASL.q (v := (TNode.av a8)) rfl rfl (Light.quiet (opLoadRA rfl aggA_43 sizeA_43 rfl (nlt rfl) rfl)) ?_
  refine ASL.x rfl rfl (hNewZ hS [(.int .i64 0), (.int .i64 0), (.int .i64 0)] rfl zeroA_43 ⟨.inl rfl, .inl rfl, .inl rfl, trivial⟩ ?_); rintro b5 G1 hK hS
  refine ASL.n rfl rfl (hPutA hS (j := 0) rfl rfl sizeA_43 rfl rfl rfl rfl rfl (nlt rfl) ?_); rintro G3 hS
  refine ASL.done ?_
  refine AWP.seq ?_
  refine AWP.seqR rfl ?_
  refine ASL.q (v := (.ptr b5 0)) rfl rfl (Light.quiet (opFieldAddr rfl fieldA_43_0 rfl rfl)) ?_
  refine ASL.q (v := (.int .i64 a8.kind)) rfl rfl (Light.quiet (kAt hS (j := 0) rfl rfl aggA_3 rfl rfl)) ?_
  refine ASL.done ?_
  refine AWP.block ?_
  refine AWP.seqR rfl ?_
  refine ASL.q (v := (.bool (decide (a8.kind = 1)))) rfl rfl (Light.quiet (opInt rfl rfl rfl rfl)) ?_
  refine ASL.q (v := (.bool (decide (a8.kind = 1)))) rfl rfl (Light.quiet (opAssign rfl rfl)) ?_
  refine ASL.done ?_
  refine AWP.ifP hF rfl (fun hc4 hF => ?_) (fun hc4 hF => ?_)
  · skip
    refine AWP.seqR rfl ?_
    refine ASL.q (v := (.str { data := #[116] })) rfl rfl (Light.quiet (opAssign rfl rfl)) ?_
    refine ASL.done ?_
    refine AWP.ret ?_
    refine QBlock.ret ?_
    refine QThen.rt ?_
    obtain rfl := someE hF
    exact QRet.sole (v := (.str { data := #[116] })) ⟨rfl, trivial⟩ rfl
  · skip
    refine AWP.seqR rfl ?_
    refine ASL.q (v := (.bool (decide (a8.kind = 2)))) rfl rfl (Light.quiet (opInt rfl rfl rfl rfl)) ?_
    refine ASL.q (v := (.bool (decide (a8.kind = 2)))) rfl rfl (Light.quiet (opAssign rfl rfl)) ?_
    refine ASL.done ?_
    refine AWP.ifP hF rfl (fun hc5 hF => ?_) (fun hc5 hF => ?_)
    · skip
      refine AWP.seqR rfl ?_
      refine ASL.q (v := (.str { data := #[102] })) rfl rfl (Light.quiet (opAssign rfl rfl)) ?_
      refine ASL.done ?_
      refine AWP.ret ?_
      refine QBlock.ret ?_
      refine QThen.rt ?_
      obtain rfl := someE hF
      exact QRet.sole (v := (.str { data := #[102] })) ⟨rfl, trivial⟩ rfl
    · skip
      refine AWP.seqR rfl ?_
      refine ASL.q (v := (.bool (decide (a8.kind = 3)))) rfl rfl (Light.quiet (opInt rfl rfl rfl rfl)) ?_
      refine ASL.q (v := (.bool (decide (a8.kind = 3)))) rfl rfl (Light.quiet (opAssign rfl rfl)) ?_
      refine ASL.done ?_
      refine AWP.ifP hF rfl (fun hc6 hF => ?_) (fun hc6 hF => ?_)
      · skip
        refine AWP.seqR rfl ?_
        refine ASL.q (v := (.ptr b5 1)) rfl rfl (Light.quiet (opFieldAddr rfl fieldA_43_1 rfl rfl)) ?_
        refine ASL.q (v := (.int .i64 a8.a)) rfl rfl (Light.quiet (kAt hS (j := 0) rfl rfl aggA_3 rfl rfl)) ?_
        refine ASL.q (v := (.str (spec_l2Digit a8.a))) rfl rfl ((qCall rfl rfl call_49 (spec_l2Digit_ok a8.a) rfl)) ?_
        refine ASL.q (v := (.str (spec_l2Digit a8.a))) rfl rfl (Light.quiet (opAssign rfl rfl)) ?_
        refine ASL.done ?_
        refine AWP.ret ?_
        refine QBlock.ret ?_
        refine QThen.rt ?_
        obtain rfl := someE hF
        exact QRet.sole (v := (.str (spec_l2Digit a8.a))) ⟨rfl, trivial⟩ rfl
      · skip
        refine AWP.skip ?_
        refine QBlock.nrm ?_
        refine QThen.nrm ?_
        refine AWP.seq ?_
        refine AWP.seqR rfl ?_
        refine ASL.q (v := (.ptr b5 0)) rfl rfl (Light.quiet (opFieldAddr rfl fieldA_43_0 rfl rfl)) ?_
        refine ASL.q (v := (.int .i64 a8.kind)) rfl rfl (Light.quiet (kAt hS (j := 0) rfl rfl aggA_3 rfl rfl)) ?_
        refine ASL.q (v := (.int .i64 (spec_l8Parts a8.kind))) rfl rfl ((qCall rfl rfl call_35 (spec_l8Parts_ok a8.kind) rfl)) ?_
        refine ASL.q (v := (.bool (decide (((spec_l8Parts a8.kind)) = 1)))) rfl rfl (Light.quiet (opInt rfl rfl rfl rfl)) ?_
        refine ASL.done ?_
        refine AWP.ifP hF rfl (fun hc7 hF => ?_) (fun hc7 hF => ?_)
        · skip
          refine AWP.seqD [(0, false), (1, false), (2, false), (3, false), (4, false), (5, false), (6, false), (7, false), (8, false)] mixed (by kernel_rfl) rfl ?_
          refine ARL.q0 (v := (.ptr b5 0)) rfl rfl (Light.quiet (opFieldAddr rfl fieldA_43_0 rfl rfl)) ?_
          refine ARL.q (v := (.int .i64 a8.kind)) rfl rfl (hS.aliveC (k := 0) rfl) (Light.quiet (kAt hS (j := 0) rfl rfl aggA_3 rfl rfl)) ?_
          refine ARL.q0 (v := (.str (spec_l8Sign a8.kind))) rfl rfl ((qCall rfl rfl call_50 (spec_l8Sign_ok a8.kind) rfl)) ?_
          refine ARL.q0 (v := (.list 3 (List.map TNode.av p0))) rfl rfl (Light.quiet (opMove rfl rfl)) ?_
          refine ARL.q0 (v := (.ptr b5 1)) rfl rfl (Light.quiet (opFieldAddr rfl fieldA_43_1 rfl rfl)) ?_
          refine ARL.q (v := (.int .i64 a8.a)) rfl rfl (hS.aliveC (k := 0) rfl) (Light.quiet (kAt hS (j := 0) rfl rfl aggA_3 rfl rfl)) ?_
          obtain ⟨a31, ha31, hF⟩ := bindE hF
          refine ARL.q0 (v := (.str a31)) rfl rfl ((qCall rfl rfl call_32 (ih_spec_l8Print ha31) rfl)) ?_
          obtain ⟨a32, ha32, hF⟩ := bindE hF
          refine ARL.q0 (v := (.str a32)) rfl rfl (Light.quiet (opCat ha32 rfl rfl rfl)) ?_
          refine ARL.q0 (v := (.str a32)) rfl rfl (Light.quiet (opAssign rfl rfl)) ?_
          refine ARL.done ?_
          refine AWP.ret ?_
          refine QThen.rt ?_
          obtain rfl := someE hF
          exact QRet.sole (v := (.str a32)) ⟨rfl, trivial⟩ rfl
        · skip
          refine AWP.skip ?_
          refine QThen.nrm ?_
          refine AWP.seqD [(0, false), (1, false), (2, false), (3, false), (4, false), (5, false), (6, false), (7, false), (8, false), (9, false), (10, false), (11, false), (12, false), (13, false), (14, false), (15, false)] mixed (by kernel_rfl) rfl ?_
          refine ARL.q0 (v := (.list 3 (List.map TNode.av p0))) rfl rfl (Light.quiet (opMove rfl rfl)) ?_
          refine ARL.q0 (v := (.ptr b5 1)) rfl rfl (Light.quiet (opFieldAddr rfl fieldA_43_1 rfl rfl)) ?_
          refine ARL.q (v := (.int .i64 a8.a)) rfl rfl (hS.aliveC (k := 0) rfl) (Light.quiet (kAt hS (j := 0) rfl rfl aggA_3 rfl rfl)) ?_
          obtain ⟨a36, ha36, hF⟩ := bindE hF
          refine ARL.q0 (v := (.str a36)) rfl rfl ((qCall rfl rfl call_32 (ih_spec_l8Print ha36) rfl)) ?_
          obtain ⟨a37, ha37, hF⟩ := bindE hF
          refine ARL.q0 (v := (.str a37)) rfl rfl (Light.quiet (opCat ha37 rfl rfl rfl)) ?_
          refine ARL.q0 (v := (.ptr b5 0)) rfl rfl (Light.quiet (opFieldAddr rfl fieldA_43_0 rfl rfl)) ?_
          refine ARL.q (v := (.int .i64 a8.kind)) rfl rfl (hS.aliveC (k := 0) rfl) (Light.quiet (kAt hS (j := 0) rfl rfl aggA_3 rfl rfl)) ?_
          refine ARL.q0 (v := (.str (spec_l8Sign a8.kind))) rfl rfl ((qCall rfl rfl call_50 (spec_l8Sign_ok a8.kind) rfl)) ?_
          obtain ⟨a41, ha41, hF⟩ := bindE hF
          refine ARL.q0 (v := (.str a41)) rfl rfl (Light.quiet (opCat ha41 rfl rfl rfl)) ?_
          refine ARL.q0 (v := (.list 3 (List.map TNode.av p0))) rfl rfl (Light.quiet (opMove rfl rfl)) ?_
          refine ARL.q0 (v := (.ptr b5 2)) rfl rfl (Light.quiet (opFieldAddr rfl fieldA_43_2 rfl rfl)) ?_
          refine ARL.q (v := (.int .i64 a8.b)) rfl rfl (hS.aliveC (k := 0) rfl) (Light.quiet (kAt hS (j := 0) rfl rfl aggA_3 rfl rfl)) ?_
          obtain ⟨a45, ha45, hF⟩ := bindE hF
          refine ARL.q0 (v := (.str a45)) rfl rfl ((qCall rfl rfl call_32 (ih_spec_l8Print ha45) rfl)) ?_
          obtain ⟨a46, ha46, hF⟩ := bindE hF
          refine ARL.q0 (v := (.str a46)) rfl rfl (Light.quiet (opCat ha46 rfl rfl rfl)) ?_
          obtain ⟨a47, ha47, hF⟩ := bindE hF
          refine ARL.q0 (v := (.str a47)) rfl rfl (Light.quiet (opCat ha47 rfl rfl rfl)) ?_
          refine ARL.q0 (v := (.str a47)) rfl rfl (Light.quiet (opAssign rfl rfl)) ?_
          refine ARL.done ?_
          refine AWP.ret ?_
          obtain rfl := someE hF
          exact QRet.sole (v := (.str a47)) ⟨rfl, trivial⟩ rfl
theorem spec_l8Print_ok {K : Nat} : ∀ {p0 : (List TNode)} {p1 : Int} {r : ByteArray} , spec_l8Print K p0 p1 = some r → PC Try.prog 32 [(.list 3 (List.map TNode.av p0)), (.int .i64 p1)] fun v => v = (.str r) := by
  induction K with
  | zero => intros; rename_i h; cases h
  | succ K ih => intros; rename_i h; exact spec_l8Print.body_ok ih h

set_option maxRecDepth 10000 in
theorem spec_LtlPrint_ok {K : Nat} {p0 : (List TNode)} {r : ByteArray} (hF : spec_LtlPrint K p0 = some r) : PC Try.prog 17 [(.list 3 (List.map TNode.av p0))] fun v => v = (.str r) := by
  refine PC.enter Try.func17 rfl Try.ntmps17 (by simp) ?_
  have hS := Sep.void; unfold spec_LtlPrint at hF
  refine AWP.seqR rfl ?_
  refine ASL.q (v := (.str { data := #[] })) rfl rfl (Light.quiet (opAssign rfl rfl)) ?_
  refine ASL.done ?_
  refine AWP.seq ?_
  refine AWP.seqR rfl ?_
  refine ASL.q (v := (.list 3 (List.map TNode.av p0))) rfl rfl (Light.quiet (opMove rfl rfl)) ?_
  obtain ⟨a4, ha4, hF⟩ := bindE hF
  refine ASL.q (v := (.bool a4)) rfl rfl ((qCall rfl rfl call_26 (spec_LtlOk_ok ha4) rfl)) ?_
  refine ASL.q (v := (.bool (!a4))) rfl rfl (Light.quiet (opNot rfl rfl)) ?_
  refine ASL.done ?_
  refine AWP.ifB hF rfl (fun hc1 hF => ?_) (fun hc1 hF => ?_)
  · skip
    refine AWP.seqR rfl ?_
    refine ASL.q (v := (.str { data := #[] })) rfl rfl (Light.quiet (opAssign rfl rfl)) ?_
    refine ASL.done ?_
    refine AWP.ret ?_
    refine QThen.rt ?_
    obtain rfl := someE hF
    exact QRet.sole (v := (.str { data := #[] })) ⟨rfl, trivial⟩ rfl
  · skip
    refine AWP.skip ?_
    refine QThen.nrm ?_
    refine AWP.seqR rfl ?_
    refine ASL.q (v := (.list 3 (List.map TNode.av p0))) rfl rfl (Light.quiet (opMove rfl rfl)) ?_
    refine ASL.q (v := (.list 3 (List.map TNode.av p0))) rfl rfl (Light.quiet (opMove rfl rfl)) ?_
    refine ASL.q (v := (.int .i64 (p0.length : Int))) rfl rfl (Light.quiet (opLenMap (f := TNode.av) rfl rfl rfl lenT_26 rfl)) ?_
    refine ASL.q (v := (.int .i64 (W (((p0.length : Int)) - 1)))) rfl rfl (Light.quiet (opInt rfl rfl rfl rfl)) ?_
    obtain ⟨a10, ha10, hF⟩ := bindE hF
    refine ASL.q (v := (.str a10)) rfl rfl ((qCall rfl rfl call_32 (spec_l8Print_ok ha10) rfl)) ?_
    refine ASL.q (v := (.str a10)) rfl rfl (Light.quiet (opAssign rfl rfl)) ?_
    refine ASL.done ?_
    refine AWP.ret ?_
    obtain rfl := someE hF
    exact QRet.sole (v := (.str a10)) ⟨rfl, trivial⟩ rfl

set_option maxRecDepth 10000 in
theorem impl_signOf_ok {p0 : Int} {r : ByteArray} (hF : impl_signOf p0 = some r) : PC Try.prog 51 [(.int .i64 p0)] fun v => v = (.str r) := by
  refine PC.enter Try.func51 rfl Try.ntmps51 (by simp) ?_
  have hS := Sep.void; unfold impl_signOf at hF
  refine AWP.seqR rfl ?_
  refine ASL.q (v := (.str { data := #[] })) rfl rfl (Light.quiet (opAssign rfl rfl)) ?_
  refine ASL.done ?_
  refine AWP.seq ?_
  refine AWP.seqR rfl ?_
  refine ASL.q (v := (.int .i64 p0)) rfl rfl (Light.quiet (opMove rfl rfl)) ?_
  refine ASL.q (v := (.bool (impl_inRange p0 1 11))) rfl rfl ((qCall rfl rfl call_64 (impl_inRange_ok p0 1 11) rfl)) ?_
  refine ASL.q (v := (.bool (!(impl_inRange p0 1 11)))) rfl rfl (Light.quiet (opNot rfl rfl)) ?_
  refine ASL.done ?_
  refine AWP.ifB hF rfl (fun hc1 hF => ?_) (fun hc1 hF => ?_)
  · skip
    refine AWP.seqR rfl ?_
    refine ASL.q (v := (.str { data := #[] })) rfl rfl (Light.quiet (opAssign rfl rfl)) ?_
    refine ASL.done ?_
    refine AWP.ret ?_
    refine QThen.rt ?_
    obtain rfl := someE hF
    exact QRet.sole (v := (.str { data := #[] })) ⟨rfl, trivial⟩ rfl
  · skip
    refine AWP.skip ?_
    refine QThen.nrm ?_
    refine AWP.seqR rfl ?_
    refine ASL.q (v := (.agg (List.map AV.str [{ data := #[116] }, { data := #[102] }, { data := #[] }, { data := #[33] }, { data := #[38] }, { data := #[124] }, { data := #[88] }, { data := #[85] }, { data := #[82] }, { data := #[70] }, { data := #[71] }]))) rfl rfl (Light.quiet (opBuildArr (pl := [(0, 1), (1, 1), (2, 1), (3, 1), (4, 1), (5, 1), (6, 1), (7, 1), (8, 1), (9, 1), (10, 1)]) (z := (.agg #[(.string ⟨#[]⟩), (.string ⟨#[]⟩), (.string ⟨#[]⟩), (.string ⟨#[]⟩), (.string ⟨#[]⟩), (.string ⟨#[]⟩), (.string ⟨#[]⟩), (.string ⟨#[]⟩), (.string ⟨#[]⟩), (.string ⟨#[]⟩), (.string ⟨#[]⟩)])) rfl arrA_77 rfl zeroA_77 rfl rfl)) ?_
    refine ASL.q (v := (.int .i64 p0)) rfl rfl (Light.quiet (opMove rfl rfl)) ?_
    refine ASL.q (v := (.int .i64 (W (p0 - 1)))) rfl rfl (Light.quiet (opInt rfl rfl rfl rfl)) ?_
    obtain ⟨a9, ha9, hF⟩ := bindE hF
    refine ASL.q (v := (.str a9)) rfl rfl (Light.quiet (kIxA (f := AV.str) (xs := [{ data := #[116] }, { data := #[102] }, { data := #[] }, { data := #[33] }, { data := #[38] }, { data := #[124] }, { data := #[88] }, { data := #[85] }, { data := #[82] }, { data := #[70] }, { data := #[71] }]) ha9 rfl rfl arrA_77 aggA_9 rfl rfl)) ?_
    refine ASL.q (v := (.str a9)) rfl rfl (Light.quiet (opAssign rfl rfl)) ?_
    refine ASL.done ?_
    refine AWP.ret ?_
    obtain rfl := someE hF
    exact QRet.sole (v := (.str a9)) ⟨rfl, trivial⟩ rfl

set_option maxRecDepth 10000 in
theorem impl_digit_ok (p0 : Int) : PC Try.prog 52 [(.int .i64 p0)] fun v => v = (.str (impl_digit p0)) := by
  generalize hF : impl_digit p0 = r
  refine PC.enter Try.func52 rfl Try.ntmps52 (by simp) ?_
  have hS := Sep.void; unfold impl_digit at hF
  refine AWP.seqR rfl ?_
  refine ASL.q (v := (.str { data := #[] })) rfl rfl (Light.quiet (opAssign rfl rfl)) ?_
  refine ASL.done ?_
  refine AWP.seqR rfl ?_
  refine ASL.q (v := (.int .i64 p0)) rfl rfl (Light.quiet (opMove rfl rfl)) ?_
  refine ASL.q (v := (.int .i64 (W (48 + p0)))) rfl rfl (Light.quiet (opInt rfl rfl rfl rfl)) ?_
  refine ASL.q (v := (.int .u8 (IntKind.u8.wrap ((W (48 + p0)))))) rfl rfl (Light.quiet (opConv rfl rfl und_3 und_5 rfl)) ?_
  refine ASL.q (v := (.list 1 (List.map (AV.int .u8) [(IntKind.u8.wrap ((W (48 + p0))))]))) rfl rfl ((qLit (xs := [(.int .u8 (IntKind.u8.wrap ((W (48 + p0)))))]) rfl elemA_70 sizeA_5 zeroA_5 rfl rfl rfl rfl (by simp [cells]) (nlt rfl))) ?_
  refine ASL.q (v := (.str (bstr ([(IntKind.u8.wrap ((W (48 + p0))))])))) rfl rfl (Light.quiet (opBstr rfl elemA_70 und_5 und_9 rfl)) ?_
  refine ASL.q (v := (.str (bstr ([(IntKind.u8.wrap ((W (48 + p0))))])))) rfl rfl (Light.quiet (opAssign rfl rfl)) ?_
  refine ASL.done ?_
  refine AWP.ret ?_
  obtain rfl := hF
  exact QRet.sole (v := (.str (bstr ([(IntKind.u8.wrap ((W (48 + p0))))])))) ⟨rfl, trivial⟩ rfl

set_option maxRecDepth 10000 in
theorem impl_printed_ok {p0 : (List TNode)} {g1 : (TNode → Option Int)} {r : ByteArray} {k1 : Nat} (hcal1 : callable Try.prog k1 = true) (hg1 : ∀ q0 y, g1 q0 = some y → PC Try.prog k1 [(TNode.av q0)] fun v => v = (.int .i64 y)) (hF : impl_printed p0 g1 = some r) : PC Try.prog 33 [(.list 3 (List.map TNode.av p0)), (.fn (.func k1) [] [])] fun v => v = (.str r) := by
  refine PC.enter Try.func33 rfl Try.ntmps33 (by simp) ?_
  have hS := Sep.void; unfold impl_printed at hF
  refine AWP.seqR rfl ?_
  refine ASL.q (v := (.str { data := #[] })) rfl rfl (Light.quiet (opAssign rfl rfl)) ?_
  refine ASL.done ?_
  refine AWP.seqR rfl ?_
  refine ASL.q (v := (.list 3 (List.map TNode.av p0))) rfl rfl (Light.quiet (opMove rfl rfl)) ?_
  refine ASL.q (v := (.int .i64 (p0.length : Int))) rfl rfl (Light.quiet (opLenMap (f := TNode.av) rfl rfl rfl lenT_26 rfl)) ?_
  obtain ⟨z11, hz11, hF⟩ := bindE hF
  refine ASL.x rfl rfl (hMk (f := AV.str) hS hz11 (by decide) rfl elemA_67 sizeA_9 bytesA_9 zeroA_9 rfl rfl (by decide) rfl rfl ?_); rintro v11 G1 hK hS
  refine ASL.q (v := v11) rfl rfl (Light.quiet (opAssign rfl rfl)) ?_
  refine ASL.done ?_
  refine AWP.seqM (fun e H => ∃ y3 : (List ByteArray), E.Told e [(0, (.list 3 (List.map TNode.av p0))), (5, v11)] ∧ E.Sep H [.row 1 v11 (List.map AV.str y3)] ∧ impl_printed.k0 p0 y3 = some r) ?_ ?_
  · rintro e0 G4 ⟨y3, hT, hS, hF⟩; refine AWP.only _ hT ?_; unfold impl_printed.k0 at hF
    refine AWP.seqR rfl ?_
    refine ASL.q (v := v11) rfl rfl (Light.quiet (opMove rfl rfl)) ?_
    refine ASL.q (v := (.list 3 (List.map TNode.av p0))) rfl rfl (Light.quiet (opMove rfl rfl)) ?_
    refine ASL.q (v := (.int .i64 (p0.length : Int))) rfl rfl (Light.quiet (opLenMap (f := TNode.av) rfl rfl rfl lenT_26 rfl)) ?_
    refine ASL.q (v := (.int .i64 (W (((p0.length : Int)) - 1)))) rfl rfl (Light.quiet (opInt rfl rfl rfl rfl)) ?_
    obtain ⟨a75, ha75, hF⟩ := bindE hF
    refine ASL.q (v := (ptrTo v11 ((W (((p0.length : Int)) - 1))).toNat 1)) rfl rfl (Light.quiet (kIxOx hS (j := 0) rfl ha75 rfl rfl rfl elemA_67 sizeA_9)) ?_
    refine ASL.q (v := (.str a75)) rfl rfl (Light.quiet (kLd (f := AV.str) hS (j := 0) rfl ha75 rfl aggA_9 rfl (fun _ => rfl))) ?_
    refine ASL.q (v := (.str a75)) rfl rfl (Light.quiet (opAssign rfl rfl)) ?_
    refine ASL.done ?_
    refine AWP.ret ?_
    obtain rfl := someE hF
    exact QRet.sole (v := (.str a75)) ⟨rfl, trivial⟩ rfl
  · skip
    refine AWP.seqR rfl ?_
    refine ASL.q (v := (.list 3 (List.map TNode.av p0))) rfl rfl (Light.quiet (opMove rfl rfl)) ?_
    refine ASL.q (v := (.int .i64 (p0.length : Int))) rfl rfl (Light.quiet (opLenMap (f := TNode.av) rfl rfl rfl lenT_26 rfl)) ?_
    refine ASL.q (v := (.int .i64 0)) rfl rfl (Light.quiet (opMove rfl rfl)) ?_
    refine ASL.done ?_
    refine AWP.block ?_
    obtain ⟨o9, hL8, hR10⟩ := bindE hF
    refine AWP.loopF (ω := Unit) hL8 (fun s w => [(0, (.list 3 (List.map TNode.av p0))), (1, (.fn (.func k1) [] [])), (5, v11), (12, (.list 3 (List.map TNode.av p0))), (13, (.int .i64 (p0.length : Int))), (14, (.int .i64 s.2))]) (fun s w => [.row 1 v11 (List.map AV.str s.1)]) () ⟨rfl, rfl, rfl, rfl, rfl, rfl, trivial⟩ (hS.pick [0] rfl rfl) ?_
    rintro ⟨y5, x14_l0⟩ _ G11 hS x6 hF hx7
    try dsimp only at hS ⊢
    have hF : impl_printed.b0 p0 g1 y5 x14_l0 = some x6 := hF; unfold impl_printed.b0 at hF
    refine AWP.seqR rfl ?_
    refine ASL.q (v := (.bool (decide (x14_l0 < ((p0.length : Int)))))) rfl rfl (Light.quiet (opInt rfl rfl rfl rfl)) ?_
    refine ASL.done ?_
    refine AWP.seq ?_
    refine AWP.ifP hF rfl (fun hc12 hF => ?_) (fun hc12 hF => ?_)
    · skip
      refine AWP.skip ?_
      refine QThen.nrm ?_
      refine AWP.seq ?_
      refine AWP.block ?_
      refine AWP.seqR rfl ?_
      refine ASL.q (v := (.int .i64 x14_l0)) rfl rfl (Light.quiet (opMove rfl rfl)) ?_
      obtain ⟨a17, ha17, hF⟩ := bindE hF
      refine ASL.q (v := (.rptr [(.int .i64 a17.kind), (.int .i64 a17.a), (.int .i64 a17.b)])) rfl rfl (Light.quiet (kIx (f := TNode.av) ha17 rfl rfl rfl elemA_26 sizeA_43 rfl)) ?_
      refine ASL.q (v := (TNode.av a17)) rfl rfl (Light.quiet (opLoadRA rfl aggA_43 sizeA_43 rfl (nlt rfl) rfl)) ?_
      refine ASL.x rfl rfl (hNewZ hS [(.int .i64 0), (.int .i64 0), (.int .i64 0)] rfl zeroA_43 ⟨.inl rfl, .inl rfl, .inl rfl, trivial⟩ ?_); rintro b7 G13 hK hS
      refine ASL.q (v := (.int .i64 x14_l0)) rfl rfl (Light.quiet (opAssign rfl rfl)) ?_
      refine ASL.n rfl rfl (hPutA hS (j := 0) rfl rfl sizeA_43 rfl rfl rfl rfl rfl (nlt rfl) ?_); rintro G15 hS
      refine ASL.done ?_
      refine AWP.seqR rfl ?_
      refine ASL.q (v := (.ptr b7 0)) rfl rfl (Light.quiet (opFieldAddr rfl fieldA_43_0 rfl rfl)) ?_
      refine ASL.q (v := (.int .i64 a17.kind)) rfl rfl (Light.quiet (kAt hS (j := 0) rfl rfl aggA_3 rfl rfl)) ?_
      obtain ⟨a21, ha21, hF⟩ := bindE hF
      refine ASL.q (v := (.str a21)) rfl rfl ((qCall rfl rfl call_51 (impl_signOf_ok ha21) rfl)) ?_
      refine ASL.q (v := (.str a21)) rfl rfl (Light.quiet (opAssign rfl rfl)) ?_
      refine ASL.done ?_
      refine AWP.seqR rfl ?_
      refine ASL.q (v := (.fn (.func k1) [] [])) rfl rfl (Light.quiet (opMove rfl rfl)) ?_
      refine ASL.q (v := (TNode.av a17)) rfl rfl (Light.quiet (kAtA hS (j := 0) rfl rfl aggA_43 sizeA_43 rfl (nlt rfl) rfl)) ?_
      obtain ⟨a24, ha24, hF⟩ := bindE hF
      refine ASL.q (v := (.int .i64 a24)) rfl rfl ((qCall rfl rfl hcal1 ((hg1 _ _) ha24) rfl)) ?_
      refine ASL.done ?_
      refine AWP.block ?_
      refine AWP.seqR rfl ?_
      refine ASL.q (v := (.bool (decide (a24 = 0)))) rfl rfl (Light.quiet (opInt rfl rfl rfl rfl)) ?_
      refine ASL.q (v := (.bool (decide (a24 = 0)))) rfl rfl (Light.quiet (opAssign rfl rfl)) ?_
      refine ASL.done ?_
      refine AWP.ifP hF rfl (fun hc16 hF => ?_) (fun hc16 hF => ?_)
      · skip
        refine AWP.seqR rfl ?_
        refine ASL.q (v := v11) rfl rfl (Light.quiet (opMove rfl rfl)) ?_
        refine ASL.q (v := (.int .i64 x14_l0)) rfl rfl (Light.quiet (opMove rfl rfl)) ?_
        refine ASL.q (v := (.str a21)) rfl rfl (Light.quiet (opMove rfl rfl)) ?_
        obtain ⟨m48, hm48, hF⟩ := bindE hF
        refine ASL.q (v := (ptrTo v11 m48 1)) rfl rfl (Light.quiet (kIxO hS (j := 1) rfl hm48 rfl rfl rfl elemA_67 sizeA_9)) ?_
        refine ASL.n rfl rfl (hSt (f := AV.str) (a := a21) hS (j := 1) rfl hm48 rfl sizeA_9 rfl rfl ⟨rfl, rfl, rfl⟩ ?_); rintro G17 hS
        refine ASL.done ?_
        refine AWP.seqR rfl ?_
        refine ASL.q (v := (.ptr b7 0)) rfl rfl (Light.quiet (opFieldAddr rfl fieldA_43_0 rfl rfl)) ?_
        refine ASL.q (v := (.int .i64 a17.kind)) rfl rfl (Light.quiet (kAt hS (j := 0) rfl rfl aggA_3 rfl rfl)) ?_
        refine ASL.q (v := (.bool (decide (a17.kind = 3)))) rfl rfl (Light.quiet (opInt rfl rfl rfl rfl)) ?_
        refine ASL.done ?_
        refine AWP.ifP hF rfl (fun hc18 hF => ?_) (fun hc18 hF => ?_)
        · skip
          refine AWP.lastR rfl ?_
          refine ASL.q (v := v11) rfl rfl (Light.quiet (opMove rfl rfl)) ?_
          refine ASL.q (v := (.int .i64 x14_l0)) rfl rfl (Light.quiet (opMove rfl rfl)) ?_
          refine ASL.q (v := (.ptr b7 1)) rfl rfl (Light.quiet (opFieldAddr rfl fieldA_43_1 rfl rfl)) ?_
          refine ASL.q (v := (.int .i64 a17.a)) rfl rfl (Light.quiet (kAt hS (j := 0) rfl rfl aggA_3 rfl rfl)) ?_
          refine ASL.q (v := (.str (impl_digit a17.a))) rfl rfl ((qCall rfl rfl call_52 (impl_digit_ok a17.a) rfl)) ?_
          obtain ⟨m57, hm57, hF⟩ := bindE hF
          refine ASL.q (v := (ptrTo v11 m57 1)) rfl rfl (Light.quiet (kIxO hS (j := 1) rfl hm57 rfl rfl rfl elemA_67 sizeA_9)) ?_
          refine ASL.n rfl rfl (hSt (f := AV.str) (a := (impl_digit a17.a)) hS (j := 1) rfl hm57 rfl sizeA_9 rfl rfl ⟨rfl, rfl, rfl⟩ ?_); rintro G19 hS
          refine ASL.done ?_
          refine QBlock.nrm ?_
          refine QBlock.nrm ?_
          refine QThen.nrm ?_
          refine AWP.lastR rfl ?_
          refine ASL.q (v := (.int .i64 (W (x14_l0 + 1)))) rfl rfl (Light.quiet (opInt rfl rfl rfl rfl)) ?_
          refine ASL.q (v := (.int .i64 (W (x14_l0 + 1)))) rfl rfl (Light.quiet (opMove rfl rfl)) ?_
          refine ASL.done ?_
          refine QThen.nrm ?_
          exact ⟨((((y5.set m48 a21)).set m57 ((impl_digit a17.a))), (W (x14_l0 + 1))), (), (someE hF).symm, ⟨rfl, rfl, rfl, rfl, rfl, rfl, trivial⟩, (hS.pick [1] rfl rfl)⟩
        · skip
          refine AWP.skip ?_
          refine QBlock.nrm ?_
          refine QBlock.nrm ?_
          refine QThen.nrm ?_
          refine AWP.lastR rfl ?_
          refine ASL.q (v := (.int .i64 (W (x14_l0 + 1)))) rfl rfl (Light.quiet (opInt rfl rfl rfl rfl)) ?_
          refine ASL.q (v := (.int .i64 (W (x14_l0 + 1)))) rfl rfl (Light.quiet (opMove rfl rfl)) ?_
          refine ASL.done ?_
          refine QThen.nrm ?_
          exact ⟨((y5.set m48 a21), (W (x14_l0 + 1))), (), (someE hF).symm, ⟨rfl, rfl, rfl, rfl, rfl, rfl, trivial⟩, (hS.pick [1] rfl rfl)⟩
      · skip
        refine AWP.seqR rfl ?_
        refine ASL.q (v := (.bool (decide (a24 = 1)))) rfl rfl (Light.quiet (opInt rfl rfl rfl rfl)) ?_
        refine ASL.q (v := (.bool (decide (a24 = 1)))) rfl rfl (Light.quiet (opAssign rfl rfl)) ?_
        refine ASL.done ?_
        refine AWP.ifP hF rfl (fun hc20 hF => ?_) (fun hc20 hF => ?_)
        · skip
          refine AWP.lastR rfl ?_
          refine ASL.q (v := v11) rfl rfl (Light.quiet (opMove rfl rfl)) ?_
          refine ASL.q (v := (.int .i64 x14_l0)) rfl rfl (Light.quiet (opMove rfl rfl)) ?_
          refine ASL.q (v := (.str a21)) rfl rfl (Light.quiet (opMove rfl rfl)) ?_
          refine ASL.q (v := v11) rfl rfl (Light.quiet (opMove rfl rfl)) ?_
          refine ASL.q (v := (.ptr b7 1)) rfl rfl (Light.quiet (opFieldAddr rfl fieldA_43_1 rfl rfl)) ?_
          refine ASL.q (v := (.int .i64 a17.a)) rfl rfl (Light.quiet (kAt hS (j := 0) rfl rfl aggA_3 rfl rfl)) ?_
          obtain ⟨a66, ha66, hF⟩ := bindE hF
          refine ASL.q (v := (ptrTo v11 a17.a.toNat 1)) rfl rfl (Light.quiet (kIxOx hS (j := 1) rfl ha66 rfl rfl rfl elemA_67 sizeA_9)) ?_
          refine ASL.q (v := (.str a66)) rfl rfl (Light.quiet (kLd (f := AV.str) hS (j := 1) rfl ha66 rfl aggA_9 rfl (fun _ => rfl))) ?_
          obtain ⟨a68, ha68, hF⟩ := bindE hF
          refine ASL.q (v := (.str a68)) rfl rfl (Light.quiet (opCat ha68 rfl rfl rfl)) ?_
          obtain ⟨m69, hm69, hF⟩ := bindE hF
          refine ASL.q (v := (ptrTo v11 m69 1)) rfl rfl (Light.quiet (kIxO hS (j := 1) rfl hm69 rfl rfl rfl elemA_67 sizeA_9)) ?_
          refine ASL.n rfl rfl (hSt (f := AV.str) (a := a68) hS (j := 1) rfl hm69 rfl sizeA_9 rfl rfl ⟨rfl, rfl, rfl⟩ ?_); rintro G21 hS
          refine ASL.done ?_
          refine QBlock.nrm ?_
          refine QBlock.nrm ?_
          refine QThen.nrm ?_
          refine AWP.lastR rfl ?_
          refine ASL.q (v := (.int .i64 (W (x14_l0 + 1)))) rfl rfl (Light.quiet (opInt rfl rfl rfl rfl)) ?_
          refine ASL.q (v := (.int .i64 (W (x14_l0 + 1)))) rfl rfl (Light.quiet (opMove rfl rfl)) ?_
          refine ASL.done ?_
          refine QThen.nrm ?_
          exact ⟨((y5.set m69 a68), (W (x14_l0 + 1))), (), (someE hF).symm, ⟨rfl, rfl, rfl, rfl, rfl, rfl, trivial⟩, (hS.pick [1] rfl rfl)⟩
        · skip
          refine AWP.lastD [(0, false), (1, false), (2, false), (3, false), (4, false), (5, false), (6, false), (7, false), (8, false), (9, false), (10, false), (11, false), (12, false), (13, false), (14, false), (15, false), (16, false), (17, false), (18, true)] mixed (by kernel_rfl) rfl ?_
          refine ARL.q0 (v := v11) rfl rfl (Light.quiet (opMove rfl rfl)) ?_
          refine ARL.q0 (v := (.int .i64 x14_l0)) rfl rfl (Light.quiet (opMove rfl rfl)) ?_
          refine ARL.q0 (v := v11) rfl rfl (Light.quiet (opMove rfl rfl)) ?_
          refine ARL.q0 (v := (.ptr b7 1)) rfl rfl (Light.quiet (opFieldAddr rfl fieldA_43_1 rfl rfl)) ?_
          refine ARL.q (v := (.int .i64 a17.a)) rfl rfl (hS.aliveC (k := 0) rfl) (Light.quiet (kAt hS (j := 0) rfl rfl aggA_3 rfl rfl)) ?_
          obtain ⟨a30, ha30, hF⟩ := bindE hF
          refine ARL.q0 (v := (ptrTo v11 a17.a.toNat 1)) rfl rfl (Light.quiet (kIxOx hS (j := 1) rfl ha30 rfl rfl rfl elemA_67 sizeA_9)) ?_
          refine ARL.q (v := (.str a30)) rfl rfl (hS.aliveR (k := 1) rfl) (Light.quiet (kLd (f := AV.str) hS (j := 1) rfl ha30 rfl aggA_9 rfl (fun _ => rfl))) ?_
          obtain ⟨a32, ha32, hF⟩ := bindE hF
          refine ARL.q0 (v := (.str a32)) rfl rfl (Light.quiet (opCat ha32 rfl rfl rfl)) ?_
          refine ARL.q0 (v := (.str a21)) rfl rfl (Light.quiet (opMove rfl rfl)) ?_
          obtain ⟨a34, ha34, hF⟩ := bindE hF
          refine ARL.q0 (v := (.str a34)) rfl rfl (Light.quiet (opCat ha34 rfl rfl rfl)) ?_
          refine ARL.q0 (v := v11) rfl rfl (Light.quiet (opMove rfl rfl)) ?_
          refine ARL.q0 (v := (.ptr b7 2)) rfl rfl (Light.quiet (opFieldAddr rfl fieldA_43_2 rfl rfl)) ?_
          refine ARL.q (v := (.int .i64 a17.b)) rfl rfl (hS.aliveC (k := 0) rfl) (Light.quiet (kAt hS (j := 0) rfl rfl aggA_3 rfl rfl)) ?_
          obtain ⟨a38, ha38, hF⟩ := bindE hF
          refine ARL.q0 (v := (ptrTo v11 a17.b.toNat 1)) rfl rfl (Light.quiet (kIxOx hS (j := 1) rfl ha38 rfl rfl rfl elemA_67 sizeA_9)) ?_
          refine ARL.q (v := (.str a38)) rfl rfl (hS.aliveR (k := 1) rfl) (Light.quiet (kLd (f := AV.str) hS (j := 1) rfl ha38 rfl aggA_9 rfl (fun _ => rfl))) ?_
          obtain ⟨a40, ha40, hF⟩ := bindE hF
          refine ARL.q0 (v := (.str a40)) rfl rfl (Light.quiet (opCat ha40 rfl rfl rfl)) ?_
          obtain ⟨a41, ha41, hF⟩ := bindE hF
          refine ARL.q0 (v := (.str a41)) rfl rfl (Light.quiet (opCat ha41 rfl rfl rfl)) ?_
          obtain ⟨m42, hm42, hF⟩ := bindE hF
          refine ARL.q0 (v := (ptrTo v11 m42 1)) rfl rfl (Light.quiet (kIxO hS (j := 1) rfl hm42 rfl rfl rfl elemA_67 sizeA_9)) ?_
          refine ARL.n rfl rfl rfl rfl (hSt (f := AV.str) (a := a41) hS (j := 1) rfl hm42 rfl sizeA_9 rfl rfl ⟨rfl, rfl, rfl⟩ ?_); rintro G22 hS
          refine ARL.done ?_
          refine QBlock.nrm ?_
          refine QBlock.nrm ?_
          refine QThen.nrm ?_
          refine AWP.lastR rfl ?_
          refine ASL.q (v := (.int .i64 (W (x14_l0 + 1)))) rfl rfl (Light.quiet (opInt rfl rfl rfl rfl)) ?_
          refine ASL.q (v := (.int .i64 (W (x14_l0 + 1)))) rfl rfl (Light.quiet (opMove rfl rfl)) ?_
          refine ASL.done ?_
          refine QThen.nrm ?_
          exact ⟨((y5.set m42 a41), (W (x14_l0 + 1))), (), (someE hF).symm, ⟨rfl, rfl, rfl, rfl, rfl, rfl, trivial⟩, (hS.pick [1] rfl rfl)⟩
    · skip
      refine AWP.exit ?_
      refine QThen.ext ?_
      refine QThen.ext ?_
      refine QBlock.hit ?_
      obtain rfl := (hx7 _ (someE hF).symm)
      have hF := hR10
      refine QThen.nrm ?_
      exact ⟨y5, ⟨rfl, rfl, trivial⟩, (hS.pick [0] rfl rfl), hF⟩

set_option maxRecDepth 10000 in
theorem impl_LtlPrint_ok {p0 : (List TNode)} {r : ByteArray} (hF : impl_LtlPrint p0 = some r) : PC Try.prog 18 [(.list 3 (List.map TNode.av p0))] fun v => v = (.str r) := by
  refine PC.enter Try.func18 rfl Try.ntmps18 (by simp) ?_
  have hS := Sep.void; unfold impl_LtlPrint at hF
  refine AWP.seqR rfl ?_
  refine ASL.q (v := (.str { data := #[] })) rfl rfl (Light.quiet (opAssign rfl rfl)) ?_
  refine ASL.done ?_
  refine AWP.seq ?_
  refine AWP.seqR rfl ?_
  refine ASL.q (v := (.list 3 (List.map TNode.av p0))) rfl rfl (Light.quiet (opMove rfl rfl)) ?_
  obtain ⟨a4, ha4, hF⟩ := bindE hF
  refine ASL.q (v := (.bool a4)) rfl rfl ((qCall rfl rfl call_29 (impl_LtlOk_ok ha4) rfl)) ?_
  refine ASL.q (v := (.bool (!a4))) rfl rfl (Light.quiet (opNot rfl rfl)) ?_
  refine ASL.done ?_
  refine AWP.ifB hF rfl (fun hc1 hF => ?_) (fun hc1 hF => ?_)
  · skip
    refine AWP.seqR rfl ?_
    refine ASL.q (v := (.str { data := #[] })) rfl rfl (Light.quiet (opAssign rfl rfl)) ?_
    refine ASL.done ?_
    refine AWP.ret ?_
    refine QThen.rt ?_
    obtain rfl := someE hF
    exact QRet.sole (v := (.str { data := #[] })) ⟨rfl, trivial⟩ rfl
  · skip
    refine AWP.skip ?_
    refine QThen.nrm ?_
    refine AWP.seqR rfl ?_
    refine ASL.q (v := (.list 3 (List.map TNode.av p0))) rfl rfl (Light.quiet (opMove rfl rfl)) ?_
    obtain ⟨a7, ha7, hF⟩ := bindE hF
    refine ASL.q (v := (.str a7)) rfl rfl ((qCall rfl rfl call_33 (impl_printed_ok call_34 (fun q0 y h => by obtain rfl := someE h; exact impl_ltlParts_ok q0) ha7) rfl)) ?_
    refine ASL.q (v := (.str a7)) rfl rfl (Light.quiet (opAssign rfl rfl)) ?_
    refine ASL.done ?_
    refine AWP.ret ?_
    obtain rfl := someE hF
    exact QRet.sole (v := (.str a7)) ⟨rfl, trivial⟩ rfl

set_option maxRecDepth 10000 in
theorem laws_FnExactLtlPrint_ok {K : Nat} {p0 : (List TNode)} {r : Bool} (hF : laws_FnExactLtlPrint K p0 = some r) : PC Try.prog 4 [(.list 3 (List.map TNode.av p0))] fun v => v = (.bool r) := by
  refine PC.enter Try.func4 rfl Try.ntmps4 (by simp) ?_
  have hS := Sep.void; unfold laws_FnExactLtlPrint at hF
  refine AWP.seqR rfl ?_
  refine ASL.q (v := (.bool false)) rfl rfl (Light.quiet (opAssign rfl rfl)) ?_
  refine ASL.done ?_
  refine AWP.seqR rfl ?_
  refine ASL.q (v := (.int .i64 1048576)) rfl rfl (Light.quiet (opAssign rfl rfl)) ?_
  refine ASL.done ?_
  refine AWP.seqR rfl ?_
  refine ASL.q (v := (.list 3 (List.map TNode.av p0))) rfl rfl (Light.quiet (opMove rfl rfl)) ?_
  refine ASL.q (v := (.int .i64 1048576)) rfl rfl (Light.quiet (opMove rfl rfl)) ?_
  refine ASL.q (v := (.int .i64 (laws_szNodeS p0 1048576))) rfl rfl ((qCall rfl rfl call_8 (laws_szNodeS_ok p0 1048576) rfl)) ?_
  refine ASL.q (v := (.int .i64 (laws_szNodeS p0 1048576))) rfl rfl (Light.quiet (opAssign rfl rfl)) ?_
  refine ASL.done ?_
  refine AWP.seq ?_
  refine AWP.seqR rfl ?_
  refine ASL.q (v := (.int .i64 (laws_szNodeS p0 1048576))) rfl rfl (Light.quiet (opMove rfl rfl)) ?_
  refine ASL.q (v := (.bool (decide (((laws_szNodeS p0 1048576)) < 0)))) rfl rfl (Light.quiet (opInt rfl rfl rfl rfl)) ?_
  refine ASL.done ?_
  refine AWP.ifP hF rfl (fun hc1 hF => ?_) (fun hc1 hF => ?_)
  · skip
    refine AWP.seqR rfl ?_
    refine ASL.q (v := (.bool true)) rfl rfl (Light.quiet (opAssign rfl rfl)) ?_
    refine ASL.done ?_
    refine AWP.ret ?_
    refine QThen.rt ?_
    obtain rfl := someE hF
    exact QRet.sole (v := (.bool true)) ⟨rfl, trivial⟩ rfl
  · skip
    refine AWP.skip ?_
    refine QThen.nrm ?_
    refine AWP.seqR rfl ?_
    refine ASL.q (v := (.list 3 (List.map TNode.av p0))) rfl rfl (Light.quiet (opMove rfl rfl)) ?_
    obtain ⟨a13, ha13, hF⟩ := bindE hF
    refine ASL.q (v := (.list 3 (List.map TNode.av a13))) rfl rfl ((qCall rfl rfl call_10 (PO.list (laws_toNodeS_ok ha13)) rfl)) ?_
    obtain ⟨a14, ha14, hF⟩ := bindE hF
    refine ASL.q (v := (.str a14)) rfl rfl ((qCall rfl rfl call_17 (spec_LtlPrint_ok ha14) rfl)) ?_
    refine ASL.q (v := (.str a14)) rfl rfl (Light.quiet (opAssign rfl rfl)) ?_
    refine ASL.done ?_
    refine AWP.seqR rfl ?_
    refine ASL.q (v := (.list 3 (List.map TNode.av p0))) rfl rfl (Light.quiet (opMove rfl rfl)) ?_
    obtain ⟨a16, ha16, hF⟩ := bindE hF
    refine ASL.q (v := (.list 3 (List.map TNode.av a16))) rfl rfl ((qCall rfl rfl call_10 (PO.list (laws_toNodeS_ok ha16)) rfl)) ?_
    refine ASL.q (v := (.list 3 (List.map TNode.av a16))) rfl rfl (Light.quiet (opAssign rfl rfl)) ?_
    refine ASL.done ?_
    refine AWP.seqR rfl ?_
    refine ASL.q (v := (.list 3 (List.map TNode.av a16))) rfl rfl (Light.quiet (opMove rfl rfl)) ?_
    obtain ⟨a18, ha18, hF⟩ := bindE hF
    refine ASL.q (v := (.str a18)) rfl rfl ((qCall rfl rfl call_18 (impl_LtlPrint_ok ha18) rfl)) ?_
    refine ASL.q (v := (.str a18)) rfl rfl (Light.quiet (opAssign rfl rfl)) ?_
    refine ASL.done ?_
    refine AWP.seq ?_
    refine AWP.seqR rfl ?_
    refine ASL.q (v := (.str a18)) rfl rfl (Light.quiet (opMove rfl rfl)) ?_
    refine ASL.q (v := (.str a14)) rfl rfl (Light.quiet (opMove rfl rfl)) ?_
    refine ASL.q (v := (.bool (!(a18.toList == a14.toList)))) rfl rfl (Light.quiet (opStr rfl rfl rfl rfl)) ?_
    refine ASL.done ?_
    refine AWP.ifB hF rfl (fun hc2 hF => ?_) (fun hc2 hF => ?_)
    · skip
      refine AWP.seqR rfl ?_
      refine ASL.q (v := (.bool false)) rfl rfl (Light.quiet (opAssign rfl rfl)) ?_
      refine ASL.done ?_
      refine AWP.ret ?_
      refine QThen.rt ?_
      obtain rfl := someE hF
      exact QRet.sole (v := (.bool false)) ⟨rfl, trivial⟩ rfl
    · skip
      refine AWP.skip ?_
      refine QThen.nrm ?_
      refine AWP.seq ?_
      refine AWP.seqR rfl ?_
      refine ASL.q (v := (.list 3 (List.map TNode.av a16))) rfl rfl (Light.quiet (opMove rfl rfl)) ?_
      refine ASL.q (v := (.list 3 (List.map TNode.av p0))) rfl rfl (Light.quiet (opMove rfl rfl)) ?_
      obtain ⟨a24, ha24, hF⟩ := bindE hF
      refine ASL.q (v := (.list 3 (List.map TNode.av a24))) rfl rfl ((qCall rfl rfl call_10 (PO.list (laws_toNodeS_ok ha24)) rfl)) ?_
      obtain ⟨a25, ha25, hF⟩ := bindE hF
      refine ASL.q (v := (.bool a25)) rfl rfl ((qCall rfl rfl call_13 (laws_eqNodeS_ok ha25) rfl)) ?_
      refine ASL.q (v := (.bool (!a25))) rfl rfl (Light.quiet (opNot rfl rfl)) ?_
      refine ASL.done ?_
      refine AWP.ifB hF rfl (fun hc3 hF => ?_) (fun hc3 hF => ?_)
      · skip
        refine AWP.seqR rfl ?_
        refine ASL.q (v := (.bool false)) rfl rfl (Light.quiet (opAssign rfl rfl)) ?_
        refine ASL.done ?_
        refine AWP.ret ?_
        refine QThen.rt ?_
        obtain rfl := someE hF
        exact QRet.sole (v := (.bool false)) ⟨rfl, trivial⟩ rfl
      · skip
        refine AWP.skip ?_
        refine QThen.nrm ?_
        refine AWP.seqR rfl ?_
        refine ASL.q (v := (.bool true)) rfl rfl (Light.quiet (opAssign rfl rfl)) ?_
        refine ASL.done ?_
        refine AWP.ret ?_
        obtain rfl := someE hF
        exact QRet.sole (v := (.bool true)) ⟨rfl, trivial⟩ rfl

end Go.Proofs.Ytgklefbkneomoaa
