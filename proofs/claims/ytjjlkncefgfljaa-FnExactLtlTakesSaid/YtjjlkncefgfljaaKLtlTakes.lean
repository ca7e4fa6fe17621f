/- Each of these functions of the program comes to just what its plain function says: FnExactLtlTakes. -/
import Derived.Test.YtjjlkncefgfljaaDLtlTakes
import Derived.Test.YtjjlkncefgfljaaFa
import Derived.Test.YtjjlkncefgfljaaKLtlAt
namespace Go.Proofs.Ytjjlkncefgfljaa
open Go Go.RowKit E
set_option linter.unusedVariables false
set_option maxRecDepth 10000 in
theorem spec_LtlTakes_ok {p0 : (List TNode)} {p1 : TWord} {r : Bool} (hF : spec_LtlTakes p0 p1 = some r) : PC Try.prog 28 [(.list 3 (List.map TNode.av p0)), (TWord.av p1)] fun v => v = (.bool r) := by
  refine PC.enter Try.func28 rfl Try.ntmps28 (by simp) ?_
  have hS := Sep.void; unfold spec_LtlTakes at hF
  refine AWP.seqR rfl ?_
  refine ASL.q (v := (.rptr [(.list 1 (List.map (AV.int .i64) p1.stem)), (.list 1 (List.map (AV.int .i64) p1.loop))])) rfl rfl ((qBoxI (v := (TWord.av p1)) rfl rfl rfl rfl)) ?_
  refine ASL.q (v := (.bool false)) rfl rfl (Light.quiet (opAssign rfl rfl)) ?_
  refine ASL.done ?_
  refine AWP.seqR rfl ?_
  refine ASL.q (v := (.list 3 (List.map TNode.av p0))) rfl rfl (Light.quiet (opMove rfl rfl)) ?_
  refine ASL.q (v := (TWord.av p1)) rfl rfl (Light.quiet (opLoadRA rfl aggA_41 sizeA_41 rfl (nlt rfl) rfl)) ?_
  obtain ⟨a7, ha7, hF⟩ := bindE hF
  refine ASL.q (v := (.bool a7)) rfl rfl ((qCall rfl rfl call_22 (spec_LtlAt_ok ha7) rfl)) ?_
  refine ASL.q (v := (.bool a7)) rfl rfl (Light.quiet (opAssign rfl rfl)) ?_
  refine ASL.done ?_
  refine AWP.ret ?_
  obtain rfl := someE hF
  exact QRet.sole (v := (.bool a7)) ⟨rfl, trivial⟩ rfl

set_option maxRecDepth 10000 in
theorem impl_LtlTakes_ok {p0 : (List TNode)} {p1 : TWord} {r : Bool} (hF : impl_LtlTakes p0 p1 = some r) : PC Try.prog 29 [(.list 3 (List.map TNode.av p0)), (TWord.av p1)] fun v => v = (.bool r) := by
  refine PC.enter Try.func29 rfl Try.ntmps29 (by simp) ?_
  have hS := Sep.void; unfold impl_LtlTakes at hF
  refine AWP.seqR rfl ?_
  refine ASL.q (v := (.rptr [(.list 1 (List.map (AV.int .i64) p1.stem)), (.list 1 (List.map (AV.int .i64) p1.loop))])) rfl rfl ((qBoxI (v := (TWord.av p1)) rfl rfl rfl rfl)) ?_
  refine ASL.q (v := (.bool false)) rfl rfl (Light.quiet (opAssign rfl rfl)) ?_
  refine ASL.done ?_
  refine AWP.seqR rfl ?_
  refine ASL.q (v := (.list 3 (List.map TNode.av p0))) rfl rfl (Light.quiet (opMove rfl rfl)) ?_
  refine ASL.q (v := (TWord.av p1)) rfl rfl (Light.quiet (opLoadRA rfl aggA_41 sizeA_41 rfl (nlt rfl) rfl)) ?_
  obtain ⟨a7, ha7, hF⟩ := bindE hF
  refine ASL.q (v := (.bool a7)) rfl rfl ((qCall rfl rfl call_25 (impl_LtlAt_ok ha7) rfl)) ?_
  refine ASL.q (v := (.bool a7)) rfl rfl (Light.quiet (opAssign rfl rfl)) ?_
  refine ASL.done ?_
  refine AWP.ret ?_
  obtain rfl := someE hF
  exact QRet.sole (v := (.bool a7)) ⟨rfl, trivial⟩ rfl

set_option maxRecDepth 10000 in
theorem laws_FnExactLtlTakes_ok {p0 : (List TNode)} {p1 : TWord} {r : Bool} (hF : laws_FnExactLtlTakes p0 p1 = some r) : PC Try.prog 5 [(.list 3 (List.map TNode.av p0)), (TWord.av p1)] fun v => v = (.bool r) := by
  refine PC.enter Try.func5 rfl Try.ntmps5 (by simp) ?_
  have hS := Sep.void; unfold laws_FnExactLtlTakes at hF
  refine AWP.seqR rfl ?_
  refine ASL.q (v := (.rptr [(.list 1 (List.map (AV.int .i64) p1.stem)), (.list 1 (List.map (AV.int .i64) p1.loop))])) rfl rfl ((qBoxI (v := (TWord.av p1)) rfl rfl rfl rfl)) ?_
  refine ASL.q (v := (.bool false)) rfl rfl (Light.quiet (opAssign rfl rfl)) ?_
  refine ASL.done ?_
  refine AWP.seqR rfl ?_
  refine ASL.q (v := (.int .i64 1048576)) rfl rfl (Light.quiet (opAssign rfl rfl)) ?_
  refine ASL.done ?_
  refine AWP.seqR rfl ?_
  refine ASL.q (v := (.list 3 (List.map TNode.av p0))) rfl rfl (Light.quiet (opMove rfl rfl)) ?_
  refine ASL.q (v := (.int .i64 1048576)) rfl rfl (Light.quiet (opMove rfl rfl)) ?_
  refine ASL.q (v := (.int .i64 (laws_szNodeS p0 1048576))) rfl rfl ((qCall rfl rfl call_20 (laws_szNodeS_ok p0 1048576) rfl)) ?_
  refine ASL.q (v := (.int .i64 (laws_szNodeS p0 1048576))) rfl rfl (Light.quiet (opAssign rfl rfl)) ?_
  refine ASL.done ?_
  refine AWP.seq ?_
  refine AWP.seqR rfl ?_
  refine ASL.q (v := (.int .i64 (laws_szNodeS p0 1048576))) rfl rfl (Light.quiet (opMove rfl rfl)) ?_
  refine ASL.q (v := (.bool (decide (((laws_szNodeS p0 1048576)) < 0)))) rfl rfl (Light.quiet (opInt rfl rfl rfl rfl)) ?_
  refine ASL.done ?_
  refine AWP.ifP hF rfl (fun hc1 hF => ?_) (fun hc1 hF => ?_)
  · skip
    refine AWP.seqR rfl ?_
    refine ASL.q (v := (.bool true)) rfl rfl (Light.quiet (opAssign rfl rfl)) ?_
    refine ASL.done ?_
    refine AWP.ret ?_
    refine QThen.rt ?_
    obtain rfl := someE hF
    exact QRet.sole (v := (.bool true)) ⟨rfl, trivial⟩ rfl
  · skip
    refine AWP.skip ?_
    refine QThen.nrm ?_
    refine AWP.seqR rfl ?_
    refine ASL.q (v := (TWord.av p1)) rfl rfl (Light.quiet (opLoadRA rfl aggA_36 sizeA_36 rfl (nlt rfl) rfl)) ?_
    refine ASL.q (v := (.int .i64 (laws_szNodeS p0 1048576))) rfl rfl (Light.quiet (opMove rfl rfl)) ?_
    refine ASL.q (v := (.int .i64 (laws_szWord p1 ((laws_szNodeS p0 1048576))))) rfl rfl ((qCall rfl rfl call_21 (laws_szWord_ok p1 ((laws_szNodeS p0 1048576))) rfl)) ?_
    refine ASL.q (v := (.int .i64 (laws_szWord p1 ((laws_szNodeS p0 1048576))))) rfl rfl (Light.quiet (opAssign rfl rfl)) ?_
    refine ASL.done ?_
    refine AWP.seq ?_
    refine AWP.seqR rfl ?_
    refine ASL.q (v := (.int .i64 (laws_szWord p1 ((laws_szNodeS p0 1048576))))) rfl rfl (Light.quiet (opMove rfl rfl)) ?_
    refine ASL.q (v := (.bool (decide (((laws_szWord p1 ((laws_szNodeS p0 1048576)))) < 0)))) rfl rfl (Light.quiet (opInt rfl rfl rfl rfl)) ?_
    refine ASL.done ?_
    refine AWP.ifP hF rfl (fun hc2 hF => ?_) (fun hc2 hF => ?_)
    · skip
      refine AWP.seqR rfl ?_
      refine ASL.q (v := (.bool true)) rfl rfl (Light.quiet (opAssign rfl rfl)) ?_
      refine ASL.done ?_
      refine AWP.ret ?_
      refine QThen.rt ?_
      obtain rfl := someE hF
      exact QRet.sole (v := (.bool true)) ⟨rfl, trivial⟩ rfl
    · skip
      refine AWP.skip ?_
      refine QThen.nrm ?_
      refine AWP.seqD [(0, false), (1, false), (2, false), (3, false), (4, false), (5, false)] mixed (by kernel_rfl) rfl ?_
      refine ARL.q0 (v := (.list 3 (List.map TNode.av p0))) rfl rfl (Light.quiet (opMove rfl rfl)) ?_
      obtain ⟨a21, ha21, hF⟩ := bindE hF
      refine ARL.q0 (v := (.list 3 (List.map TNode.av a21))) rfl rfl ((qCall rfl rfl call_23 (PO.list (laws_toNodeS_ok ha21)) rfl)) ?_
      refine ARL.q0 (v := (TWord.av p1)) rfl rfl (Light.quiet (opLoadRA rfl aggA_36 sizeA_36 rfl (nlt rfl) rfl)) ?_
      obtain ⟨a23, ha23, hF⟩ := bindE hF
      refine ARL.q0 (v := (TWord.av a23)) rfl rfl ((qCall rfl rfl call_24 (laws_toWord_ok ha23) rfl)) ?_
      obtain ⟨a24, ha24, hF⟩ := bindE hF
      refine ARL.q0 (v := (.bool a24)) rfl rfl ((qCall rfl rfl call_28 (spec_LtlTakes_ok ha24) rfl)) ?_
      refine ARL.q0 (v := (.bool a24)) rfl rfl (Light.quiet (opAssign rfl rfl)) ?_
      refine ARL.done ?_
      refine AWP.seqR rfl ?_
      refine ASL.q (v := (.list 3 (List.map TNode.av p0))) rfl rfl (Light.quiet (opMove rfl rfl)) ?_
      obtain ⟨a26, ha26, hF⟩ := bindE hF
      refine ASL.q (v := (.list 3 (List.map TNode.av a26))) rfl rfl ((qCall rfl rfl call_23 (PO.list (laws_toNodeS_ok ha26)) rfl)) ?_
      refine ASL.q (v := (.list 3 (List.map TNode.av a26))) rfl rfl (Light.quiet (opAssign rfl rfl)) ?_
      refine ASL.done ?_
      refine AWP.seqR rfl ?_
      refine ASL.q (v := (TWord.av p1)) rfl rfl (Light.quiet (opLoadRA rfl aggA_36 sizeA_36 rfl (nlt rfl) rfl)) ?_
      obtain ⟨a28, ha28, hF⟩ := bindE hF
      refine ASL.q (v := (TWord.av a28)) rfl rfl ((qCall rfl rfl call_24 (laws_toWord_ok ha28) rfl)) ?_
      refine ASL.x rfl rfl (hNewZ hS [(.list 1 (List.map (AV.int .i64) [])), (.list 1 (List.map (AV.int .i64) []))] rfl zeroA_41 ⟨.inr ⟨_, rfl, rfl⟩, .inr ⟨_, rfl, rfl⟩, trivial⟩ ?_); rintro b8 G3 hK hS
      refine ASL.n rfl rfl (hPutA hS (j := 0) rfl rfl sizeA_41 rfl rfl rfl rfl rfl (nlt rfl) ?_); rintro G5 hS
      refine ASL.done ?_
      refine AWP.seqR rfl ?_
      refine ASL.q (v := (.list 3 (List.map TNode.av a26))) rfl rfl (Light.quiet (opMove rfl rfl)) ?_
      refine ASL.q (v := (TWord.av a28)) rfl rfl (Light.quiet (kAtA hS (j := 0) rfl rfl aggA_41 sizeA_41 rfl (nlt rfl) rfl)) ?_
      obtain ⟨a31, ha31, hF⟩ := bindE hF
      refine ASL.q (v := (.bool a31)) rfl rfl ((qCall rfl rfl call_29 (impl_LtlTakes_ok ha31) rfl)) ?_
      refine ASL.q (v := (.bool a31)) rfl rfl (Light.quiet (opAssign rfl rfl)) ?_
      refine ASL.done ?_
      refine AWP.seq ?_
      refine AWP.seqR rfl ?_
      refine ASL.q (v := (.bool a31)) rfl rfl (Light.quiet (opMove rfl rfl)) ?_
      refine ASL.q (v := (.bool a24)) rfl rfl (Light.quiet (opMove rfl rfl)) ?_
      refine ASL.q (v := (.bool (!(a31 == a24)))) rfl rfl (Light.quiet (opBoolEq rfl rfl rfl und_4 rfl)) ?_
      refine ASL.done ?_
      refine AWP.ifB hF rfl (fun hc6 hF => ?_) (fun hc6 hF => ?_)
      · skip
        refine AWP.seqR rfl ?_
        refine ASL.q (v := (.bool false)) rfl rfl (Light.quiet (opAssign rfl rfl)) ?_
        refine ASL.done ?_
        refine AWP.ret ?_
        refine QThen.rt ?_
        obtain rfl := someE hF
        exact QRet.sole (v := (.bool false)) ⟨rfl, trivial⟩ rfl
      · skip
        refine AWP.skip ?_
        refine QThen.nrm ?_
        refine AWP.seq ?_
        refine AWP.seqR rfl ?_
        refine ASL.q (v := (.list 3 (List.map TNode.av a26))) rfl rfl (Light.quiet (opMove rfl rfl)) ?_
        refine ASL.q (v := (.list 3 (List.map TNode.av p0))) rfl rfl (Light.quiet (opMove rfl rfl)) ?_
        obtain ⟨a37, ha37, hF⟩ := bindE hF
        refine ASL.q (v := (.list 3 (List.map TNode.av a37))) rfl rfl ((qCall rfl rfl call_23 (PO.list (laws_toNodeS_ok ha37)) rfl)) ?_
        obtain ⟨a38, ha38, hF⟩ := bindE hF
        refine ASL.q (v := (.bool a38)) rfl rfl ((qCall rfl rfl call_26 (laws_eqNodeS_ok ha38) rfl)) ?_
        refine ASL.q (v := (.bool (!a38))) rfl rfl (Light.quiet (opNot rfl rfl)) ?_
        refine ASL.done ?_
        refine AWP.ifB hF rfl (fun hc7 hF => ?_) (fun hc7 hF => ?_)
        · skip
          refine AWP.seqR rfl ?_
          refine ASL.q (v := (.bool false)) rfl rfl (Light.quiet (opAssign rfl rfl)) ?_
          refine ASL.done ?_
          refine AWP.ret ?_
          refine QThen.rt ?_
          obtain rfl := someE hF
          exact QRet.sole (v := (.bool false)) ⟨rfl, trivial⟩ rfl
        · skip
          refine AWP.skip ?_
          refine QThen.nrm ?_
          refine AWP.seq ?_
          refine AWP.seqD [(0, false), (1, false), (2, false), (3, false), (4, false)] mixed (by kernel_rfl) rfl ?_
          refine ARL.q (v := (TWord.av a28)) rfl rfl (hS.aliveC (k := 0) rfl) (Light.quiet (kAtA hS (j := 0) rfl rfl aggA_41 sizeA_41 rfl (nlt rfl) rfl)) ?_
          refine ARL.q0 (v := (TWord.av p1)) rfl rfl (Light.quiet (opLoadRA rfl aggA_36 sizeA_36 rfl (nlt rfl) rfl)) ?_
          obtain ⟨a42, ha42, hF⟩ := bindE hF
          refine ARL.q0 (v := (TWord.av a42)) rfl rfl ((qCall rfl rfl call_24 (laws_toWord_ok ha42) rfl)) ?_
          obtain ⟨a43, ha43, hF⟩ := bindE hF
          refine ARL.q0 (v := (.bool a43)) rfl rfl ((qCall rfl rfl call_27 (laws_eqWord_ok ha43) rfl)) ?_
          refine ARL.q0 (v := (.bool (!a43))) rfl rfl (Light.quiet (opNot rfl rfl)) ?_
          refine ARL.done ?_
          refine AWP.ifB hF rfl (fun hc8 hF => ?_) (fun hc8 hF => ?_)
          · skip
            refine AWP.seqR rfl ?_
            refine ASL.q (v := (.bool false)) rfl rfl (Light.quiet (opAssign rfl rfl)) ?_
            refine ASL.done ?_
            refine AWP.ret ?_
            refine QThen.rt ?_
            obtain rfl := someE hF
            exact QRet.sole (v := (.bool false)) ⟨rfl, trivial⟩ rfl
          · skip
            refine AWP.skip ?_
            refine QThen.nrm ?_
            refine AWP.seqR rfl ?_
            refine ASL.q (v := (.bool true)) rfl rfl (Light.quiet (opAssign rfl rfl)) ?_
            refine ASL.done ?_
            refine AWP.ret ?_
            obtain rfl := someE hF
            exact QRet.sole (v := (.bool true)) ⟨rfl, trivial⟩ rfl

end Go.Proofs.Ytjjlkncefgfljaa
