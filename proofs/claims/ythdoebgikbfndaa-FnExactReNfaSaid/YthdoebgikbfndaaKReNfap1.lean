/- Each of these functions of the program comes to just what its plain function says: FnExactReNfa. -/
import Derived.Test.YthdoebgikbfndaaKReNfap0
namespace Go.Proofs.Ythdoebgikbfndaa
open Go Go.RowKit E
set_option linter.unusedVariables false
set_option maxRecDepth 10000 in
theorem impl_isTree_ok {p0 : (List TNode)} {g1 : (TNode → Option Int)} {r : Bool} {k1 : Nat} (hcal1 : callable Try.prog k1 = true) (hg1 : ∀ q0 y, g1 q0 = some y → PC Try.prog k1 [(TNode.av q0)] fun v => v = (.int .i64 y)) (hF : impl_isTree p0 g1 = some r) : PC Try.prog 76 [(.list 3 (List.map TNode.av p0)), (.fn (.func k1) [] [])] fun v => v = (.bool r) := by
  refine PC.enter Try.func76 rfl Try.ntmps76 (by simp) ?_
  have hS := Sep.void; unfold impl_isTree at hF
  refine AWP.seqR rfl ?_
  refine ASL.q (v := (.bool false)) rfl rfl (Light.quiet (opAssign rfl rfl)) ?_
  refine ASL.done ?_
  refine AWP.seqR rfl ?_
  refine ASL.q (v := (.list 3 (List.map TNode.av p0))) rfl rfl (Light.quiet (opMove rfl rfl)) ?_
  refine ASL.q (v := (.fn (.func k1) [] [])) rfl rfl (Light.quiet (opMove rfl rfl)) ?_
  obtain ⟨a10, ha10, hF⟩ := bindE hF
  refine ASL.q (v := (.tup [(.list 1 (List.map (AV.int .i64) a10.1)), (.bool a10.2)])) rfl rfl ((qCall rfl rfl call_106 (impl_begins_ok hcal1 hg1 ha10) rfl)) ?_
  refine ASL.q (v := (.tup [(.list 1 (List.map (AV.int .i64) a10.1)), (.bool a10.2)])) rfl rfl (Light.quiet (opMove rfl rfl)) ?_
  refine ASL.q (v := (.list 1 (List.map (AV.int .i64) a10.1))) rfl rfl (Light.quiet (opExtract rfl rfl rfl)) ?_
  refine ASL.q (v := (.bool a10.2)) rfl rfl (Light.quiet (opExtract rfl rfl rfl)) ?_
  refine ASL.q (v := (.list 1 (List.map (AV.int .i64) a10.1))) rfl rfl (Light.quiet (opAssign rfl rfl)) ?_
  refine ASL.q (v := (.bool a10.2)) rfl rfl (Light.quiet (opAssign rfl rfl)) ?_
  refine ASL.done ?_
  refine AWP.seqR rfl ?_
  refine ASL.q (v := (.bool a10.2)) rfl rfl (Light.quiet (opMove rfl rfl)) ?_
  refine ASL.q (v := (.bool a10.2)) rfl rfl (Light.quiet (opAssign rfl rfl)) ?_
  refine ASL.done ?_
  refine AWP.ret ?_
  obtain rfl := someE hF
  exact QRet.sole (v := (.bool a10.2)) ⟨rfl, trivial⟩ rfl

set_option maxRecDepth 10000 in
theorem impl_leaf_ok (p0 : TNode) (p1 : Int) : PC Try.prog 122 [(TNode.av p0), (.int .i64 p1)] fun v => v = (.int .i64 (impl_leaf p0 p1)) := by
  generalize hF : impl_leaf p0 p1 = r
  refine PC.enter Try.func122 rfl Try.ntmps122 (by simp) ?_
  have hS := Sep.void; unfold impl_leaf at hF
  refine AWP.seqR rfl ?_
  refine ASL.q (v := (.rptr [(.int .i64 p0.kind), (.int .i64 p0.a), (.int .i64 p0.b)])) rfl rfl ((qBoxI (v := (TNode.av p0)) rfl rfl rfl rfl)) ?_
  refine ASL.q (v := (.int .i64 0)) rfl rfl (Light.quiet (opAssign rfl rfl)) ?_
  refine ASL.done ?_
  refine AWP.seq ?_
  refine AWP.seqR rfl ?_
  refine ASL.q (v := (.rptr [(.int .i64 p0.b)])) rfl rfl (Light.quiet (opFieldAddrR rfl fieldA_65_2 rfl rfl)) ?_
  refine ASL.q (v := (.int .i64 p0.b)) rfl rfl (Light.quiet (opLoadR rfl aggA_3 rfl rfl)) ?_
  refine ASL.q (v := (.bool (decide (p0.b = 0)))) rfl rfl (Light.quiet (opInt rfl rfl rfl rfl)) ?_
  obtain ⟨c8, hc8, hF⟩ := bndE hF
  refine ASL.q (v := (.bool c8)) rfl rfl ((Quiet.cast (Light.quiet (opMove rfl rfl)) (congrArg AV.bool hc8.symm))) ?_
  refine ASL.g (v := (.rptr [(.int .i64 p0.a), (.int .i64 p0.b)])) (.bool c8) true rfl (wT _) rfl (fun hG => by have q0 := hG; subst q0; exact Light.quiet (opFieldAddrR rfl fieldA_65_1 rfl rfl)) ?_
  refine ASL.g (v := (.int .i64 p0.a)) (.bool c8) true rfl (wT _) rfl (fun hG => by have q0 := hG; subst q0; exact Light.quiet (opLoadR rfl aggA_3 rfl rfl)) ?_
  refine ASL.g (v := (.int .i64 p1)) (.bool c8) true rfl (wT _) rfl (fun hG => by have q0 := hG; subst q0; exact Light.quiet (opMove rfl rfl)) ?_
  refine ASL.g (v := (.bool (impl_inRange p0.a 0 p1))) (.bool c8) true rfl (wT _) rfl (fun hG => by have q0 := hG; subst q0; exact (qCall rfl rfl call_78 (impl_inRange_ok p0.a 0 p1) rfl)) ?_
  refine ASL.q (v := (.bool (c8 && (impl_inRange p0.a 0 p1)))) rfl rfl (Light.quiet (opPick (b := c8) rfl rfl (by cases c8 <;> rfl))) ?_
  refine ASL.done ?_
  refine AWP.ifB hF rfl (fun hc1 hF => ?_) (fun hc1 hF => ?_)
  · skip
    refine AWP.seqR rfl ?_
    refine ASL.q (v := (.int .i64 0)) rfl rfl (Light.quiet (opAssign rfl rfl)) ?_
    refine ASL.done ?_
    refine AWP.ret ?_
    refine QThen.rt ?_
    obtain rfl := hF
    exact QRet.sole (v := (.int .i64 0)) ⟨rfl, trivial⟩ rfl
  · skip
    refine AWP.skip ?_
    refine QThen.nrm ?_
    refine AWP.seqR rfl ?_
    refine ASL.q (v := (.int .i64 (-1))) rfl rfl (Light.quiet (opAssign rfl rfl)) ?_
    refine ASL.done ?_
    refine AWP.ret ?_
    obtain rfl := hF
    exact QRet.sole (v := (.int .i64 (-1))) ⟨rfl, trivial⟩ rfl

set_option maxRecDepth 10000 in
theorem impl_reParts_ok (p0 : TNode) : PC Try.prog 93 [(TNode.av p0)] fun v => v = (.int .i64 (impl_reParts p0)) := by
  generalize hF : impl_reParts p0 = r
  refine PC.enter Try.func93 rfl Try.ntmps93 (by simp) ?_
  have hS := Sep.void; unfold impl_reParts at hF
  refine AWP.seqR rfl ?_
  refine ASL.q (v := (.rptr [(.int .i64 p0.kind), (.int .i64 p0.a), (.int .i64 p0.b)])) rfl rfl ((qBoxI (v := (TNode.av p0)) rfl rfl rfl rfl)) ?_
  refine ASL.q (v := (.int .i64 0)) rfl rfl (Light.quiet (opAssign rfl rfl)) ?_
  refine ASL.done ?_
  refine AWP.seq ?_
  refine AWP.seqR rfl ?_
  refine ASL.q (v := (.rptr [(.int .i64 p0.kind), (.int .i64 p0.a), (.int .i64 p0.b)])) rfl rfl (Light.quiet (opFieldAddrR rfl fieldA_65_0 rfl rfl)) ?_
  refine ASL.q (v := (.int .i64 p0.kind)) rfl rfl (Light.quiet (opLoadR rfl aggA_3 rfl rfl)) ?_
  refine ASL.done ?_
  refine AWP.block ?_
  refine AWP.seqM (fun e H => ∃ x5_1 : Bool, E.Told e [(1, (.rptr [(.int .i64 p0.kind), (.int .i64 p0.a), (.int .i64 p0.b)])), (4, (.int .i64 p0.kind)), (5, (.bool x5_1))] ∧ E.Sep H [] ∧ impl_reParts.k0 p0 x5_1 = r) ?_ ?_
  · rintro e0 G7 ⟨x5_1, hT, hS, hF⟩; refine AWP.only _ hT ?_; unfold impl_reParts.k0 at hF
    refine AWP.ifB hF rfl (fun hc1 hF => ?_) (fun hc1 hF => ?_)
    · skip
      refine AWP.seqR rfl ?_
      refine ASL.q (v := (TNode.av p0)) rfl rfl (Light.quiet (opLoadRA rfl aggA_65 sizeA_65 rfl (nlt rfl) rfl)) ?_
      refine ASL.q (v := (.int .i64 (impl_leaf p0 0))) rfl rfl ((qCall rfl rfl call_122 (impl_leaf_ok p0 0) rfl)) ?_
      refine ASL.q (v := (.int .i64 (impl_leaf p0 0))) rfl rfl (Light.quiet (opAssign rfl rfl)) ?_
      refine ASL.done ?_
      refine AWP.ret ?_
      refine QBlock.ret ?_
      refine QThen.rt ?_
      obtain rfl := hF
      exact QRet.sole (v := (.int .i64 (impl_leaf p0 0))) ⟨rfl, trivial⟩ rfl
    · skip
      refine AWP.seqR rfl ?_
      refine ASL.q (v := (.bool (decide (p0.kind = 3)))) rfl rfl (Light.quiet (opInt rfl rfl rfl rfl)) ?_
      refine ASL.q (v := (.bool (decide (p0.kind = 3)))) rfl rfl (Light.quiet (opAssign rfl rfl)) ?_
      refine ASL.done ?_
      refine AWP.ifP hF rfl (fun hc2 hF => ?_) (fun hc2 hF => ?_)
      · skip
        refine AWP.seqR rfl ?_
        refine ASL.q (v := (TNode.av p0)) rfl rfl (Light.quiet (opLoadRA rfl aggA_65 sizeA_65 rfl (nlt rfl) rfl)) ?_
        refine ASL.q (v := (.int .i64 (impl_leaf p0 7))) rfl rfl ((qCall rfl rfl call_122 (impl_leaf_ok p0 7) rfl)) ?_
        refine ASL.q (v := (.int .i64 (impl_leaf p0 7))) rfl rfl (Light.quiet (opAssign rfl rfl)) ?_
        refine ASL.done ?_
        refine AWP.ret ?_
        refine QBlock.ret ?_
        refine QThen.rt ?_
        obtain rfl := hF
        exact QRet.sole (v := (.int .i64 (impl_leaf p0 7))) ⟨rfl, trivial⟩ rfl
      · skip
        refine AWP.seqR rfl ?_
        refine ASL.q (v := (.bool (decide (p0.kind = 4)))) rfl rfl (Light.quiet (opInt rfl rfl rfl rfl)) ?_
        refine ASL.q (v := (.bool (decide (p0.kind = 4)))) rfl rfl (Light.quiet (opAssign rfl rfl)) ?_
        refine ASL.done ?_
        refine AWP.ifP hF rfl (fun hc3 hF => ?_) (fun hc3 hF => ?_)
        · skip
          refine AWP.seqR rfl ?_
          refine ASL.q (v := (.int .i64 1)) rfl rfl (Light.quiet (opAssign rfl rfl)) ?_
          refine ASL.done ?_
          refine AWP.ret ?_
          refine QBlock.ret ?_
          refine QThen.rt ?_
          obtain rfl := hF
          exact QRet.sole (v := (.int .i64 1)) ⟨rfl, trivial⟩ rfl
        · skip
          refine AWP.seq ?_
          refine AWP.seqR rfl ?_
          refine ASL.q (v := (.bool (decide (p0.kind = 5)))) rfl rfl (Light.quiet (opInt rfl rfl rfl rfl)) ?_
          refine ASL.q (v := (.bool (decide (p0.kind = 5)))) rfl rfl (Light.quiet (opAssign rfl rfl)) ?_
          refine ASL.done ?_
          refine AWP.ifP hF rfl (fun hc4 hF => ?_) (fun hc4 hF => ?_)
          · skip
            refine AWP.skip ?_
            refine QThen.nrm ?_
            refine AWP.ifP hF rfl (fun hc5 hF => ?_) (fun hc5 hF => ?_)
            · skip
              refine AWP.seqR rfl ?_
              refine ASL.q (v := (.int .i64 2)) rfl rfl (Light.quiet (opAssign rfl rfl)) ?_
              refine ASL.done ?_
              refine AWP.ret ?_
              refine QBlock.ret ?_
              refine QThen.rt ?_
              obtain rfl := hF
              exact QRet.sole (v := (.int .i64 2)) ⟨rfl, trivial⟩ rfl
            · skip
              refine AWP.skip ?_
              refine QBlock.nrm ?_
              refine QThen.nrm ?_
              refine AWP.seqR rfl ?_
              refine ASL.q (v := (.int .i64 (-1))) rfl rfl (Light.quiet (opAssign rfl rfl)) ?_
              refine ASL.done ?_
              refine AWP.ret ?_
              obtain rfl := hF
              exact QRet.sole (v := (.int .i64 (-1))) ⟨rfl, trivial⟩ rfl
          · skip
            refine AWP.lastR rfl ?_
            refine ASL.q (v := (.bool (decide (p0.kind = 6)))) rfl rfl (Light.quiet (opInt rfl rfl rfl rfl)) ?_
            refine ASL.q (v := (.bool (decide (p0.kind = 6)))) rfl rfl (Light.quiet (opAssign rfl rfl)) ?_
            refine ASL.done ?_
            refine QThen.nrm ?_
            refine AWP.ifP hF rfl (fun hc6 hF => ?_) (fun hc6 hF => ?_)
            · skip
              refine AWP.seqR rfl ?_
              refine ASL.q (v := (.int .i64 2)) rfl rfl (Light.quiet (opAssign rfl rfl)) ?_
              refine ASL.done ?_
              refine AWP.ret ?_
              refine QBlock.ret ?_
              refine QThen.rt ?_
              obtain rfl := hF
              exact QRet.sole (v := (.int .i64 2)) ⟨rfl, trivial⟩ rfl
            · skip
              refine AWP.skip ?_
              refine QBlock.nrm ?_
              refine QThen.nrm ?_
              refine AWP.seqR rfl ?_
              refine ASL.q (v := (.int .i64 (-1))) rfl rfl (Light.quiet (opAssign rfl rfl)) ?_
              refine ASL.done ?_
              refine AWP.ret ?_
              obtain rfl := hF
              exact QRet.sole (v := (.int .i64 (-1))) ⟨rfl, trivial⟩ rfl
  · skip
    refine AWP.seqR rfl ?_
    refine ASL.q (v := (.bool (decide (p0.kind = 1)))) rfl rfl (Light.quiet (opInt rfl rfl rfl rfl)) ?_
    refine ASL.q (v := (.bool (decide (p0.kind = 1)))) rfl rfl (Light.quiet (opAssign rfl rfl)) ?_
    refine ASL.done ?_
    refine AWP.ifP hF rfl (fun hc8 hF => ?_) (fun hc8 hF => ?_)
    · skip
      refine AWP.skip ?_
      refine QThen.nrm ?_
      exact ⟨(decide (p0.kind = 1)), ⟨rfl, rfl, rfl, trivial⟩, (hS.pick [] rfl rfl), hF⟩
    · skip
      refine AWP.lastR rfl ?_
      refine ASL.q (v := (.bool (decide (p0.kind = 2)))) rfl rfl (Light.quiet (opInt rfl rfl rfl rfl)) ?_
      refine ASL.q (v := (.bool (decide (p0.kind = 2)))) rfl rfl (Light.quiet (opAssign rfl rfl)) ?_
      refine ASL.done ?_
      refine QThen.nrm ?_
      exact ⟨(decide (p0.kind = 2)), ⟨rfl, rfl, rfl, trivial⟩, (hS.pick [] rfl rfl), hF⟩

set_option maxRecDepth 10000 in
theorem impl_ReOk_ok {p0 : (List TNode)} {r : Bool} (hF : impl_ReOk p0 = some r) : PC Try.prog 55 [(.list 3 (List.map TNode.av p0))] fun v => v = (.bool r) := by
  refine PC.enter Try.func55 rfl Try.ntmps55 (by simp) ?_
  have hS := Sep.void; unfold impl_ReOk at hF
  refine AWP.seqR rfl ?_
  refine ASL.q (v := (.bool false)) rfl rfl (Light.quiet (opAssign rfl rfl)) ?_
  refine ASL.done ?_
  refine AWP.seqR rfl ?_
  refine ASL.q (v := (.list 3 (List.map TNode.av p0))) rfl rfl (Light.quiet (opMove rfl rfl)) ?_
  obtain ⟨a4, ha4, hF⟩ := bindE hF
  refine ASL.q (v := (.bool a4)) rfl rfl ((qCall rfl rfl call_76 (impl_isTree_ok call_93 (fun q0 y h => by obtain rfl := someE h; exact impl_reParts_ok q0) ha4) rfl)) ?_
  refine ASL.q (v := (.bool a4)) rfl rfl (Light.quiet (opAssign rfl rfl)) ?_
  refine ASL.done ?_
  refine AWP.ret ?_
  obtain rfl := someE hF
  exact QRet.sole (v := (.bool a4)) ⟨rfl, trivial⟩ rfl

set_option maxRecDepth 10000 in
theorem impl_only_ok (p0 : Int) : PC Try.prog 39 [(.int .i64 p0)] fun v => v = (.int .i64 (impl_only p0)) := by
  generalize hF : impl_only p0 = r
  refine PC.enter Try.func39 rfl Try.ntmps39 (by simp) ?_
  have hS := Sep.void; unfold impl_only at hF
  refine AWP.seqR rfl ?_
  refine ASL.q (v := (.int .i64 0)) rfl rfl (Light.quiet (opAssign rfl rfl)) ?_
  refine ASL.done ?_
  refine AWP.seqR rfl ?_
  refine ASL.q (v := (.int .i64 p0)) rfl rfl (Light.quiet (opMove rfl rfl)) ?_
  refine ASL.q (v := (.int .u64 (IntKind.u64.wrap p0))) rfl rfl (Light.quiet (opConv rfl rfl und_3 und_93 rfl)) ?_
  refine ASL.q (v := (.int .i64 (shl .i64 1 ((IntKind.u64.wrap p0))))) rfl rfl (Light.quiet (opShl rfl rfl rfl (wrapU_nn rfl _) rfl)) ?_
  refine ASL.q (v := (.int .i64 (shl .i64 1 ((IntKind.u64.wrap p0))))) rfl rfl (Light.quiet (opAssign rfl rfl)) ?_
  refine ASL.done ?_
  refine AWP.ret ?_
  obtain rfl := hF
  exact QRet.sole (v := (.int .i64 (shl .i64 1 ((IntKind.u64.wrap p0))))) ⟨rfl, trivial⟩ rfl

set_option maxRecDepth 10000 in
theorem impl_has_ok (p0 : Int) (p1 : Int) : PC Try.prog 81 [(.int .i64 p0), (.int .i64 p1)] fun v => v = (.bool (impl_has p0 p1)) := by
  generalize hF : impl_has p0 p1 = r
  refine PC.enter Try.func81 rfl Try.ntmps81 (by simp) ?_
  have hS := Sep.void; unfold impl_has at hF
  refine AWP.seqR rfl ?_
  refine ASL.q (v := (.bool false)) rfl rfl (Light.quiet (opAssign rfl rfl)) ?_
  refine ASL.done ?_
  refine AWP.seqR rfl ?_
  refine ASL.q (v := (.int .i64 p0)) rfl rfl (Light.quiet (opMove rfl rfl)) ?_
  refine ASL.q (v := (.int .i64 p1)) rfl rfl (Light.quiet (opMove rfl rfl)) ?_
  refine ASL.q (v := (.int .u64 (IntKind.u64.wrap p1))) rfl rfl (Light.quiet (opConv rfl rfl und_3 und_93 rfl)) ?_
  refine ASL.q (v := (.int .i64 (shr .i64 p0 ((IntKind.u64.wrap p1))))) rfl rfl (Light.quiet (opShr rfl rfl rfl (wrapU_nn rfl _) rfl)) ?_
  refine ASL.q (v := (.int .i64 (bAnd .i64 ((shr .i64 p0 ((IntKind.u64.wrap p1)))) 1))) rfl rfl (Light.quiet (opInt rfl rfl rfl rfl)) ?_
  refine ASL.q (v := (.bool (decide (((bAnd .i64 ((shr .i64 p0 ((IntKind.u64.wrap p1)))) 1)) = 1)))) rfl rfl (Light.quiet (opInt rfl rfl rfl rfl)) ?_
  refine ASL.q (v := (.bool (decide (((bAnd .i64 ((shr .i64 p0 ((IntKind.u64.wrap p1)))) 1)) = 1)))) rfl rfl (Light.quiet (opAssign rfl rfl)) ?_
  refine ASL.done ?_
  refine AWP.ret ?_
  obtain rfl := hF
  exact QRet.sole (v := (.bool (decide (((bAnd .i64 ((shr .i64 p0 ((IntKind.u64.wrap p1)))) 1)) = 1)))) ⟨rfl, trivial⟩ rfl

set_option maxRecDepth 10000 in
theorem impl_glance_follow_ok {p0 : Tglance} {p1 : Int} {p2 : Int} {r : Tglance} {bp0 : Nat} (hF : impl_glance_follow p0 p1 p2 = some r) : HS Try.prog 123 [(.ptr bp0 0), (.int .i64 p1), (.int .i64 p2)] [.cell bp0 [(.bool p0.null), (.int .i64 p0.first), (.int .i64 p0.last), (.int .i64 (p0.behind 0)), (.int .i64 (p0.behind 1)), (.int .i64 (p0.behind 2)), (.int .i64 (p0.behind 3)), (.int .i64 (p0.behind 4)), (.int .i64 (p0.behind 5)), (.int .i64 (p0.behind 6)), (.int .i64 (p0.behind 7)), (.int .i64 (p0.behind 8)), (.int .i64 (p0.behind 9)), (.int .i64 (p0.behind 10)), (.int .i64 (p0.behind 11)), (.int .i64 (p0.behind 12)), (.int .i64 (p0.behind 13)), (.int .i64 (p0.behind 14)), (.int .i64 (p0.behind 15)), (.int .i64 (p0.behind 16)), (.int .i64 (p0.behind 17)), (.int .i64 (p0.behind 18)), (.int .i64 (p0.behind 19)), (.int .i64 (p0.behind 20)), (.int .i64 (p0.behind 21)), (.int .i64 (p0.behind 22)), (.int .i64 (p0.behind 23)), (.int .i64 (p0.behind 24)), (.int .i64 (p0.behind 25)), (.int .i64 (p0.behind 26)), (.int .i64 (p0.behind 27)), (.int .i64 (p0.behind 28)), (.int .i64 (p0.behind 29)), (.int .i64 (p0.behind 30)), (.int .i64 (p0.behind 31))]] fun v L' => v = .tup [] ∧ L' = [.cell bp0 [(.bool r.null), (.int .i64 r.first), (.int .i64 r.last), (.int .i64 (r.behind 0)), (.int .i64 (r.behind 1)), (.int .i64 (r.behind 2)), (.int .i64 (r.behind 3)), (.int .i64 (r.behind 4)), (.int .i64 (r.behind 5)), (.int .i64 (r.behind 6)), (.int .i64 (r.behind 7)), (.int .i64 (r.behind 8)), (.int .i64 (r.behind 9)), (.int .i64 (r.behind 10)), (.int .i64 (r.behind 11)), (.int .i64 (r.behind 12)), (.int .i64 (r.behind 13)), (.int .i64 (r.behind 14)), (.int .i64 (r.behind 15)), (.int .i64 (r.behind 16)), (.int .i64 (r.behind 17)), (.int .i64 (r.behind 18)), (.int .i64 (r.behind 19)), (.int .i64 (r.behind 20)), (.int .i64 (r.behind 21)), (.int .i64 (r.behind 22)), (.int .i64 (r.behind 23)), (.int .i64 (r.behind 24)), (.int .i64 (r.behind 25)), (.int .i64 (r.behind 26)), (.int .i64 (r.behind 27)), (.int .i64 (r.behind 28)), (.int .i64 (r.behind 29)), (.int .i64 (r.behind 30)), (.int .i64 (r.behind 31))]] := by
  intro H S hS
  refine HC.enter Try.func123 rfl Try.ntmps123 (by simp) ?_
  simp only [List.cons_append, List.nil_append] at hS
  unfold impl_glance_follow at hF
  refine AWP.seqR rfl ?_
  refine ASL.q (v := (.int .i64 0)) rfl rfl (Light.quiet (opMove rfl rfl)) ?_
  refine ASL.done ?_
  refine AWP.block ?_
  obtain ⟨o9, hL8, hR10⟩ := bindE hF
  refine AWP.loopF (ω := Unit) hL8 (fun s w => [(0, (.ptr bp0 0)), (1, (.int .i64 p1)), (2, (.int .i64 p2)), (7, (.int .i64 s.2.2.2.2))]) (fun s w => [.cell bp0 [(.bool s.1), (.int .i64 s.2.1), (.int .i64 s.2.2.1), (.int .i64 (s.2.2.2.1 0)), (.int .i64 (s.2.2.2.1 1)), (.int .i64 (s.2.2.2.1 2)), (.int .i64 (s.2.2.2.1 3)), (.int .i64 (s.2.2.2.1 4)), (.int .i64 (s.2.2.2.1 5)), (.int .i64 (s.2.2.2.1 6)), (.int .i64 (s.2.2.2.1 7)), (.int .i64 (s.2.2.2.1 8)), (.int .i64 (s.2.2.2.1 9)), (.int .i64 (s.2.2.2.1 10)), (.int .i64 (s.2.2.2.1 11)), (.int .i64 (s.2.2.2.1 12)), (.int .i64 (s.2.2.2.1 13)), (.int .i64 (s.2.2.2.1 14)), (.int .i64 (s.2.2.2.1 15)), (.int .i64 (s.2.2.2.1 16)), (.int .i64 (s.2.2.2.1 17)), (.int .i64 (s.2.2.2.1 18)), (.int .i64 (s.2.2.2.1 19)), (.int .i64 (s.2.2.2.1 20)), (.int .i64 (s.2.2.2.1 21)), (.int .i64 (s.2.2.2.1 22)), (.int .i64 (s.2.2.2.1 23)), (.int .i64 (s.2.2.2.1 24)), (.int .i64 (s.2.2.2.1 25)), (.int .i64 (s.2.2.2.1 26)), (.int .i64 (s.2.2.2.1 27)), (.int .i64 (s.2.2.2.1 28)), (.int .i64 (s.2.2.2.1 29)), (.int .i64 (s.2.2.2.1 30)), (.int .i64 (s.2.2.2.1 31))], .snap S]) () ⟨rfl, rfl, rfl, rfl, trivial⟩ (hS.pick [0, 1] rfl rfl) ?_
  rintro ⟨y2, y3, y4, y5, x7_l0⟩ _ G11 hS x6 hF hx7
  try dsimp only at hS ⊢
  have hF : impl_glance_follow.b0 p1 p2 y2 y3 y4 y5 x7_l0 = some x6 := hF; unfold impl_glance_follow.b0 at hF
  refine AWP.seqR rfl ?_
  refine ASL.q (v := (.bool (decide (x7_l0 < 32)))) rfl rfl (Light.quiet (opInt rfl rfl rfl rfl)) ?_
  refine ASL.done ?_
  refine AWP.seq ?_
  refine AWP.ifP hF rfl (fun hc12 hF => ?_) (fun hc12 hF => ?_)
  · skip
    refine AWP.skip ?_
    refine QThen.nrm ?_
    refine AWP.seq ?_
    refine AWP.block ?_
    refine AWP.seqR rfl ?_
    refine ASL.q (v := (.int .i64 x7_l0)) rfl rfl (Light.quiet (opMove rfl rfl)) ?_
    refine ASL.q (v := (.int .i64 x7_l0)) rfl rfl (Light.quiet (opAssign rfl rfl)) ?_
    refine ASL.done ?_
    refine AWP.seqR rfl ?_
    refine ASL.q (v := (.int .i64 p1)) rfl rfl (Light.quiet (opMove rfl rfl)) ?_
    refine ASL.q (v := (.int .i64 x7_l0)) rfl rfl (Light.quiet (opMove rfl rfl)) ?_
    refine ASL.q (v := (.bool (impl_has p1 x7_l0))) rfl rfl ((qCall rfl rfl call_81 (impl_has_ok p1 x7_l0) rfl)) ?_
    refine ASL.done ?_
    refine AWP.ifB hF rfl (fun hc13 hF => ?_) (fun hc13 hF => ?_)
    · skip
      refine AWP.lastD [(0, false), (1, false), (2, false), (3, false), (4, false), (5, false), (6, false), (7, false), (8, false), (9, false), (10, false), (11, true)] mixed (by kernel_rfl) rfl ?_
      refine ARL.q0 (v := (.ptr bp0 0)) rfl rfl (Light.quiet (opMove rfl rfl)) ?_
      refine ARL.q0 (v := (.int .i64 x7_l0)) rfl rfl (Light.quiet (opMove rfl rfl)) ?_
      refine ARL.q0 (v := (.ptr bp0 0)) rfl rfl (Light.quiet (opNil rfl rfl rfl)) ?_
      refine ARL.q0 (v := (.ptr bp0 3)) rfl rfl (Light.quiet (opFieldAddr rfl fieldA_111_3 rfl rfl)) ?_
      obtain ⟨m17, hm17, hF⟩ := bindE hF
      refine ARL.q0 (v := (.ptr bp0 (3 + m17))) rfl rfl (Light.quiet (opIndexArr rfl rfl rfl arrA_109 hm17)) ?_
      refine ARL.q (v := (.int .i64 (y5 m17))) rfl rfl (hS.aliveC (k := 0) rfl) (Light.quiet (kAtArr (E := y5) (pre := [(.bool y2), (.int .i64 y3), (.int .i64 y4)]) (n := 32) hS (j := 0) rfl rfl rfl aggA_3 rfl hm17)) ?_
      refine ARL.q0 (v := (.int .i64 p2)) rfl rfl (Light.quiet (opMove rfl rfl)) ?_
      refine ARL.q0 (v := (.int .i64 (bOr .i64 ((y5 m17)) p2))) rfl rfl (Light.quiet (opInt rfl rfl rfl rfl)) ?_
      refine ARL.q0 (v := (.ptr bp0 0)) rfl rfl (Light.quiet (opNil rfl rfl rfl)) ?_
      refine ARL.q0 (v := (.ptr bp0 3)) rfl rfl (Light.quiet (opFieldAddr rfl fieldA_111_3 rfl rfl)) ?_
      obtain ⟨m23, hm23, hF⟩ := bindE hF
      refine ARL.q0 (v := (.ptr bp0 (3 + m23))) rfl rfl (Light.quiet (opIndexArr rfl rfl rfl arrA_109 hm23)) ?_
      refine ARL.n rfl rfl rfl rfl (hPutArr (E := y5) (pre := [(.bool y2), (.int .i64 y3), (.int .i64 y4)]) (n := 32) hS (j := 0) rfl rfl rfl sizeA_3 rfl hm23 rfl ?_); rintro G14 hS
      have hS : Sep G14 [.cell bp0 [(.bool y2), (.int .i64 y3), (.int .i64 y4), (.int .i64 ((upA y5 m23 ((bOr .i64 ((y5 m17)) p2))) 0)), (.int .i64 ((upA y5 m23 ((bOr .i64 ((y5 m17)) p2))) 1)), (.int .i64 ((upA y5 m23 ((bOr .i64 ((y5 m17)) p2))) 2)), (.int .i64 ((upA y5 m23 ((bOr .i64 ((y5 m17)) p2))) 3)), (.int .i64 ((upA y5 m23 ((bOr .i64 ((y5 m17)) p2))) 4)), (.int .i64 ((upA y5 m23 ((bOr .i64 ((y5 m17)) p2))) 5)), (.int .i64 ((upA y5 m23 ((bOr .i64 ((y5 m17)) p2))) 6)), (.int .i64 ((upA y5 m23 ((bOr .i64 ((y5 m17)) p2))) 7)), (.int .i64 ((upA y5 m23 ((bOr .i64 ((y5 m17)) p2))) 8)), (.int .i64 ((upA y5 m23 ((bOr .i64 ((y5 m17)) p2))) 9)), (.int .i64 ((upA y5 m23 ((bOr .i64 ((y5 m17)) p2))) 10)), (.int .i64 ((upA y5 m23 ((bOr .i64 ((y5 m17)) p2))) 11)), (.int .i64 ((upA y5 m23 ((bOr .i64 ((y5 m17)) p2))) 12)), (.int .i64 ((upA y5 m23 ((bOr .i64 ((y5 m17)) p2))) 13)), (.int .i64 ((upA y5 m23 ((bOr .i64 ((y5 m17)) p2))) 14)), (.int .i64 ((upA y5 m23 ((bOr .i64 ((y5 m17)) p2))) 15)), (.int .i64 ((upA y5 m23 ((bOr .i64 ((y5 m17)) p2))) 16)), (.int .i64 ((upA y5 m23 ((bOr .i64 ((y5 m17)) p2))) 17)), (.int .i64 ((upA y5 m23 ((bOr .i64 ((y5 m17)) p2))) 18)), (.int .i64 ((upA y5 m23 ((bOr .i64 ((y5 m17)) p2))) 19)), (.int .i64 ((upA y5 m23 ((bOr .i64 ((y5 m17)) p2))) 20)), (.int .i64 ((upA y5 m23 ((bOr .i64 ((y5 m17)) p2))) 21)), (.int .i64 ((upA y5 m23 ((bOr .i64 ((y5 m17)) p2))) 22)), (.int .i64 ((upA y5 m23 ((bOr .i64 ((y5 m17)) p2))) 23)), (.int .i64 ((upA y5 m23 ((bOr .i64 ((y5 m17)) p2))) 24)), (.int .i64 ((upA y5 m23 ((bOr .i64 ((y5 m17)) p2))) 25)), (.int .i64 ((upA y5 m23 ((bOr .i64 ((y5 m17)) p2))) 26)), (.int .i64 ((upA y5 m23 ((bOr .i64 ((y5 m17)) p2))) 27)), (.int .i64 ((upA y5 m23 ((bOr .i64 ((y5 m17)) p2))) 28)), (.int .i64 ((upA y5 m23 ((bOr .i64 ((y5 m17)) p2))) 29)), (.int .i64 ((upA y5 m23 ((bOr .i64 ((y5 m17)) p2))) 30)), (.int .i64 ((upA y5 m23 ((bOr .i64 ((y5 m17)) p2))) 31))], .snap S] := hS
      refine ARL.done ?_
      refine QBlock.nrm ?_
      refine QThen.nrm ?_
      refine AWP.lastR rfl ?_
      refine ASL.q (v := (.int .i64 (W (x7_l0 + 1)))) rfl rfl (Light.quiet (opInt rfl rfl rfl rfl)) ?_
      refine ASL.q (v := (.int .i64 (W (x7_l0 + 1)))) rfl rfl (Light.quiet (opMove rfl rfl)) ?_
      refine ASL.done ?_
      refine QThen.nrm ?_
      exact ⟨(y2, y3, y4, (upA y5 m23 ((bOr .i64 ((y5 m17)) p2))), (W (x7_l0 + 1))), (), (someE hF).symm, ⟨rfl, rfl, rfl, rfl, trivial⟩, (hS.pick [0, 1] rfl rfl)⟩
    · skip
      refine AWP.skip ?_
      refine QBlock.nrm ?_
      refine QThen.nrm ?_
      refine AWP.lastR rfl ?_
      refine ASL.q (v := (.int .i64 (W (x7_l0 + 1)))) rfl rfl (Light.quiet (opInt rfl rfl rfl rfl)) ?_
      refine ASL.q (v := (.int .i64 (W (x7_l0 + 1)))) rfl rfl (Light.quiet (opMove rfl rfl)) ?_
      refine ASL.done ?_
      refine QThen.nrm ?_
      exact ⟨(y2, y3, y4, y5, (W (x7_l0 + 1))), (), (someE hF).symm, ⟨rfl, rfl, rfl, rfl, trivial⟩, (hS.pick [0, 1] rfl rfl)⟩
  · skip
    refine AWP.exit ?_
    refine QThen.ext ?_
    refine QThen.ext ?_
    refine QBlock.hit ?_
    obtain rfl := (hx7 _ (someE hF).symm)
    have hF := hR10
    refine QRet.end ?_
    obtain rfl := someE hF
    exact QRet.many (vs := []) trivial (by simp) ⟨_, ⟨rfl, rfl⟩, hS.pick [0, 1] rfl rfl⟩

set_option maxHeartbeats 400000 in
set_option maxRecDepth 10000 in
theorem impl_catOf_ok {p0 : Tglance} {p1 : Tglance} {r : Tglance} (hF : impl_catOf p0 p1 = some r) : PC Try.prog 124 [(Tglance.av p0), (Tglance.av p1)] fun v => v = (Tglance.av r) := by
  refine PC.enter Try.func124 rfl Try.ntmps124 (by simp) ?_
  have hS := Sep.void; unfold impl_catOf at hF
  refine AWP.seqR rfl ?_
  refine ASL.q (v := (.rptr [(.bool p0.null), (.int .i64 p0.first), (.int .i64 p0.last), (.int .i64 (p0.behind 0)), (.int .i64 (p0.behind 1)), (.int .i64 (p0.behind 2)), (.int .i64 (p0.behind 3)), (.int .i64 (p0.behind 4)), (.int .i64 (p0.behind 5)), (.int .i64 (p0.behind 6)), (.int .i64 (p0.behind 7)), (.int .i64 (p0.behind 8)), (.int .i64 (p0.behind 9)), (.int .i64 (p0.behind 10)), (.int .i64 (p0.behind 11)), (.int .i64 (p0.behind 12)), (.int .i64 (p0.behind 13)), (.int .i64 (p0.behind 14)), (.int .i64 (p0.behind 15)), (.int .i64 (p0.behind 16)), (.int .i64 (p0.behind 17)), (.int .i64 (p0.behind 18)), (.int .i64 (p0.behind 19)), (.int .i64 (p0.behind 20)), (.int .i64 (p0.behind 21)), (.int .i64 (p0.behind 22)), (.int .i64 (p0.behind 23)), (.int .i64 (p0.behind 24)), (.int .i64 (p0.behind 25)), (.int .i64 (p0.behind 26)), (.int .i64 (p0.behind 27)), (.int .i64 (p0.behind 28)), (.int .i64 (p0.behind 29)), (.int .i64 (p0.behind 30)), (.int .i64 (p0.behind 31))])) rfl rfl ((qBoxI (v := (Tglance.av p0)) rfl rfl rfl rfl)) ?_
  refine ASL.q (v := (.rptr [(.bool p1.null), (.int .i64 p1.first), (.int .i64 p1.last), (.int .i64 (p1.behind 0)), (.int .i64 (p1.behind 1)), (.int .i64 (p1.behind 2)), (.int .i64 (p1.behind 3)), (.int .i64 (p1.behind 4)), (.int .i64 (p1.behind 5)), (.int .i64 (p1.behind 6)), (.int .i64 (p1.behind 7)), (.int .i64 (p1.behind 8)), (.int .i64 (p1.behind 9)), (.int .i64 (p1.behind 10)), (.int .i64 (p1.behind 11)), (.int .i64 (p1.behind 12)), (.int .i64 (p1.behind 13)), (.int .i64 (p1.behind 14)), (.int .i64 (p1.behind 15)), (.int .i64 (p1.behind 16)), (.int .i64 (p1.behind 17)), (.int .i64 (p1.behind 18)), (.int .i64 (p1.behind 19)), (.int .i64 (p1.behind 20)), (.int .i64 (p1.behind 21)), (.int .i64 (p1.behind 22)), (.int .i64 (p1.behind 23)), (.int .i64 (p1.behind 24)), (.int .i64 (p1.behind 25)), (.int .i64 (p1.behind 26)), (.int .i64 (p1.behind 27)), (.int .i64 (p1.behind 28)), (.int .i64 (p1.behind 29)), (.int .i64 (p1.behind 30)), (.int .i64 (p1.behind 31))])) rfl rfl ((qBoxI (v := (Tglance.av p1)) rfl rfl rfl rfl)) ?_
  refine ASL.x rfl rfl (hNewZ hS [(.bool false), (.int .i64 0), (.int .i64 0), (.int .i64 0), (.int .i64 0), (.int .i64 0), (.int .i64 0), (.int .i64 0), (.int .i64 0), (.int .i64 0), (.int .i64 0), (.int .i64 0), (.int .i64 0), (.int .i64 0), (.int .i64 0), (.int .i64 0), (.int .i64 0), (.int .i64 0), (.int .i64 0), (.int .i64 0), (.int .i64 0), (.int .i64 0), (.int .i64 0), (.int .i64 0), (.int .i64 0), (.int .i64 0), (.int .i64 0), (.int .i64 0), (.int .i64 0), (.int .i64 0), (.int .i64 0), (.int .i64 0), (.int .i64 0), (.int .i64 0), (.int .i64 0)] rfl zeroA_111 ⟨.inl rfl, .inl rfl, .inl rfl, .inl rfl, .inl rfl, .inl rfl, .inl rfl, .inl rfl, .inl rfl, .inl rfl, .inl rfl, .inl rfl, .inl rfl, .inl rfl, .inl rfl, .inl rfl, .inl rfl, .inl rfl, .inl rfl, .inl rfl, .inl rfl, .inl rfl, .inl rfl, .inl rfl, .inl rfl, .inl rfl, .inl rfl, .inl rfl, .inl rfl, .inl rfl, .inl rfl, .inl rfl, .inl rfl, .inl rfl, .inl rfl, trivial⟩ ?_); rintro b4 G1 hK hS
  refine ASL.done ?_
  refine AWP.seqR rfl ?_
  refine ASL.q (v := (.rptr [(.bool p0.null), (.int .i64 p0.first), (.int .i64 p0.last), (.int .i64 (p0.behind 0)), (.int .i64 (p0.behind 1)), (.int .i64 (p0.behind 2)), (.int .i64 (p0.behind 3)), (.int .i64 (p0.behind 4)), (.int .i64 (p0.behind 5)), (.int .i64 (p0.behind 6)), (.int .i64 (p0.behind 7)), (.int .i64 (p0.behind 8)), (.int .i64 (p0.behind 9)), (.int .i64 (p0.behind 10)), (.int .i64 (p0.behind 11)), (.int .i64 (p0.behind 12)), (.int .i64 (p0.behind 13)), (.int .i64 (p0.behind 14)), (.int .i64 (p0.behind 15)), (.int .i64 (p0.behind 16)), (.int .i64 (p0.behind 17)), (.int .i64 (p0.behind 18)), (.int .i64 (p0.behind 19)), (.int .i64 (p0.behind 20)), (.int .i64 (p0.behind 21)), (.int .i64 (p0.behind 22)), (.int .i64 (p0.behind 23)), (.int .i64 (p0.behind 24)), (.int .i64 (p0.behind 25)), (.int .i64 (p0.behind 26)), (.int .i64 (p0.behind 27)), (.int .i64 (p0.behind 28)), (.int .i64 (p0.behind 29)), (.int .i64 (p0.behind 30)), (.int .i64 (p0.behind 31))])) rfl rfl (Light.quiet (opFieldAddrR rfl fieldA_111_0 rfl rfl)) ?_
  refine ASL.q (v := (.bool p0.null)) rfl rfl (Light.quiet (opLoadR rfl aggA_4 rfl rfl)) ?_
  obtain ⟨c9, hc9, hF⟩ := bndE hF
  refine ASL.q (v := (.bool c9)) rfl rfl ((Quiet.cast (Light.quiet (opMove rfl rfl)) (congrArg AV.bool hc9.symm))) ?_
  refine ASL.g (v := (.rptr [(.bool p1.null), (.int .i64 p1.first), (.int .i64 p1.last), (.int .i64 (p1.behind 0)), (.int .i64 (p1.behind 1)), (.int .i64 (p1.behind 2)), (.int .i64 (p1.behind 3)), (.int .i64 (p1.behind 4)), (.int .i64 (p1.behind 5)), (.int .i64 (p1.behind 6)), (.int .i64 (p1.behind 7)), (.int .i64 (p1.behind 8)), (.int .i64 (p1.behind 9)), (.int .i64 (p1.behind 10)), (.int .i64 (p1.behind 11)), (.int .i64 (p1.behind 12)), (.int .i64 (p1.behind 13)), (.int .i64 (p1.behind 14)), (.int .i64 (p1.behind 15)), (.int .i64 (p1.behind 16)), (.int .i64 (p1.behind 17)), (.int .i64 (p1.behind 18)), (.int .i64 (p1.behind 19)), (.int .i64 (p1.behind 20)), (.int .i64 (p1.behind 21)), (.int .i64 (p1.behind 22)), (.int .i64 (p1.behind 23)), (.int .i64 (p1.behind 24)), (.int .i64 (p1.behind 25)), (.int .i64 (p1.behind 26)), (.int .i64 (p1.behind 27)), (.int .i64 (p1.behind 28)), (.int .i64 (p1.behind 29)), (.int .i64 (p1.behind 30)), (.int .i64 (p1.behind 31))])) (.bool c9) true rfl (wT _) rfl (fun hG => by have q0 := hG; subst q0; exact Light.quiet (opFieldAddrR rfl fieldA_111_0 rfl rfl)) ?_
  refine ASL.g (v := (.bool p1.null)) (.bool c9) true rfl (wT _) rfl (fun hG => by have q0 := hG; subst q0; exact Light.quiet (opLoadR rfl aggA_4 rfl rfl)) ?_
  refine ASL.q (v := (.bool (c9 && p1.null))) rfl rfl (Light.quiet (opPick (b := c9) rfl rfl (by cases c9 <;> rfl))) ?_
  refine ASL.q (v := (.rptr [(.int .i64 p0.first), (.int .i64 p0.last), (.int .i64 (p0.behind 0)), (.int .i64 (p0.behind 1)), (.int .i64 (p0.behind 2)), (.int .i64 (p0.behind 3)), (.int .i64 (p0.behind 4)), (.int .i64 (p0.behind 5)), (.int .i64 (p0.behind 6)), (.int .i64 (p0.behind 7)), (.int .i64 (p0.behind 8)), (.int .i64 (p0.behind 9)), (.int .i64 (p0.behind 10)), (.int .i64 (p0.behind 11)), (.int .i64 (p0.behind 12)), (.int .i64 (p0.behind 13)), (.int .i64 (p0.behind 14)), (.int .i64 (p0.behind 15)), (.int .i64 (p0.behind 16)), (.int .i64 (p0.behind 17)), (.int .i64 (p0.behind 18)), (.int .i64 (p0.behind 19)), (.int .i64 (p0.behind 20)), (.int .i64 (p0.behind 21)), (.int .i64 (p0.behind 22)), (.int .i64 (p0.behind 23)), (.int .i64 (p0.behind 24)), (.int .i64 (p0.behind 25)), (.int .i64 (p0.behind 26)), (.int .i64 (p0.behind 27)), (.int .i64 (p0.behind 28)), (.int .i64 (p0.behind 29)), (.int .i64 (p0.behind 30)), (.int .i64 (p0.behind 31))])) rfl rfl (Light.quiet (opFieldAddrR rfl fieldA_111_1 rfl rfl)) ?_
  refine ASL.q (v := (.int .i64 p0.first)) rfl rfl (Light.quiet (opLoadR rfl aggA_3 rfl rfl)) ?_
  refine ASL.q (v := (.rptr [(.int .i64 p1.last), (.int .i64 (p1.behind 0)), (.int .i64 (p1.behind 1)), (.int .i64 (p1.behind 2)), (.int .i64 (p1.behind 3)), (.int .i64 (p1.behind 4)), (.int .i64 (p1.behind 5)), (.int .i64 (p1.behind 6)), (.int .i64 (p1.behind 7)), (.int .i64 (p1.behind 8)), (.int .i64 (p1.behind 9)), (.int .i64 (p1.behind 10)), (.int .i64 (p1.behind 11)), (.int .i64 (p1.behind 12)), (.int .i64 (p1.behind 13)), (.int .i64 (p1.behind 14)), (.int .i64 (p1.behind 15)), (.int .i64 (p1.behind 16)), (.int .i64 (p1.behind 17)), (.int .i64 (p1.behind 18)), (.int .i64 (p1.behind 19)), (.int .i64 (p1.behind 20)), (.int .i64 (p1.behind 21)), (.int .i64 (p1.behind 22)), (.int .i64 (p1.behind 23)), (.int .i64 (p1.behind 24)), (.int .i64 (p1.behind 25)), (.int .i64 (p1.behind 26)), (.int .i64 (p1.behind 27)), (.int .i64 (p1.behind 28)), (.int .i64 (p1.behind 29)), (.int .i64 (p1.behind 30)), (.int .i64 (p1.behind 31))])) rfl rfl (Light.quiet (opFieldAddrR rfl fieldA_111_2 rfl rfl)) ?_
  refine ASL.q (v := (.int .i64 p1.last)) rfl rfl (Light.quiet (opLoadR rfl aggA_3 rfl rfl)) ?_
  refine ASL.q (v := (.agg [(.bool (c9 && p1.null)), (.int .i64 p0.first), (.int .i64 p1.last), (.int .i64 0), (.int .i64 0), (.int .i64 0), (.int .i64 0), (.int .i64 0), (.int .i64 0), (.int .i64 0), (.int .i64 0), (.int .i64 0), (.int .i64 0), (.int .i64 0), (.int .i64 0), (.int .i64 0), (.int .i64 0), (.int .i64 0), (.int .i64 0), (.int .i64 0), (.int .i64 0), (.int .i64 0), (.int .i64 0), (.int .i64 0), (.int .i64 0), (.int .i64 0), (.int .i64 0), (.int .i64 0), (.int .i64 0), (.int .i64 0), (.int .i64 0), (.int .i64 0), (.int .i64 0), (.int .i64 0), (.int .i64 0)])) rfl rfl (Light.quiet (opBuildZ (zs := [(.bool false), (.int .i64 0), (.int .i64 0), (.int .i64 0), (.int .i64 0), (.int .i64 0), (.int .i64 0), (.int .i64 0), (.int .i64 0), (.int .i64 0), (.int .i64 0), (.int .i64 0), (.int .i64 0), (.int .i64 0), (.int .i64 0), (.int .i64 0), (.int .i64 0), (.int .i64 0), (.int .i64 0), (.int .i64 0), (.int .i64 0), (.int .i64 0), (.int .i64 0), (.int .i64 0), (.int .i64 0), (.int .i64 0), (.int .i64 0), (.int .i64 0), (.int .i64 0), (.int .i64 0), (.int .i64 0), (.int .i64 0), (.int .i64 0), (.int .i64 0), (.int .i64 0)]) rfl plan_111 zeroA_111 ⟨.inl rfl, .inl rfl, .inl rfl, .inl rfl, .inl rfl, .inl rfl, .inl rfl, .inl rfl, .inl rfl, .inl rfl, .inl rfl, .inl rfl, .inl rfl, .inl rfl, .inl rfl, .inl rfl, .inl rfl, .inl rfl, .inl rfl, .inl rfl, .inl rfl, .inl rfl, .inl rfl, .inl rfl, .inl rfl, .inl rfl, .inl rfl, .inl rfl, .inl rfl, .inl rfl, .inl rfl, .inl rfl, .inl rfl, .inl rfl, .inl rfl, trivial⟩ rfl)) ?_
  refine ASL.x rfl rfl (hNewZ hS [(.bool false), (.int .i64 0), (.int .i64 0), (.int .i64 0), (.int .i64 0), (.int .i64 0), (.int .i64 0), (.int .i64 0), (.int .i64 0), (.int .i64 0), (.int .i64 0), (.int .i64 0), (.int .i64 0), (.int .i64 0), (.int .i64 0), (.int .i64 0), (.int .i64 0), (.int .i64 0), (.int .i64 0), (.int .i64 0), (.int .i64 0), (.int .i64 0), (.int .i64 0), (.int .i64 0), (.int .i64 0), (.int .i64 0), (.int .i64 0), (.int .i64 0), (.int .i64 0), (.int .i64 0), (.int .i64 0), (.int .i64 0), (.int .i64 0), (.int .i64 0), (.int .i64 0)] rfl zeroA_111 ⟨.inl rfl, .inl rfl, .inl rfl, .inl rfl, .inl rfl, .inl rfl, .inl rfl, .inl rfl, .inl rfl, .inl rfl, .inl rfl, .inl rfl, .inl rfl, .inl rfl, .inl rfl, .inl rfl, .inl rfl, .inl rfl, .inl rfl, .inl rfl, .inl rfl, .inl rfl, .inl rfl, .inl rfl, .inl rfl, .inl rfl, .inl rfl, .inl rfl, .inl rfl, .inl rfl, .inl rfl, .inl rfl, .inl rfl, .inl rfl, .inl rfl, trivial⟩ ?_); rintro b5 G3 hK hS
  refine ASL.n rfl rfl (hPutAll (ys := [(.bool (c9 && p1.null)), (.int .i64 p0.first), (.int .i64 p1.last), (.int .i64 0), (.int .i64 0), (.int .i64 0), (.int .i64 0), (.int .i64 0), (.int .i64 0), (.int .i64 0), (.int .i64 0), (.int .i64 0), (.int .i64 0), (.int .i64 0), (.int .i64 0), (.int .i64 0), (.int .i64 0), (.int .i64 0), (.int .i64 0), (.int .i64 0), (.int .i64 0), (.int .i64 0), (.int .i64 0), (.int .i64 0), (.int .i64 0), (.int .i64 0), (.int .i64 0), (.int .i64 0), (.int .i64 0), (.int .i64 0), (.int .i64 0), (.int .i64 0), (.int .i64 0), (.int .i64 0), (.int .i64 0)]) hS (j := 0) rfl rfl sizeA_111 rfl rfl rfl rfl rfl rfl rfl (by decide) ?_); rintro G5 hS
  refine ASL.done ?_
  refine AWP.seqM (fun e H => ∃ y6 : Bool, ∃ y7 : Int, ∃ y8 : Int, ∃ y9 : (Nat → Int), E.Told e [(2, (.rptr [(.bool p0.null), (.int .i64 p0.first), (.int .i64 p0.last), (.int .i64 (p0.behind 0)), (.int .i64 (p0.behind 1)), (.int .i64 (p0.behind 2)), (.int .i64 (p0.behind 3)), (.int .i64 (p0.behind 4)), (.int .i64 (p0.behind 5)), (.int .i64 (p0.behind 6)), (.int .i64 (p0.behind 7)), (.int .i64 (p0.behind 8)), (.int .i64 (p0.behind 9)), (.int .i64 (p0.behind 10)), (.int .i64 (p0.behind 11)), (.int .i64 (p0.behind 12)), (.int .i64 (p0.behind 13)), (.int .i64 (p0.behind 14)), (.int .i64 (p0.behind 15)), (.int .i64 (p0.behind 16)), (.int .i64 (p0.behind 17)), (.int .i64 (p0.behind 18)), (.int .i64 (p0.behind 19)), (.int .i64 (p0.behind 20)), (.int .i64 (p0.behind 21)), (.int .i64 (p0.behind 22)), (.int .i64 (p0.behind 23)), (.int .i64 (p0.behind 24)), (.int .i64 (p0.behind 25)), (.int .i64 (p0.behind 26)), (.int .i64 (p0.behind 27)), (.int .i64 (p0.behind 28)), (.int .i64 (p0.behind 29)), (.int .i64 (p0.behind 30)), (.int .i64 (p0.behind 31))])), (3, (.rptr [(.bool p1.null), (.int .i64 p1.first), (.int .i64 p1.last), (.int .i64 (p1.behind 0)), (.int .i64 (p1.behind 1)), (.int .i64 (p1.behind 2)), (.int .i64 (p1.behind 3)), (.int .i64 (p1.behind 4)), (.int .i64 (p1.behind 5)), (.int .i64 (p1.behind 6)), (.int .i64 (p1.behind 7)), (.int .i64 (p1.behind 8)), (.int .i64 (p1.behind 9)), (.int .i64 (p1.behind 10)), (.int .i64 (p1.behind 11)), (.int .i64 (p1.behind 12)), (.int .i64 (p1.behind 13)), (.int .i64 (p1.behind 14)), (.int .i64 (p1.behind 15)), (.int .i64 (p1.behind 16)), (.int .i64 (p1.behind 17)), (.int .i64 (p1.behind 18)), (.int .i64 (p1.behind 19)), (.int .i64 (p1.behind 20)), (.int .i64 (p1.behind 21)), (.int .i64 (p1.behind 22)), (.int .i64 (p1.behind 23)), (.int .i64 (p1.behind 24)), (.int .i64 (p1.behind 25)), (.int .i64 (p1.behind 26)), (.int .i64 (p1.behind 27)), (.int .i64 (p1.behind 28)), (.int .i64 (p1.behind 29)), (.int .i64 (p1.behind 30)), (.int .i64 (p1.behind 31))])), (4, (.ptr b4 0)), (5, (.ptr b5 0))] ∧ E.Sep H [.cell b4 [(.bool false), (.int .i64 0), (.int .i64 0), (.int .i64 0), (.int .i64 0), (.int .i64 0), (.int .i64 0), (.int .i64 0), (.int .i64 0), (.int .i64 0), (.int .i64 0), (.int .i64 0), (.int .i64 0), (.int .i64 0), (.int .i64 0), (.int .i64 0), (.int .i64 0), (.int .i64 0), (.int .i64 0), (.int .i64 0), (.int .i64 0), (.int .i64 0), (.int .i64 0), (.int .i64 0), (.int .i64 0), (.int .i64 0), (.int .i64 0), (.int .i64 0), (.int .i64 0), (.int .i64 0), (.int .i64 0), (.int .i64 0), (.int .i64 0), (.int .i64 0), (.int .i64 0)], .cell b5 [(.bool y6), (.int .i64 y7), (.int .i64 y8), (.int .i64 (y9 0)), (.int .i64 (y9 1)), (.int .i64 (y9 2)), (.int .i64 (y9 3)), (.int .i64 (y9 4)), (.int .i64 (y9 5)), (.int .i64 (y9 6)), (.int .i64 (y9 7)), (.int .i64 (y9 8)), (.int .i64 (y9 9)), (.int .i64 (y9 10)), (.int .i64 (y9 11)), (.int .i64 (y9 12)), (.int .i64 (y9 13)), (.int .i64 (y9 14)), (.int .i64 (y9 15)), (.int .i64 (y9 16)), (.int .i64 (y9 17)), (.int .i64 (y9 18)), (.int .i64 (y9 19)), (.int .i64 (y9 20)), (.int .i64 (y9 21)), (.int .i64 (y9 22)), (.int .i64 (y9 23)), (.int .i64 (y9 24)), (.int .i64 (y9 25)), (.int .i64 (y9 26)), (.int .i64 (y9 27)), (.int .i64 (y9 28)), (.int .i64 (y9 29)), (.int .i64 (y9 30)), (.int .i64 (y9 31))]] ∧ impl_catOf.k0 p1 p0 y6 y7 y8 y9 = some r) ?_ ?_
  · rintro e0 G36 ⟨y6, y7, y8, y9, hT, hS, hF⟩; refine AWP.only _ hT ?_; unfold impl_catOf.k0 at hF
    refine AWP.seqM (fun e H => ∃ y10 : Bool, ∃ y11 : Int, ∃ y12 : Int, ∃ y13 : (Nat → Int), E.Told e [(2, (.rptr [(.bool p0.null), (.int .i64 p0.first), (.int .i64 p0.last), (.int .i64 (p0.behind 0)), (.int .i64 (p0.behind 1)), (.int .i64 (p0.behind 2)), (.int .i64 (p0.behind 3)), (.int .i64 (p0.behind 4)), (.int .i64 (p0.behind 5)), (.int .i64 (p0.behind 6)), (.int .i64 (p0.behind 7)), (.int .i64 (p0.behind 8)), (.int .i64 (p0.behind 9)), (.int .i64 (p0.behind 10)), (.int .i64 (p0.behind 11)), (.int .i64 (p0.behind 12)), (.int .i64 (p0.behind 13)), (.int .i64 (p0.behind 14)), (.int .i64 (p0.behind 15)), (.int .i64 (p0.behind 16)), (.int .i64 (p0.behind 17)), (.int .i64 (p0.behind 18)), (.int .i64 (p0.behind 19)), (.int .i64 (p0.behind 20)), (.int .i64 (p0.behind 21)), (.int .i64 (p0.behind 22)), (.int .i64 (p0.behind 23)), (.int .i64 (p0.behind 24)), (.int .i64 (p0.behind 25)), (.int .i64 (p0.behind 26)), (.int .i64 (p0.behind 27)), (.int .i64 (p0.behind 28)), (.int .i64 (p0.behind 29)), (.int .i64 (p0.behind 30)), (.int .i64 (p0.behind 31))])), (3, (.rptr [(.bool p1.null), (.int .i64 p1.first), (.int .i64 p1.last), (.int .i64 (p1.behind 0)), (.int .i64 (p1.behind 1)), (.int .i64 (p1.behind 2)), (.int .i64 (p1.behind 3)), (.int .i64 (p1.behind 4)), (.int .i64 (p1.behind 5)), (.int .i64 (p1.behind 6)), (.int .i64 (p1.behind 7)), (.int .i64 (p1.behind 8)), (.int .i64 (p1.behind 9)), (.int .i64 (p1.behind 10)), (.int .i64 (p1.behind 11)), (.int .i64 (p1.behind 12)), (.int .i64 (p1.behind 13)), (.int .i64 (p1.behind 14)), (.int .i64 (p1.behind 15)), (.int .i64 (p1.behind 16)), (.int .i64 (p1.behind 17)), (.int .i64 (p1.behind 18)), (.int .i64 (p1.behind 19)), (.int .i64 (p1.behind 20)), (.int .i64 (p1.behind 21)), (.int .i64 (p1.behind 22)), (.int .i64 (p1.behind 23)), (.int .i64 (p1.behind 24)), (.int .i64 (p1.behind 25)), (.int .i64 (p1.behind 26)), (.int .i64 (p1.behind 27)), (.int .i64 (p1.behind 28)), (.int .i64 (p1.behind 29)), (.int .i64 (p1.behind 30)), (.int .i64 (p1.behind 31))])), (4, (.ptr b4 0)), (5, (.ptr b5 0))] ∧ E.Sep H [.cell b4 [(.bool false), (.int .i64 0), (.int .i64 0), (.int .i64 0), (.int .i64 0), (.int .i64 0), (.int .i64 0), (.int .i64 0), (.int .i64 0), (.int .i64 0), (.int .i64 0), (.int .i64 0), (.int .i64 0), (.int .i64 0), (.int .i64 0), (.int .i64 0), (.int .i64 0), (.int .i64 0), (.int .i64 0), (.int .i64 0), (.int .i64 0), (.int .i64 0), (.int .i64 0), (.int .i64 0), (.int .i64 0), (.int .i64 0), (.int .i64 0), (.int .i64 0), (.int .i64 0), (.int .i64 0), (.int .i64 0), (.int .i64 0), (.int .i64 0), (.int .i64 0), (.int .i64 0)], .cell b5 [(.bool y10), (.int .i64 y11), (.int .i64 y12), (.int .i64 (y13 0)), (.int .i64 (y13 1)), (.int .i64 (y13 2)), (.int .i64 (y13 3)), (.int .i64 (y13 4)), (.int .i64 (y13 5)), (.int .i64 (y13 6)), (.int .i64 (y13 7)), (.int .i64 (y13 8)), (.int .i64 (y13 9)), (.int .i64 (y13 10)), (.int .i64 (y13 11)), (.int .i64 (y13 12)), (.int .i64 (y13 13)), (.int .i64 (y13 14)), (.int .i64 (y13 15)), (.int .i64 (y13 16)), (.int .i64 (y13 17)), (.int .i64 (y13 18)), (.int .i64 (y13 19)), (.int .i64 (y13 20)), (.int .i64 (y13 21)), (.int .i64 (y13 22)), (.int .i64 (y13 23)), (.int .i64 (y13 24)), (.int .i64 (y13 25)), (.int .i64 (y13 26)), (.int .i64 (y13 27)), (.int .i64 (y13 28)), (.int .i64 (y13 29)), (.int .i64 (y13 30)), (.int .i64 (y13 31))]] ∧ impl_catOf.k1 p0 p1 y10 y11 y12 y13 = some r) ?_ ?_
    · rintro e0 G33 ⟨y10, y11, y12, y13, hT, hS, hF⟩; refine AWP.only _ hT ?_; unfold impl_catOf.k1 at hF
      refine AWP.seqM (fun e H => ∃ y14 : Bool, ∃ y15 : Int, ∃ y16 : Int, ∃ y17 : (Nat → Int), E.Told e [(2, (.rptr [(.bool p0.null), (.int .i64 p0.first), (.int .i64 p0.last), (.int .i64 (p0.behind 0)), (.int .i64 (p0.behind 1)), (.int .i64 (p0.behind 2)), (.int .i64 (p0.behind 3)), (.int .i64 (p0.behind 4)), (.int .i64 (p0.behind 5)), (.int .i64 (p0.behind 6)), (.int .i64 (p0.behind 7)), (.int .i64 (p0.behind 8)), (.int .i64 (p0.behind 9)), (.int .i64 (p0.behind 10)), (.int .i64 (p0.behind 11)), (.int .i64 (p0.behind 12)), (.int .i64 (p0.behind 13)), (.int .i64 (p0.behind 14)), (.int .i64 (p0.behind 15)), (.int .i64 (p0.behind 16)), (.int .i64 (p0.behind 17)), (.int .i64 (p0.behind 18)), (.int .i64 (p0.behind 19)), (.int .i64 (p0.behind 20)), (.int .i64 (p0.behind 21)), (.int .i64 (p0.behind 22)), (.int .i64 (p0.behind 23)), (.int .i64 (p0.behind 24)), (.int .i64 (p0.behind 25)), (.int .i64 (p0.behind 26)), (.int .i64 (p0.behind 27)), (.int .i64 (p0.behind 28)), (.int .i64 (p0.behind 29)), (.int .i64 (p0.behind 30)), (.int .i64 (p0.behind 31))])), (3, (.rptr [(.bool p1.null), (.int .i64 p1.first), (.int .i64 p1.last), (.int .i64 (p1.behind 0)), (.int .i64 (p1.behind 1)), (.int .i64 (p1.behind 2)), (.int .i64 (p1.behind 3)), (.int .i64 (p1.behind 4)), (.int .i64 (p1.behind 5)), (.int .i64 (p1.behind 6)), (.int .i64 (p1.behind 7)), (.int .i64 (p1.behind 8)), (.int .i64 (p1.behind 9)), (.int .i64 (p1.behind 10)), (.int .i64 (p1.behind 11)), (.int .i64 (p1.behind 12)), (.int .i64 (p1.behind 13)), (.int .i64 (p1.behind 14)), (.int .i64 (p1.behind 15)), (.int .i64 (p1.behind 16)), (.int .i64 (p1.behind 17)), (.int .i64 (p1.behind 18)), (.int .i64 (p1.behind 19)), (.int .i64 (p1.behind 20)), (.int .i64 (p1.behind 21)), (.int .i64 (p1.behind 22)), (.int .i64 (p1.behind 23)), (.int .i64 (p1.behind 24)), (.int .i64 (p1.behind 25)), (.int .i64 (p1.behind 26)), (.int .i64 (p1.behind 27)), (.int .i64 (p1.behind 28)), (.int .i64 (p1.behind 29)), (.int .i64 (p1.behind 30)), (.int .i64 (p1.behind 31))])), (4, (.ptr b4 0)), (5, (.ptr b5 0))] ∧ E.Sep H [.cell b4 [(.bool false), (.int .i64 0), (.int .i64 0), (.int .i64 0), (.int .i64 0), (.int .i64 0), (.int .i64 0), (.int .i64 0), (.int .i64 0), (.int .i64 0), (.int .i64 0), (.int .i64 0), (.int .i64 0), (.int .i64 0), (.int .i64 0), (.int .i64 0), (.int .i64 0), (.int .i64 0), (.int .i64 0), (.int .i64 0), (.int .i64 0), (.int .i64 0), (.int .i64 0), (.int .i64 0), (.int .i64 0), (.int .i64 0), (.int .i64 0), (.int .i64 0), (.int .i64 0), (.int .i64 0), (.int .i64 0), (.int .i64 0), (.int .i64 0), (.int .i64 0), (.int .i64 0)], .cell b5 [(.bool y14), (.int .i64 y15), (.int .i64 y16), (.int .i64 (y17 0)), (.int .i64 (y17 1)), (.int .i64 (y17 2)), (.int .i64 (y17 3)), (.int .i64 (y17 4)), (.int .i64 (y17 5)), (.int .i64 (y17 6)), (.int .i64 (y17 7)), (.int .i64 (y17 8)), (.int .i64 (y17 9)), (.int .i64 (y17 10)), (.int .i64 (y17 11)), (.int .i64 (y17 12)), (.int .i64 (y17 13)), (.int .i64 (y17 14)), (.int .i64 (y17 15)), (.int .i64 (y17 16)), (.int .i64 (y17 17)), (.int .i64 (y17 18)), (.int .i64 (y17 19)), (.int .i64 (y17 20)), (.int .i64 (y17 21)), (.int .i64 (y17 22)), (.int .i64 (y17 23)), (.int .i64 (y17 24)), (.int .i64 (y17 25)), (.int .i64 (y17 26)), (.int .i64 (y17 27)), (.int .i64 (y17 28)), (.int .i64 (y17 29)), (.int .i64 (y17 30)), (.int .i64 (y17 31))]] ∧ impl_catOf.k2 p0 p1 y14 y15 y16 y17 = some r) ?_ ?_
      · rintro e0 G20 ⟨y14, y15, y16, y17, hT, hS, hF⟩; refine AWP.only _ hT ?_; unfold impl_catOf.k2 at hF
        refine AWP.seqR rfl ?_
        refine ASL.q (v := (.rptr [(.int .i64 p0.last), (.int .i64 (p0.behind 0)), (.int .i64 (p0.behind 1)), (.int .i64 (p0.behind 2)), (.int .i64 (p0.behind 3)), (.int .i64 (p0.behind 4)), (.int .i64 (p0.behind 5)), (.int .i64 (p0.behind 6)), (.int .i64 (p0.behind 7)), (.int .i64 (p0.behind 8)), (.int .i64 (p0.behind 9)), (.int .i64 (p0.behind 10)), (.int .i64 (p0.behind 11)), (.int .i64 (p0.behind 12)), (.int .i64 (p0.behind 13)), (.int .i64 (p0.behind 14)), (.int .i64 (p0.behind 15)), (.int .i64 (p0.behind 16)), (.int .i64 (p0.behind 17)), (.int .i64 (p0.behind 18)), (.int .i64 (p0.behind 19)), (.int .i64 (p0.behind 20)), (.int .i64 (p0.behind 21)), (.int .i64 (p0.behind 22)), (.int .i64 (p0.behind 23)), (.int .i64 (p0.behind 24)), (.int .i64 (p0.behind 25)), (.int .i64 (p0.behind 26)), (.int .i64 (p0.behind 27)), (.int .i64 (p0.behind 28)), (.int .i64 (p0.behind 29)), (.int .i64 (p0.behind 30)), (.int .i64 (p0.behind 31))])) rfl rfl (Light.quiet (opFieldAddrR rfl fieldA_111_2 rfl rfl)) ?_
        refine ASL.q (v := (.int .i64 p0.last)) rfl rfl (Light.quiet (opLoadR rfl aggA_3 rfl rfl)) ?_
        refine ASL.q (v := (.rptr [(.int .i64 p1.first), (.int .i64 p1.last), (.int .i64 (p1.behind 0)), (.int .i64 (p1.behind 1)), (.int .i64 (p1.behind 2)), (.int .i64 (p1.behind 3)), (.int .i64 (p1.behind 4)), (.int .i64 (p1.behind 5)), (.int .i64 (p1.behind 6)), (.int .i64 (p1.behind 7)), (.int .i64 (p1.behind 8)), (.int .i64 (p1.behind 9)), (.int .i64 (p1.behind 10)), (.int .i64 (p1.behind 11)), (.int .i64 (p1.behind 12)), (.int .i64 (p1.behind 13)), (.int .i64 (p1.behind 14)), (.int .i64 (p1.behind 15)), (.int .i64 (p1.behind 16)), (.int .i64 (p1.behind 17)), (.int .i64 (p1.behind 18)), (.int .i64 (p1.behind 19)), (.int .i64 (p1.behind 20)), (.int .i64 (p1.behind 21)), (.int .i64 (p1.behind 22)), (.int .i64 (p1.behind 23)), (.int .i64 (p1.behind 24)), (.int .i64 (p1.behind 25)), (.int .i64 (p1.behind 26)), (.int .i64 (p1.behind 27)), (.int .i64 (p1.behind 28)), (.int .i64 (p1.behind 29)), (.int .i64 (p1.behind 30)), (.int .i64 (p1.behind 31))])) rfl rfl (Light.quiet (opFieldAddrR rfl fieldA_111_1 rfl rfl)) ?_
        refine ASL.q (v := (.int .i64 p1.first)) rfl rfl (Light.quiet (opLoadR rfl aggA_3 rfl rfl)) ?_
        obtain ⟨a54, ha54, hF⟩ := bindE hF
        refine ASL.x rfl rfl (hCallS hS [1, 0] (F := [.cell b4 [(.bool false), (.int .i64 0), (.int .i64 0), (.int .i64 0), (.int .i64 0), (.int .i64 0), (.int .i64 0), (.int .i64 0), (.int .i64 0), (.int .i64 0), (.int .i64 0), (.int .i64 0), (.int .i64 0), (.int .i64 0), (.int .i64 0), (.int .i64 0), (.int .i64 0), (.int .i64 0), (.int .i64 0), (.int .i64 0), (.int .i64 0), (.int .i64 0), (.int .i64 0), (.int .i64 0), (.int .i64 0), (.int .i64 0), (.int .i64 0), (.int .i64 0), (.int .i64 0), (.int .i64 0), (.int .i64 0), (.int .i64 0), (.int .i64 0), (.int .i64 0), (.int .i64 0)]]) rfl rfl rfl call_123 (impl_glance_follow_ok ha54) rfl rfl ?_); rintro _ _ G18 ⟨rfl, rfl⟩ hS
        refine ASL.done ?_
        refine AWP.seqR rfl ?_
        refine ASL.q (v := (Tglance.av a54)) rfl rfl (Light.quiet (kAtA hS (j := 0) rfl rfl aggA_111 sizeA_111 rfl (nlt rfl) rfl)) ?_
        refine ASL.n rfl rfl (hPutAll (ys := [(.bool a54.null), (.int .i64 a54.first), (.int .i64 a54.last), (.int .i64 (a54.behind 0)), (.int .i64 (a54.behind 1)), (.int .i64 (a54.behind 2)), (.int .i64 (a54.behind 3)), (.int .i64 (a54.behind 4)), (.int .i64 (a54.behind 5)), (.int .i64 (a54.behind 6)), (.int .i64 (a54.behind 7)), (.int .i64 (a54.behind 8)), (.int .i64 (a54.behind 9)), (.int .i64 (a54.behind 10)), (.int .i64 (a54.behind 11)), (.int .i64 (a54.behind 12)), (.int .i64 (a54.behind 13)), (.int .i64 (a54.behind 14)), (.int .i64 (a54.behind 15)), (.int .i64 (a54.behind 16)), (.int .i64 (a54.behind 17)), (.int .i64 (a54.behind 18)), (.int .i64 (a54.behind 19)), (.int .i64 (a54.behind 20)), (.int .i64 (a54.behind 21)), (.int .i64 (a54.behind 22)), (.int .i64 (a54.behind 23)), (.int .i64 (a54.behind 24)), (.int .i64 (a54.behind 25)), (.int .i64 (a54.behind 26)), (.int .i64 (a54.behind 27)), (.int .i64 (a54.behind 28)), (.int .i64 (a54.behind 29)), (.int .i64 (a54.behind 30)), (.int .i64 (a54.behind 31))]) hS (j := 1) rfl rfl sizeA_111 rfl rfl rfl rfl rfl rfl rfl (by decide) ?_); rintro G19 hS
        refine ASL.done ?_
        refine AWP.ret ?_
        obtain rfl := someE hF
        exact QRet.sole (v := (Tglance.av a54)) ⟨resOne.at hS (k := 1) rfl rfl aggA_111 sizeA_111, trivial⟩ rfl
      · skip
        refine AWP.seqR rfl ?_
        refine ASL.q (v := (.int .i64 0)) rfl rfl (Light.quiet (opMove rfl rfl)) ?_
        refine ASL.done ?_
        refine AWP.block ?_
        obtain ⟨o28, hL27, hR29⟩ := bindE hF
        refine AWP.loopF (ω := Unit) hL27 (fun s w => [(2, (.rptr [(.bool p0.null), (.int .i64 p0.first), (.int .i64 p0.last), (.int .i64 (p0.behind 0)), (.int .i64 (p0.behind 1)), (.int .i64 (p0.behind 2)), (.int .i64 (p0.behind 3)), (.int .i64 (p0.behind 4)), (.int .i64 (p0.behind 5)), (.int .i64 (p0.behind 6)), (.int .i64 (p0.behind 7)), (.int .i64 (p0.behind 8)), (.int .i64 (p0.behind 9)), (.int .i64 (p0.behind 10)), (.int .i64 (p0.behind 11)), (.int .i64 (p0.behind 12)), (.int .i64 (p0.behind 13)), (.int .i64 (p0.behind 14)), (.int .i64 (p0.behind 15)), (.int .i64 (p0.behind 16)), (.int .i64 (p0.behind 17)), (.int .i64 (p0.behind 18)), (.int .i64 (p0.behind 19)), (.int .i64 (p0.behind 20)), (.int .i64 (p0.behind 21)), (.int .i64 (p0.behind 22)), (.int .i64 (p0.behind 23)), (.int .i64 (p0.behind 24)), (.int .i64 (p0.behind 25)), (.int .i64 (p0.behind 26)), (.int .i64 (p0.behind 27)), (.int .i64 (p0.behind 28)), (.int .i64 (p0.behind 29)), (.int .i64 (p0.behind 30)), (.int .i64 (p0.behind 31))])), (3, (.rptr [(.bool p1.null), (.int .i64 p1.first), (.int .i64 p1.last), (.int .i64 (p1.behind 0)), (.int .i64 (p1.behind 1)), (.int .i64 (p1.behind 2)), (.int .i64 (p1.behind 3)), (.int .i64 (p1.behind 4)), (.int .i64 (p1.behind 5)), (.int .i64 (p1.behind 6)), (.int .i64 (p1.behind 7)), (.int .i64 (p1.behind 8)), (.int .i64 (p1.behind 9)), (.int .i64 (p1.behind 10)), (.int .i64 (p1.behind 11)), (.int .i64 (p1.behind 12)), (.int .i64 (p1.behind 13)), (.int .i64 (p1.behind 14)), (.int .i64 (p1.behind 15)), (.int .i64 (p1.behind 16)), (.int .i64 (p1.behind 17)), (.int .i64 (p1.behind 18)), (.int .i64 (p1.behind 19)), (.int .i64 (p1.behind 20)), (.int .i64 (p1.behind 21)), (.int .i64 (p1.behind 22)), (.int .i64 (p1.behind 23)), (.int .i64 (p1.behind 24)), (.int .i64 (p1.behind 25)), (.int .i64 (p1.behind 26)), (.int .i64 (p1.behind 27)), (.int .i64 (p1.behind 28)), (.int .i64 (p1.behind 29)), (.int .i64 (p1.behind 30)), (.int .i64 (p1.behind 31))])), (4, (.ptr b4 0)), (5, (.ptr b5 0)), (34, (.int .i64 s.2.2.2.2))]) (fun s w => [.cell b4 [(.bool false), (.int .i64 0), (.int .i64 0), (.int .i64 0), (.int .i64 0), (.int .i64 0), (.int .i64 0), (.int .i64 0), (.int .i64 0), (.int .i64 0), (.int .i64 0), (.int .i64 0), (.int .i64 0), (.int .i64 0), (.int .i64 0), (.int .i64 0), (.int .i64 0), (.int .i64 0), (.int .i64 0), (.int .i64 0), (.int .i64 0), (.int .i64 0), (.int .i64 0), (.int .i64 0), (.int .i64 0), (.int .i64 0), (.int .i64 0), (.int .i64 0), (.int .i64 0), (.int .i64 0), (.int .i64 0), (.int .i64 0), (.int .i64 0), (.int .i64 0), (.int .i64 0)], .cell b5 [(.bool s.1), (.int .i64 s.2.1), (.int .i64 s.2.2.1), (.int .i64 (s.2.2.2.1 0)), (.int .i64 (s.2.2.2.1 1)), (.int .i64 (s.2.2.2.1 2)), (.int .i64 (s.2.2.2.1 3)), (.int .i64 (s.2.2.2.1 4)), (.int .i64 (s.2.2.2.1 5)), (.int .i64 (s.2.2.2.1 6)), (.int .i64 (s.2.2.2.1 7)), (.int .i64 (s.2.2.2.1 8)), (.int .i64 (s.2.2.2.1 9)), (.int .i64 (s.2.2.2.1 10)), (.int .i64 (s.2.2.2.1 11)), (.int .i64 (s.2.2.2.1 12)), (.int .i64 (s.2.2.2.1 13)), (.int .i64 (s.2.2.2.1 14)), (.int .i64 (s.2.2.2.1 15)), (.int .i64 (s.2.2.2.1 16)), (.int .i64 (s.2.2.2.1 17)), (.int .i64 (s.2.2.2.1 18)), (.int .i64 (s.2.2.2.1 19)), (.int .i64 (s.2.2.2.1 20)), (.int .i64 (s.2.2.2.1 21)), (.int .i64 (s.2.2.2.1 22)), (.int .i64 (s.2.2.2.1 23)), (.int .i64 (s.2.2.2.1 24)), (.int .i64 (s.2.2.2.1 25)), (.int .i64 (s.2.2.2.1 26)), (.int .i64 (s.2.2.2.1 27)), (.int .i64 (s.2.2.2.1 28)), (.int .i64 (s.2.2.2.1 29)), (.int .i64 (s.2.2.2.1 30)), (.int .i64 (s.2.2.2.1 31))]]) () ⟨rfl, rfl, rfl, rfl, rfl, trivial⟩ (hS.pick [0, 1] rfl rfl) ?_
        rintro ⟨y21, y22, y23, y24, x34_l0⟩ _ G30 hS x25 hF hx26
        try dsimp only at hS ⊢
        have hF : impl_catOf.b0 p0 p1 y21 y22 y23 y24 x34_l0 = some x25 := hF; unfold impl_catOf.b0 at hF
        refine AWP.seqR rfl ?_
        refine ASL.q (v := (.bool (decide (x34_l0 < 32)))) rfl rfl (Light.quiet (opInt rfl rfl rfl rfl)) ?_
        refine ASL.done ?_
        refine AWP.seq ?_
        refine AWP.ifP hF rfl (fun hc31 hF => ?_) (fun hc31 hF => ?_)
        · skip
          refine AWP.skip ?_
          refine QThen.nrm ?_
          refine AWP.seq ?_
          refine AWP.block ?_
          refine AWP.seqR rfl ?_
          refine ASL.q (v := (.int .i64 x34_l0)) rfl rfl (Light.quiet (opMove rfl rfl)) ?_
          refine ASL.q (v := (.int .i64 x34_l0)) rfl rfl (Light.quiet (opAssign rfl rfl)) ?_
          refine ASL.done ?_
          refine AWP.lastD [(0, false), (1, false), (2, false), (3, false), (4, false), (5, false), (6, false), (7, false), (8, false), (9, false), (10, false), (11, false), (12, true)] mixed (by kernel_rfl) rfl ?_
          refine ARL.q0 (v := (.int .i64 x34_l0)) rfl rfl (Light.quiet (opMove rfl rfl)) ?_
          refine ARL.q0 (v := (.int .i64 x34_l0)) rfl rfl (Light.quiet (opMove rfl rfl)) ?_
          refine ARL.q0 (v := (.rptr [(.int .i64 (p0.behind 0)), (.int .i64 (p0.behind 1)), (.int .i64 (p0.behind 2)), (.int .i64 (p0.behind 3)), (.int .i64 (p0.behind 4)), (.int .i64 (p0.behind 5)), (.int .i64 (p0.behind 6)), (.int .i64 (p0.behind 7)), (.int .i64 (p0.behind 8)), (.int .i64 (p0.behind 9)), (.int .i64 (p0.behind 10)), (.int .i64 (p0.behind 11)), (.int .i64 (p0.behind 12)), (.int .i64 (p0.behind 13)), (.int .i64 (p0.behind 14)), (.int .i64 (p0.behind 15)), (.int .i64 (p0.behind 16)), (.int .i64 (p0.behind 17)), (.int .i64 (p0.behind 18)), (.int .i64 (p0.behind 19)), (.int .i64 (p0.behind 20)), (.int .i64 (p0.behind 21)), (.int .i64 (p0.behind 22)), (.int .i64 (p0.behind 23)), (.int .i64 (p0.behind 24)), (.int .i64 (p0.behind 25)), (.int .i64 (p0.behind 26)), (.int .i64 (p0.behind 27)), (.int .i64 (p0.behind 28)), (.int .i64 (p0.behind 29)), (.int .i64 (p0.behind 30)), (.int .i64 (p0.behind 31))])) rfl rfl (Light.quiet (opFieldAddrR rfl fieldA_111_3 rfl rfl)) ?_
          obtain ⟨m40, hm40, hF⟩ := bindE hF
          refine ARL.q0 (v := (.rptr (List.drop m40 [(.int .i64 (p0.behind 0)), (.int .i64 (p0.behind 1)), (.int .i64 (p0.behind 2)), (.int .i64 (p0.behind 3)), (.int .i64 (p0.behind 4)), (.int .i64 (p0.behind 5)), (.int .i64 (p0.behind 6)), (.int .i64 (p0.behind 7)), (.int .i64 (p0.behind 8)), (.int .i64 (p0.behind 9)), (.int .i64 (p0.behind 10)), (.int .i64 (p0.behind 11)), (.int .i64 (p0.behind 12)), (.int .i64 (p0.behind 13)), (.int .i64 (p0.behind 14)), (.int .i64 (p0.behind 15)), (.int .i64 (p0.behind 16)), (.int .i64 (p0.behind 17)), (.int .i64 (p0.behind 18)), (.int .i64 (p0.behind 19)), (.int .i64 (p0.behind 20)), (.int .i64 (p0.behind 21)), (.int .i64 (p0.behind 22)), (.int .i64 (p0.behind 23)), (.int .i64 (p0.behind 24)), (.int .i64 (p0.behind 25)), (.int .i64 (p0.behind 26)), (.int .i64 (p0.behind 27)), (.int .i64 (p0.behind 28)), (.int .i64 (p0.behind 29)), (.int .i64 (p0.behind 30)), (.int .i64 (p0.behind 31))]))) rfl rfl (Light.quiet (opIndexArrR rfl rfl rfl arrA_109 hm40)) ?_
          refine ARL.q0 (v := (.int .i64 (p0.behind m40))) rfl rfl (Light.quiet (opLoadArrR (E := p0.behind) (n := 32) rfl rfl aggA_3 rfl hm40)) ?_
          refine ARL.q0 (v := (.int .i64 x34_l0)) rfl rfl (Light.quiet (opMove rfl rfl)) ?_
          refine ARL.q0 (v := (.rptr [(.int .i64 (p1.behind 0)), (.int .i64 (p1.behind 1)), (.int .i64 (p1.behind 2)), (.int .i64 (p1.behind 3)), (.int .i64 (p1.behind 4)), (.int .i64 (p1.behind 5)), (.int .i64 (p1.behind 6)), (.int .i64 (p1.behind 7)), (.int .i64 (p1.behind 8)), (.int .i64 (p1.behind 9)), (.int .i64 (p1.behind 10)), (.int .i64 (p1.behind 11)), (.int .i64 (p1.behind 12)), (.int .i64 (p1.behind 13)), (.int .i64 (p1.behind 14)), (.int .i64 (p1.behind 15)), (.int .i64 (p1.behind 16)), (.int .i64 (p1.behind 17)), (.int .i64 (p1.behind 18)), (.int .i64 (p1.behind 19)), (.int .i64 (p1.behind 20)), (.int .i64 (p1.behind 21)), (.int .i64 (p1.behind 22)), (.int .i64 (p1.behind 23)), (.int .i64 (p1.behind 24)), (.int .i64 (p1.behind 25)), (.int .i64 (p1.behind 26)), (.int .i64 (p1.behind 27)), (.int .i64 (p1.behind 28)), (.int .i64 (p1.behind 29)), (.int .i64 (p1.behind 30)), (.int .i64 (p1.behind 31))])) rfl rfl (Light.quiet (opFieldAddrR rfl fieldA_111_3 rfl rfl)) ?_
          obtain ⟨m44, hm44, hF⟩ := bindE hF
          refine ARL.q0 (v := (.rptr (List.drop m44 [(.int .i64 (p1.behind 0)), (.int .i64 (p1.behind 1)), (.int .i64 (p1.behind 2)), (.int .i64 (p1.behind 3)), (.int .i64 (p1.behind 4)), (.int .i64 (p1.behind 5)), (.int .i64 (p1.behind 6)), (.int .i64 (p1.behind 7)), (.int .i64 (p1.behind 8)), (.int .i64 (p1.behind 9)), (.int .i64 (p1.behind 10)), (.int .i64 (p1.behind 11)), (.int .i64 (p1.behind 12)), (.int .i64 (p1.behind 13)), (.int .i64 (p1.behind 14)), (.int .i64 (p1.behind 15)), (.int .i64 (p1.behind 16)), (.int .i64 (p1.behind 17)), (.int .i64 (p1.behind 18)), (.int .i64 (p1.behind 19)), (.int .i64 (p1.behind 20)), (.int .i64 (p1.behind 21)), (.int .i64 (p1.behind 22)), (.int .i64 (p1.behind 23)), (.int .i64 (p1.behind 24)), (.int .i64 (p1.behind 25)), (.int .i64 (p1.behind 26)), (.int .i64 (p1.behind 27)), (.int .i64 (p1.behind 28)), (.int .i64 (p1.behind 29)), (.int .i64 (p1.behind 30)), (.int .i64 (p1.behind 31))]))) rfl rfl (Light.quiet (opIndexArrR rfl rfl rfl arrA_109 hm44)) ?_
          refine ARL.q0 (v := (.int .i64 (p1.behind m44))) rfl rfl (Light.quiet (opLoadArrR (E := p1.behind) (n := 32) rfl rfl aggA_3 rfl hm44)) ?_
          refine ARL.q0 (v := (.int .i64 (bOr .i64 ((p0.behind m40)) ((p1.behind m44))))) rfl rfl (Light.quiet (opInt rfl rfl rfl rfl)) ?_
          refine ARL.q0 (v := (.ptr b5 3)) rfl rfl (Light.quiet (opFieldAddr rfl fieldA_111_3 rfl rfl)) ?_
          obtain ⟨m48, hm48, hF⟩ := bindE hF
          refine ARL.q0 (v := (.ptr b5 (3 + m48))) rfl rfl (Light.quiet (opIndexArr rfl rfl rfl arrA_109 hm48)) ?_
          refine ARL.n rfl rfl rfl rfl (hPutArr (E := y24) (pre := [(.bool y21), (.int .i64 y22), (.int .i64 y23)]) (n := 32) hS (j := 1) rfl rfl rfl sizeA_3 rfl hm48 rfl ?_); rintro G32 hS
          have hS : Sep G32 [.cell b4 [(.bool false), (.int .i64 0), (.int .i64 0), (.int .i64 0), (.int .i64 0), (.int .i64 0), (.int .i64 0), (.int .i64 0), (.int .i64 0), (.int .i64 0), (.int .i64 0), (.int .i64 0), (.int .i64 0), (.int .i64 0), (.int .i64 0), (.int .i64 0), (.int .i64 0), (.int .i64 0), (.int .i64 0), (.int .i64 0), (.int .i64 0), (.int .i64 0), (.int .i64 0), (.int .i64 0), (.int .i64 0), (.int .i64 0), (.int .i64 0), (.int .i64 0), (.int .i64 0), (.int .i64 0), (.int .i64 0), (.int .i64 0), (.int .i64 0), (.int .i64 0), (.int .i64 0)], .cell b5 [(.bool y21), (.int .i64 y22), (.int .i64 y23), (.int .i64 ((upA y24 m48 ((bOr .i64 ((p0.behind m40)) ((p1.behind m44))))) 0)), (.int .i64 ((upA y24 m48 ((bOr .i64 ((p0.behind m40)) ((p1.behind m44))))) 1)), (.int .i64 ((upA y24 m48 ((bOr .i64 ((p0.behind m40)) ((p1.behind m44))))) 2)), (.int .i64 ((upA y24 m48 ((bOr .i64 ((p0.behind m40)) ((p1.behind m44))))) 3)), (.int .i64 ((upA y24 m48 ((bOr .i64 ((p0.behind m40)) ((p1.behind m44))))) 4)), (.int .i64 ((upA y24 m48 ((bOr .i64 ((p0.behind m40)) ((p1.behind m44))))) 5)), (.int .i64 ((upA y24 m48 ((bOr .i64 ((p0.behind m40)) ((p1.behind m44))))) 6)), (.int .i64 ((upA y24 m48 ((bOr .i64 ((p0.behind m40)) ((p1.behind m44))))) 7)), (.int .i64 ((upA y24 m48 ((bOr .i64 ((p0.behind m40)) ((p1.behind m44))))) 8)), (.int .i64 ((upA y24 m48 ((bOr .i64 ((p0.behind m40)) ((p1.behind m44))))) 9)), (.int .i64 ((upA y24 m48 ((bOr .i64 ((p0.behind m40)) ((p1.behind m44))))) 10)), (.int .i64 ((upA y24 m48 ((bOr .i64 ((p0.behind m40)) ((p1.behind m44))))) 11)), (.int .i64 ((upA y24 m48 ((bOr .i64 ((p0.behind m40)) ((p1.behind m44))))) 12)), (.int .i64 ((upA y24 m48 ((bOr .i64 ((p0.behind m40)) ((p1.behind m44))))) 13)), (.int .i64 ((upA y24 m48 ((bOr .i64 ((p0.behind m40)) ((p1.behind m44))))) 14)), (.int .i64 ((upA y24 m48 ((bOr .i64 ((p0.behind m40)) ((p1.behind m44))))) 15)), (.int .i64 ((upA y24 m48 ((bOr .i64 ((p0.behind m40)) ((p1.behind m44))))) 16)), (.int .i64 ((upA y24 m48 ((bOr .i64 ((p0.behind m40)) ((p1.behind m44))))) 17)), (.int .i64 ((upA y24 m48 ((bOr .i64 ((p0.behind m40)) ((p1.behind m44))))) 18)), (.int .i64 ((upA y24 m48 ((bOr .i64 ((p0.behind m40)) ((p1.behind m44))))) 19)), (.int .i64 ((upA y24 m48 ((bOr .i64 ((p0.behind m40)) ((p1.behind m44))))) 20)), (.int .i64 ((upA y24 m48 ((bOr .i64 ((p0.behind m40)) ((p1.behind m44))))) 21)), (.int .i64 ((upA y24 m48 ((bOr .i64 ((p0.behind m40)) ((p1.behind m44))))) 22)), (.int .i64 ((upA y24 m48 ((bOr .i64 ((p0.behind m40)) ((p1.behind m44))))) 23)), (.int .i64 ((upA y24 m48 ((bOr .i64 ((p0.behind m40)) ((p1.behind m44))))) 24)), (.int .i64 ((upA y24 m48 ((bOr .i64 ((p0.behind m40)) ((p1.behind m44))))) 25)), (.int .i64 ((upA y24 m48 ((bOr .i64 ((p0.behind m40)) ((p1.behind m44))))) 26)), (.int .i64 ((upA y24 m48 ((bOr .i64 ((p0.behind m40)) ((p1.behind m44))))) 27)), (.int .i64 ((upA y24 m48 ((bOr .i64 ((p0.behind m40)) ((p1.behind m44))))) 28)), (.int .i64 ((upA y24 m48 ((bOr .i64 ((p0.behind m40)) ((p1.behind m44))))) 29)), (.int .i64 ((upA y24 m48 ((bOr .i64 ((p0.behind m40)) ((p1.behind m44))))) 30)), (.int .i64 ((upA y24 m48 ((bOr .i64 ((p0.behind m40)) ((p1.behind m44))))) 31))]] := hS
          refine ARL.done ?_
          refine QBlock.nrm ?_
          refine QThen.nrm ?_
          refine AWP.lastR rfl ?_
          refine ASL.q (v := (.int .i64 (W (x34_l0 + 1)))) rfl rfl (Light.quiet (opInt rfl rfl rfl rfl)) ?_
          refine ASL.q (v := (.int .i64 (W (x34_l0 + 1)))) rfl rfl (Light.quiet (opMove rfl rfl)) ?_
          refine ASL.done ?_
          refine QThen.nrm ?_
          exact ⟨(y21, y22, y23, (upA y24 m48 ((bOr .i64 ((p0.behind m40)) ((p1.behind m44))))), (W (x34_l0 + 1))), (), (someE hF).symm, ⟨rfl, rfl, rfl, rfl, rfl, trivial⟩, (hS.pick [0, 1] rfl rfl)⟩
        · skip
          refine AWP.exit ?_
          refine QThen.ext ?_
          refine QThen.ext ?_
          refine QBlock.hit ?_
          obtain rfl := (hx26 _ (someE hF).symm)
          have hF := hR29
          refine QThen.nrm ?_
          exact ⟨y21, y22, y23, y24, ⟨rfl, rfl, rfl, rfl, trivial⟩, (hS.pick [0, 1] rfl rfl), hF⟩
    · skip
      refine AWP.seqR rfl ?_
      refine ASL.q (v := (.rptr [(.bool p1.null), (.int .i64 p1.first), (.int .i64 p1.last), (.int .i64 (p1.behind 0)), (.int .i64 (p1.behind 1)), (.int .i64 (p1.behind 2)), (.int .i64 (p1.behind 3)), (.int .i64 (p1.behind 4)), (.int .i64 (p1.behind 5)), (.int .i64 (p1.behind 6)), (.int .i64 (p1.behind 7)), (.int .i64 (p1.behind 8)), (.int .i64 (p1.behind 9)), (.int .i64 (p1.behind 10)), (.int .i64 (p1.behind 11)), (.int .i64 (p1.behind 12)), (.int .i64 (p1.behind 13)), (.int .i64 (p1.behind 14)), (.int .i64 (p1.behind 15)), (.int .i64 (p1.behind 16)), (.int .i64 (p1.behind 17)), (.int .i64 (p1.behind 18)), (.int .i64 (p1.behind 19)), (.int .i64 (p1.behind 20)), (.int .i64 (p1.behind 21)), (.int .i64 (p1.behind 22)), (.int .i64 (p1.behind 23)), (.int .i64 (p1.behind 24)), (.int .i64 (p1.behind 25)), (.int .i64 (p1.behind 26)), (.int .i64 (p1.behind 27)), (.int .i64 (p1.behind 28)), (.int .i64 (p1.behind 29)), (.int .i64 (p1.behind 30)), (.int .i64 (p1.behind 31))])) rfl rfl (Light.quiet (opFieldAddrR rfl fieldA_111_0 rfl rfl)) ?_
      refine ASL.q (v := (.bool p1.null)) rfl rfl (Light.quiet (opLoadR rfl aggA_4 rfl rfl)) ?_
      refine ASL.done ?_
      refine AWP.ifB hF rfl (fun hc34 hF => ?_) (fun hc34 hF => ?_)
      · skip
        refine AWP.lastR rfl ?_
        refine ASL.q (v := (.ptr b5 2)) rfl rfl (Light.quiet (opFieldAddr rfl fieldA_111_2 rfl rfl)) ?_
        refine ASL.q (v := (.int .i64 y8)) rfl rfl (Light.quiet (kAt hS (j := 1) rfl rfl aggA_3 rfl rfl)) ?_
        refine ASL.q (v := (.rptr [(.int .i64 p0.last), (.int .i64 (p0.behind 0)), (.int .i64 (p0.behind 1)), (.int .i64 (p0.behind 2)), (.int .i64 (p0.behind 3)), (.int .i64 (p0.behind 4)), (.int .i64 (p0.behind 5)), (.int .i64 (p0.behind 6)), (.int .i64 (p0.behind 7)), (.int .i64 (p0.behind 8)), (.int .i64 (p0.behind 9)), (.int .i64 (p0.behind 10)), (.int .i64 (p0.behind 11)), (.int .i64 (p0.behind 12)), (.int .i64 (p0.behind 13)), (.int .i64 (p0.behind 14)), (.int .i64 (p0.behind 15)), (.int .i64 (p0.behind 16)), (.int .i64 (p0.behind 17)), (.int .i64 (p0.behind 18)), (.int .i64 (p0.behind 19)), (.int .i64 (p0.behind 20)), (.int .i64 (p0.behind 21)), (.int .i64 (p0.behind 22)), (.int .i64 (p0.behind 23)), (.int .i64 (p0.behind 24)), (.int .i64 (p0.behind 25)), (.int .i64 (p0.behind 26)), (.int .i64 (p0.behind 27)), (.int .i64 (p0.behind 28)), (.int .i64 (p0.behind 29)), (.int .i64 (p0.behind 30)), (.int .i64 (p0.behind 31))])) rfl rfl (Light.quiet (opFieldAddrR rfl fieldA_111_2 rfl rfl)) ?_
        refine ASL.q (v := (.int .i64 p0.last)) rfl rfl (Light.quiet (opLoadR rfl aggA_3 rfl rfl)) ?_
        refine ASL.q (v := (.int .i64 (bOr .i64 y8 p0.last))) rfl rfl (Light.quiet (opInt rfl rfl rfl rfl)) ?_
        refine ASL.q (v := (.ptr b5 2)) rfl rfl (Light.quiet (opFieldAddr rfl fieldA_111_2 rfl rfl)) ?_
        refine ASL.n rfl rfl (hPut hS (j := 1) rfl rfl sizeA_3 rfl rfl rfl (nlt rfl) ?_); rintro G35 hS
        refine ASL.done ?_
        refine QThen.nrm ?_
        exact ⟨y6, y7, (bOr .i64 y8 p0.last), y9, ⟨rfl, rfl, rfl, rfl, trivial⟩, (hS.pick [0, 1] rfl rfl), hF⟩
      · skip
        refine AWP.skip ?_
        refine QThen.nrm ?_
        exact ⟨y6, y7, y8, y9, ⟨rfl, rfl, rfl, rfl, trivial⟩, (hS.pick [0, 1] rfl rfl), hF⟩
  · skip
    refine AWP.seqR rfl ?_
    refine ASL.q (v := (.rptr [(.bool p0.null), (.int .i64 p0.first), (.int .i64 p0.last), (.int .i64 (p0.behind 0)), (.int .i64 (p0.behind 1)), (.int .i64 (p0.behind 2)), (.int .i64 (p0.behind 3)), (.int .i64 (p0.behind 4)), (.int .i64 (p0.behind 5)), (.int .i64 (p0.behind 6)), (.int .i64 (p0.behind 7)), (.int .i64 (p0.behind 8)), (.int .i64 (p0.behind 9)), (.int .i64 (p0.behind 10)), (.int .i64 (p0.behind 11)), (.int .i64 (p0.behind 12)), (.int .i64 (p0.behind 13)), (.int .i64 (p0.behind 14)), (.int .i64 (p0.behind 15)), (.int .i64 (p0.behind 16)), (.int .i64 (p0.behind 17)), (.int .i64 (p0.behind 18)), (.int .i64 (p0.behind 19)), (.int .i64 (p0.behind 20)), (.int .i64 (p0.behind 21)), (.int .i64 (p0.behind 22)), (.int .i64 (p0.behind 23)), (.int .i64 (p0.behind 24)), (.int .i64 (p0.behind 25)), (.int .i64 (p0.behind 26)), (.int .i64 (p0.behind 27)), (.int .i64 (p0.behind 28)), (.int .i64 (p0.behind 29)), (.int .i64 (p0.behind 30)), (.int .i64 (p0.behind 31))])) rfl rfl (Light.quiet (opFieldAddrR rfl fieldA_111_0 rfl rfl)) ?_
    refine ASL.q (v := (.bool p0.null)) rfl rfl (Light.quiet (opLoadR rfl aggA_4 rfl rfl)) ?_
    refine ASL.done ?_
    refine AWP.ifB hF rfl (fun hc37 hF => ?_) (fun hc37 hF => ?_)
    · skip
      refine AWP.lastR rfl ?_
      refine ASL.q (v := (.ptr b5 1)) rfl rfl (Light.quiet (opFieldAddr rfl fieldA_111_1 rfl rfl)) ?_
      refine ASL.q (v := (.int .i64 p0.first)) rfl rfl (Light.quiet (kAt hS (j := 0) rfl rfl aggA_3 rfl rfl)) ?_
      refine ASL.q (v := (.rptr [(.int .i64 p1.first), (.int .i64 p1.last), (.int .i64 (p1.behind 0)), (.int .i64 (p1.behind 1)), (.int .i64 (p1.behind 2)), (.int .i64 (p1.behind 3)), (.int .i64 (p1.behind 4)), (.int .i64 (p1.behind 5)), (.int .i64 (p1.behind 6)), (.int .i64 (p1.behind 7)), (.int .i64 (p1.behind 8)), (.int .i64 (p1.behind 9)), (.int .i64 (p1.behind 10)), (.int .i64 (p1.behind 11)), (.int .i64 (p1.behind 12)), (.int .i64 (p1.behind 13)), (.int .i64 (p1.behind 14)), (.int .i64 (p1.behind 15)), (.int .i64 (p1.behind 16)), (.int .i64 (p1.behind 17)), (.int .i64 (p1.behind 18)), (.int .i64 (p1.behind 19)), (.int .i64 (p1.behind 20)), (.int .i64 (p1.behind 21)), (.int .i64 (p1.behind 22)), (.int .i64 (p1.behind 23)), (.int .i64 (p1.behind 24)), (.int .i64 (p1.behind 25)), (.int .i64 (p1.behind 26)), (.int .i64 (p1.behind 27)), (.int .i64 (p1.behind 28)), (.int .i64 (p1.behind 29)), (.int .i64 (p1.behind 30)), (.int .i64 (p1.behind 31))])) rfl rfl (Light.quiet (opFieldAddrR rfl fieldA_111_1 rfl rfl)) ?_
      refine ASL.q (v := (.int .i64 p1.first)) rfl rfl (Light.quiet (opLoadR rfl aggA_3 rfl rfl)) ?_
      refine ASL.q (v := (.int .i64 (bOr .i64 p0.first p1.first))) rfl rfl (Light.quiet (opInt rfl rfl rfl rfl)) ?_
      refine ASL.q (v := (.ptr b5 1)) rfl rfl (Light.quiet (opFieldAddr rfl fieldA_111_1 rfl rfl)) ?_
      refine ASL.n rfl rfl (hPut hS (j := 0) rfl rfl sizeA_3 rfl rfl rfl (nlt rfl) ?_); rintro G38 hS
      refine ASL.done ?_
      refine QThen.nrm ?_
      exact ⟨(c9 && p1.null), (bOr .i64 p0.first p1.first), p1.last, (fun _ => 0), ⟨rfl, rfl, rfl, rfl, trivial⟩, (hS.pick [1, 0] rfl rfl), hF⟩
    · skip
      refine AWP.skip ?_
      refine QThen.nrm ?_
      exact ⟨(c9 && p1.null), p0.first, p1.last, (fun _ => 0), ⟨rfl, rfl, rfl, rfl, trivial⟩, (hS.pick [1, 0] rfl rfl), hF⟩

set_option maxHeartbeats 400000 in
set_option maxRecDepth 10000 in
theorem impl_orOf_ok {p0 : Tglance} {p1 : Tglance} {r : Tglance} (hF : impl_orOf p0 p1 = some r) : PC Try.prog 125 [(Tglance.av p0), (Tglance.av p1)] fun v => v = (Tglance.av r) := by
  refine PC.enter Try.func125 rfl Try.ntmps125 (by simp) ?_
  have hS := Sep.void; unfold impl_orOf at hF
  refine AWP.seqR rfl ?_
  refine ASL.q (v := (.rptr [(.bool p0.null), (.int .i64 p0.first), (.int .i64 p0.last), (.int .i64 (p0.behind 0)), (.int .i64 (p0.behind 1)), (.int .i64 (p0.behind 2)), (.int .i64 (p0.behind 3)), (.int .i64 (p0.behind 4)), (.int .i64 (p0.behind 5)), (.int .i64 (p0.behind 6)), (.int .i64 (p0.behind 7)), (.int .i64 (p0.behind 8)), (.int .i64 (p0.behind 9)), (.int .i64 (p0.behind 10)), (.int .i64 (p0.behind 11)), (.int .i64 (p0.behind 12)), (.int .i64 (p0.behind 13)), (.int .i64 (p0.behind 14)), (.int .i64 (p0.behind 15)), (.int .i64 (p0.behind 16)), (.int .i64 (p0.behind 17)), (.int .i64 (p0.behind 18)), (.int .i64 (p0.behind 19)), (.int .i64 (p0.behind 20)), (.int .i64 (p0.behind 21)), (.int .i64 (p0.behind 22)), (.int .i64 (p0.behind 23)), (.int .i64 (p0.behind 24)), (.int .i64 (p0.behind 25)), (.int .i64 (p0.behind 26)), (.int .i64 (p0.behind 27)), (.int .i64 (p0.behind 28)), (.int .i64 (p0.behind 29)), (.int .i64 (p0.behind 30)), (.int .i64 (p0.behind 31))])) rfl rfl ((qBoxI (v := (Tglance.av p0)) rfl rfl rfl rfl)) ?_
  refine ASL.q (v := (.rptr [(.bool p1.null), (.int .i64 p1.first), (.int .i64 p1.last), (.int .i64 (p1.behind 0)), (.int .i64 (p1.behind 1)), (.int .i64 (p1.behind 2)), (.int .i64 (p1.behind 3)), (.int .i64 (p1.behind 4)), (.int .i64 (p1.behind 5)), (.int .i64 (p1.behind 6)), (.int .i64 (p1.behind 7)), (.int .i64 (p1.behind 8)), (.int .i64 (p1.behind 9)), (.int .i64 (p1.behind 10)), (.int .i64 (p1.behind 11)), (.int .i64 (p1.behind 12)), (.int .i64 (p1.behind 13)), (.int .i64 (p1.behind 14)), (.int .i64 (p1.behind 15)), (.int .i64 (p1.behind 16)), (.int .i64 (p1.behind 17)), (.int .i64 (p1.behind 18)), (.int .i64 (p1.behind 19)), (.int .i64 (p1.behind 20)), (.int .i64 (p1.behind 21)), (.int .i64 (p1.behind 22)), (.int .i64 (p1.behind 23)), (.int .i64 (p1.behind 24)), (.int .i64 (p1.behind 25)), (.int .i64 (p1.behind 26)), (.int .i64 (p1.behind 27)), (.int .i64 (p1.behind 28)), (.int .i64 (p1.behind 29)), (.int .i64 (p1.behind 30)), (.int .i64 (p1.behind 31))])) rfl rfl ((qBoxI (v := (Tglance.av p1)) rfl rfl rfl rfl)) ?_
  refine ASL.x rfl rfl (hNewZ hS [(.bool false), (.int .i64 0), (.int .i64 0), (.int .i64 0), (.int .i64 0), (.int .i64 0), (.int .i64 0), (.int .i64 0), (.int .i64 0), (.int .i64 0), (.int .i64 0), (.int .i64 0), (.int .i64 0), (.int .i64 0), (.int .i64 0), (.int .i64 0), (.int .i64 0), (.int .i64 0), (.int .i64 0), (.int .i64 0), (.int .i64 0), (.int .i64 0), (.int .i64 0), (.int .i64 0), (.int .i64 0), (.int .i64 0), (.int .i64 0), (.int .i64 0), (.int .i64 0), (.int .i64 0), (.int .i64 0), (.int .i64 0), (.int .i64 0), (.int .i64 0), (.int .i64 0)] rfl zeroA_111 ⟨.inl rfl, .inl rfl, .inl rfl, .inl rfl, .inl rfl, .inl rfl, .inl rfl, .inl rfl, .inl rfl, .inl rfl, .inl rfl, .inl rfl, .inl rfl, .inl rfl, .inl rfl, .inl rfl, .inl rfl, .inl rfl, .inl rfl, .inl rfl, .inl rfl, .inl rfl, .inl rfl, .inl rfl, .inl rfl, .inl rfl, .inl rfl, .inl rfl, .inl rfl, .inl rfl, .inl rfl, .inl rfl, .inl rfl, .inl rfl, .inl rfl, trivial⟩ ?_); rintro b4 G1 hK hS
  refine ASL.done ?_
  refine AWP.seqR rfl ?_
  refine ASL.q (v := (.rptr [(.bool p0.null), (.int .i64 p0.first), (.int .i64 p0.last), (.int .i64 (p0.behind 0)), (.int .i64 (p0.behind 1)), (.int .i64 (p0.behind 2)), (.int .i64 (p0.behind 3)), (.int .i64 (p0.behind 4)), (.int .i64 (p0.behind 5)), (.int .i64 (p0.behind 6)), (.int .i64 (p0.behind 7)), (.int .i64 (p0.behind 8)), (.int .i64 (p0.behind 9)), (.int .i64 (p0.behind 10)), (.int .i64 (p0.behind 11)), (.int .i64 (p0.behind 12)), (.int .i64 (p0.behind 13)), (.int .i64 (p0.behind 14)), (.int .i64 (p0.behind 15)), (.int .i64 (p0.behind 16)), (.int .i64 (p0.behind 17)), (.int .i64 (p0.behind 18)), (.int .i64 (p0.behind 19)), (.int .i64 (p0.behind 20)), (.int .i64 (p0.behind 21)), (.int .i64 (p0.behind 22)), (.int .i64 (p0.behind 23)), (.int .i64 (p0.behind 24)), (.int .i64 (p0.behind 25)), (.int .i64 (p0.behind 26)), (.int .i64 (p0.behind 27)), (.int .i64 (p0.behind 28)), (.int .i64 (p0.behind 29)), (.int .i64 (p0.behind 30)), (.int .i64 (p0.behind 31))])) rfl rfl (Light.quiet (opFieldAddrR rfl fieldA_111_0 rfl rfl)) ?_
  refine ASL.q (v := (.bool p0.null)) rfl rfl (Light.quiet (opLoadR rfl aggA_4 rfl rfl)) ?_
  obtain ⟨c9, hc9, hF⟩ := bndE hF
  refine ASL.q (v := (.bool c9)) rfl rfl ((Quiet.cast (Light.quiet (opMove rfl rfl)) (congrArg AV.bool hc9.symm))) ?_
  refine ASL.g (v := (.rptr [(.bool p1.null), (.int .i64 p1.first), (.int .i64 p1.last), (.int .i64 (p1.behind 0)), (.int .i64 (p1.behind 1)), (.int .i64 (p1.behind 2)), (.int .i64 (p1.behind 3)), (.int .i64 (p1.behind 4)), (.int .i64 (p1.behind 5)), (.int .i64 (p1.behind 6)), (.int .i64 (p1.behind 7)), (.int .i64 (p1.behind 8)), (.int .i64 (p1.behind 9)), (.int .i64 (p1.behind 10)), (.int .i64 (p1.behind 11)), (.int .i64 (p1.behind 12)), (.int .i64 (p1.behind 13)), (.int .i64 (p1.behind 14)), (.int .i64 (p1.behind 15)), (.int .i64 (p1.behind 16)), (.int .i64 (p1.behind 17)), (.int .i64 (p1.behind 18)), (.int .i64 (p1.behind 19)), (.int .i64 (p1.behind 20)), (.int .i64 (p1.behind 21)), (.int .i64 (p1.behind 22)), (.int .i64 (p1.behind 23)), (.int .i64 (p1.behind 24)), (.int .i64 (p1.behind 25)), (.int .i64 (p1.behind 26)), (.int .i64 (p1.behind 27)), (.int .i64 (p1.behind 28)), (.int .i64 (p1.behind 29)), (.int .i64 (p1.behind 30)), (.int .i64 (p1.behind 31))])) (.bool c9) false rfl (wF _) rfl (fun hG => by have q0 := gN hG; subst q0; exact Light.quiet (opFieldAddrR rfl fieldA_111_0 rfl rfl)) ?_
  refine ASL.g (v := (.bool p1.null)) (.bool c9) false rfl (wF _) rfl (fun hG => by have q0 := gN hG; subst q0; exact Light.quiet (opLoadR rfl aggA_4 rfl rfl)) ?_
  refine ASL.q (v := (.bool (c9 || p1.null))) rfl rfl (Light.quiet (opPick (b := c9) rfl rfl (by cases c9 <;> rfl))) ?_
  refine ASL.q (v := (.rptr [(.int .i64 p0.first), (.int .i64 p0.last), (.int .i64 (p0.behind 0)), (.int .i64 (p0.behind 1)), (.int .i64 (p0.behind 2)), (.int .i64 (p0.behind 3)), (.int .i64 (p0.behind 4)), (.int .i64 (p0.behind 5)), (.int .i64 (p0.behind 6)), (.int .i64 (p0.behind 7)), (.int .i64 (p0.behind 8)), (.int .i64 (p0.behind 9)), (.int .i64 (p0.behind 10)), (.int .i64 (p0.behind 11)), (.int .i64 (p0.behind 12)), (.int .i64 (p0.behind 13)), (.int .i64 (p0.behind 14)), (.int .i64 (p0.behind 15)), (.int .i64 (p0.behind 16)), (.int .i64 (p0.behind 17)), (.int .i64 (p0.behind 18)), (.int .i64 (p0.behind 19)), (.int .i64 (p0.behind 20)), (.int .i64 (p0.behind 21)), (.int .i64 (p0.behind 22)), (.int .i64 (p0.behind 23)), (.int .i64 (p0.behind 24)), (.int .i64 (p0.behind 25)), (.int .i64 (p0.behind 26)), (.int .i64 (p0.behind 27)), (.int .i64 (p0.behind 28)), (.int .i64 (p0.behind 29)), (.int .i64 (p0.behind 30)), (.int .i64 (p0.behind 31))])) rfl rfl (Light.quiet (opFieldAddrR rfl fieldA_111_1 rfl rfl)) ?_
  refine ASL.q (v := (.int .i64 p0.first)) rfl rfl (Light.quiet (opLoadR rfl aggA_3 rfl rfl)) ?_
  refine ASL.q (v := (.rptr [(.int .i64 p1.first), (.int .i64 p1.last), (.int .i64 (p1.behind 0)), (.int .i64 (p1.behind 1)), (.int .i64 (p1.behind 2)), (.int .i64 (p1.behind 3)), (.int .i64 (p1.behind 4)), (.int .i64 (p1.behind 5)), (.int .i64 (p1.behind 6)), (.int .i64 (p1.behind 7)), (.int .i64 (p1.behind 8)), (.int .i64 (p1.behind 9)), (.int .i64 (p1.behind 10)), (.int .i64 (p1.behind 11)), (.int .i64 (p1.behind 12)), (.int .i64 (p1.behind 13)), (.int .i64 (p1.behind 14)), (.int .i64 (p1.behind 15)), (.int .i64 (p1.behind 16)), (.int .i64 (p1.behind 17)), (.int .i64 (p1.behind 18)), (.int .i64 (p1.behind 19)), (.int .i64 (p1.behind 20)), (.int .i64 (p1.behind 21)), (.int .i64 (p1.behind 22)), (.int .i64 (p1.behind 23)), (.int .i64 (p1.behind 24)), (.int .i64 (p1.behind 25)), (.int .i64 (p1.behind 26)), (.int .i64 (p1.behind 27)), (.int .i64 (p1.behind 28)), (.int .i64 (p1.behind 29)), (.int .i64 (p1.behind 30)), (.int .i64 (p1.behind 31))])) rfl rfl (Light.quiet (opFieldAddrR rfl fieldA_111_1 rfl rfl)) ?_
  refine ASL.q (v := (.int .i64 p1.first)) rfl rfl (Light.quiet (opLoadR rfl aggA_3 rfl rfl)) ?_
  refine ASL.q (v := (.int .i64 (bOr .i64 p0.first p1.first))) rfl rfl (Light.quiet (opInt rfl rfl rfl rfl)) ?_
  refine ASL.q (v := (.rptr [(.int .i64 p0.last), (.int .i64 (p0.behind 0)), (.int .i64 (p0.behind 1)), (.int .i64 (p0.behind 2)), (.int .i64 (p0.behind 3)), (.int .i64 (p0.behind 4)), (.int .i64 (p0.behind 5)), (.int .i64 (p0.behind 6)), (.int .i64 (p0.behind 7)), (.int .i64 (p0.behind 8)), (.int .i64 (p0.behind 9)), (.int .i64 (p0.behind 10)), (.int .i64 (p0.behind 11)), (.int .i64 (p0.behind 12)), (.int .i64 (p0.behind 13)), (.int .i64 (p0.behind 14)), (.int .i64 (p0.behind 15)), (.int .i64 (p0.behind 16)), (.int .i64 (p0.behind 17)), (.int .i64 (p0.behind 18)), (.int .i64 (p0.behind 19)), (.int .i64 (p0.behind 20)), (.int .i64 (p0.behind 21)), (.int .i64 (p0.behind 22)), (.int .i64 (p0.behind 23)), (.int .i64 (p0.behind 24)), (.int .i64 (p0.behind 25)), (.int .i64 (p0.behind 26)), (.int .i64 (p0.behind 27)), (.int .i64 (p0.behind 28)), (.int .i64 (p0.behind 29)), (.int .i64 (p0.behind 30)), (.int .i64 (p0.behind 31))])) rfl rfl (Light.quiet (opFieldAddrR rfl fieldA_111_2 rfl rfl)) ?_
  refine ASL.q (v := (.int .i64 p0.last)) rfl rfl (Light.quiet (opLoadR rfl aggA_3 rfl rfl)) ?_
  refine ASL.q (v := (.rptr [(.int .i64 p1.last), (.int .i64 (p1.behind 0)), (.int .i64 (p1.behind 1)), (.int .i64 (p1.behind 2)), (.int .i64 (p1.behind 3)), (.int .i64 (p1.behind 4)), (.int .i64 (p1.behind 5)), (.int .i64 (p1.behind 6)), (.int .i64 (p1.behind 7)), (.int .i64 (p1.behind 8)), (.int .i64 (p1.behind 9)), (.int .i64 (p1.behind 10)), (.int .i64 (p1.behind 11)), (.int .i64 (p1.behind 12)), (.int .i64 (p1.behind 13)), (.int .i64 (p1.behind 14)), (.int .i64 (p1.behind 15)), (.int .i64 (p1.behind 16)), (.int .i64 (p1.behind 17)), (.int .i64 (p1.behind 18)), (.int .i64 (p1.behind 19)), (.int .i64 (p1.behind 20)), (.int .i64 (p1.behind 21)), (.int .i64 (p1.behind 22)), (.int .i64 (p1.behind 23)), (.int .i64 (p1.behind 24)), (.int .i64 (p1.behind 25)), (.int .i64 (p1.behind 26)), (.int .i64 (p1.behind 27)), (.int .i64 (p1.behind 28)), (.int .i64 (p1.behind 29)), (.int .i64 (p1.behind 30)), (.int .i64 (p1.behind 31))])) rfl rfl (Light.quiet (opFieldAddrR rfl fieldA_111_2 rfl rfl)) ?_
  refine ASL.q (v := (.int .i64 p1.last)) rfl rfl (Light.quiet (opLoadR rfl aggA_3 rfl rfl)) ?_
  refine ASL.q (v := (.int .i64 (bOr .i64 p0.last p1.last))) rfl rfl (Light.quiet (opInt rfl rfl rfl rfl)) ?_
  refine ASL.q (v := (.agg [(.bool (c9 || p1.null)), (.int .i64 (bOr .i64 p0.first p1.first)), (.int .i64 (bOr .i64 p0.last p1.last)), (.int .i64 0), (.int .i64 0), (.int .i64 0), (.int .i64 0), (.int .i64 0), (.int .i64 0), (.int .i64 0), (.int .i64 0), (.int .i64 0), (.int .i64 0), (.int .i64 0), (.int .i64 0), (.int .i64 0), (.int .i64 0), (.int .i64 0), (.int .i64 0), (.int .i64 0), (.int .i64 0), (.int .i64 0), (.int .i64 0), (.int .i64 0), (.int .i64 0), (.int .i64 0), (.int .i64 0), (.int .i64 0), (.int .i64 0), (.int .i64 0), (.int .i64 0), (.int .i64 0), (.int .i64 0), (.int .i64 0), (.int .i64 0)])) rfl rfl (Light.quiet (opBuildZ (zs := [(.bool false), (.int .i64 0), (.int .i64 0), (.int .i64 0), (.int .i64 0), (.int .i64 0), (.int .i64 0), (.int .i64 0), (.int .i64 0), (.int .i64 0), (.int .i64 0), (.int .i64 0), (.int .i64 0), (.int .i64 0), (.int .i64 0), (.int .i64 0), (.int .i64 0), (.int .i64 0), (.int .i64 0), (.int .i64 0), (.int .i64 0), (.int .i64 0), (.int .i64 0), (.int .i64 0), (.int .i64 0), (.int .i64 0), (.int .i64 0), (.int .i64 0), (.int .i64 0), (.int .i64 0), (.int .i64 0), (.int .i64 0), (.int .i64 0), (.int .i64 0), (.int .i64 0)]) rfl plan_111 zeroA_111 ⟨.inl rfl, .inl rfl, .inl rfl, .inl rfl, .inl rfl, .inl rfl, .inl rfl, .inl rfl, .inl rfl, .inl rfl, .inl rfl, .inl rfl, .inl rfl, .inl rfl, .inl rfl, .inl rfl, .inl rfl, .inl rfl, .inl rfl, .inl rfl, .inl rfl, .inl rfl, .inl rfl, .inl rfl, .inl rfl, .inl rfl, .inl rfl, .inl rfl, .inl rfl, .inl rfl, .inl rfl, .inl rfl, .inl rfl, .inl rfl, .inl rfl, trivial⟩ rfl)) ?_
  refine ASL.x rfl rfl (hNewZ hS [(.bool false), (.int .i64 0), (.int .i64 0), (.int .i64 0), (.int .i64 0), (.int .i64 0), (.int .i64 0), (.int .i64 0), (.int .i64 0), (.int .i64 0), (.int .i64 0), (.int .i64 0), (.int .i64 0), (.int .i64 0), (.int .i64 0), (.int .i64 0), (.int .i64 0), (.int .i64 0), (.int .i64 0), (.int .i64 0), (.int .i64 0), (.int .i64 0), (.int .i64 0), (.int .i64 0), (.int .i64 0), (.int .i64 0), (.int .i64 0), (.int .i64 0), (.int .i64 0), (.int .i64 0), (.int .i64 0), (.int .i64 0), (.int .i64 0), (.int .i64 0), (.int .i64 0)] rfl zeroA_111 ⟨.inl rfl, .inl rfl, .inl rfl, .inl rfl, .inl rfl, .inl rfl, .inl rfl, .inl rfl, .inl rfl, .inl rfl, .inl rfl, .inl rfl, .inl rfl, .inl rfl, .inl rfl, .inl rfl, .inl rfl, .inl rfl, .inl rfl, .inl rfl, .inl rfl, .inl rfl, .inl rfl, .inl rfl, .inl rfl, .inl rfl, .inl rfl, .inl rfl, .inl rfl, .inl rfl, .inl rfl, .inl rfl, .inl rfl, .inl rfl, .inl rfl, trivial⟩ ?_); rintro b5 G3 hK hS
  refine ASL.n rfl rfl (hPutAll (ys := [(.bool (c9 || p1.null)), (.int .i64 (bOr .i64 p0.first p1.first)), (.int .i64 (bOr .i64 p0.last p1.last)), (.int .i64 0), (.int .i64 0), (.int .i64 0), (.int .i64 0), (.int .i64 0), (.int .i64 0), (.int .i64 0), (.int .i64 0), (.int .i64 0), (.int .i64 0), (.int .i64 0), (.int .i64 0), (.int .i64 0), (.int .i64 0), (.int .i64 0), (.int .i64 0), (.int .i64 0), (.int .i64 0), (.int .i64 0), (.int .i64 0), (.int .i64 0), (.int .i64 0), (.int .i64 0), (.int .i64 0), (.int .i64 0), (.int .i64 0), (.int .i64 0), (.int .i64 0), (.int .i64 0), (.int .i64 0), (.int .i64 0), (.int .i64 0)]) hS (j := 0) rfl rfl sizeA_111 rfl rfl rfl rfl rfl rfl rfl (by decide) ?_); rintro G5 hS
  refine ASL.done ?_
  refine AWP.seqM (fun e H => ∃ y6 : Bool, ∃ y7 : Int, ∃ y8 : Int, ∃ y9 : (Nat → Int), E.Told e [(4, (.ptr b4 0)), (5, (.ptr b5 0))] ∧ E.Sep H [.cell b4 [(.bool false), (.int .i64 0), (.int .i64 0), (.int .i64 0), (.int .i64 0), (.int .i64 0), (.int .i64 0), (.int .i64 0), (.int .i64 0), (.int .i64 0), (.int .i64 0), (.int .i64 0), (.int .i64 0), (.int .i64 0), (.int .i64 0), (.int .i64 0), (.int .i64 0), (.int .i64 0), (.int .i64 0), (.int .i64 0), (.int .i64 0), (.int .i64 0), (.int .i64 0), (.int .i64 0), (.int .i64 0), (.int .i64 0), (.int .i64 0), (.int .i64 0), (.int .i64 0), (.int .i64 0), (.int .i64 0), (.int .i64 0), (.int .i64 0), (.int .i64 0), (.int .i64 0)], .cell b5 [(.bool y6), (.int .i64 y7), (.int .i64 y8), (.int .i64 (y9 0)), (.int .i64 (y9 1)), (.int .i64 (y9 2)), (.int .i64 (y9 3)), (.int .i64 (y9 4)), (.int .i64 (y9 5)), (.int .i64 (y9 6)), (.int .i64 (y9 7)), (.int .i64 (y9 8)), (.int .i64 (y9 9)), (.int .i64 (y9 10)), (.int .i64 (y9 11)), (.int .i64 (y9 12)), (.int .i64 (y9 13)), (.int .i64 (y9 14)), (.int .i64 (y9 15)), (.int .i64 (y9 16)), (.int .i64 (y9 17)), (.int .i64 (y9 18)), (.int .i64 (y9 19)), (.int .i64 (y9 20)), (.int .i64 (y9 21)), (.int .i64 (y9 22)), (.int .i64 (y9 23)), (.int .i64 (y9 24)), (.int .i64 (y9 25)), (.int .i64 (y9 26)), (.int .i64 (y9 27)), (.int .i64 (y9 28)), (.int .i64 (y9 29)), (.int .i64 (y9 30)), (.int .i64 (y9 31))]] ∧ impl_orOf.k0 y6 y7 y8 y9 = some r) ?_ ?_
  · rintro e0 G11 ⟨y6, y7, y8, y9, hT, hS, hF⟩; refine AWP.only _ hT ?_; unfold impl_orOf.k0 at hF
    refine AWP.seqR rfl ?_
    refine ASL.q (v := (.agg [(.bool y6), (.int .i64 y7), (.int .i64 y8), (.int .i64 (y9 0)), (.int .i64 (y9 1)), (.int .i64 (y9 2)), (.int .i64 (y9 3)), (.int .i64 (y9 4)), (.int .i64 (y9 5)), (.int .i64 (y9 6)), (.int .i64 (y9 7)), (.int .i64 (y9 8)), (.int .i64 (y9 9)), (.int .i64 (y9 10)), (.int .i64 (y9 11)), (.int .i64 (y9 12)), (.int .i64 (y9 13)), (.int .i64 (y9 14)), (.int .i64 (y9 15)), (.int .i64 (y9 16)), (.int .i64 (y9 17)), (.int .i64 (y9 18)), (.int .i64 (y9 19)), (.int .i64 (y9 20)), (.int .i64 (y9 21)), (.int .i64 (y9 22)), (.int .i64 (y9 23)), (.int .i64 (y9 24)), (.int .i64 (y9 25)), (.int .i64 (y9 26)), (.int .i64 (y9 27)), (.int .i64 (y9 28)), (.int .i64 (y9 29)), (.int .i64 (y9 30)), (.int .i64 (y9 31))])) rfl rfl (Light.quiet (kAtA hS (j := 1) rfl rfl aggA_111 sizeA_111 rfl (nlt rfl) rfl)) ?_
    refine ASL.n rfl rfl (hPutAll (ys := [(.bool y6), (.int .i64 y7), (.int .i64 y8), (.int .i64 (y9 0)), (.int .i64 (y9 1)), (.int .i64 (y9 2)), (.int .i64 (y9 3)), (.int .i64 (y9 4)), (.int .i64 (y9 5)), (.int .i64 (y9 6)), (.int .i64 (y9 7)), (.int .i64 (y9 8)), (.int .i64 (y9 9)), (.int .i64 (y9 10)), (.int .i64 (y9 11)), (.int .i64 (y9 12)), (.int .i64 (y9 13)), (.int .i64 (y9 14)), (.int .i64 (y9 15)), (.int .i64 (y9 16)), (.int .i64 (y9 17)), (.int .i64 (y9 18)), (.int .i64 (y9 19)), (.int .i64 (y9 20)), (.int .i64 (y9 21)), (.int .i64 (y9 22)), (.int .i64 (y9 23)), (.int .i64 (y9 24)), (.int .i64 (y9 25)), (.int .i64 (y9 26)), (.int .i64 (y9 27)), (.int .i64 (y9 28)), (.int .i64 (y9 29)), (.int .i64 (y9 30)), (.int .i64 (y9 31))]) hS (j := 0) rfl rfl sizeA_111 rfl rfl rfl rfl rfl rfl rfl (by decide) ?_); rintro G10 hS
    refine ASL.done ?_
    refine AWP.ret ?_
    obtain rfl := someE hF
    exact QRet.sole (v := (.agg [(.bool y6), (.int .i64 y7), (.int .i64 y8), (.int .i64 (y9 0)), (.int .i64 (y9 1)), (.int .i64 (y9 2)), (.int .i64 (y9 3)), (.int .i64 (y9 4)), (.int .i64 (y9 5)), (.int .i64 (y9 6)), (.int .i64 (y9 7)), (.int .i64 (y9 8)), (.int .i64 (y9 9)), (.int .i64 (y9 10)), (.int .i64 (y9 11)), (.int .i64 (y9 12)), (.int .i64 (y9 13)), (.int .i64 (y9 14)), (.int .i64 (y9 15)), (.int .i64 (y9 16)), (.int .i64 (y9 17)), (.int .i64 (y9 18)), (.int .i64 (y9 19)), (.int .i64 (y9 20)), (.int .i64 (y9 21)), (.int .i64 (y9 22)), (.int .i64 (y9 23)), (.int .i64 (y9 24)), (.int .i64 (y9 25)), (.int .i64 (y9 26)), (.int .i64 (y9 27)), (.int .i64 (y9 28)), (.int .i64 (y9 29)), (.int .i64 (y9 30)), (.int .i64 (y9 31))])) ⟨resOne.at hS (k := 0) rfl rfl aggA_111 sizeA_111, trivial⟩ rfl
  · skip
    refine AWP.seqR rfl ?_
    refine ASL.q (v := (.int .i64 0)) rfl rfl (Light.quiet (opMove rfl rfl)) ?_
    refine ASL.done ?_
    refine AWP.block ?_
    obtain ⟨o19, hL18, hR20⟩ := bindE hF
    refine AWP.loopF (ω := Unit) hL18 (fun s w => [(2, (.rptr [(.bool p0.null), (.int .i64 p0.first), (.int .i64 p0.last), (.int .i64 (p0.behind 0)), (.int .i64 (p0.behind 1)), (.int .i64 (p0.behind 2)), (.int .i64 (p0.behind 3)), (.int .i64 (p0.behind 4)), (.int .i64 (p0.behind 5)), (.int .i64 (p0.behind 6)), (.int .i64 (p0.behind 7)), (.int .i64 (p0.behind 8)), (.int .i64 (p0.behind 9)), (.int .i64 (p0.behind 10)), (.int .i64 (p0.behind 11)), (.int .i64 (p0.behind 12)), (.int .i64 (p0.behind 13)), (.int .i64 (p0.behind 14)), (.int .i64 (p0.behind 15)), (.int .i64 (p0.behind 16)), (.int .i64 (p0.behind 17)), (.int .i64 (p0.behind 18)), (.int .i64 (p0.behind 19)), (.int .i64 (p0.behind 20)), (.int .i64 (p0.behind 21)), (.int .i64 (p0.behind 22)), (.int .i64 (p0.behind 23)), (.int .i64 (p0.behind 24)), (.int .i64 (p0.behind 25)), (.int .i64 (p0.behind 26)), (.int .i64 (p0.behind 27)), (.int .i64 (p0.behind 28)), (.int .i64 (p0.behind 29)), (.int .i64 (p0.behind 30)), (.int .i64 (p0.behind 31))])), (3, (.rptr [(.bool p1.null), (.int .i64 p1.first), (.int .i64 p1.last), (.int .i64 (p1.behind 0)), (.int .i64 (p1.behind 1)), (.int .i64 (p1.behind 2)), (.int .i64 (p1.behind 3)), (.int .i64 (p1.behind 4)), (.int .i64 (p1.behind 5)), (.int .i64 (p1.behind 6)), (.int .i64 (p1.behind 7)), (.int .i64 (p1.behind 8)), (.int .i64 (p1.behind 9)), (.int .i64 (p1.behind 10)), (.int .i64 (p1.behind 11)), (.int .i64 (p1.behind 12)), (.int .i64 (p1.behind 13)), (.int .i64 (p1.behind 14)), (.int .i64 (p1.behind 15)), (.int .i64 (p1.behind 16)), (.int .i64 (p1.behind 17)), (.int .i64 (p1.behind 18)), (.int .i64 (p1.behind 19)), (.int .i64 (p1.behind 20)), (.int .i64 (p1.behind 21)), (.int .i64 (p1.behind 22)), (.int .i64 (p1.behind 23)), (.int .i64 (p1.behind 24)), (.int .i64 (p1.behind 25)), (.int .i64 (p1.behind 26)), (.int .i64 (p1.behind 27)), (.int .i64 (p1.behind 28)), (.int .i64 (p1.behind 29)), (.int .i64 (p1.behind 30)), (.int .i64 (p1.behind 31))])), (4, (.ptr b4 0)), (5, (.ptr b5 0)), (24, (.int .i64 s.2.2.2.2))]) (fun s w => [.cell b4 [(.bool false), (.int .i64 0), (.int .i64 0), (.int .i64 0), (.int .i64 0), (.int .i64 0), (.int .i64 0), (.int .i64 0), (.int .i64 0), (.int .i64 0), (.int .i64 0), (.int .i64 0), (.int .i64 0), (.int .i64 0), (.int .i64 0), (.int .i64 0), (.int .i64 0), (.int .i64 0), (.int .i64 0), (.int .i64 0), (.int .i64 0), (.int .i64 0), (.int .i64 0), (.int .i64 0), (.int .i64 0), (.int .i64 0), (.int .i64 0), (.int .i64 0), (.int .i64 0), (.int .i64 0), (.int .i64 0), (.int .i64 0), (.int .i64 0), (.int .i64 0), (.int .i64 0)], .cell b5 [(.bool s.1), (.int .i64 s.2.1), (.int .i64 s.2.2.1), (.int .i64 (s.2.2.2.1 0)), (.int .i64 (s.2.2.2.1 1)), (.int .i64 (s.2.2.2.1 2)), (.int .i64 (s.2.2.2.1 3)), (.int .i64 (s.2.2.2.1 4)), (.int .i64 (s.2.2.2.1 5)), (.int .i64 (s.2.2.2.1 6)), (.int .i64 (s.2.2.2.1 7)), (.int .i64 (s.2.2.2.1 8)), (.int .i64 (s.2.2.2.1 9)), (.int .i64 (s.2.2.2.1 10)), (.int .i64 (s.2.2.2.1 11)), (.int .i64 (s.2.2.2.1 12)), (.int .i64 (s.2.2.2.1 13)), (.int .i64 (s.2.2.2.1 14)), (.int .i64 (s.2.2.2.1 15)), (.int .i64 (s.2.2.2.1 16)), (.int .i64 (s.2.2.2.1 17)), (.int .i64 (s.2.2.2.1 18)), (.int .i64 (s.2.2.2.1 19)), (.int .i64 (s.2.2.2.1 20)), (.int .i64 (s.2.2.2.1 21)), (.int .i64 (s.2.2.2.1 22)), (.int .i64 (s.2.2.2.1 23)), (.int .i64 (s.2.2.2.1 24)), (.int .i64 (s.2.2.2.1 25)), (.int .i64 (s.2.2.2.1 26)), (.int .i64 (s.2.2.2.1 27)), (.int .i64 (s.2.2.2.1 28)), (.int .i64 (s.2.2.2.1 29)), (.int .i64 (s.2.2.2.1 30)), (.int .i64 (s.2.2.2.1 31))]]) () ⟨rfl, rfl, rfl, rfl, rfl, trivial⟩ (hS.pick [1, 0] rfl rfl) ?_
    rintro ⟨y12, y13, y14, y15, x24_l0⟩ _ G21 hS x16 hF hx17
    try dsimp only at hS ⊢
    have hF : impl_orOf.b0 p0 p1 y12 y13 y14 y15 x24_l0 = some x16 := hF; unfold impl_orOf.b0 at hF
    refine AWP.seqR rfl ?_
    refine ASL.q (v := (.bool (decide (x24_l0 < 32)))) rfl rfl (Light.quiet (opInt rfl rfl rfl rfl)) ?_
    refine ASL.done ?_
    refine AWP.seq ?_
    refine AWP.ifP hF rfl (fun hc22 hF => ?_) (fun hc22 hF => ?_)
    · skip
      refine AWP.skip ?_
      refine QThen.nrm ?_
      refine AWP.seq ?_
      refine AWP.block ?_
      refine AWP.seqR rfl ?_
      refine ASL.q (v := (.int .i64 x24_l0)) rfl rfl (Light.quiet (opMove rfl rfl)) ?_
      refine ASL.q (v := (.int .i64 x24_l0)) rfl rfl (Light.quiet (opAssign rfl rfl)) ?_
      refine ASL.done ?_
      refine AWP.lastD [(0, false), (1, false), (2, false), (3, false), (4, false), (5, false), (6, false), (7, false), (8, false), (9, false), (10, false), (11, false), (12, true)] mixed (by kernel_rfl) rfl ?_
      refine ARL.q0 (v := (.int .i64 x24_l0)) rfl rfl (Light.quiet (opMove rfl rfl)) ?_
      refine ARL.q0 (v := (.int .i64 x24_l0)) rfl rfl (Light.quiet (opMove rfl rfl)) ?_
      refine ARL.q0 (v := (.rptr [(.int .i64 (p0.behind 0)), (.int .i64 (p0.behind 1)), (.int .i64 (p0.behind 2)), (.int .i64 (p0.behind 3)), (.int .i64 (p0.behind 4)), (.int .i64 (p0.behind 5)), (.int .i64 (p0.behind 6)), (.int .i64 (p0.behind 7)), (.int .i64 (p0.behind 8)), (.int .i64 (p0.behind 9)), (.int .i64 (p0.behind 10)), (.int .i64 (p0.behind 11)), (.int .i64 (p0.behind 12)), (.int .i64 (p0.behind 13)), (.int .i64 (p0.behind 14)), (.int .i64 (p0.behind 15)), (.int .i64 (p0.behind 16)), (.int .i64 (p0.behind 17)), (.int .i64 (p0.behind 18)), (.int .i64 (p0.behind 19)), (.int .i64 (p0.behind 20)), (.int .i64 (p0.behind 21)), (.int .i64 (p0.behind 22)), (.int .i64 (p0.behind 23)), (.int .i64 (p0.behind 24)), (.int .i64 (p0.behind 25)), (.int .i64 (p0.behind 26)), (.int .i64 (p0.behind 27)), (.int .i64 (p0.behind 28)), (.int .i64 (p0.behind 29)), (.int .i64 (p0.behind 30)), (.int .i64 (p0.behind 31))])) rfl rfl (Light.quiet (opFieldAddrR rfl fieldA_111_3 rfl rfl)) ?_
      obtain ⟨m30, hm30, hF⟩ := bindE hF
      refine ARL.q0 (v := (.rptr (List.drop m30 [(.int .i64 (p0.behind 0)), (.int .i64 (p0.behind 1)), (.int .i64 (p0.behind 2)), (.int .i64 (p0.behind 3)), (.int .i64 (p0.behind 4)), (.int .i64 (p0.behind 5)), (.int .i64 (p0.behind 6)), (.int .i64 (p0.behind 7)), (.int .i64 (p0.behind 8)), (.int .i64 (p0.behind 9)), (.int .i64 (p0.behind 10)), (.int .i64 (p0.behind 11)), (.int .i64 (p0.behind 12)), (.int .i64 (p0.behind 13)), (.int .i64 (p0.behind 14)), (.int .i64 (p0.behind 15)), (.int .i64 (p0.behind 16)), (.int .i64 (p0.behind 17)), (.int .i64 (p0.behind 18)), (.int .i64 (p0.behind 19)), (.int .i64 (p0.behind 20)), (.int .i64 (p0.behind 21)), (.int .i64 (p0.behind 22)), (.int .i64 (p0.behind 23)), (.int .i64 (p0.behind 24)), (.int .i64 (p0.behind 25)), (.int .i64 (p0.behind 26)), (.int .i64 (p0.behind 27)), (.int .i64 (p0.behind 28)), (.int .i64 (p0.behind 29)), (.int .i64 (p0.behind 30)), (.int .i64 (p0.behind 31))]))) rfl rfl (Light.quiet (opIndexArrR rfl rfl rfl arrA_109 hm30)) ?_
      refine ARL.q0 (v := (.int .i64 (p0.behind m30))) rfl rfl (Light.quiet (opLoadArrR (E := p0.behind) (n := 32) rfl rfl aggA_3 rfl hm30)) ?_
      refine ARL.q0 (v := (.int .i64 x24_l0)) rfl rfl (Light.quiet (opMove rfl rfl)) ?_
      refine ARL.q0 (v := (.rptr [(.int .i64 (p1.behind 0)), (.int .i64 (p1.behind 1)), (.int .i64 (p1.behind 2)), (.int .i64 (p1.behind 3)), (.int .i64 (p1.behind 4)), (.int .i64 (p1.behind 5)), (.int .i64 (p1.behind 6)), (.int .i64 (p1.behind 7)), (.int .i64 (p1.behind 8)), (.int .i64 (p1.behind 9)), (.int .i64 (p1.behind 10)), (.int .i64 (p1.behind 11)), (.int .i64 (p1.behind 12)), (.int .i64 (p1.behind 13)), (.int .i64 (p1.behind 14)), (.int .i64 (p1.behind 15)), (.int .i64 (p1.behind 16)), (.int .i64 (p1.behind 17)), (.int .i64 (p1.behind 18)), (.int .i64 (p1.behind 19)), (.int .i64 (p1.behind 20)), (.int .i64 (p1.behind 21)), (.int .i64 (p1.behind 22)), (.int .i64 (p1.behind 23)), (.int .i64 (p1.behind 24)), (.int .i64 (p1.behind 25)), (.int .i64 (p1.behind 26)), (.int .i64 (p1.behind 27)), (.int .i64 (p1.behind 28)), (.int .i64 (p1.behind 29)), (.int .i64 (p1.behind 30)), (.int .i64 (p1.behind 31))])) rfl rfl (Light.quiet (opFieldAddrR rfl fieldA_111_3 rfl rfl)) ?_
      obtain ⟨m34, hm34, hF⟩ := bindE hF
      refine ARL.q0 (v := (.rptr (List.drop m34 [(.int .i64 (p1.behind 0)), (.int .i64 (p1.behind 1)), (.int .i64 (p1.behind 2)), (.int .i64 (p1.behind 3)), (.int .i64 (p1.behind 4)), (.int .i64 (p1.behind 5)), (.int .i64 (p1.behind 6)), (.int .i64 (p1.behind 7)), (.int .i64 (p1.behind 8)), (.int .i64 (p1.behind 9)), (.int .i64 (p1.behind 10)), (.int .i64 (p1.behind 11)), (.int .i64 (p1.behind 12)), (.int .i64 (p1.behind 13)), (.int .i64 (p1.behind 14)), (.int .i64 (p1.behind 15)), (.int .i64 (p1.behind 16)), (.int .i64 (p1.behind 17)), (.int .i64 (p1.behind 18)), (.int .i64 (p1.behind 19)), (.int .i64 (p1.behind 20)), (.int .i64 (p1.behind 21)), (.int .i64 (p1.behind 22)), (.int .i64 (p1.behind 23)), (.int .i64 (p1.behind 24)), (.int .i64 (p1.behind 25)), (.int .i64 (p1.behind 26)), (.int .i64 (p1.behind 27)), (.int .i64 (p1.behind 28)), (.int .i64 (p1.behind 29)), (.int .i64 (p1.behind 30)), (.int .i64 (p1.behind 31))]))) rfl rfl (Light.quiet (opIndexArrR rfl rfl rfl arrA_109 hm34)) ?_
      refine ARL.q0 (v := (.int .i64 (p1.behind m34))) rfl rfl (Light.quiet (opLoadArrR (E := p1.behind) (n := 32) rfl rfl aggA_3 rfl hm34)) ?_
      refine ARL.q0 (v := (.int .i64 (bOr .i64 ((p0.behind m30)) ((p1.behind m34))))) rfl rfl (Light.quiet (opInt rfl rfl rfl rfl)) ?_
      refine ARL.q0 (v := (.ptr b5 3)) rfl rfl (Light.quiet (opFieldAddr rfl fieldA_111_3 rfl rfl)) ?_
      obtain ⟨m38, hm38, hF⟩ := bindE hF
      refine ARL.q0 (v := (.ptr b5 (3 + m38))) rfl rfl (Light.quiet (opIndexArr rfl rfl rfl arrA_109 hm38)) ?_
      refine ARL.n rfl rfl rfl rfl (hPutArr (E := y15) (pre := [(.bool y12), (.int .i64 y13), (.int .i64 y14)]) (n := 32) hS (j := 1) rfl rfl rfl sizeA_3 rfl hm38 rfl ?_); rintro G23 hS
      have hS : Sep G23 [.cell b4 [(.bool false), (.int .i64 0), (.int .i64 0), (.int .i64 0), (.int .i64 0), (.int .i64 0), (.int .i64 0), (.int .i64 0), (.int .i64 0), (.int .i64 0), (.int .i64 0), (.int .i64 0), (.int .i64 0), (.int .i64 0), (.int .i64 0), (.int .i64 0), (.int .i64 0), (.int .i64 0), (.int .i64 0), (.int .i64 0), (.int .i64 0), (.int .i64 0), (.int .i64 0), (.int .i64 0), (.int .i64 0), (.int .i64 0), (.int .i64 0), (.int .i64 0), (.int .i64 0), (.int .i64 0), (.int .i64 0), (.int .i64 0), (.int .i64 0), (.int .i64 0), (.int .i64 0)], .cell b5 [(.bool y12), (.int .i64 y13), (.int .i64 y14), (.int .i64 ((upA y15 m38 ((bOr .i64 ((p0.behind m30)) ((p1.behind m34))))) 0)), (.int .i64 ((upA y15 m38 ((bOr .i64 ((p0.behind m30)) ((p1.behind m34))))) 1)), (.int .i64 ((upA y15 m38 ((bOr .i64 ((p0.behind m30)) ((p1.behind m34))))) 2)), (.int .i64 ((upA y15 m38 ((bOr .i64 ((p0.behind m30)) ((p1.behind m34))))) 3)), (.int .i64 ((upA y15 m38 ((bOr .i64 ((p0.behind m30)) ((p1.behind m34))))) 4)), (.int .i64 ((upA y15 m38 ((bOr .i64 ((p0.behind m30)) ((p1.behind m34))))) 5)), (.int .i64 ((upA y15 m38 ((bOr .i64 ((p0.behind m30)) ((p1.behind m34))))) 6)), (.int .i64 ((upA y15 m38 ((bOr .i64 ((p0.behind m30)) ((p1.behind m34))))) 7)), (.int .i64 ((upA y15 m38 ((bOr .i64 ((p0.behind m30)) ((p1.behind m34))))) 8)), (.int .i64 ((upA y15 m38 ((bOr .i64 ((p0.behind m30)) ((p1.behind m34))))) 9)), (.int .i64 ((upA y15 m38 ((bOr .i64 ((p0.behind m30)) ((p1.behind m34))))) 10)), (.int .i64 ((upA y15 m38 ((bOr .i64 ((p0.behind m30)) ((p1.behind m34))))) 11)), (.int .i64 ((upA y15 m38 ((bOr .i64 ((p0.behind m30)) ((p1.behind m34))))) 12)), (.int .i64 ((upA y15 m38 ((bOr .i64 ((p0.behind m30)) ((p1.behind m34))))) 13)), (.int .i64 ((upA y15 m38 ((bOr .i64 ((p0.behind m30)) ((p1.behind m34))))) 14)), (.int .i64 ((upA y15 m38 ((bOr .i64 ((p0.behind m30)) ((p1.behind m34))))) 15)), (.int .i64 ((upA y15 m38 ((bOr .i64 ((p0.behind m30)) ((p1.behind m34))))) 16)), (.int .i64 ((upA y15 m38 ((bOr .i64 ((p0.behind m30)) ((p1.behind m34))))) 17)), (.int .i64 ((upA y15 m38 ((bOr .i64 ((p0.behind m30)) ((p1.behind m34))))) 18)), (.int .i64 ((upA y15 m38 ((bOr .i64 ((p0.behind m30)) ((p1.behind m34))))) 19)), (.int .i64 ((upA y15 m38 ((bOr .i64 ((p0.behind m30)) ((p1.behind m34))))) 20)), (.int .i64 ((upA y15 m38 ((bOr .i64 ((p0.behind m30)) ((p1.behind m34))))) 21)), (.int .i64 ((upA y15 m38 ((bOr .i64 ((p0.behind m30)) ((p1.behind m34))))) 22)), (.int .i64 ((upA y15 m38 ((bOr .i64 ((p0.behind m30)) ((p1.behind m34))))) 23)), (.int .i64 ((upA y15 m38 ((bOr .i64 ((p0.behind m30)) ((p1.behind m34))))) 24)), (.int .i64 ((upA y15 m38 ((bOr .i64 ((p0.behind m30)) ((p1.behind m34))))) 25)), (.int .i64 ((upA y15 m38 ((bOr .i64 ((p0.behind m30)) ((p1.behind m34))))) 26)), (.int .i64 ((upA y15 m38 ((bOr .i64 ((p0.behind m30)) ((p1.behind m34))))) 27)), (.int .i64 ((upA y15 m38 ((bOr .i64 ((p0.behind m30)) ((p1.behind m34))))) 28)), (.int .i64 ((upA y15 m38 ((bOr .i64 ((p0.behind m30)) ((p1.behind m34))))) 29)), (.int .i64 ((upA y15 m38 ((bOr .i64 ((p0.behind m30)) ((p1.behind m34))))) 30)), (.int .i64 ((upA y15 m38 ((bOr .i64 ((p0.behind m30)) ((p1.behind m34))))) 31))]] := hS
      refine ARL.done ?_
      refine QBlock.nrm ?_
      refine QThen.nrm ?_
      refine AWP.lastR rfl ?_
      refine ASL.q (v := (.int .i64 (W (x24_l0 + 1)))) rfl rfl (Light.quiet (opInt rfl rfl rfl rfl)) ?_
      refine ASL.q (v := (.int .i64 (W (x24_l0 + 1)))) rfl rfl (Light.quiet (opMove rfl rfl)) ?_
      refine ASL.done ?_
      refine QThen.nrm ?_
      exact ⟨(y12, y13, y14, (upA y15 m38 ((bOr .i64 ((p0.behind m30)) ((p1.behind m34))))), (W (x24_l0 + 1))), (), (someE hF).symm, ⟨rfl, rfl, rfl, rfl, rfl, trivial⟩, (hS.pick [0, 1] rfl rfl)⟩
    · skip
      refine AWP.exit ?_
      refine QThen.ext ?_
      refine QThen.ext ?_
      refine QBlock.hit ?_
      obtain rfl := (hx17 _ (someE hF).symm)
      have hF := hR20
      refine QThen.nrm ?_
      exact ⟨y12, y13, y14, y15, ⟨rfl, rfl, trivial⟩, (hS.pick [0, 1] rfl rfl), hF⟩

set_option maxHeartbeats 400000 in
set_option maxRecDepth 10000 in
theorem impl_glanceOf_ok {p0 : (List TNode)} {r : (Tglance × (List Int))} (hF : impl_glanceOf p0 = some r) : PC Try.prog 94 [(.list 3 (List.map TNode.av p0))] fun v => v = .tup [(Tglance.av r.1), (.list 1 (List.map (AV.int .i64) r.2))] := by
  refine PC.enter Try.func94 rfl Try.ntmps94 (by simp) ?_
  have hS := Sep.void; unfold impl_glanceOf at hF
  refine AWP.seqR rfl ?_
  refine ASL.x rfl rfl (hNewZ hS [(.bool false), (.int .i64 0), (.int .i64 0), (.int .i64 0), (.int .i64 0), (.int .i64 0), (.int .i64 0), (.int .i64 0), (.int .i64 0), (.int .i64 0), (.int .i64 0), (.int .i64 0), (.int .i64 0), (.int .i64 0), (.int .i64 0), (.int .i64 0), (.int .i64 0), (.int .i64 0), (.int .i64 0), (.int .i64 0), (.int .i64 0), (.int .i64 0), (.int .i64 0), (.int .i64 0), (.int .i64 0), (.int .i64 0), (.int .i64 0), (.int .i64 0), (.int .i64 0), (.int .i64 0), (.int .i64 0), (.int .i64 0), (.int .i64 0), (.int .i64 0), (.int .i64 0)] rfl zeroA_111 ⟨.inl rfl, .inl rfl, .inl rfl, .inl rfl, .inl rfl, .inl rfl, .inl rfl, .inl rfl, .inl rfl, .inl rfl, .inl rfl, .inl rfl, .inl rfl, .inl rfl, .inl rfl, .inl rfl, .inl rfl, .inl rfl, .inl rfl, .inl rfl, .inl rfl, .inl rfl, .inl rfl, .inl rfl, .inl rfl, .inl rfl, .inl rfl, .inl rfl, .inl rfl, .inl rfl, .inl rfl, .inl rfl, .inl rfl, .inl rfl, .inl rfl, trivial⟩ ?_); rintro b2 G1 hK hS
  refine ASL.q (v := (.list 1 (List.map (AV.int .i64) []))) rfl rfl (Light.quiet (opNilL rfl rfl)) ?_
  refine ASL.done ?_
  refine AWP.seqR rfl ?_
  refine ASL.q (v := (.list 3 (List.map TNode.av p0))) rfl rfl (Light.quiet (opMove rfl rfl)) ?_
  refine ASL.q (v := (.int .i64 (p0.length : Int))) rfl rfl (Light.quiet (opLenMap (f := TNode.av) rfl rfl rfl lenT_29 rfl)) ?_
  obtain ⟨z11, hz11, hF⟩ := bindE hF
  refine ASL.x rfl rfl (hMk (f := Tglance.av) hS hz11 (by decide) rfl elemA_141 sizeA_111 bytesA_111 zeroA_111 rfl rfl (by decide) rfl rfl ?_); rintro v11 G3 hK hS
  refine ASL.q (v := v11) rfl rfl (Light.quiet (opAssign rfl rfl)) ?_
  refine ASL.done ?_
  refine AWP.seqR rfl ?_
  have hS := hNil (s := 1) (f := (AV.int .i64)) hS
  refine ASL.q (v := .nil) rfl rfl (Light.quiet (opAssign rfl rfl)) ?_
  refine ASL.done ?_
  refine AWP.seqM (fun e H => ∃ y6 : (List Tglance), ∃ y7 : (List Int), ∃ w8 : AV, E.Told e [(0, (.list 3 (List.map TNode.av p0))), (2, (.ptr b2 0)), (4, v11), (5, w8)] ∧ E.Sep H [.cell b2 [(.bool false), (.int .i64 0), (.int .i64 0), (.int .i64 0), (.int .i64 0), (.int .i64 0), (.int .i64 0), (.int .i64 0), (.int .i64 0), (.int .i64 0), (.int .i64 0), (.int .i64 0), (.int .i64 0), (.int .i64 0), (.int .i64 0), (.int .i64 0), (.int .i64 0), (.int .i64 0), (.int .i64 0), (.int .i64 0), (.int .i64 0), (.int .i64 0), (.int .i64 0), (.int .i64 0), (.int .i64 0), (.int .i64 0), (.int .i64 0), (.int .i64 0), (.int .i64 0), (.int .i64 0), (.int .i64 0), (.int .i64 0), (.int .i64 0), (.int .i64 0), (.int .i64 0)], .row 35 v11 (List.map Tglance.av y6), .row 1 w8 (List.map (AV.int .i64) y7)] ∧ impl_glanceOf.k0 p0 y6 y7 = some r) ?_ ?_
  · rintro e0 G12 ⟨y6, y7, w8, hT, hS, hF⟩; refine AWP.only _ hT ?_; unfold impl_glanceOf.k0 at hF
    refine AWP.frz (L' := [.cell b2 [(.bool false), (.int .i64 0), (.int .i64 0), (.int .i64 0), (.int .i64 0), (.int .i64 0), (.int .i64 0), (.int .i64 0), (.int .i64 0), (.int .i64 0), (.int .i64 0), (.int .i64 0), (.int .i64 0), (.int .i64 0), (.int .i64 0), (.int .i64 0), (.int .i64 0), (.int .i64 0), (.int .i64 0), (.int .i64 0), (.int .i64 0), (.int .i64 0), (.int .i64 0), (.int .i64 0), (.int .i64 0), (.int .i64 0), (.int .i64 0), (.int .i64 0), (.int .i64 0), (.int .i64 0), (.int .i64 0), (.int .i64 0), (.int .i64 0), (.int .i64 0), (.int .i64 0)], .row 35 v11 (List.map Tglance.av y6)]) hS (k := 2) rfl [(0, (.list 3 (List.map TNode.av p0))), (2, (.ptr b2 0)), (4, v11), (5, (.list 1 (List.map (AV.int .i64) y7)))] ⟨.inl rfl, .inl rfl, .inl rfl, .inr (.inl ⟨rfl, rfl⟩), trivial⟩ ⟨⟨_, rfl, ⟨.inl rfl, .inl rfl, .inl rfl, .inl rfl, .inl rfl, .inl rfl, .inl rfl, .inl rfl, .inl rfl, .inl rfl, .inl rfl, .inl rfl, .inl rfl, .inl rfl, .inl rfl, .inl rfl, .inl rfl, .inl rfl, .inl rfl, .inl rfl, .inl rfl, .inl rfl, .inl rfl, .inl rfl, .inl rfl, .inl rfl, .inl rfl, .inl rfl, .inl rfl, .inl rfl, .inl rfl, .inl rfl, .inl rfl, .inl rfl, .inl rfl, trivial⟩⟩, rfl, trivial⟩ (fun G10 hS => ?_)
    refine AWP.seqR rfl ?_
    refine ASL.q (v := v11) rfl rfl (Light.quiet (opMove rfl rfl)) ?_
    refine ASL.q (v := (.list 3 (List.map TNode.av p0))) rfl rfl (Light.quiet (opMove rfl rfl)) ?_
    refine ASL.q (v := (.int .i64 (p0.length : Int))) rfl rfl (Light.quiet (opLenMap (f := TNode.av) rfl rfl rfl lenT_29 rfl)) ?_
    refine ASL.q (v := (.int .i64 (W (((p0.length : Int)) - 1)))) rfl rfl (Light.quiet (opInt rfl rfl rfl rfl)) ?_
    obtain ⟨a98, ha98, hF⟩ := bindE hF
    refine ASL.q (v := (ptrTo v11 ((W (((p0.length : Int)) - 1))).toNat 35)) rfl rfl (Light.quiet (kIxOx hS (j := 1) rfl ha98 rfl rfl rfl elemA_141 sizeA_111)) ?_
    refine ASL.q (v := (Tglance.av a98)) rfl rfl (Light.quiet (kLdA hS (j := 1) rfl ha98 rfl aggA_111 sizeA_111 rfl rfl)) ?_
    refine ASL.q (v := (.list 1 (List.map (AV.int .i64) y7))) rfl rfl (Light.quiet (opMove rfl rfl)) ?_
    refine ASL.n rfl rfl (hPutAll (ys := [(.bool a98.null), (.int .i64 a98.first), (.int .i64 a98.last), (.int .i64 (a98.behind 0)), (.int .i64 (a98.behind 1)), (.int .i64 (a98.behind 2)), (.int .i64 (a98.behind 3)), (.int .i64 (a98.behind 4)), (.int .i64 (a98.behind 5)), (.int .i64 (a98.behind 6)), (.int .i64 (a98.behind 7)), (.int .i64 (a98.behind 8)), (.int .i64 (a98.behind 9)), (.int .i64 (a98.behind 10)), (.int .i64 (a98.behind 11)), (.int .i64 (a98.behind 12)), (.int .i64 (a98.behind 13)), (.int .i64 (a98.behind 14)), (.int .i64 (a98.behind 15)), (.int .i64 (a98.behind 16)), (.int .i64 (a98.behind 17)), (.int .i64 (a98.behind 18)), (.int .i64 (a98.behind 19)), (.int .i64 (a98.behind 20)), (.int .i64 (a98.behind 21)), (.int .i64 (a98.behind 22)), (.int .i64 (a98.behind 23)), (.int .i64 (a98.behind 24)), (.int .i64 (a98.behind 25)), (.int .i64 (a98.behind 26)), (.int .i64 (a98.behind 27)), (.int .i64 (a98.behind 28)), (.int .i64 (a98.behind 29)), (.int .i64 (a98.behind 30)), (.int .i64 (a98.behind 31))]) hS (j := 0) rfl rfl sizeA_111 rfl rfl rfl rfl rfl rfl rfl (by decide) ?_); rintro G11 hS
    refine ASL.q (v := (.list 1 (List.map (AV.int .i64) y7))) rfl rfl (Light.quiet (opAssign rfl rfl)) ?_
    refine ASL.done ?_
    refine AWP.ret ?_
    obtain rfl := someE hF
    exact QRet.many (vs := [(Tglance.av a98), (.list 1 (List.map (AV.int .i64) y7))]) ⟨resOne.at hS (k := 0) rfl rfl aggA_111 sizeA_111, rfl, trivial⟩ (by simp) rfl
  · skip
    refine AWP.seqR rfl ?_
    refine ASL.q (v := (.list 3 (List.map TNode.av p0))) rfl rfl (Light.quiet (opMove rfl rfl)) ?_
    refine ASL.q (v := (.int .i64 (p0.length : Int))) rfl rfl (Light.quiet (opLenMap (f := TNode.av) rfl rfl rfl lenT_29 rfl)) ?_
    refine ASL.q (v := (.int .i64 0)) rfl rfl (Light.quiet (opMove rfl rfl)) ?_
    refine ASL.done ?_
    refine AWP.block ?_
    obtain ⟨o20, hL19, hR21⟩ := bindE hF
    refine AWP.loopF (ω := AV) hL19 (fun s w => [(0, (.list 3 (List.map TNode.av p0))), (2, (.ptr b2 0)), (4, v11), (5, w), (12, (.list 3 (List.map TNode.av p0))), (13, (.int .i64 (p0.length : Int))), (14, (.int .i64 s.2.2))]) (fun s w => [.cell b2 [(.bool false), (.int .i64 0), (.int .i64 0), (.int .i64 0), (.int .i64 0), (.int .i64 0), (.int .i64 0), (.int .i64 0), (.int .i64 0), (.int .i64 0), (.int .i64 0), (.int .i64 0), (.int .i64 0), (.int .i64 0), (.int .i64 0), (.int .i64 0), (.int .i64 0), (.int .i64 0), (.int .i64 0), (.int .i64 0), (.int .i64 0), (.int .i64 0), (.int .i64 0), (.int .i64 0), (.int .i64 0), (.int .i64 0), (.int .i64 0), (.int .i64 0), (.int .i64 0), (.int .i64 0), (.int .i64 0), (.int .i64 0), (.int .i64 0), (.int .i64 0), (.int .i64 0)], .row 35 v11 (List.map Tglance.av s.1), .row 1 w (List.map (AV.int .i64) s.2.1)]) .nil ⟨rfl, rfl, rfl, rfl, rfl, rfl, rfl, trivial⟩ (hS.pick [2, 1, 0] rfl rfl) ?_
    rintro ⟨y13, y14, x14_l0⟩ w15 G22 hS x17 hF hx18
    try dsimp only at hS ⊢
    have hF : impl_glanceOf.b0 p0 y13 y14 x14_l0 = some x17 := hF; unfold impl_glanceOf.b0 at hF
    refine AWP.seqR rfl ?_
    refine ASL.q (v := (.bool (decide (x14_l0 < ((p0.length : Int)))))) rfl rfl (Light.quiet (opInt rfl rfl rfl rfl)) ?_
    refine ASL.done ?_
    refine AWP.seq ?_
    refine AWP.ifP hF rfl (fun hc23 hF => ?_) (fun hc23 hF => ?_)
    · skip
      refine AWP.skip ?_
      refine QThen.nrm ?_
      refine AWP.seqM (fun e H => ∃ y24 : (List Tglance), ∃ y25 : (List Int), ∃ w26 : AV, E.Told e [(0, (.list 3 (List.map TNode.av p0))), (2, (.ptr b2 0)), (4, v11), (5, w26), (12, (.list 3 (List.map TNode.av p0))), (13, (.int .i64 (p0.length : Int))), (14, (.int .i64 x14_l0))] ∧ E.Sep H [.cell b2 [(.bool false), (.int .i64 0), (.int .i64 0), (.int .i64 0), (.int .i64 0), (.int .i64 0), (.int .i64 0), (.int .i64 0), (.int .i64 0), (.int .i64 0), (.int .i64 0), (.int .i64 0), (.int .i64 0), (.int .i64 0), (.int .i64 0), (.int .i64 0), (.int .i64 0), (.int .i64 0), (.int .i64 0), (.int .i64 0), (.int .i64 0), (.int .i64 0), (.int .i64 0), (.int .i64 0), (.int .i64 0), (.int .i64 0), (.int .i64 0), (.int .i64 0), (.int .i64 0), (.int .i64 0), (.int .i64 0), (.int .i64 0), (.int .i64 0), (.int .i64 0), (.int .i64 0)], .row 35 v11 (List.map Tglance.av y24), .row 1 w26 (List.map (AV.int .i64) y25)] ∧ impl_glanceOf.k1 x14_l0 y24 y25 = some x17) ?_ ?_
      · rintro e0 G28 ⟨y24, y25, w26, hT, hS, hF⟩; refine AWP.only _ hT ?_; unfold impl_glanceOf.k1 at hF
        refine AWP.lastR rfl ?_
        refine ASL.q (v := (.int .i64 (W (x14_l0 + 1)))) rfl rfl (Light.quiet (opInt rfl rfl rfl rfl)) ?_
        refine ASL.q (v := (.int .i64 (W (x14_l0 + 1)))) rfl rfl (Light.quiet (opMove rfl rfl)) ?_
        refine ASL.done ?_
        refine QThen.nrm ?_
        exact ⟨(y24, y25, (W (x14_l0 + 1))), w26, (someE hF).symm, ⟨rfl, rfl, rfl, rfl, rfl, rfl, rfl, trivial⟩, (hS.pick [0, 1, 2] rfl rfl)⟩
      · skip
        refine AWP.block ?_
        refine AWP.seqR rfl ?_
        refine ASL.q (v := (.int .i64 x14_l0)) rfl rfl (Light.quiet (opMove rfl rfl)) ?_
        obtain ⟨a17, ha17, hF⟩ := bindE hF
        refine ASL.q (v := (.rptr [(.int .i64 a17.kind), (.int .i64 a17.a), (.int .i64 a17.b)])) rfl rfl (Light.quiet (kIx (f := TNode.av) ha17 rfl rfl rfl elemA_29 sizeA_65 rfl)) ?_
        refine ASL.q (v := (TNode.av a17)) rfl rfl (Light.quiet (opLoadRA rfl aggA_65 sizeA_65 rfl (nlt rfl) rfl)) ?_
        refine ASL.x rfl rfl (hNewZ hS [(.int .i64 0), (.int .i64 0), (.int .i64 0)] rfl zeroA_65 ⟨.inl rfl, .inl rfl, .inl rfl, trivial⟩ ?_); rintro b7 G29 hK hS
        refine ASL.q (v := (.int .i64 x14_l0)) rfl rfl (Light.quiet (opAssign rfl rfl)) ?_
        refine ASL.n rfl rfl (hPutA hS (j := 0) rfl rfl sizeA_65 rfl rfl rfl rfl rfl (nlt rfl) ?_); rintro G31 hS
        refine ASL.done ?_
        refine AWP.seqR rfl ?_
        refine ASL.q (v := (.ptr b7 0)) rfl rfl (Light.quiet (opFieldAddr rfl fieldA_65_0 rfl rfl)) ?_
        refine ASL.q (v := (.int .i64 a17.kind)) rfl rfl (Light.quiet (kAt hS (j := 0) rfl rfl aggA_3 rfl rfl)) ?_
        refine ASL.done ?_
        refine AWP.block ?_
        refine AWP.seqR rfl ?_
        refine ASL.q (v := (.bool (decide (a17.kind = 2)))) rfl rfl (Light.quiet (opInt rfl rfl rfl rfl)) ?_
        refine ASL.q (v := (.bool (decide (a17.kind = 2)))) rfl rfl (Light.quiet (opAssign rfl rfl)) ?_
        refine ASL.done ?_
        refine AWP.ifP hF rfl (fun hc32 hF => ?_) (fun hc32 hF => ?_)
        · skip
          refine AWP.lastR rfl ?_
          refine ASL.q (v := v11) rfl rfl (Light.quiet (opMove rfl rfl)) ?_
          refine ASL.q (v := (.int .i64 x14_l0)) rfl rfl (Light.quiet (opMove rfl rfl)) ?_
          refine ASL.q (v := (.agg [(.bool true), (.int .i64 0), (.int .i64 0), (.int .i64 0), (.int .i64 0), (.int .i64 0), (.int .i64 0), (.int .i64 0), (.int .i64 0), (.int .i64 0), (.int .i64 0), (.int .i64 0), (.int .i64 0), (.int .i64 0), (.int .i64 0), (.int .i64 0), (.int .i64 0), (.int .i64 0), (.int .i64 0), (.int .i64 0), (.int .i64 0), (.int .i64 0), (.int .i64 0), (.int .i64 0), (.int .i64 0), (.int .i64 0), (.int .i64 0), (.int .i64 0), (.int .i64 0), (.int .i64 0), (.int .i64 0), (.int .i64 0), (.int .i64 0), (.int .i64 0), (.int .i64 0)])) rfl rfl (Light.quiet (opBuildZ (zs := [(.bool false), (.int .i64 0), (.int .i64 0), (.int .i64 0), (.int .i64 0), (.int .i64 0), (.int .i64 0), (.int .i64 0), (.int .i64 0), (.int .i64 0), (.int .i64 0), (.int .i64 0), (.int .i64 0), (.int .i64 0), (.int .i64 0), (.int .i64 0), (.int .i64 0), (.int .i64 0), (.int .i64 0), (.int .i64 0), (.int .i64 0), (.int .i64 0), (.int .i64 0), (.int .i64 0), (.int .i64 0), (.int .i64 0), (.int .i64 0), (.int .i64 0), (.int .i64 0), (.int .i64 0), (.int .i64 0), (.int .i64 0), (.int .i64 0), (.int .i64 0), (.int .i64 0)]) rfl plan_111 zeroA_111 ⟨.inl rfl, .inl rfl, .inl rfl, .inl rfl, .inl rfl, .inl rfl, .inl rfl, .inl rfl, .inl rfl, .inl rfl, .inl rfl, .inl rfl, .inl rfl, .inl rfl, .inl rfl, .inl rfl, .inl rfl, .inl rfl, .inl rfl, .inl rfl, .inl rfl, .inl rfl, .inl rfl, .inl rfl, .inl rfl, .inl rfl, .inl rfl, .inl rfl, .inl rfl, .inl rfl, .inl rfl, .inl rfl, .inl rfl, .inl rfl, .inl rfl, trivial⟩ rfl)) ?_
          obtain ⟨m26, hm26, hF⟩ := bindE hF
          refine ASL.q (v := (ptrTo v11 m26 35)) rfl rfl (Light.quiet (kIxO hS (j := 2) rfl hm26 rfl rfl rfl elemA_141 sizeA_111)) ?_
          refine ASL.n rfl rfl (hSt (f := Tglance.av) (a := (Tglance.mk true 0 0 ((fun _ => 0)))) hS (j := 2) rfl hm26 rfl sizeA_111 rfl rfl ⟨rfl, rfl, rfl⟩ ?_); rintro G33 hS
          refine ASL.done ?_
          refine QBlock.nrm ?_
          refine QBlock.nrm ?_
          refine QThen.nrm ?_
          exact ⟨(y13.set m26 ((Tglance.mk true 0 0 ((fun _ => 0))))), y14, w15, ⟨rfl, rfl, rfl, rfl, rfl, rfl, rfl, trivial⟩, (hS.pick [1, 2, 3] rfl rfl), hF⟩
        · skip
          refine AWP.seqR rfl ?_
          refine ASL.q (v := (.bool (decide (a17.kind = 3)))) rfl rfl (Light.quiet (opInt rfl rfl rfl rfl)) ?_
          refine ASL.q (v := (.bool (decide (a17.kind = 3)))) rfl rfl (Light.quiet (opAssign rfl rfl)) ?_
          refine ASL.done ?_
          refine AWP.ifP hF rfl (fun hc34 hF => ?_) (fun hc34 hF => ?_)
          · skip
            refine AWP.seqR rfl ?_
            refine ASL.q (v := w15) rfl rfl (Light.quiet (opMove rfl rfl)) ?_
            refine ASL.q (v := (.ptr b7 1)) rfl rfl (Light.quiet (opFieldAddr rfl fieldA_65_1 rfl rfl)) ?_
            refine ASL.q (v := (.int .i64 a17.a)) rfl rfl (Light.quiet (kAt hS (j := 0) rfl rfl aggA_3 rfl rfl)) ?_
            refine ASL.q (v := (.list 1 (List.map (AV.int .i64) [a17.a]))) rfl rfl ((qLit (xs := [(.int .i64 a17.a)]) rfl elemA_47 sizeA_3 zeroA_3 rfl rfl rfl rfl (by simp [cells]) (nlt rfl))) ?_
            obtain ⟨z33, hz33, hF⟩ := bindE hF
            refine ASL.x rfl rfl (hApp (f := (AV.int .i64)) (ws := [a17.a]) hS (j := 3) rfl hz33 rfl elemA_47 rfl sizeA_3 bytesA_3 zeroA_3 rfl rfl rfl (fun _ => rfl) ?_); rintro v33 G35 hS
            refine ASL.q (v := v33) rfl rfl (Light.quiet (opAssign rfl rfl)) ?_
            refine ASL.done ?_
            refine AWP.lastR rfl ?_
            refine ASL.q (v := v11) rfl rfl (Light.quiet (opMove rfl rfl)) ?_
            refine ASL.q (v := (.int .i64 x14_l0)) rfl rfl (Light.quiet (opMove rfl rfl)) ?_
            refine ASL.q (v := v33) rfl rfl (Light.quiet (opMove rfl rfl)) ?_
            refine ASL.q (v := (.int .i64 (z33.length : Int))) rfl rfl (Light.quiet (kLen hS (j := 3) rfl rfl rfl rfl lenT_47 rfl)) ?_
            refine ASL.q (v := (.int .i64 (impl_only ((z33.length : Int))))) rfl rfl ((qCall rfl rfl call_39 (impl_only_ok ((z33.length : Int))) rfl)) ?_
            refine ASL.q (v := v33) rfl rfl (Light.quiet (opMove rfl rfl)) ?_
            refine ASL.q (v := (.int .i64 (z33.length : Int))) rfl rfl (Light.quiet (kLen hS (j := 3) rfl rfl rfl rfl lenT_47 rfl)) ?_
            refine ASL.q (v := (.int .i64 (impl_only ((z33.length : Int))))) rfl rfl ((qCall rfl rfl call_39 (impl_only_ok ((z33.length : Int))) rfl)) ?_
            refine ASL.q (v := (.agg [(.bool false), (.int .i64 (impl_only ((z33.length : Int)))), (.int .i64 (impl_only ((z33.length : Int)))), (.int .i64 0), (.int .i64 0), (.int .i64 0), (.int .i64 0), (.int .i64 0), (.int .i64 0), (.int .i64 0), (.int .i64 0), (.int .i64 0), (.int .i64 0), (.int .i64 0), (.int .i64 0), (.int .i64 0), (.int .i64 0), (.int .i64 0), (.int .i64 0), (.int .i64 0), (.int .i64 0), (.int .i64 0), (.int .i64 0), (.int .i64 0), (.int .i64 0), (.int .i64 0), (.int .i64 0), (.int .i64 0), (.int .i64 0), (.int .i64 0), (.int .i64 0), (.int .i64 0), (.int .i64 0), (.int .i64 0), (.int .i64 0)])) rfl rfl (Light.quiet (opBuildZ (zs := [(.bool false), (.int .i64 0), (.int .i64 0), (.int .i64 0), (.int .i64 0), (.int .i64 0), (.int .i64 0), (.int .i64 0), (.int .i64 0), (.int .i64 0), (.int .i64 0), (.int .i64 0), (.int .i64 0), (.int .i64 0), (.int .i64 0), (.int .i64 0), (.int .i64 0), (.int .i64 0), (.int .i64 0), (.int .i64 0), (.int .i64 0), (.int .i64 0), (.int .i64 0), (.int .i64 0), (.int .i64 0), (.int .i64 0), (.int .i64 0), (.int .i64 0), (.int .i64 0), (.int .i64 0), (.int .i64 0), (.int .i64 0), (.int .i64 0), (.int .i64 0), (.int .i64 0)]) rfl plan_111 zeroA_111 ⟨.inl rfl, .inl rfl, .inl rfl, .inl rfl, .inl rfl, .inl rfl, .inl rfl, .inl rfl, .inl rfl, .inl rfl, .inl rfl, .inl rfl, .inl rfl, .inl rfl, .inl rfl, .inl rfl, .inl rfl, .inl rfl, .inl rfl, .inl rfl, .inl rfl, .inl rfl, .inl rfl, .inl rfl, .inl rfl, .inl rfl, .inl rfl, .inl rfl, .inl rfl, .inl rfl, .inl rfl, .inl rfl, .inl rfl, .inl rfl, .inl rfl, trivial⟩ rfl)) ?_
            obtain ⟨m43, hm43, hF⟩ := bindE hF
            refine ASL.q (v := (ptrTo v11 m43 35)) rfl rfl (Light.quiet (kIxO hS (j := 2) rfl hm43 rfl rfl rfl elemA_141 sizeA_111)) ?_
            refine ASL.n rfl rfl (hSt (f := Tglance.av) (a := (Tglance.mk false ((impl_only ((z33.length : Int)))) ((impl_only ((z33.length : Int)))) ((fun _ => 0)))) hS (j := 2) rfl hm43 rfl sizeA_111 rfl rfl ⟨rfl, rfl, rfl⟩ ?_); rintro G37 hS
            refine ASL.done ?_
            refine QBlock.nrm ?_
            refine QBlock.nrm ?_
            refine QThen.nrm ?_
            exact ⟨(y13.set m43 ((Tglance.mk false ((impl_only ((z33.length : Int)))) ((impl_only ((z33.length : Int)))) ((fun _ => 0))))), z33, v33, ⟨rfl, rfl, rfl, rfl, rfl, rfl, rfl, trivial⟩, (hS.pick [1, 2, 3] rfl rfl), hF⟩
          · skip
            refine AWP.seqR rfl ?_
            refine ASL.q (v := (.bool (decide (a17.kind = 4)))) rfl rfl (Light.quiet (opInt rfl rfl rfl rfl)) ?_
            refine ASL.q (v := (.bool (decide (a17.kind = 4)))) rfl rfl (Light.quiet (opAssign rfl rfl)) ?_
            refine ASL.done ?_
            refine AWP.ifP hF rfl (fun hc38 hF => ?_) (fun hc38 hF => ?_)
            · skip
              refine AWP.seqR rfl ?_
              refine ASL.q (v := v11) rfl rfl (Light.quiet (opMove rfl rfl)) ?_
              refine ASL.q (v := (.ptr b7 1)) rfl rfl (Light.quiet (opFieldAddr rfl fieldA_65_1 rfl rfl)) ?_
              refine ASL.q (v := (.int .i64 a17.a)) rfl rfl (Light.quiet (kAt hS (j := 0) rfl rfl aggA_3 rfl rfl)) ?_
              obtain ⟨a49, ha49, hF⟩ := bindE hF
              refine ASL.q (v := (ptrTo v11 a17.a.toNat 35)) rfl rfl (Light.quiet (kIxOx hS (j := 2) rfl ha49 rfl rfl rfl elemA_141 sizeA_111)) ?_
              refine ASL.q (v := (Tglance.av a49)) rfl rfl (Light.quiet (kLdA hS (j := 2) rfl ha49 rfl aggA_111 sizeA_111 rfl rfl)) ?_
              refine ASL.x rfl rfl (hNewZ hS [(.bool false), (.int .i64 0), (.int .i64 0), (.int .i64 0), (.int .i64 0), (.int .i64 0), (.int .i64 0), (.int .i64 0), (.int .i64 0), (.int .i64 0), (.int .i64 0), (.int .i64 0), (.int .i64 0), (.int .i64 0), (.int .i64 0), (.int .i64 0), (.int .i64 0), (.int .i64 0), (.int .i64 0), (.int .i64 0), (.int .i64 0), (.int .i64 0), (.int .i64 0), (.int .i64 0), (.int .i64 0), (.int .i64 0), (.int .i64 0), (.int .i64 0), (.int .i64 0), (.int .i64 0), (.int .i64 0), (.int .i64 0), (.int .i64 0), (.int .i64 0), (.int .i64 0)] rfl zeroA_111 ⟨.inl rfl, .inl rfl, .inl rfl, .inl rfl, .inl rfl, .inl rfl, .inl rfl, .inl rfl, .inl rfl, .inl rfl, .inl rfl, .inl rfl, .inl rfl, .inl rfl, .inl rfl, .inl rfl, .inl rfl, .inl rfl, .inl rfl, .inl rfl, .inl rfl, .inl rfl, .inl rfl, .inl rfl, .inl rfl, .inl rfl, .inl rfl, .inl rfl, .inl rfl, .inl rfl, .inl rfl, .inl rfl, .inl rfl, .inl rfl, .inl rfl, trivial⟩ ?_); rintro b8 G39 hK hS
              refine ASL.n rfl rfl (hPutAll (ys := [(.bool a49.null), (.int .i64 a49.first), (.int .i64 a49.last), (.int .i64 (a49.behind 0)), (.int .i64 (a49.behind 1)), (.int .i64 (a49.behind 2)), (.int .i64 (a49.behind 3)), (.int .i64 (a49.behind 4)), (.int .i64 (a49.behind 5)), (.int .i64 (a49.behind 6)), (.int .i64 (a49.behind 7)), (.int .i64 (a49.behind 8)), (.int .i64 (a49.behind 9)), (.int .i64 (a49.behind 10)), (.int .i64 (a49.behind 11)), (.int .i64 (a49.behind 12)), (.int .i64 (a49.behind 13)), (.int .i64 (a49.behind 14)), (.int .i64 (a49.behind 15)), (.int .i64 (a49.behind 16)), (.int .i64 (a49.behind 17)), (.int .i64 (a49.behind 18)), (.int .i64 (a49.behind 19)), (.int .i64 (a49.behind 20)), (.int .i64 (a49.behind 21)), (.int .i64 (a49.behind 22)), (.int .i64 (a49.behind 23)), (.int .i64 (a49.behind 24)), (.int .i64 (a49.behind 25)), (.int .i64 (a49.behind 26)), (.int .i64 (a49.behind 27)), (.int .i64 (a49.behind 28)), (.int .i64 (a49.behind 29)), (.int .i64 (a49.behind 30)), (.int .i64 (a49.behind 31))]) hS (j := 0) rfl rfl sizeA_111 rfl rfl rfl rfl rfl rfl rfl (by decide) ?_); rintro G41 hS
              refine ASL.done ?_
              refine AWP.seqR rfl ?_
              refine ASL.q (v := (.ptr b8 0)) rfl rfl (Light.quiet (opFieldAddr rfl fieldA_111_0 rfl rfl)) ?_
              refine ASL.n rfl rfl (hPut hS (j := 0) rfl rfl sizeA_4 rfl rfl rfl (nlt rfl) ?_); rintro G42 hS
              refine ASL.done ?_
              refine AWP.seqR rfl ?_
              refine ASL.q (v := (.ptr b8 2)) rfl rfl (Light.quiet (opFieldAddr rfl fieldA_111_2 rfl rfl)) ?_
              refine ASL.q (v := (.int .i64 a49.last)) rfl rfl (Light.quiet (kAt hS (j := 0) rfl rfl aggA_3 rfl rfl)) ?_
              refine ASL.q (v := (.ptr b8 1)) rfl rfl (Light.quiet (opFieldAddr rfl fieldA_111_1 rfl rfl)) ?_
              refine ASL.q (v := (.int .i64 a49.first)) rfl rfl (Light.quiet (kAt hS (j := 0) rfl rfl aggA_3 rfl rfl)) ?_
              obtain ⟨a56, ha56, hF⟩ := bindE hF
              refine ASL.x rfl rfl (hCallS hS [0, 1, 2, 3, 4] (F := [.cell b7 [(.int .i64 a17.kind), (.int .i64 a17.a), (.int .i64 a17.b)], .cell b2 [(.bool false), (.int .i64 0), (.int .i64 0), (.int .i64 0), (.int .i64 0), (.int .i64 0), (.int .i64 0), (.int .i64 0), (.int .i64 0), (.int .i64 0), (.int .i64 0), (.int .i64 0), (.int .i64 0), (.int .i64 0), (.int .i64 0), (.int .i64 0), (.int .i64 0), (.int .i64 0), (.int .i64 0), (.int .i64 0), (.int .i64 0), (.int .i64 0), (.int .i64 0), (.int .i64 0), (.int .i64 0), (.int .i64 0), (.int .i64 0), (.int .i64 0), (.int .i64 0), (.int .i64 0), (.int .i64 0), (.int .i64 0), (.int .i64 0), (.int .i64 0), (.int .i64 0)], .row 35 v11 (List.map Tglance.av y13), .row 1 w15 (List.map (AV.int .i64) y14)]) rfl rfl rfl call_123 (impl_glance_follow_ok ha56) rfl rfl ?_); rintro _ _ G43 ⟨rfl, rfl⟩ hS
              refine ASL.done ?_
              refine AWP.lastR rfl ?_
              refine ASL.q (v := v11) rfl rfl (Light.quiet (opMove rfl rfl)) ?_
              refine ASL.q (v := (.int .i64 x14_l0)) rfl rfl (Light.quiet (opMove rfl rfl)) ?_
              refine ASL.q (v := (Tglance.av a56)) rfl rfl (Light.quiet (kAtA hS (j := 0) rfl rfl aggA_111 sizeA_111 rfl (nlt rfl) rfl)) ?_
              obtain ⟨m60, hm60, hF⟩ := bindE hF
              refine ASL.q (v := (ptrTo v11 m60 35)) rfl rfl (Light.quiet (kIxO hS (j := 3) rfl hm60 rfl rfl rfl elemA_141 sizeA_111)) ?_
              refine ASL.n rfl rfl (hSt (f := Tglance.av) (a := a56) hS (j := 3) rfl hm60 rfl sizeA_111 rfl rfl ⟨rfl, rfl, rfl⟩ ?_); rintro G44 hS
              refine ASL.done ?_
              refine QBlock.nrm ?_
              refine QBlock.nrm ?_
              refine QThen.nrm ?_
              exact ⟨(y13.set m60 a56), y14, w15, ⟨rfl, rfl, rfl, rfl, rfl, rfl, rfl, trivial⟩, (hS.pick [2, 3, 4] rfl rfl), hF⟩
            · skip
              refine AWP.seqR rfl ?_
              refine ASL.q (v := (.bool (decide (a17.kind = 5)))) rfl rfl (Light.quiet (opInt rfl rfl rfl rfl)) ?_
              refine ASL.q (v := (.bool (decide (a17.kind = 5)))) rfl rfl (Light.quiet (opAssign rfl rfl)) ?_
              refine ASL.done ?_
              refine AWP.ifP hF rfl (fun hc45 hF => ?_) (fun hc45 hF => ?_)
              · skip
                refine AWP.lastD [(0, false), (1, false), (2, false), (3, false), (4, false), (5, false), (6, false), (7, false), (8, false), (9, false), (10, false), (11, false), (12, false), (13, false), (14, true)] mixed (by kernel_rfl) rfl ?_
                refine ARL.q0 (v := v11) rfl rfl (Light.quiet (opMove rfl rfl)) ?_
                refine ARL.q0 (v := (.int .i64 x14_l0)) rfl rfl (Light.quiet (opMove rfl rfl)) ?_
                refine ARL.q0 (v := v11) rfl rfl (Light.quiet (opMove rfl rfl)) ?_
                refine ARL.q0 (v := (.ptr b7 1)) rfl rfl (Light.quiet (opFieldAddr rfl fieldA_65_1 rfl rfl)) ?_
                refine ARL.q (v := (.int .i64 a17.a)) rfl rfl (hS.aliveC (k := 0) rfl) (Light.quiet (kAt hS (j := 0) rfl rfl aggA_3 rfl rfl)) ?_
                obtain ⟨a68, ha68, hF⟩ := bindE hF
                refine ARL.q0 (v := (ptrTo v11 a17.a.toNat 35)) rfl rfl (Light.quiet (kIxOx hS (j := 2) rfl ha68 rfl rfl rfl elemA_141 sizeA_111)) ?_
                refine ARL.q (v := (Tglance.av a68)) rfl rfl (hS.aliveR (k := 2) rfl) (Light.quiet (kLdA hS (j := 2) rfl ha68 rfl aggA_111 sizeA_111 rfl rfl)) ?_
                refine ARL.q0 (v := v11) rfl rfl (Light.quiet (opMove rfl rfl)) ?_
                refine ARL.q0 (v := (.ptr b7 2)) rfl rfl (Light.quiet (opFieldAddr rfl fieldA_65_2 rfl rfl)) ?_
                refine ARL.q (v := (.int .i64 a17.b)) rfl rfl (hS.aliveC (k := 0) rfl) (Light.quiet (kAt hS (j := 0) rfl rfl aggA_3 rfl rfl)) ?_
                obtain ⟨a73, ha73, hF⟩ := bindE hF
                refine ARL.q0 (v := (ptrTo v11 a17.b.toNat 35)) rfl rfl (Light.quiet (kIxOx hS (j := 2) rfl ha73 rfl rfl rfl elemA_141 sizeA_111)) ?_
                refine ARL.q (v := (Tglance.av a73)) rfl rfl (hS.aliveR (k := 2) rfl) (Light.quiet (kLdA hS (j := 2) rfl ha73 rfl aggA_111 sizeA_111 rfl rfl)) ?_
                obtain ⟨a75, ha75, hF⟩ := bindE hF
                refine ARL.q0 (v := (Tglance.av a75)) rfl rfl ((qCall rfl rfl call_124 (impl_catOf_ok ha75) rfl)) ?_
                obtain ⟨m76, hm76, hF⟩ := bindE hF
                refine ARL.q0 (v := (ptrTo v11 m76 35)) rfl rfl (Light.quiet (kIxO hS (j := 2) rfl hm76 rfl rfl rfl elemA_141 sizeA_111)) ?_
                refine ARL.n rfl rfl rfl rfl (hSt (f := Tglance.av) (a := a75) hS (j := 2) rfl hm76 rfl sizeA_111 rfl rfl ⟨rfl, rfl, rfl⟩ ?_); rintro G46 hS
                refine ARL.done ?_
                refine QBlock.nrm ?_
                refine QBlock.nrm ?_
                refine QThen.nrm ?_
                exact ⟨(y13.set m76 a75), y14, w15, ⟨rfl, rfl, rfl, rfl, rfl, rfl, rfl, trivial⟩, (hS.pick [1, 2, 3] rfl rfl), hF⟩
              · skip
                refine AWP.seqR rfl ?_
                refine ASL.q (v := (.bool (decide (a17.kind = 6)))) rfl rfl (Light.quiet (opInt rfl rfl rfl rfl)) ?_
                refine ASL.q (v := (.bool (decide (a17.kind = 6)))) rfl rfl (Light.quiet (opAssign rfl rfl)) ?_
                refine ASL.done ?_
                refine AWP.ifP hF rfl (fun hc47 hF => ?_) (fun hc47 hF => ?_)
                · skip
                  refine AWP.lastD [(0, false), (1, false), (2, false), (3, false), (4, false), (5, false), (6, false), (7, false), (8, false), (9, false), (10, false), (11, false), (12, false), (13, false), (14, true)] mixed (by kernel_rfl) rfl ?_
                  refine ARL.q0 (v := v11) rfl rfl (Light.quiet (opMove rfl rfl)) ?_
                  refine ARL.q0 (v := (.int .i64 x14_l0)) rfl rfl (Light.quiet (opMove rfl rfl)) ?_
                  refine ARL.q0 (v := v11) rfl rfl (Light.quiet (opMove rfl rfl)) ?_
                  refine ARL.q0 (v := (.ptr b7 1)) rfl rfl (Light.quiet (opFieldAddr rfl fieldA_65_1 rfl rfl)) ?_
                  refine ARL.q (v := (.int .i64 a17.a)) rfl rfl (hS.aliveC (k := 0) rfl) (Light.quiet (kAt hS (j := 0) rfl rfl aggA_3 rfl rfl)) ?_
                  obtain ⟨a84, ha84, hF⟩ := bindE hF
                  refine ARL.q0 (v := (ptrTo v11 a17.a.toNat 35)) rfl rfl (Light.quiet (kIxOx hS (j := 2) rfl ha84 rfl rfl rfl elemA_141 sizeA_111)) ?_
                  refine ARL.q (v := (Tglance.av a84)) rfl rfl (hS.aliveR (k := 2) rfl) (Light.quiet (kLdA hS (j := 2) rfl ha84 rfl aggA_111 sizeA_111 rfl rfl)) ?_
                  refine ARL.q0 (v := v11) rfl rfl (Light.quiet (opMove rfl rfl)) ?_
                  refine ARL.q0 (v := (.ptr b7 2)) rfl rfl (Light.quiet (opFieldAddr rfl fieldA_65_2 rfl rfl)) ?_
                  refine ARL.q (v := (.int .i64 a17.b)) rfl rfl (hS.aliveC (k := 0) rfl) (Light.quiet (kAt hS (j := 0) rfl rfl aggA_3 rfl rfl)) ?_
                  obtain ⟨a89, ha89, hF⟩ := bindE hF
                  refine ARL.q0 (v := (ptrTo v11 a17.b.toNat 35)) rfl rfl (Light.quiet (kIxOx hS (j := 2) rfl ha89 rfl rfl rfl elemA_141 sizeA_111)) ?_
                  refine ARL.q (v := (Tglance.av a89)) rfl rfl (hS.aliveR (k := 2) rfl) (Light.quiet (kLdA hS (j := 2) rfl ha89 rfl aggA_111 sizeA_111 rfl rfl)) ?_
                  obtain ⟨a91, ha91, hF⟩ := bindE hF
                  refine ARL.q0 (v := (Tglance.av a91)) rfl rfl ((qCall rfl rfl call_125 (impl_orOf_ok ha91) rfl)) ?_
                  obtain ⟨m92, hm92, hF⟩ := bindE hF
                  refine ARL.q0 (v := (ptrTo v11 m92 35)) rfl rfl (Light.quiet (kIxO hS (j := 2) rfl hm92 rfl rfl rfl elemA_141 sizeA_111)) ?_
                  refine ARL.n rfl rfl rfl rfl (hSt (f := Tglance.av) (a := a91) hS (j := 2) rfl hm92 rfl sizeA_111 rfl rfl ⟨rfl, rfl, rfl⟩ ?_); rintro G48 hS
                  refine ARL.done ?_
                  refine QBlock.nrm ?_
                  refine QBlock.nrm ?_
                  refine QThen.nrm ?_
                  exact ⟨(y13.set m92 a91), y14, w15, ⟨rfl, rfl, rfl, rfl, rfl, rfl, rfl, trivial⟩, (hS.pick [1, 2, 3] rfl rfl), hF⟩
                · skip
                  refine AWP.skip ?_
                  refine QBlock.nrm ?_
                  refine QBlock.nrm ?_
                  refine QThen.nrm ?_
                  exact ⟨y13, y14, w15, ⟨rfl, rfl, rfl, rfl, rfl, rfl, rfl, trivial⟩, (hS.pick [1, 2, 3] rfl rfl), hF⟩
    · skip
      refine AWP.exit ?_
      refine QThen.ext ?_
      refine QThen.ext ?_
      refine QBlock.hit ?_
      obtain rfl := (hx18 _ (someE hF).symm)
      have hF := hR21
      refine QThen.nrm ?_
      exact ⟨y13, y14, w15, ⟨rfl, rfl, rfl, rfl, trivial⟩, (hS.pick [0, 1, 2] rfl rfl), hF⟩

set_option maxRecDepth 10000 in
theorem impl_nfaOf_1_ok {p0 : Int} {p1 : Int} {p2 : TNfa} {p3 : (List Int)} {r : (TNfa × (List Int))} {bp2 : Nat} {wp2_Auto_Edges : AV} {bp3 : Nat} (hF : impl_nfaOf_1 p0 p1 p2 p3 = some r) : HS Try.prog 95 [(.int .i64 p0), (.int .i64 p1), (.ptr bp2 0), (.ptr bp3 0)] [.cell bp2 [(.int .i64 p2.auto.letters), (.int .i64 p2.auto.states), (.int .i64 p2.auto.start), wp2_Auto_Edges, (.int .i64 p2.final)], .row 4 wp2_Auto_Edges (List.map TEdge.av p2.auto.edges), .cell bp3 [(.list 1 (List.map (AV.int .i64) p3))]] fun v L' => ∃ up2_Auto_Edges : AV, v = .tup [] ∧ L' = [.cell bp2 [(.int .i64 r.1.auto.letters), (.int .i64 r.1.auto.states), (.int .i64 r.1.auto.start), up2_Auto_Edges, (.int .i64 r.1.final)], .row 4 up2_Auto_Edges (List.map TEdge.av r.1.auto.edges), .cell bp3 [(.list 1 (List.map (AV.int .i64) r.2))]] := by
  intro H S hS
  refine HC.enter Try.func95 rfl Try.ntmps95 (by simp) ?_
  simp only [List.cons_append, List.nil_append] at hS
  unfold impl_nfaOf_1 at hF
  refine AWP.lastD [(0, false), (1, false), (2, false), (3, false), (4, false), (5, false), (6, false), (7, false), (8, false), (9, false), (10, false), (11, false), (12, true), (13, false), (14, false), (15, true)] mixed (by kernel_rfl) rfl ?_
  refine ARL.q0 (v := (.ptr bp2 0)) rfl rfl (Light.quiet (opFieldAddr rfl fieldA_40_0 rfl rfl)) ?_
  refine ARL.q0 (v := (.ptr bp2 3)) rfl rfl (Light.quiet (opFieldAddr rfl fieldA_38_3 rfl rfl)) ?_
  refine ARL.q (v := wp2_Auto_Edges) rfl rfl (hS.aliveC (k := 0) rfl) (Light.quiet (kAt hS (j := 0) rfl rfl aggA_36 rfl rfl)) ?_
  refine ARL.q0 (v := (.int .i64 p0)) rfl rfl (Light.quiet (opMove rfl rfl)) ?_
  refine ARL.q (v := (.list 1 (List.map (AV.int .i64) p3))) rfl rfl (hS.aliveC (k := 2) rfl) (Light.quiet (kAt hS (j := 2) rfl rfl aggA_47 rfl rfl)) ?_
  refine ARL.q0 (v := (.int .i64 p1)) rfl rfl (Light.quiet (opMove rfl rfl)) ?_
  refine ARL.q0 (v := (.int .i64 (W (p1 - 1)))) rfl rfl (Light.quiet (opInt rfl rfl rfl rfl)) ?_
  obtain ⟨a13, ha13, hF⟩ := bindE hF
  refine ARL.q0 (v := (.rptr [(.int .i64 a13)])) rfl rfl (Light.quiet (kIx (f := (AV.int .i64)) ha13 rfl rfl rfl elemA_47 sizeA_3 rfl)) ?_
  refine ARL.q0 (v := (.int .i64 a13)) rfl rfl (Light.quiet (opLoadR rfl aggA_3 rfl rfl)) ?_
  refine ARL.q0 (v := (.int .i64 p1)) rfl rfl (Light.quiet (opMove rfl rfl)) ?_
  refine ARL.q0 (v := (.agg [(.int .i64 p0), (.int .i64 a13), (.int .i64 p1), (.bool false)])) rfl rfl (Light.quiet (opBuildZ (zs := [(.int .i64 0), (.int .i64 0), (.int .i64 0), (.bool false)]) rfl plan_79 zeroA_79 ⟨.inl rfl, .inl rfl, .inl rfl, .inl rfl, trivial⟩ rfl)) ?_
  refine ARL.q0 (v := (.list 4 (List.map TEdge.av [(TEdge.mk p0 a13 p1 false)]))) rfl rfl ((qLit (xs := [(.agg [(.int .i64 p0), (.int .i64 a13), (.int .i64 p1), (.bool false)])]) rfl elemA_36 sizeA_79 zeroA_79 rfl rfl rfl rfl (by simp [cells, TEdge.av]) (nlt rfl))) ?_
  obtain ⟨z18, hz18, hF⟩ := bindE hF
  refine ARL.y rfl rfl rfl rfl (hApp (f := TEdge.av) (ws := [(TEdge.mk p0 a13 p1 false)]) hS (j := 1) rfl hz18 rfl elemA_36 rfl sizeA_79 bytesA_79 zeroA_79 rfl rfl rfl (fun _ => rfl) ?_); rintro v18 G4 hS
  refine ARL.q0 (v := (.ptr bp2 0)) rfl rfl (Light.quiet (opFieldAddr rfl fieldA_40_0 rfl rfl)) ?_
  refine ARL.q0 (v := (.ptr bp2 3)) rfl rfl (Light.quiet (opFieldAddr rfl fieldA_38_3 rfl rfl)) ?_
  refine ARL.n rfl rfl rfl rfl (hPut hS (j := 0) rfl rfl sizeA_36 rfl rfl (hS.one (k := 1) rfl) (nlt rfl) ?_); rintro G6 hS
  refine ARL.done ?_
  refine QRet.end ?_
  obtain rfl := someE hF
  exact QRet.many (vs := []) trivial (by simp) ⟨_, ⟨v18, rfl, rfl⟩, hS.pick [0, 1, 2, 3] rfl rfl⟩

set_option maxRecDepth 10000 in
theorem slices_Clone_impl_Edge_impl_Edge_ok {p0 : (List TEdge)} {r : (List TEdge)} (hF : slices_Clone_impl_Edge_impl_Edge p0 = some r) : PO Try.prog 126 [(.list 4 (List.map TEdge.av p0))] 4 (List.map TEdge.av r) := by
  refine HC.enter Try.func126 rfl Try.ntmps126 (by simp) ?_
  have hS := Sep.void; unfold slices_Clone_impl_Edge_impl_Edge at hF
  refine AWP.seqR rfl ?_
  have hS := hNil (s := 4) (f := TEdge.av) hS
  refine ASL.q (v := .nil) rfl rfl (Light.quiet (opAssign rfl rfl)) ?_
  refine ASL.done ?_
  refine AWP.seq ?_
  refine AWP.seqR rfl ?_
  refine ASL.q (v := (.list 4 (List.map TEdge.av p0))) rfl rfl (Light.quiet (opMove rfl rfl)) ?_
  refine ASL.x rfl rfl (opNilT rfl und_36 rfl rfl ?_); rintro b4 hb4
  refine ASL.done ?_
  refine AWP.ifN hF rfl (fun h => by simpa using hb4 h) (fun h g => by subst h; exact g) (fun hF => ?_) (fun hF => ?_)
  · skip
    refine AWP.seqR rfl ?_
    have hS := hNil (s := 4) (f := TEdge.av) hS
    refine ASL.q (v := .nil) rfl rfl (Light.quiet (opAssign rfl rfl)) ?_
    refine ASL.done ?_
    refine AWP.ret ?_
    refine QThen.rt ?_
    obtain rfl := someE hF
    exact QRet.sole (v := .nil) ⟨rfl, trivial⟩ (hS.get (k := 0) rfl)
  · skip
    refine AWP.skip ?_
    refine QThen.nrm ?_
    refine AWP.seqR rfl ?_
    refine ASL.x rfl rfl (hLit (f := TEdge.av) (zs := []) hS rfl rfl elemA_36 sizeA_79 zeroA_79 rfl rfl rfl rfl (by simp [cells, TEdge.av]) (nlt rfl) ?_); rintro v5 G3 hK hS
    refine ASL.q (v := (.list 4 (List.map TEdge.av p0))) rfl rfl (Light.quiet (opMove rfl rfl)) ?_
    obtain ⟨z7, hz7, hF⟩ := bindE hF
    refine ASL.x rfl rfl (hApp (f := TEdge.av) (ws := p0) hS (j := 0) rfl hz7 rfl elemA_36 rfl sizeA_79 bytesA_79 zeroA_79 rfl rfl rfl (fun _ => rfl) ?_); rintro v7 G5 hS
    refine ASL.q (v := v7) rfl rfl (Light.quiet (opAssign rfl rfl)) ?_
    refine ASL.done ?_
    refine AWP.ret ?_
    obtain rfl := someE hF
    exact QRet.sole (v := v7) ⟨rfl, trivial⟩ (hS.get (k := 0) rfl)

def TEdge.enc (x : TEdge) : List Value := [.int .i64 x.from_, .int .i64 x.letter, .int .i64 x.to_, .bool x.good]
theorem TEdge.encOk : Enc 4 TEdge.av TEdge.enc where
  agg := fun _ => rfl
  len := fun _ => rfl
  elen := fun _ => rfl
  one := fun x v hv => by simp only [TEdge.enc, List.mem_cons, List.not_mem_nil, or_false] at hv; rcases hv with rfl | rfl | rfl | rfl <;> rfl
  to := fun x p hp ι v h => by
    match p, hp with
    | 0, _ => exact h.int_inv
    | 1, _ => exact h.int_inv
    | 2, _ => exact h.int_inv
    | 3, _ => exact h.bool_inv
  of := fun x p hp ι => by
    match p, hp with
    | 0, _ => exact .int _ _
    | 1, _ => exact .int _ _
    | 2, _ => exact .int _ _
    | 3, _ => exact .bool _
theorem slices_SortFunc_TEdge_ok {p0 r : List TEdge} {g1 : TEdge → TEdge → Option Int} {vp0 : AV} {k1 : Nat} (hcal1 : callable Try.prog k1 = true) (hg1 : ∀ q0 q1 y, g1 q0 q1 = some y → PC Try.prog k1 [q0.av, q1.av] fun v => v = .int .i64 y) (hF : slices_SortFunc_TEdge p0 g1 = some r) : HS Try.prog 127 [vp0, .fn (.func k1) [] []] [.row 4 vp0 (List.map TEdge.av p0)] fun v L' => v = .tup [] ∧ L' = [.row 4 vp0 (List.map TEdge.av r)] := HS.sort Try.sort127 TEdge.encOk Try.sort127_a Try.sort127_z hF hcal1 hg1

set_option maxRecDepth 10000 in
theorem cmp_isNaN_int_ok (p0 : Int) : PC Try.prog 119 [(.int .i64 p0)] fun v => v = (.bool (cmp_isNaN_int p0)) := by
  generalize hF : cmp_isNaN_int p0 = r
  refine PC.enter Try.func119 rfl Try.ntmps119 (by simp) ?_
  have hS := Sep.void; unfold cmp_isNaN_int at hF
  refine AWP.seqR rfl ?_
  refine ASL.q (v := (.bool false)) rfl rfl (Light.quiet (opAssign rfl rfl)) ?_
  refine ASL.done ?_
  refine AWP.seqR rfl ?_
  refine ASL.q (v := (.int .i64 p0)) rfl rfl (Light.quiet (opMove rfl rfl)) ?_
  refine ASL.q (v := (.int .i64 p0)) rfl rfl (Light.quiet (opMove rfl rfl)) ?_
  refine ASL.q (v := (.bool (decide (p0 ≠ p0)))) rfl rfl (Light.quiet (opInt rfl rfl rfl rfl)) ?_
  refine ASL.q (v := (.bool (decide (p0 ≠ p0)))) rfl rfl (Light.quiet (opAssign rfl rfl)) ?_
  refine ASL.done ?_
  refine AWP.ret ?_
  obtain rfl := hF
  exact QRet.sole (v := (.bool (decide (p0 ≠ p0)))) ⟨rfl, trivial⟩ rfl

set_option maxRecDepth 10000 in
theorem cmp_Compare_int_ok (p0 : Int) (p1 : Int) : PC Try.prog 85 [(.int .i64 p0), (.int .i64 p1)] fun v => v = (.int .i64 (cmp_Compare_int p0 p1)) := by
  generalize hF : cmp_Compare_int p0 p1 = r
  refine PC.enter Try.func85 rfl Try.ntmps85 (by simp) ?_
  have hS := Sep.void; unfold cmp_Compare_int at hF
  refine AWP.seqR rfl ?_
  refine ASL.q (v := (.int .i64 0)) rfl rfl (Light.quiet (opAssign rfl rfl)) ?_
  refine ASL.done ?_
  refine AWP.seqR rfl ?_
  refine ASL.q (v := (.int .i64 p0)) rfl rfl (Light.quiet (opMove rfl rfl)) ?_
  refine ASL.q (v := (.bool (cmp_isNaN_int p0))) rfl rfl ((qCall rfl rfl call_119 (cmp_isNaN_int_ok p0) rfl)) ?_
  refine ASL.q (v := (.bool (cmp_isNaN_int p0))) rfl rfl (Light.quiet (opAssign rfl rfl)) ?_
  refine ASL.done ?_
  refine AWP.seqR rfl ?_
  refine ASL.q (v := (.int .i64 p1)) rfl rfl (Light.quiet (opMove rfl rfl)) ?_
  refine ASL.q (v := (.bool (cmp_isNaN_int p1))) rfl rfl ((qCall rfl rfl call_119 (cmp_isNaN_int_ok p1) rfl)) ?_
  refine ASL.q (v := (.bool (cmp_isNaN_int p1))) rfl rfl (Light.quiet (opAssign rfl rfl)) ?_
  refine ASL.done ?_
  refine AWP.seq ?_
  refine AWP.seqR rfl ?_
  refine ASL.q (v := (.bool (cmp_isNaN_int p0))) rfl rfl (Light.quiet (opMove rfl rfl)) ?_
  refine ASL.done ?_
  refine AWP.ifB hF rfl (fun hc1 hF => ?_) (fun hc1 hF => ?_)
  · skip
    refine AWP.seq ?_
    refine AWP.seqR rfl ?_
    refine ASL.q (v := (.bool (cmp_isNaN_int p1))) rfl rfl (Light.quiet (opMove rfl rfl)) ?_
    refine ASL.done ?_
    refine AWP.ifB hF rfl (fun hc2 hF => ?_) (fun hc2 hF => ?_)
    · skip
      refine AWP.seqR rfl ?_
      refine ASL.q (v := (.int .i64 0)) rfl rfl (Light.quiet (opAssign rfl rfl)) ?_
      refine ASL.done ?_
      refine AWP.ret ?_
      refine QThen.rt ?_
      refine QThen.rt ?_
      obtain rfl := hF
      exact QRet.sole (v := (.int .i64 0)) ⟨rfl, trivial⟩ rfl
    · skip
      refine AWP.skip ?_
      refine QThen.nrm ?_
      refine AWP.seqR rfl ?_
      refine ASL.q (v := (.int .i64 (-1))) rfl rfl (Light.quiet (opAssign rfl rfl)) ?_
      refine ASL.done ?_
      refine AWP.ret ?_
      refine QThen.rt ?_
      obtain rfl := hF
      exact QRet.sole (v := (.int .i64 (-1))) ⟨rfl, trivial⟩ rfl
  · skip
    refine AWP.skip ?_
    refine QThen.nrm ?_
    refine AWP.seq ?_
    refine AWP.seqR rfl ?_
    refine ASL.q (v := (.bool (cmp_isNaN_int p1))) rfl rfl (Light.quiet (opMove rfl rfl)) ?_
    refine ASL.done ?_
    refine AWP.ifB hF rfl (fun hc3 hF => ?_) (fun hc3 hF => ?_)
    · skip
      refine AWP.seqR rfl ?_
      refine ASL.q (v := (.int .i64 1)) rfl rfl (Light.quiet (opAssign rfl rfl)) ?_
      refine ASL.done ?_
      refine AWP.ret ?_
      refine QThen.rt ?_
      obtain rfl := hF
      exact QRet.sole (v := (.int .i64 1)) ⟨rfl, trivial⟩ rfl
    · skip
      refine AWP.skip ?_
      refine QThen.nrm ?_
      refine AWP.seq ?_
      refine AWP.seqR rfl ?_
      refine ASL.q (v := (.int .i64 p0)) rfl rfl (Light.quiet (opMove rfl rfl)) ?_
      refine ASL.q (v := (.int .i64 p1)) rfl rfl (Light.quiet (opMove rfl rfl)) ?_
      refine ASL.q (v := (.bool (decide (p0 < p1)))) rfl rfl (Light.quiet (opInt rfl rfl rfl rfl)) ?_
      refine ASL.done ?_
      refine AWP.ifP hF rfl (fun hc4 hF => ?_) (fun hc4 hF => ?_)
      · skip
        refine AWP.seqR rfl ?_
        refine ASL.q (v := (.int .i64 (-1))) rfl rfl (Light.quiet (opAssign rfl rfl)) ?_
        refine ASL.done ?_
        refine AWP.ret ?_
        refine QThen.rt ?_
        obtain rfl := hF
        exact QRet.sole (v := (.int .i64 (-1))) ⟨rfl, trivial⟩ rfl
      · skip
        refine AWP.skip ?_
        refine QThen.nrm ?_
        refine AWP.seq ?_
        refine AWP.seqR rfl ?_
        refine ASL.q (v := (.int .i64 p0)) rfl rfl (Light.quiet (opMove rfl rfl)) ?_
        refine ASL.q (v := (.int .i64 p1)) rfl rfl (Light.quiet (opMove rfl rfl)) ?_
        refine ASL.q (v := (.bool (decide (p0 > p1)))) rfl rfl (Light.quiet (opInt rfl rfl rfl rfl)) ?_
        refine ASL.done ?_
        refine AWP.ifP hF rfl (fun hc5 hF => ?_) (fun hc5 hF => ?_)
        · skip
          refine AWP.seqR rfl ?_
          refine ASL.q (v := (.int .i64 1)) rfl rfl (Light.quiet (opAssign rfl rfl)) ?_
          refine ASL.done ?_
          refine AWP.ret ?_
          refine QThen.rt ?_
          obtain rfl := hF
          exact QRet.sole (v := (.int .i64 1)) ⟨rfl, trivial⟩ rfl
        · skip
          refine AWP.skip ?_
          refine QThen.nrm ?_
          refine AWP.seqR rfl ?_
          refine ASL.q (v := (.int .i64 0)) rfl rfl (Light.quiet (opAssign rfl rfl)) ?_
          refine ASL.done ?_
          refine AWP.ret ?_
          obtain rfl := hF
          exact QRet.sole (v := (.int .i64 0)) ⟨rfl, trivial⟩ rfl

set_option maxRecDepth 10000 in
theorem cmp_Or_int_ok {p0 : (List Int)} {r : Int} (hF : cmp_Or_int p0 = some r) : PC Try.prog 84 [(.list 1 (List.map (AV.int .i64) p0))] fun v => v = (.int .i64 r) := by
  refine PC.enter Try.func84 rfl Try.ntmps84 (by simp) ?_
  have hS := Sep.void; unfold cmp_Or_int at hF
  refine AWP.seqR rfl ?_
  refine ASL.q (v := (.int .i64 0)) rfl rfl (Light.quiet (opAssign rfl rfl)) ?_
  refine ASL.done ?_
  refine AWP.seqR rfl ?_
  refine ASL.q (v := (.int .i64 0)) rfl rfl (Light.quiet (opAssign rfl rfl)) ?_
  refine ASL.done ?_
  refine AWP.seqM (fun e H => E.Told e [(3, (.int .i64 0))] ∧ E.Sep H [] ∧ cmp_Or_int.k0 = some r) ?_ ?_
  · rintro e0 G1 ⟨hT, hS, hF⟩; refine AWP.only _ hT ?_; unfold cmp_Or_int.k0 at hF
    refine AWP.seqR rfl ?_
    refine ASL.q (v := (.int .i64 0)) rfl rfl (Light.quiet (opMove rfl rfl)) ?_
    refine ASL.q (v := (.int .i64 0)) rfl rfl (Light.quiet (opAssign rfl rfl)) ?_
    refine ASL.done ?_
    refine AWP.ret ?_
    obtain rfl := someE hF
    exact QRet.sole (v := (.int .i64 0)) ⟨rfl, trivial⟩ rfl
  · skip
    refine AWP.seqR rfl ?_
    refine ASL.q (v := (.list 1 (List.map (AV.int .i64) p0))) rfl rfl (Light.quiet (opMove rfl rfl)) ?_
    refine ASL.q (v := (.int .i64 (p0.length : Int))) rfl rfl (Light.quiet (opLenMap (f := (AV.int .i64)) rfl rfl rfl lenT_47 rfl)) ?_
    refine ASL.q (v := (.int .i64 0)) rfl rfl (Light.quiet (opMove rfl rfl)) ?_
    refine ASL.done ?_
    refine AWP.block ?_
    obtain ⟨o5, hL4, hR6⟩ := bindE hF
    refine AWP.loopF (ω := Unit) hL4 (fun s w => [(3, (.int .i64 0)), (6, (.list 1 (List.map (AV.int .i64) p0))), (7, (.int .i64 (p0.length : Int))), (8, (.int .i64 s))]) (fun s w => []) () ⟨rfl, rfl, rfl, rfl, trivial⟩ (hS.pick [] rfl rfl) ?_
    rintro x8_l0 _ G7 hS x2 hF hx3
    try dsimp only at hS ⊢
    have hF : cmp_Or_int.b0 p0 x8_l0 = some x2 := hF; unfold cmp_Or_int.b0 at hF
    refine AWP.seqR rfl ?_
    refine ASL.q (v := (.bool (decide (x8_l0 < ((p0.length : Int)))))) rfl rfl (Light.quiet (opInt rfl rfl rfl rfl)) ?_
    refine ASL.done ?_
    refine AWP.seq ?_
    refine AWP.ifP hF rfl (fun hc8 hF => ?_) (fun hc8 hF => ?_)
    · skip
      refine AWP.skip ?_
      refine QThen.nrm ?_
      refine AWP.seq ?_
      refine AWP.block ?_
      refine AWP.seqR rfl ?_
      obtain ⟨a10, ha10, hF⟩ := bindE hF
      refine ASL.q (v := (.rptr [(.int .i64 a10)])) rfl rfl (Light.quiet (kIx (f := (AV.int .i64)) ha10 rfl rfl rfl elemA_47 sizeA_3 rfl)) ?_
      refine ASL.q (v := (.int .i64 a10)) rfl rfl (Light.quiet (opLoadR rfl aggA_3 rfl rfl)) ?_
      refine ASL.q (v := (.int .i64 a10)) rfl rfl (Light.quiet (opAssign rfl rfl)) ?_
      refine ASL.done ?_
      refine AWP.seqR rfl ?_
      refine ASL.q (v := (.int .i64 a10)) rfl rfl (Light.quiet (opMove rfl rfl)) ?_
      refine ASL.q (v := (.int .i64 0)) rfl rfl (Light.quiet (opMove rfl rfl)) ?_
      refine ASL.q (v := (.bool (decide (a10 ≠ 0)))) rfl rfl (Light.quiet (opInt rfl rfl rfl rfl)) ?_
      refine ASL.done ?_
      refine AWP.ifP hF rfl (fun hc9 hF => ?_) (fun hc9 hF => ?_)
      · skip
        refine AWP.seqR rfl ?_
        refine ASL.q (v := (.int .i64 a10)) rfl rfl (Light.quiet (opMove rfl rfl)) ?_
        refine ASL.q (v := (.int .i64 a10)) rfl rfl (Light.quiet (opAssign rfl rfl)) ?_
        refine ASL.done ?_
        refine AWP.ret ?_
        refine QBlock.ret ?_
        refine QThen.rt ?_
        refine QThen.rt ?_
        refine QBlock.ret ?_
        refine QThen.rt ?_
        obtain rfl := (hx3 _ (someE hF).symm)
        have hF := hR6
        have hF := sumR hF
        obtain rfl := someE hF
        exact QRet.sole (v := (.int .i64 a10)) ⟨rfl, trivial⟩ rfl
      · skip
        refine AWP.skip ?_
        refine QBlock.nrm ?_
        refine QThen.nrm ?_
        refine AWP.lastR rfl ?_
        refine ASL.q (v := (.int .i64 (W (x8_l0 + 1)))) rfl rfl (Light.quiet (opInt rfl rfl rfl rfl)) ?_
        refine ASL.q (v := (.int .i64 (W (x8_l0 + 1)))) rfl rfl (Light.quiet (opMove rfl rfl)) ?_
        refine ASL.done ?_
        refine QThen.nrm ?_
        exact ⟨(W (x8_l0 + 1)), (), (someE hF).symm, ⟨rfl, rfl, rfl, rfl, trivial⟩, (hS.pick [] rfl rfl)⟩
    · skip
      refine AWP.exit ?_
      refine QThen.ext ?_
      refine QThen.ext ?_
      refine QBlock.hit ?_
      obtain rfl := (hx3 _ (someE hF).symm)
      have hF := hR6
      have hF := sumL hF
      refine QThen.nrm ?_
      exact ⟨⟨rfl, trivial⟩, (hS.pick [] rfl rfl), hF⟩

set_option maxRecDepth 10000 in
theorem impl_compareEdges_ok {p0 : TEdge} {p1 : TEdge} {r : Int} (hF : impl_compareEdges p0 p1 = some r) : PC Try.prog 105 [(TEdge.av p0), (TEdge.av p1)] fun v => v = (.int .i64 r) := by
  refine PC.enter Try.func105 rfl Try.ntmps105 (by simp) ?_
  have hS := Sep.void; unfold impl_compareEdges at hF
  refine AWP.seqR rfl ?_
  refine ASL.q (v := (.rptr [(.int .i64 p0.from_), (.int .i64 p0.letter), (.int .i64 p0.to_), (.bool p0.good)])) rfl rfl ((qBoxI (v := (TEdge.av p0)) rfl rfl rfl rfl)) ?_
  refine ASL.q (v := (.rptr [(.int .i64 p1.from_), (.int .i64 p1.letter), (.int .i64 p1.to_), (.bool p1.good)])) rfl rfl ((qBoxI (v := (TEdge.av p1)) rfl rfl rfl rfl)) ?_
  refine ASL.q (v := (.int .i64 0)) rfl rfl (Light.quiet (opAssign rfl rfl)) ?_
  refine ASL.done ?_
  refine AWP.seqD [(0, false), (1, false), (2, false), (3, false), (4, false), (5, false), (6, false), (7, false), (8, false), (9, false), (10, false), (11, false), (12, false), (13, false), (14, false), (15, false), (16, false), (17, false)] mixed (by kernel_rfl) rfl ?_
  refine ARL.q0 (v := (.rptr [(.int .i64 p0.from_), (.int .i64 p0.letter), (.int .i64 p0.to_), (.bool p0.good)])) rfl rfl (Light.quiet (opFieldAddrR rfl fieldA_79_0 rfl rfl)) ?_
  refine ARL.q0 (v := (.int .i64 p0.from_)) rfl rfl (Light.quiet (opLoadR rfl aggA_3 rfl rfl)) ?_
  refine ARL.q0 (v := (.rptr [(.int .i64 p1.from_), (.int .i64 p1.letter), (.int .i64 p1.to_), (.bool p1.good)])) rfl rfl (Light.quiet (opFieldAddrR rfl fieldA_79_0 rfl rfl)) ?_
  refine ARL.q0 (v := (.int .i64 p1.from_)) rfl rfl (Light.quiet (opLoadR rfl aggA_3 rfl rfl)) ?_
  refine ARL.q0 (v := (.int .i64 (cmp_Compare_int p0.from_ p1.from_))) rfl rfl ((qCall rfl rfl call_85 (cmp_Compare_int_ok p0.from_ p1.from_) rfl)) ?_
  refine ARL.q0 (v := (.rptr [(.int .i64 p0.letter), (.int .i64 p0.to_), (.bool p0.good)])) rfl rfl (Light.quiet (opFieldAddrR rfl fieldA_79_1 rfl rfl)) ?_
  refine ARL.q0 (v := (.int .i64 p0.letter)) rfl rfl (Light.quiet (opLoadR rfl aggA_3 rfl rfl)) ?_
  refine ARL.q0 (v := (.rptr [(.int .i64 p1.letter), (.int .i64 p1.to_), (.bool p1.good)])) rfl rfl (Light.quiet (opFieldAddrR rfl fieldA_79_1 rfl rfl)) ?_
  refine ARL.q0 (v := (.int .i64 p1.letter)) rfl rfl (Light.quiet (opLoadR rfl aggA_3 rfl rfl)) ?_
  refine ARL.q0 (v := (.int .i64 (cmp_Compare_int p0.letter p1.letter))) rfl rfl ((qCall rfl rfl call_85 (cmp_Compare_int_ok p0.letter p1.letter) rfl)) ?_
  refine ARL.q0 (v := (.rptr [(.int .i64 p0.to_), (.bool p0.good)])) rfl rfl (Light.quiet (opFieldAddrR rfl fieldA_79_2 rfl rfl)) ?_
  refine ARL.q0 (v := (.int .i64 p0.to_)) rfl rfl (Light.quiet (opLoadR rfl aggA_3 rfl rfl)) ?_
  refine ARL.q0 (v := (.rptr [(.int .i64 p1.to_), (.bool p1.good)])) rfl rfl (Light.quiet (opFieldAddrR rfl fieldA_79_2 rfl rfl)) ?_
  refine ARL.q0 (v := (.int .i64 p1.to_)) rfl rfl (Light.quiet (opLoadR rfl aggA_3 rfl rfl)) ?_
  refine ARL.q0 (v := (.int .i64 (cmp_Compare_int p0.to_ p1.to_))) rfl rfl ((qCall rfl rfl call_85 (cmp_Compare_int_ok p0.to_ p1.to_) rfl)) ?_
  refine ARL.q0 (v := (.list 1 (List.map (AV.int .i64) [(cmp_Compare_int p0.from_ p1.from_), (cmp_Compare_int p0.letter p1.letter), (cmp_Compare_int p0.to_ p1.to_)]))) rfl rfl ((qLit (xs := [(.int .i64 (cmp_Compare_int p0.from_ p1.from_)), (.int .i64 (cmp_Compare_int p0.letter p1.letter)), (.int .i64 (cmp_Compare_int p0.to_ p1.to_))]) rfl elemA_47 sizeA_3 zeroA_3 rfl rfl rfl rfl (by simp [cells]) (nlt rfl))) ?_
  obtain ⟨a21, ha21, hF⟩ := bindE hF
  refine ARL.q0 (v := (.int .i64 a21)) rfl rfl ((qCall rfl rfl call_84 (cmp_Or_int_ok ha21) rfl)) ?_
  refine ARL.q0 (v := (.int .i64 a21)) rfl rfl (Light.quiet (opAssign rfl rfl)) ?_
  refine ARL.done ?_
  refine AWP.ret ?_
  obtain rfl := someE hF
  exact QRet.sole (v := (.int .i64 a21)) ⟨rfl, trivial⟩ rfl

set_option maxRecDepth 10000 in
theorem impl_ordered_ok {p0 : (List TEdge)} {r : (List TEdge)} (hF : impl_ordered p0 = some r) : PO Try.prog 96 [(.list 4 (List.map TEdge.av p0))] 4 (List.map TEdge.av r) := by
  refine HC.enter Try.func96 rfl Try.ntmps96 (by simp) ?_
  have hS := Sep.void; unfold impl_ordered at hF
  refine AWP.seqR rfl ?_
  have hS := hNil (s := 4) (f := TEdge.av) hS
  refine ASL.q (v := .nil) rfl rfl (Light.quiet (opAssign rfl rfl)) ?_
  refine ASL.done ?_
  refine AWP.seqR rfl ?_
  refine ASL.q (v := (.list 4 (List.map TEdge.av p0))) rfl rfl (Light.quiet (opMove rfl rfl)) ?_
  obtain ⟨a9, ha9, hF⟩ := bindE hF
  refine ASL.x rfl rfl (hCallO hS rfl rfl call_126 (slices_Clone_impl_Edge_impl_Edge_ok ha9) rfl ?_); rintro v9 G2 hK hS
  refine ASL.q (v := v9) rfl rfl (Light.quiet (opAssign rfl rfl)) ?_
  refine ASL.done ?_
  refine AWP.seqR rfl ?_
  refine ASL.q (v := v9) rfl rfl (Light.quiet (opMove rfl rfl)) ?_
  obtain ⟨a11, ha11, hF⟩ := bindE hF
  refine ASL.x rfl rfl (hCallS hS [0, 1] (F := [.row 4 .nil (List.map TEdge.av ([]))]) rfl rfl rfl call_127 (slices_SortFunc_TEdge_ok call_105 (fun q0 q1 y h => impl_compareEdges_ok h) ha11) rfl rfl ?_); rintro _ _ G4 ⟨rfl, rfl⟩ hS
  refine ASL.done ?_
  refine AWP.seqR rfl ?_
  have hS := hNil (s := 4) (f := TEdge.av) hS
  refine ASL.q (v := .nil) rfl rfl (Light.quiet (opAssign rfl rfl)) ?_
  refine ASL.done ?_
  refine AWP.seqM (fun e H => ∃ y6 : (List TEdge), ∃ w7 : AV, E.Told e [(4, w7)] ∧ E.Sep H [.row 4 w7 (List.map TEdge.av y6)] ∧ impl_ordered.k0 y6 = some r) ?_ ?_
  · rintro e0 G9 ⟨y6, w7, hT, hS, hF⟩; refine AWP.only _ hT ?_; unfold impl_ordered.k0 at hF
    refine AWP.seqR rfl ?_
    refine ASL.q (v := w7) rfl rfl (Light.quiet (opMove rfl rfl)) ?_
    refine ASL.q (v := w7) rfl rfl (Light.quiet (opAssign rfl rfl)) ?_
    refine ASL.done ?_
    refine AWP.ret ?_
    obtain rfl := someE hF
    exact QRet.sole (v := w7) ⟨rfl, trivial⟩ (hS.get (k := 0) rfl)
  · skip
    refine AWP.seqR rfl ?_
    refine ASL.q (v := v9) rfl rfl (Light.quiet (opMove rfl rfl)) ?_
    refine ASL.q (v := (.int .i64 (a11.length : Int))) rfl rfl (Light.quiet (kLen hS (j := 1) rfl rfl rfl rfl lenT_36 rfl)) ?_
    refine ASL.q (v := (.int .i64 0)) rfl rfl (Light.quiet (opMove rfl rfl)) ?_
    refine ASL.done ?_
    refine AWP.block ?_
    obtain ⟨o16, hL15, hR17⟩ := bindE hF
    refine AWP.loopF (ω := AV) hL15 (fun s w => [(4, w), (12, v9), (13, (.int .i64 (a11.length : Int))), (14, (.int .i64 s.2))]) (fun s w => [.row 4 w (List.map TEdge.av s.1), .row 4 v9 (List.map TEdge.av a11)]) .nil ⟨rfl, rfl, rfl, rfl, trivial⟩ (hS.pick [0, 1] rfl rfl) ?_
    rintro ⟨y10, x14_l0⟩ w11 G18 hS x13 hF hx14
    try dsimp only at hS ⊢
    have hF : impl_ordered.b0 a11 y10 x14_l0 = some x13 := hF; unfold impl_ordered.b0 at hF
    refine AWP.seqR rfl ?_
    refine ASL.q (v := (.bool (decide (x14_l0 < ((a11.length : Int)))))) rfl rfl (Light.quiet (opInt rfl rfl rfl rfl)) ?_
    refine ASL.done ?_
    refine AWP.seq ?_
    refine AWP.ifP hF rfl (fun hc19 hF => ?_) (fun hc19 hF => ?_)
    · skip
      refine AWP.skip ?_
      refine QThen.nrm ?_
      refine AWP.seq ?_
      refine AWP.block ?_
      refine AWP.seqR rfl ?_
      obtain ⟨a16, ha16, hF⟩ := bindE hF
      refine ASL.q (v := (ptrTo v9 x14_l0.toNat 4)) rfl rfl (Light.quiet (kIxOx hS (j := 1) rfl ha16 rfl rfl rfl elemA_36 sizeA_79)) ?_
      refine ASL.q (v := (TEdge.av a16)) rfl rfl (Light.quiet (kLdA hS (j := 1) rfl ha16 rfl aggA_79 sizeA_79 rfl rfl)) ?_
      refine ASL.x rfl rfl (hNewZ hS [(.int .i64 0), (.int .i64 0), (.int .i64 0), (.bool false)] rfl zeroA_79 ⟨.inl rfl, .inl rfl, .inl rfl, .inl rfl, trivial⟩ ?_); rintro b6 G20 hK hS
      refine ASL.n rfl rfl (hPutA hS (j := 0) rfl rfl sizeA_79 rfl rfl rfl rfl rfl (nlt rfl) ?_); rintro G22 hS
      refine ASL.done ?_
      refine AWP.seqR rfl ?_
      refine ASL.q (v := w11) rfl rfl (Light.quiet (opMove rfl rfl)) ?_
      refine ASL.q (v := (.int .i64 (y10.length : Int))) rfl rfl (Light.quiet (kLen hS (j := 1) rfl rfl rfl rfl lenT_36 rfl)) ?_
      refine ASL.q (v := (.int .i64 (W (((y10.length : Int)) - 1)))) rfl rfl (Light.quiet (opInt rfl rfl rfl rfl)) ?_
      refine ASL.q (v := (.int .i64 (W (((y10.length : Int)) - 1)))) rfl rfl (Light.quiet (opAssign rfl rfl)) ?_
      refine ASL.done ?_
      refine AWP.seqD [(0, false), (1, false), (2, false), (3, false), (4, false), (5, false), (6, false), (7, false), (8, false), (9, false), (10, false)] mixed (by kernel_rfl) rfl ?_
      refine ARL.q0 (v := (.int .i64 (W (((y10.length : Int)) - 1)))) rfl rfl (Light.quiet (opMove rfl rfl)) ?_
      refine ARL.q0 (v := (.bool (decide (((W (((y10.length : Int)) - 1))) ≥ 0)))) rfl rfl (Light.quiet (opInt rfl rfl rfl rfl)) ?_
      obtain ⟨c23, hc23, hF⟩ := bndE hF
      refine ARL.q0 (v := (.bool c23)) rfl rfl ((Quiet.cast (Light.quiet (opMove rfl rfl)) (congrArg AV.bool hc23.symm))) ?_
      refine ARL.g (v := w11) (.bool c23) true rfl (wT _) rfl noneAlive (fun hG => by have q0 := hG; subst q0; exact Light.quiet (opMove rfl rfl)) ?_
      refine ARL.g (v := (.int .i64 (W (((y10.length : Int)) - 1)))) (.bool c23) true rfl (wT _) rfl noneAlive (fun hG => by have q0 := hG; subst q0; exact Light.quiet (opMove rfl rfl)) ?_
      obtain ⟨a26, ha26, hF⟩ := bindE hF
      refine ARL.g (v := (ptrTo w11 ((W (((y10.length : Int)) - 1))).toNat 4)) (.bool c23) true rfl (wT _) rfl noneAlive (fun hG => by have q0 := hG; subst q0; exact Light.quiet (kIxOx hS (j := 1) rfl (whenE ha26) rfl rfl rfl elemA_36 sizeA_79)) ?_
      refine ARL.g (v := (TEdge.av a26)) (.bool c23) true rfl (wT _) rfl (hS.aliveR (k := 1) rfl) (fun hG => by have q0 := hG; subst q0; exact Light.quiet (kLdA hS (j := 1) rfl (whenE ha26) rfl aggA_79 sizeA_79 rfl rfl)) ?_
      refine ARL.g (v := (TEdge.av a16)) (.bool c23) true rfl (wT _) rfl (hS.aliveC (k := 0) rfl) (fun hG => by have q0 := hG; subst q0; exact Light.quiet (kAtA hS (j := 0) rfl rfl aggA_79 sizeA_79 rfl (nlt rfl) rfl)) ?_
      obtain ⟨a29, ha29, hF⟩ := bindE hF
      refine ARL.g (v := (.int .i64 a29)) (.bool c23) true rfl (wT _) rfl noneAlive (fun hG => by have q0 := hG; subst q0; exact (qCall rfl rfl call_105 (impl_compareEdges_ok (whenE ha29)) rfl)) ?_
      refine ARL.g (v := (.bool (decide (a29 = 0)))) (.bool c23) true rfl (wT _) rfl noneAlive (fun hG => by have q0 := hG; subst q0; exact Light.quiet (opInt rfl rfl rfl rfl)) ?_
      refine ARL.q0 (v := (.bool (c23 && (decide (a29 = 0))))) rfl rfl (Light.quiet (opPick (b := c23) rfl rfl (by cases c23 <;> rfl))) ?_
      refine ARL.done ?_
      refine AWP.ifB hF rfl (fun hc23 hF => ?_) (fun hc23 hF => ?_)
      · skip
        refine AWP.lastR rfl ?_
        refine ASL.q (v := w11) rfl rfl (Light.quiet (opMove rfl rfl)) ?_
        refine ASL.q (v := (.int .i64 (W (((y10.length : Int)) - 1)))) rfl rfl (Light.quiet (opMove rfl rfl)) ?_
        refine ASL.q (v := w11) rfl rfl (Light.quiet (opMove rfl rfl)) ?_
        refine ASL.q (v := (.int .i64 (W (((y10.length : Int)) - 1)))) rfl rfl (Light.quiet (opMove rfl rfl)) ?_
        obtain ⟨a36, ha36, hF⟩ := bindE hF
        refine ASL.q (v := (ptrTo w11 ((W (((y10.length : Int)) - 1))).toNat 4)) rfl rfl (Light.quiet (kIxOx hS (j := 1) rfl ha36 rfl rfl rfl elemA_36 sizeA_79)) ?_
        refine ASL.q (v := (ptrOff w11 ((W (((y10.length : Int)) - 1))).toNat 4 3)) rfl rfl (Light.quiet (kFldO (p := 3) hS (j := 1) rfl ha36 rfl fieldA_79_3 rfl)) ?_
        refine ASL.q (v := (.bool a36.good)) rfl rfl (Light.quiet (kLdP (f := TEdge.av) hS (j := 1) rfl ha36 rfl aggA_4 rfl rfl)) ?_
        obtain ⟨c39, hc39, hF⟩ := bndE hF
        refine ASL.q (v := (.bool c39)) rfl rfl ((Quiet.cast (Light.quiet (opMove rfl rfl)) (congrArg AV.bool hc39.symm))) ?_
        refine ASL.g (v := (.ptr b6 3)) (.bool c39) false rfl (wF _) rfl (fun hG => by have q0 := gN hG; subst q0; exact Light.quiet (opFieldAddr rfl fieldA_79_3 rfl rfl)) ?_
        refine ASL.g (v := (.bool a16.good)) (.bool c39) false rfl (wF _) rfl (fun hG => by have q0 := gN hG; subst q0; exact Light.quiet (kAt hS (j := 0) rfl rfl aggA_4 rfl rfl)) ?_
        refine ASL.q (v := (.bool (c39 || a16.good))) rfl rfl (Light.quiet (opPick (b := c39) rfl rfl (by cases c39 <;> rfl))) ?_
        obtain ⟨m43, hm43, hF⟩ := bindE hF
        refine ASL.q (v := (ptrTo w11 m43 4)) rfl rfl (Light.quiet (kIxO hS (j := 1) rfl hm43 rfl rfl rfl elemA_36 sizeA_79)) ?_
        refine ASL.q (v := (ptrOff w11 m43 4 3)) rfl rfl (Light.quiet (kFldC (p := 3) hS (j := 1) rfl hm43 rfl fieldA_79_3 rfl)) ?_
        refine ASL.n rfl rfl (hStF (f := TEdge.av) (g := (fun q : TEdge => { q with good := (c39 || a16.good) })) (p := 3) hS (j := 1) rfl hm43 rfl sizeA_4 rfl rfl (fun _ => ⟨_, rfl, nlt rfl, rfl⟩) rfl ?_); rintro G24 hS
        refine ASL.done ?_
        refine QBlock.nrm ?_
        refine QThen.nrm ?_
        refine AWP.lastR rfl ?_
        refine ASL.q (v := (.int .i64 (W (x14_l0 + 1)))) rfl rfl (Light.quiet (opInt rfl rfl rfl rfl)) ?_
        refine ASL.q (v := (.int .i64 (W (x14_l0 + 1)))) rfl rfl (Light.quiet (opMove rfl rfl)) ?_
        refine ASL.done ?_
        refine QThen.nrm ?_
        exact ⟨((y10.set m43 ((fun q : TEdge => { q with good := (c39 || a16.good) }) (y10.getD m43 default))), (W (x14_l0 + 1))), w11, (someE hF).symm, ⟨rfl, rfl, rfl, rfl, trivial⟩, (hS.pick [1, 2] rfl rfl)⟩
      · skip
        refine AWP.lastR rfl ?_
        refine ASL.q (v := w11) rfl rfl (Light.quiet (opMove rfl rfl)) ?_
        refine ASL.q (v := (TEdge.av a16)) rfl rfl (Light.quiet (kAtA hS (j := 0) rfl rfl aggA_79 sizeA_79 rfl (nlt rfl) rfl)) ?_
        refine ASL.q (v := (.list 4 (List.map TEdge.av [a16]))) rfl rfl ((qLit (xs := [(TEdge.av a16)]) rfl elemA_36 sizeA_79 zeroA_79 rfl rfl rfl rfl (by simp [cells, TEdge.av]) (nlt rfl))) ?_
        obtain ⟨z48, hz48, hF⟩ := bindE hF
        refine ASL.x rfl rfl (hApp (f := TEdge.av) (ws := [a16]) hS (j := 1) rfl hz48 rfl elemA_36 rfl sizeA_79 bytesA_79 zeroA_79 rfl rfl rfl (fun _ => rfl) ?_); rintro v48 G25 hS
        refine ASL.q (v := v48) rfl rfl (Light.quiet (opAssign rfl rfl)) ?_
        refine ASL.done ?_
        refine QBlock.nrm ?_
        refine QThen.nrm ?_
        refine AWP.lastR rfl ?_
        refine ASL.q (v := (.int .i64 (W (x14_l0 + 1)))) rfl rfl (Light.quiet (opInt rfl rfl rfl rfl)) ?_
        refine ASL.q (v := (.int .i64 (W (x14_l0 + 1)))) rfl rfl (Light.quiet (opMove rfl rfl)) ?_
        refine ASL.done ?_
        refine QThen.nrm ?_
        exact ⟨(z48, (W (x14_l0 + 1))), v48, (someE hF).symm, ⟨rfl, rfl, rfl, rfl, trivial⟩, (hS.pick [1, 2] rfl rfl)⟩
    · skip
      refine AWP.exit ?_
      refine QThen.ext ?_
      refine QThen.ext ?_
      refine QBlock.hit ?_
      obtain rfl := (hx14 _ (someE hF).symm)
      have hF := hR17
      refine QThen.nrm ?_
      exact ⟨y10, w11, ⟨rfl, trivial⟩, (hS.pick [0] rfl rfl), hF⟩

set_option maxRecDepth 10000 in
theorem impl_nfaOf_ok {p0 : (List TNode)} {p1 : Int} {r : TNfa} (hF : impl_nfaOf p0 p1 = some r) : HS Try.prog 56 [(.list 3 (List.map TNode.av p0)), (.int .i64 p1)] [] fun v L' => ∃ o0_Auto_Edges : AV, v = (.agg [(.int .i64 r.auto.letters), (.int .i64 r.auto.states), (.int .i64 r.auto.start), o0_Auto_Edges, (.int .i64 r.final)]) ∧ L' = [.row 4 o0_Auto_Edges (List.map TEdge.av r.auto.edges)] := by
  intro H S hS
  refine HC.enter Try.func56 rfl Try.ntmps56 (by simp) ?_
  simp only [List.cons_append, List.nil_append] at hS
  unfold impl_nfaOf at hF
  refine AWP.seqR rfl ?_
  have hS := hNil (s := 4) (f := TEdge.av) hS
  refine ASL.x rfl rfl (hNewZ hS [(.int .i64 0), (.int .i64 0), (.int .i64 0), .nil, (.int .i64 0)] rfl zeroA_40 ⟨.inl rfl, .inl rfl, .inl rfl, .inl rfl, .inl rfl, trivial⟩ ?_); rintro b4 G1 hK hS
  refine ASL.done ?_
  refine AWP.seqR rfl ?_
  refine ASL.q (v := (.list 3 (List.map TNode.av p0))) rfl rfl (Light.quiet (opMove rfl rfl)) ?_
  obtain ⟨a13, ha13, hF⟩ := bindE hF
  refine ASL.q (v := (.tup [(Tglance.av a13.1), (.list 1 (List.map (AV.int .i64) a13.2))])) rfl rfl ((qCall rfl rfl call_94 (impl_glanceOf_ok ha13) rfl)) ?_
  refine ASL.q (v := (.tup [(Tglance.av a13.1), (.list 1 (List.map (AV.int .i64) a13.2))])) rfl rfl (Light.quiet (opMove rfl rfl)) ?_
  refine ASL.q (v := (Tglance.av a13.1)) rfl rfl (Light.quiet (opExtract rfl rfl rfl)) ?_
  refine ASL.q (v := (.list 1 (List.map (AV.int .i64) a13.2))) rfl rfl (Light.quiet (opExtract rfl rfl rfl)) ?_
  refine ASL.x rfl rfl (hNewZ hS [(.bool false), (.int .i64 0), (.int .i64 0), (.int .i64 0), (.int .i64 0), (.int .i64 0), (.int .i64 0), (.int .i64 0), (.int .i64 0), (.int .i64 0), (.int .i64 0), (.int .i64 0), (.int .i64 0), (.int .i64 0), (.int .i64 0), (.int .i64 0), (.int .i64 0), (.int .i64 0), (.int .i64 0), (.int .i64 0), (.int .i64 0), (.int .i64 0), (.int .i64 0), (.int .i64 0), (.int .i64 0), (.int .i64 0), (.int .i64 0), (.int .i64 0), (.int .i64 0), (.int .i64 0), (.int .i64 0), (.int .i64 0), (.int .i64 0), (.int .i64 0), (.int .i64 0)] rfl zeroA_111 ⟨.inl rfl, .inl rfl, .inl rfl, .inl rfl, .inl rfl, .inl rfl, .inl rfl, .inl rfl, .inl rfl, .inl rfl, .inl rfl, .inl rfl, .inl rfl, .inl rfl, .inl rfl, .inl rfl, .inl rfl, .inl rfl, .inl rfl, .inl rfl, .inl rfl, .inl rfl, .inl rfl, .inl rfl, .inl rfl, .inl rfl, .inl rfl, .inl rfl, .inl rfl, .inl rfl, .inl rfl, .inl rfl, .inl rfl, .inl rfl, .inl rfl, trivial⟩ ?_); rintro b5 G4 hK hS
  refine ASL.x rfl rfl (hNewZ hS [(.list 1 (List.map (AV.int .i64) []))] rfl zeroA_47 ⟨.inr ⟨_, rfl, rfl⟩, trivial⟩ ?_); rintro b6 G6 hK hS
  refine ASL.n rfl rfl (hPutAll (ys := [(.bool a13.1.null), (.int .i64 a13.1.first), (.int .i64 a13.1.last), (.int .i64 (a13.1.behind 0)), (.int .i64 (a13.1.behind 1)), (.int .i64 (a13.1.behind 2)), (.int .i64 (a13.1.behind 3)), (.int .i64 (a13.1.behind 4)), (.int .i64 (a13.1.behind 5)), (.int .i64 (a13.1.behind 6)), (.int .i64 (a13.1.behind 7)), (.int .i64 (a13.1.behind 8)), (.int .i64 (a13.1.behind 9)), (.int .i64 (a13.1.behind 10)), (.int .i64 (a13.1.behind 11)), (.int .i64 (a13.1.behind 12)), (.int .i64 (a13.1.behind 13)), (.int .i64 (a13.1.behind 14)), (.int .i64 (a13.1.behind 15)), (.int .i64 (a13.1.behind 16)), (.int .i64 (a13.1.behind 17)), (.int .i64 (a13.1.behind 18)), (.int .i64 (a13.1.behind 19)), (.int .i64 (a13.1.behind 20)), (.int .i64 (a13.1.behind 21)), (.int .i64 (a13.1.behind 22)), (.int .i64 (a13.1.behind 23)), (.int .i64 (a13.1.behind 24)), (.int .i64 (a13.1.behind 25)), (.int .i64 (a13.1.behind 26)), (.int .i64 (a13.1.behind 27)), (.int .i64 (a13.1.behind 28)), (.int .i64 (a13.1.behind 29)), (.int .i64 (a13.1.behind 30)), (.int .i64 (a13.1.behind 31))]) hS (j := 1) rfl rfl sizeA_111 rfl rfl rfl rfl rfl rfl rfl (by decide) ?_); rintro G8 hS
  refine ASL.n rfl rfl (hPut hS (j := 0) rfl rfl sizeA_47 rfl rfl rfl (nlt rfl) ?_); rintro G9 hS
  refine ASL.done ?_
  refine AWP.seqR rfl ?_
  refine ASL.q (v := (.int .i64 p1)) rfl rfl (Light.quiet (opMove rfl rfl)) ?_
  refine ASL.q (v := (.list 1 (List.map (AV.int .i64) a13.2))) rfl rfl (Light.quiet (kAt hS (j := 0) rfl rfl aggA_47 rfl rfl)) ?_
  refine ASL.q (v := (.int .i64 (a13.2.length : Int))) rfl rfl (Light.quiet (opLenMap (f := (AV.int .i64)) rfl rfl rfl lenT_47 rfl)) ?_
  refine ASL.q (v := (.int .i64 (W (1 + ((a13.2.length : Int)))))) rfl rfl (Light.quiet (opInt rfl rfl rfl rfl)) ?_
  refine ASL.q (v := (.agg [(.int .i64 p1), (.int .i64 (W (1 + ((a13.2.length : Int))))), (.int .i64 1), .nil])) rfl rfl (Light.quiet (opBuildZ (zs := [(.int .i64 0), (.int .i64 0), (.int .i64 0), .nil]) rfl plan_38 zeroA_38 ⟨.inl rfl, .inl rfl, .inl rfl, .inl rfl, trivial⟩ rfl)) ?_
  refine ASL.q (v := (.ptr b5 2)) rfl rfl (Light.quiet (opFieldAddr rfl fieldA_111_2 rfl rfl)) ?_
  refine ASL.q (v := (.int .i64 a13.1.last)) rfl rfl (Light.quiet (kAt hS (j := 1) rfl rfl aggA_3 rfl rfl)) ?_
  refine ASL.q (v := (.agg [(.int .i64 p1), (.int .i64 (W (1 + ((a13.2.length : Int))))), (.int .i64 1), .nil, (.int .i64 a13.1.last)])) rfl rfl (Light.quiet (opBuildZ (zs := [(.int .i64 0), (.int .i64 0), (.int .i64 0), (.list 4 (List.map TEdge.av [])), (.int .i64 0)]) rfl plan_40 zeroA_40 ⟨.inl rfl, .inl rfl, .inl rfl, .inr ⟨_, rfl, rfl⟩, .inl rfl, trivial⟩ rfl)) ?_
  have hS := hNil (s := 4) (f := TEdge.av) hS
  refine ASL.x rfl rfl (hNewZ hS [(.int .i64 0), (.int .i64 0), (.int .i64 0), .nil, (.int .i64 0)] rfl zeroA_40 ⟨.inl rfl, .inl rfl, .inl rfl, .inl rfl, .inl rfl, trivial⟩ ?_); rintro b7 G10 hK hS
  have hS := hNil (s := 4) (f := TEdge.av) hS
  refine ASL.n rfl rfl (hPutA hS (j := 1) rfl rfl sizeA_40 rfl rfl rfl rfl (allC rfl (allC rfl (allC rfl (allC (hS.one (k := 0) rfl) (allC rfl rfl))))) (nlt rfl) ?_); rintro G13 hS
  refine ASL.done ?_
  refine AWP.seqM (fun e H => ∃ y15 : Int, ∃ y16 : Int, ∃ y17 : Int, ∃ y18 : (List TEdge), ∃ y21 : Int, ∃ w19 : AV, E.Told e [(4, (.ptr b4 0)), (5, (.ptr b5 0)), (6, (.ptr b6 0)), (7, (.ptr b7 0))] ∧ E.Sep H [.row 4 .nil (List.map TEdge.av ([])), .cell b4 [(.int .i64 0), (.int .i64 0), (.int .i64 0), .nil, (.int .i64 0)], .cell b5 [(.bool a13.1.null), (.int .i64 a13.1.first), (.int .i64 a13.1.last), (.int .i64 (a13.1.behind 0)), (.int .i64 (a13.1.behind 1)), (.int .i64 (a13.1.behind 2)), (.int .i64 (a13.1.behind 3)), (.int .i64 (a13.1.behind 4)), (.int .i64 (a13.1.behind 5)), (.int .i64 (a13.1.behind 6)), (.int .i64 (a13.1.behind 7)), (.int .i64 (a13.1.behind 8)), (.int .i64 (a13.1.behind 9)), (.int .i64 (a13.1.behind 10)), (.int .i64 (a13.1.behind 11)), (.int .i64 (a13.1.behind 12)), (.int .i64 (a13.1.behind 13)), (.int .i64 (a13.1.behind 14)), (.int .i64 (a13.1.behind 15)), (.int .i64 (a13.1.behind 16)), (.int .i64 (a13.1.behind 17)), (.int .i64 (a13.1.behind 18)), (.int .i64 (a13.1.behind 19)), (.int .i64 (a13.1.behind 20)), (.int .i64 (a13.1.behind 21)), (.int .i64 (a13.1.behind 22)), (.int .i64 (a13.1.behind 23)), (.int .i64 (a13.1.behind 24)), (.int .i64 (a13.1.behind 25)), (.int .i64 (a13.1.behind 26)), (.int .i64 (a13.1.behind 27)), (.int .i64 (a13.1.behind 28)), (.int .i64 (a13.1.behind 29)), (.int .i64 (a13.1.behind 30)), (.int .i64 (a13.1.behind 31))], .cell b6 [(.list 1 (List.map (AV.int .i64) a13.2))], .row 4 w19 (List.map TEdge.av y18), .cell b7 [(.int .i64 y15), (.int .i64 y16), (.int .i64 y17), w19, (.int .i64 y21)], .snap S] ∧ impl_nfaOf.k0 a13 y15 y16 y17 y18 y21 = some r) ?_ ?_
  · rintro e0 G90 ⟨y15, y16, y17, y18, y21, w19, hT, hS, hF⟩; refine AWP.only _ hT ?_; unfold impl_nfaOf.k0 at hF
    refine AWP.seqR rfl ?_
    refine ASL.q (v := (.fn (.func 95) [] [(.ptr b7 0), (.ptr b6 0)])) rfl rfl (Light.quiet (opFunc rfl rfl)) ?_
    refine ASL.q (v := (.fn (.func 95) [] [(.ptr b7 0), (.ptr b6 0)])) rfl rfl (Light.quiet (opAssign rfl rfl)) ?_
    refine ASL.done ?_
    refine AWP.seqM (fun e H => ∃ y22 : Int, ∃ y23 : Int, ∃ y24 : Int, ∃ y25 : (List TEdge), ∃ y28 : Int, ∃ w26 : AV, E.Told e [(4, (.ptr b4 0)), (7, (.ptr b7 0))] ∧ E.Sep H [.row 4 .nil (List.map TEdge.av ([])), .cell b4 [(.int .i64 0), (.int .i64 0), (.int .i64 0), .nil, (.int .i64 0)], .row 4 w26 (List.map TEdge.av y25), .cell b7 [(.int .i64 y22), (.int .i64 y23), (.int .i64 y24), w26, (.int .i64 y28)], .snap S] ∧ impl_nfaOf.k1 y22 y23 y24 y25 y28 = some r) ?_ ?_
    · rintro e0 G33 ⟨y22, y23, y24, y25, y28, w26, hT, hS, hF⟩; refine AWP.only _ hT ?_; unfold impl_nfaOf.k1 at hF
      refine AWP.seqR rfl ?_
      refine ASL.q (v := (.ptr b7 0)) rfl rfl (Light.quiet (opFieldAddr rfl fieldA_40_0 rfl rfl)) ?_
      refine ASL.q (v := (.ptr b7 3)) rfl rfl (Light.quiet (opFieldAddr rfl fieldA_38_3 rfl rfl)) ?_
      refine ASL.q (v := w26) rfl rfl (Light.quiet (kAt hS (j := 3) rfl rfl aggA_36 rfl rfl)) ?_
      obtain ⟨a69, ha69, hF⟩ := bindE hF
      refine ASL.x rfl rfl (hCallOR hS rfl rfl call_96 (impl_ordered_ok ha69) ⟨.row (k := 2) rfl, trivial⟩ (Scal.row (fun _ => by simp only [TEdge.av, cells, List.mem_cons, List.not_mem_nil, or_false]; rintro c hc; rcases hc with rfl | rfl | rfl | rfl <;> constructor)) ?_); rintro v69 G29 hK hS
      refine ASL.q (v := (.ptr b7 0)) rfl rfl (Light.quiet (opFieldAddr rfl fieldA_40_0 rfl rfl)) ?_
      refine ASL.q (v := (.ptr b7 3)) rfl rfl (Light.quiet (opFieldAddr rfl fieldA_38_3 rfl rfl)) ?_
      refine ASL.n rfl rfl (hPut hS (j := 4) rfl rfl sizeA_36 rfl rfl (hS.one (k := 0) rfl) (nlt rfl) ?_); rintro G31 hS
      refine ASL.done ?_
      refine AWP.seqR rfl ?_
      refine ASL.q (v := (.agg [(.int .i64 y22), (.int .i64 y23), (.int .i64 y24), v69, (.int .i64 y28)])) rfl rfl (Light.quiet (kAtA hS (j := 4) rfl rfl aggA_40 sizeA_40 rfl (nlt rfl) rfl)) ?_
      refine ASL.n rfl rfl (hPutA hS (j := 2) rfl rfl sizeA_40 rfl rfl rfl rfl (allC rfl (allC rfl (allC rfl (allC (hS.one (k := 0) rfl) (allC rfl rfl))))) (nlt rfl) ?_); rintro G32 hS
      refine ASL.done ?_
      refine AWP.ret ?_
      obtain rfl := someE hF
      exact QRet.sole (v := (.agg [(.int .i64 y22), (.int .i64 y23), (.int .i64 y24), v69, (.int .i64 y28)])) ⟨resOne.at hS (k := 2) rfl rfl aggA_40 sizeA_40, trivial⟩ ⟨_, ⟨v69, rfl, rfl⟩, hS.pick [0, 5] rfl rfl⟩
    · skip
      refine AWP.seqR rfl ?_
      refine ASL.q (v := (.list 1 (List.map (AV.int .i64) a13.2))) rfl rfl (Light.quiet (kAt hS (j := 3) rfl rfl aggA_47 rfl rfl)) ?_
      refine ASL.q (v := (.int .i64 (a13.2.length : Int))) rfl rfl (Light.quiet (opLenMap (f := (AV.int .i64)) rfl rfl rfl lenT_47 rfl)) ?_
      refine ASL.q (v := (.int .i64 0)) rfl rfl (Light.quiet (opMove rfl rfl)) ?_
      refine ASL.done ?_
      refine AWP.block ?_
      obtain ⟨o45, hL44, hR46⟩ := bindE hF
      refine AWP.loopF (ω := AV) hL44 (fun s w => [(4, (.ptr b4 0)), (5, (.ptr b5 0)), (6, (.ptr b6 0)), (7, (.ptr b7 0)), (8, (.fn (.func 95) [] [(.ptr b7 0), (.ptr b6 0)])), (32, (.int .i64 (a13.2.length : Int))), (33, (.int .i64 s.2.2.2.2.2.2))]) (fun s w => [.row 4 .nil (List.map TEdge.av ([])), .cell b4 [(.int .i64 0), (.int .i64 0), (.int .i64 0), .nil, (.int .i64 0)], .cell b5 [(.bool a13.1.null), (.int .i64 a13.1.first), (.int .i64 a13.1.last), (.int .i64 (a13.1.behind 0)), (.int .i64 (a13.1.behind 1)), (.int .i64 (a13.1.behind 2)), (.int .i64 (a13.1.behind 3)), (.int .i64 (a13.1.behind 4)), (.int .i64 (a13.1.behind 5)), (.int .i64 (a13.1.behind 6)), (.int .i64 (a13.1.behind 7)), (.int .i64 (a13.1.behind 8)), (.int .i64 (a13.1.behind 9)), (.int .i64 (a13.1.behind 10)), (.int .i64 (a13.1.behind 11)), (.int .i64 (a13.1.behind 12)), (.int .i64 (a13.1.behind 13)), (.int .i64 (a13.1.behind 14)), (.int .i64 (a13.1.behind 15)), (.int .i64 (a13.1.behind 16)), (.int .i64 (a13.1.behind 17)), (.int .i64 (a13.1.behind 18)), (.int .i64 (a13.1.behind 19)), (.int .i64 (a13.1.behind 20)), (.int .i64 (a13.1.behind 21)), (.int .i64 (a13.1.behind 22)), (.int .i64 (a13.1.behind 23)), (.int .i64 (a13.1.behind 24)), (.int .i64 (a13.1.behind 25)), (.int .i64 (a13.1.behind 26)), (.int .i64 (a13.1.behind 27)), (.int .i64 (a13.1.behind 28)), (.int .i64 (a13.1.behind 29)), (.int .i64 (a13.1.behind 30)), (.int .i64 (a13.1.behind 31))], .cell b6 [(.list 1 (List.map (AV.int .i64) s.1))], .row 4 w (List.map TEdge.av s.2.2.2.2.1), .cell b7 [(.int .i64 s.2.1), (.int .i64 s.2.2.1), (.int .i64 s.2.2.2.1), w, (.int .i64 s.2.2.2.2.2.1)], .snap S]) w19 ⟨rfl, rfl, rfl, rfl, rfl, rfl, rfl, trivial⟩ (hS.pick [0, 1, 2, 3, 4, 5, 6] rfl rfl) ?_
      rintro ⟨y34, y35, y36, y37, y38, y41, x33_l0⟩ w39 G47 hS x42 hF hx43
      try dsimp only at hS ⊢
      have hF : impl_nfaOf.b0 a13 y34 y35 y36 y37 y38 y41 x33_l0 = some x42 := hF; unfold impl_nfaOf.b0 at hF
      refine AWP.seqR rfl ?_
      refine ASL.q (v := (.bool (decide (x33_l0 < ((a13.2.length : Int)))))) rfl rfl (Light.quiet (opInt rfl rfl rfl rfl)) ?_
      refine ASL.done ?_
      refine AWP.seq ?_
      refine AWP.ifP hF rfl (fun hc48 hF => ?_) (fun hc48 hF => ?_)
      · skip
        refine AWP.skip ?_
        refine QThen.nrm ?_
        refine AWP.seqM (fun e H => ∃ y49 : (List Int), ∃ y50 : Int, ∃ y51 : Int, ∃ y52 : Int, ∃ y53 : (List TEdge), ∃ y56 : Int, ∃ w54 : AV, E.Told e [(4, (.ptr b4 0)), (5, (.ptr b5 0)), (6, (.ptr b6 0)), (7, (.ptr b7 0)), (8, (.fn (.func 95) [] [(.ptr b7 0), (.ptr b6 0)])), (32, (.int .i64 (a13.2.length : Int))), (33, (.int .i64 x33_l0))] ∧ E.Sep H [.row 4 .nil (List.map TEdge.av ([])), .cell b4 [(.int .i64 0), (.int .i64 0), (.int .i64 0), .nil, (.int .i64 0)], .cell b5 [(.bool a13.1.null), (.int .i64 a13.1.first), (.int .i64 a13.1.last), (.int .i64 (a13.1.behind 0)), (.int .i64 (a13.1.behind 1)), (.int .i64 (a13.1.behind 2)), (.int .i64 (a13.1.behind 3)), (.int .i64 (a13.1.behind 4)), (.int .i64 (a13.1.behind 5)), (.int .i64 (a13.1.behind 6)), (.int .i64 (a13.1.behind 7)), (.int .i64 (a13.1.behind 8)), (.int .i64 (a13.1.behind 9)), (.int .i64 (a13.1.behind 10)), (.int .i64 (a13.1.behind 11)), (.int .i64 (a13.1.behind 12)), (.int .i64 (a13.1.behind 13)), (.int .i64 (a13.1.behind 14)), (.int .i64 (a13.1.behind 15)), (.int .i64 (a13.1.behind 16)), (.int .i64 (a13.1.behind 17)), (.int .i64 (a13.1.behind 18)), (.int .i64 (a13.1.behind 19)), (.int .i64 (a13.1.behind 20)), (.int .i64 (a13.1.behind 21)), (.int .i64 (a13.1.behind 22)), (.int .i64 (a13.1.behind 23)), (.int .i64 (a13.1.behind 24)), (.int .i64 (a13.1.behind 25)), (.int .i64 (a13.1.behind 26)), (.int .i64 (a13.1.behind 27)), (.int .i64 (a13.1.behind 28)), (.int .i64 (a13.1.behind 29)), (.int .i64 (a13.1.behind 30)), (.int .i64 (a13.1.behind 31))], .cell b6 [(.list 1 (List.map (AV.int .i64) y49))], .row 4 w54 (List.map TEdge.av y53), .cell b7 [(.int .i64 y50), (.int .i64 y51), (.int .i64 y52), w54, (.int .i64 y56)], .snap S] ∧ impl_nfaOf.k2 x33_l0 y49 y50 y51 y52 y53 y56 = some x42) ?_ ?_
        · rintro e0 G57 ⟨y49, y50, y51, y52, y53, y56, w54, hT, hS, hF⟩; refine AWP.only _ hT ?_; unfold impl_nfaOf.k2 at hF
          refine AWP.lastR rfl ?_
          refine ASL.q (v := (.int .i64 (W (x33_l0 + 1)))) rfl rfl (Light.quiet (opInt rfl rfl rfl rfl)) ?_
          refine ASL.q (v := (.int .i64 (W (x33_l0 + 1)))) rfl rfl (Light.quiet (opMove rfl rfl)) ?_
          refine ASL.done ?_
          refine QThen.nrm ?_
          exact ⟨(y49, y50, y51, y52, y53, y56, (W (x33_l0 + 1))), w54, (someE hF).symm, ⟨rfl, rfl, rfl, rfl, rfl, rfl, rfl, trivial⟩, (hS.pick [0, 1, 2, 3, 4, 5, 6] rfl rfl)⟩
        · skip
          refine AWP.block ?_
          refine AWP.seqR rfl ?_
          refine ASL.q (v := (.int .i64 x33_l0)) rfl rfl (Light.quiet (opMove rfl rfl)) ?_
          refine ASL.q (v := (.int .i64 x33_l0)) rfl rfl (Light.quiet (opAssign rfl rfl)) ?_
          refine ASL.done ?_
          refine AWP.seqM (fun e H => ∃ y58 : (List Int), ∃ y59 : Int, ∃ y60 : Int, ∃ y61 : Int, ∃ y62 : (List TEdge), ∃ y65 : Int, ∃ w63 : AV, E.Told e [(4, (.ptr b4 0)), (5, (.ptr b5 0)), (6, (.ptr b6 0)), (7, (.ptr b7 0)), (8, (.fn (.func 95) [] [(.ptr b7 0), (.ptr b6 0)])), (9, (.int .i64 x33_l0)), (32, (.int .i64 (a13.2.length : Int))), (33, (.int .i64 x33_l0))] ∧ E.Sep H [.row 4 .nil (List.map TEdge.av ([])), .cell b4 [(.int .i64 0), (.int .i64 0), (.int .i64 0), .nil, (.int .i64 0)], .cell b5 [(.bool a13.1.null), (.int .i64 a13.1.first), (.int .i64 a13.1.last), (.int .i64 (a13.1.behind 0)), (.int .i64 (a13.1.behind 1)), (.int .i64 (a13.1.behind 2)), (.int .i64 (a13.1.behind 3)), (.int .i64 (a13.1.behind 4)), (.int .i64 (a13.1.behind 5)), (.int .i64 (a13.1.behind 6)), (.int .i64 (a13.1.behind 7)), (.int .i64 (a13.1.behind 8)), (.int .i64 (a13.1.behind 9)), (.int .i64 (a13.1.behind 10)), (.int .i64 (a13.1.behind 11)), (.int .i64 (a13.1.behind 12)), (.int .i64 (a13.1.behind 13)), (.int .i64 (a13.1.behind 14)), (.int .i64 (a13.1.behind 15)), (.int .i64 (a13.1.behind 16)), (.int .i64 (a13.1.behind 17)), (.int .i64 (a13.1.behind 18)), (.int .i64 (a13.1.behind 19)), (.int .i64 (a13.1.behind 20)), (.int .i64 (a13.1.behind 21)), (.int .i64 (a13.1.behind 22)), (.int .i64 (a13.1.behind 23)), (.int .i64 (a13.1.behind 24)), (.int .i64 (a13.1.behind 25)), (.int .i64 (a13.1.behind 26)), (.int .i64 (a13.1.behind 27)), (.int .i64 (a13.1.behind 28)), (.int .i64 (a13.1.behind 29)), (.int .i64 (a13.1.behind 30)), (.int .i64 (a13.1.behind 31))], .cell b6 [(.list 1 (List.map (AV.int .i64) y58))], .row 4 w63 (List.map TEdge.av y62), .cell b7 [(.int .i64 y59), (.int .i64 y60), (.int .i64 y61), w63, (.int .i64 y65)], .snap S] ∧ impl_nfaOf.k3 a13 x33_l0 y58 y59 y60 y61 y62 y65 = some x42) ?_ ?_
          · rintro e0 G85 ⟨y58, y59, y60, y61, y62, y65, w63, hT, hS, hF⟩; refine AWP.only _ hT ?_; unfold impl_nfaOf.k3 at hF
            refine AWP.seqR rfl ?_
            refine ASL.q (v := (.list 1 (List.map (AV.int .i64) y58))) rfl rfl (Light.quiet (kAt hS (j := 3) rfl rfl aggA_47 rfl rfl)) ?_
            refine ASL.q (v := (.int .i64 (y58.length : Int))) rfl rfl (Light.quiet (opLenMap (f := (AV.int .i64)) rfl rfl rfl lenT_47 rfl)) ?_
            refine ASL.q (v := (.int .i64 0)) rfl rfl (Light.quiet (opMove rfl rfl)) ?_
            refine ASL.done ?_
            refine AWP.block ?_
            obtain ⟨o77, hL76, hR78⟩ := bindE hF
            refine AWP.loopF (ω := AV) hL76 (fun s w => [(4, (.ptr b4 0)), (5, (.ptr b5 0)), (6, (.ptr b6 0)), (7, (.ptr b7 0)), (8, (.fn (.func 95) [] [(.ptr b7 0), (.ptr b6 0)])), (9, (.int .i64 x33_l0)), (32, (.int .i64 (a13.2.length : Int))), (33, (.int .i64 x33_l0)), (46, (.int .i64 (y58.length : Int))), (47, (.int .i64 s.2.2.2.2.2.2))]) (fun s w => [.row 4 .nil (List.map TEdge.av ([])), .cell b4 [(.int .i64 0), (.int .i64 0), (.int .i64 0), .nil, (.int .i64 0)], .cell b5 [(.bool a13.1.null), (.int .i64 a13.1.first), (.int .i64 a13.1.last), (.int .i64 (a13.1.behind 0)), (.int .i64 (a13.1.behind 1)), (.int .i64 (a13.1.behind 2)), (.int .i64 (a13.1.behind 3)), (.int .i64 (a13.1.behind 4)), (.int .i64 (a13.1.behind 5)), (.int .i64 (a13.1.behind 6)), (.int .i64 (a13.1.behind 7)), (.int .i64 (a13.1.behind 8)), (.int .i64 (a13.1.behind 9)), (.int .i64 (a13.1.behind 10)), (.int .i64 (a13.1.behind 11)), (.int .i64 (a13.1.behind 12)), (.int .i64 (a13.1.behind 13)), (.int .i64 (a13.1.behind 14)), (.int .i64 (a13.1.behind 15)), (.int .i64 (a13.1.behind 16)), (.int .i64 (a13.1.behind 17)), (.int .i64 (a13.1.behind 18)), (.int .i64 (a13.1.behind 19)), (.int .i64 (a13.1.behind 20)), (.int .i64 (a13.1.behind 21)), (.int .i64 (a13.1.behind 22)), (.int .i64 (a13.1.behind 23)), (.int .i64 (a13.1.behind 24)), (.int .i64 (a13.1.behind 25)), (.int .i64 (a13.1.behind 26)), (.int .i64 (a13.1.behind 27)), (.int .i64 (a13.1.behind 28)), (.int .i64 (a13.1.behind 29)), (.int .i64 (a13.1.behind 30)), (.int .i64 (a13.1.behind 31))], .cell b6 [(.list 1 (List.map (AV.int .i64) s.1))], .row 4 w (List.map TEdge.av s.2.2.2.2.1), .cell b7 [(.int .i64 s.2.1), (.int .i64 s.2.2.1), (.int .i64 s.2.2.2.1), w, (.int .i64 s.2.2.2.2.2.1)], .snap S]) w63 ⟨rfl, rfl, rfl, rfl, rfl, rfl, rfl, rfl, rfl, rfl, trivial⟩ (hS.pick [0, 1, 2, 3, 4, 5, 6] rfl rfl) ?_
            rintro ⟨y66, y67, y68, y69, y70, y73, x47_l1⟩ w71 G79 hS x74 hF hx75
            try dsimp only at hS ⊢
            have hF : impl_nfaOf.b1 y58 a13 x33_l0 y66 y67 y68 y69 y70 y73 x47_l1 = some x74 := hF; unfold impl_nfaOf.b1 at hF
            refine AWP.seqR rfl ?_
            refine ASL.q (v := (.bool (decide (x47_l1 < ((y58.length : Int)))))) rfl rfl (Light.quiet (opInt rfl rfl rfl rfl)) ?_
            refine ASL.done ?_
            refine AWP.seq ?_
            refine AWP.ifP hF rfl (fun hc80 hF => ?_) (fun hc80 hF => ?_)
            · skip
              refine AWP.skip ?_
              refine QThen.nrm ?_
              refine AWP.seq ?_
              refine AWP.block ?_
              refine AWP.seqR rfl ?_
              refine ASL.q (v := (.int .i64 x47_l1)) rfl rfl (Light.quiet (opMove rfl rfl)) ?_
              refine ASL.q (v := (.int .i64 x47_l1)) rfl rfl (Light.quiet (opAssign rfl rfl)) ?_
              refine ASL.done ?_
              refine AWP.seqR rfl ?_
              refine ASL.q (v := (.int .i64 x47_l1)) rfl rfl (Light.quiet (opMove rfl rfl)) ?_
              refine ASL.q (v := (.int .i64 (W (x47_l1 + 1)))) rfl rfl (Light.quiet (opInt rfl rfl rfl rfl)) ?_
              refine ASL.q (v := (.ptr b5 3)) rfl rfl (Light.quiet (opFieldAddr rfl fieldA_111_3 rfl rfl)) ?_
              obtain ⟨m53, hm53, hF⟩ := bindE hF
              refine ASL.q (v := (.ptr b5 (3 + m53))) rfl rfl (Light.quiet (opIndexArr rfl rfl rfl arrA_109 hm53)) ?_
              refine ASL.q (v := (.int .i64 (a13.1.behind m53))) rfl rfl (Light.quiet (kAtArr (E := a13.1.behind) (pre := [(.bool a13.1.null), (.int .i64 a13.1.first), (.int .i64 a13.1.last)]) (n := 32) hS (j := 2) rfl rfl rfl aggA_3 rfl hm53)) ?_
              refine ASL.q (v := (.int .i64 x33_l0)) rfl rfl (Light.quiet (opMove rfl rfl)) ?_
              refine ASL.q (v := (.int .i64 (W (x33_l0 + 1)))) rfl rfl (Light.quiet (opInt rfl rfl rfl rfl)) ?_
              refine ASL.q (v := (.bool (impl_has ((a13.1.behind m53)) ((W (x33_l0 + 1)))))) rfl rfl ((qCall rfl rfl call_81 (impl_has_ok ((a13.1.behind m53)) ((W (x33_l0 + 1)))) rfl)) ?_
              refine ASL.done ?_
              refine AWP.ifB hF rfl (fun hc81 hF => ?_) (fun hc81 hF => ?_)
              · skip
                refine AWP.lastR rfl ?_
                refine ASL.q (v := (.fn (.func 95) [] [(.ptr b7 0), (.ptr b6 0)])) rfl rfl (Light.quiet (opMove rfl rfl)) ?_
                refine ASL.q (v := (.int .i64 x47_l1)) rfl rfl (Light.quiet (opMove rfl rfl)) ?_
                refine ASL.q (v := (.int .i64 (W (x47_l1 + 1)))) rfl rfl (Light.quiet (opInt rfl rfl rfl rfl)) ?_
                refine ASL.q (v := (.int .i64 x33_l0)) rfl rfl (Light.quiet (opMove rfl rfl)) ?_
                refine ASL.q (v := (.int .i64 (W (x33_l0 + 1)))) rfl rfl (Light.quiet (opInt rfl rfl rfl rfl)) ?_
                obtain ⟨a63, ha63, hF⟩ := bindE hF
                refine ASL.x rfl rfl (hCallS hS [5, 4, 3, 0, 1, 2, 6] (F := [.row 4 .nil (List.map TEdge.av ([])), .cell b4 [(.int .i64 0), (.int .i64 0), (.int .i64 0), .nil, (.int .i64 0)], .cell b5 [(.bool a13.1.null), (.int .i64 a13.1.first), (.int .i64 a13.1.last), (.int .i64 (a13.1.behind 0)), (.int .i64 (a13.1.behind 1)), (.int .i64 (a13.1.behind 2)), (.int .i64 (a13.1.behind 3)), (.int .i64 (a13.1.behind 4)), (.int .i64 (a13.1.behind 5)), (.int .i64 (a13.1.behind 6)), (.int .i64 (a13.1.behind 7)), (.int .i64 (a13.1.behind 8)), (.int .i64 (a13.1.behind 9)), (.int .i64 (a13.1.behind 10)), (.int .i64 (a13.1.behind 11)), (.int .i64 (a13.1.behind 12)), (.int .i64 (a13.1.behind 13)), (.int .i64 (a13.1.behind 14)), (.int .i64 (a13.1.behind 15)), (.int .i64 (a13.1.behind 16)), (.int .i64 (a13.1.behind 17)), (.int .i64 (a13.1.behind 18)), (.int .i64 (a13.1.behind 19)), (.int .i64 (a13.1.behind 20)), (.int .i64 (a13.1.behind 21)), (.int .i64 (a13.1.behind 22)), (.int .i64 (a13.1.behind 23)), (.int .i64 (a13.1.behind 24)), (.int .i64 (a13.1.behind 25)), (.int .i64 (a13.1.behind 26)), (.int .i64 (a13.1.behind 27)), (.int .i64 (a13.1.behind 28)), (.int .i64 (a13.1.behind 29)), (.int .i64 (a13.1.behind 30)), (.int .i64 (a13.1.behind 31))], .snap S]) rfl rfl rfl call_95 (impl_nfaOf_1_ok ha63) rfl rfl ?_); rintro _ _ G84 ⟨w82, rfl, rfl⟩ hS
                refine ASL.done ?_
                refine QBlock.nrm ?_
                refine QThen.nrm ?_
                refine AWP.lastR rfl ?_
                refine ASL.q (v := (.int .i64 (W (x47_l1 + 1)))) rfl rfl (Light.quiet (opInt rfl rfl rfl rfl)) ?_
                refine ASL.q (v := (.int .i64 (W (x47_l1 + 1)))) rfl rfl (Light.quiet (opMove rfl rfl)) ?_
                refine ASL.done ?_
                refine QThen.nrm ?_
                exact ⟨(a63.2, a63.1.auto.letters, a63.1.auto.states, a63.1.auto.start, a63.1.auto.edges, a63.1.final, (W (x47_l1 + 1))), w82, (someE hF).symm, ⟨rfl, rfl, rfl, rfl, rfl, rfl, rfl, rfl, rfl, rfl, trivial⟩, (hS.pick [3, 4, 5, 2, 1, 0, 6] rfl rfl)⟩
              · skip
                refine AWP.skip ?_
                refine QBlock.nrm ?_
                refine QThen.nrm ?_
                refine AWP.lastR rfl ?_
                refine ASL.q (v := (.int .i64 (W (x47_l1 + 1)))) rfl rfl (Light.quiet (opInt rfl rfl rfl rfl)) ?_
                refine ASL.q (v := (.int .i64 (W (x47_l1 + 1)))) rfl rfl (Light.quiet (opMove rfl rfl)) ?_
                refine ASL.done ?_
                refine QThen.nrm ?_
                exact ⟨(y66, y67, y68, y69, y70, y73, (W (x47_l1 + 1))), w71, (someE hF).symm, ⟨rfl, rfl, rfl, rfl, rfl, rfl, rfl, rfl, rfl, rfl, trivial⟩, (hS.pick [0, 1, 2, 3, 4, 5, 6] rfl rfl)⟩
            · skip
              refine AWP.exit ?_
              refine QThen.ext ?_
              refine QThen.ext ?_
              refine QBlock.hit ?_
              obtain rfl := (hx75 _ (someE hF).symm)
              have hF := hR78
              refine QBlock.nrm ?_
              refine QThen.nrm ?_
              exact ⟨y66, y67, y68, y69, y70, y73, w71, ⟨rfl, rfl, rfl, rfl, rfl, rfl, rfl, trivial⟩, (hS.pick [0, 1, 2, 3, 4, 5, 6] rfl rfl), hF⟩
          · skip
            refine AWP.seqR rfl ?_
            refine ASL.q (v := (.ptr b5 1)) rfl rfl (Light.quiet (opFieldAddr rfl fieldA_111_1 rfl rfl)) ?_
            refine ASL.q (v := (.int .i64 a13.1.first)) rfl rfl (Light.quiet (kAt hS (j := 2) rfl rfl aggA_3 rfl rfl)) ?_
            refine ASL.q (v := (.int .i64 x33_l0)) rfl rfl (Light.quiet (opMove rfl rfl)) ?_
            refine ASL.q (v := (.int .i64 (W (x33_l0 + 1)))) rfl rfl (Light.quiet (opInt rfl rfl rfl rfl)) ?_
            refine ASL.q (v := (.bool (impl_has a13.1.first ((W (x33_l0 + 1)))))) rfl rfl ((qCall rfl rfl call_81 (impl_has_ok a13.1.first ((W (x33_l0 + 1)))) rfl)) ?_
            refine ASL.done ?_
            refine AWP.ifB hF rfl (fun hc86 hF => ?_) (fun hc86 hF => ?_)
            · skip
              refine AWP.lastR rfl ?_
              refine ASL.q (v := (.fn (.func 95) [] [(.ptr b7 0), (.ptr b6 0)])) rfl rfl (Light.quiet (opMove rfl rfl)) ?_
              refine ASL.q (v := (.int .i64 x33_l0)) rfl rfl (Light.quiet (opMove rfl rfl)) ?_
              refine ASL.q (v := (.int .i64 (W (x33_l0 + 1)))) rfl rfl (Light.quiet (opInt rfl rfl rfl rfl)) ?_
              obtain ⟨a44, ha44, hF⟩ := bindE hF
              refine ASL.x rfl rfl (hCallS hS [5, 4, 3, 0, 1, 2, 6] (F := [.row 4 .nil (List.map TEdge.av ([])), .cell b4 [(.int .i64 0), (.int .i64 0), (.int .i64 0), .nil, (.int .i64 0)], .cell b5 [(.bool a13.1.null), (.int .i64 a13.1.first), (.int .i64 a13.1.last), (.int .i64 (a13.1.behind 0)), (.int .i64 (a13.1.behind 1)), (.int .i64 (a13.1.behind 2)), (.int .i64 (a13.1.behind 3)), (.int .i64 (a13.1.behind 4)), (.int .i64 (a13.1.behind 5)), (.int .i64 (a13.1.behind 6)), (.int .i64 (a13.1.behind 7)), (.int .i64 (a13.1.behind 8)), (.int .i64 (a13.1.behind 9)), (.int .i64 (a13.1.behind 10)), (.int .i64 (a13.1.behind 11)), (.int .i64 (a13.1.behind 12)), (.int .i64 (a13.1.behind 13)), (.int .i64 (a13.1.behind 14)), (.int .i64 (a13.1.behind 15)), (.int .i64 (a13.1.behind 16)), (.int .i64 (a13.1.behind 17)), (.int .i64 (a13.1.behind 18)), (.int .i64 (a13.1.behind 19)), (.int .i64 (a13.1.behind 20)), (.int .i64 (a13.1.behind 21)), (.int .i64 (a13.1.behind 22)), (.int .i64 (a13.1.behind 23)), (.int .i64 (a13.1.behind 24)), (.int .i64 (a13.1.behind 25)), (.int .i64 (a13.1.behind 26)), (.int .i64 (a13.1.behind 27)), (.int .i64 (a13.1.behind 28)), (.int .i64 (a13.1.behind 29)), (.int .i64 (a13.1.behind 30)), (.int .i64 (a13.1.behind 31))], .snap S]) rfl rfl rfl call_95 (impl_nfaOf_1_ok ha44) rfl rfl ?_); rintro _ _ G89 ⟨w87, rfl, rfl⟩ hS
              refine ASL.done ?_
              refine QThen.nrm ?_
              exact ⟨a44.2, a44.1.auto.letters, a44.1.auto.states, a44.1.auto.start, a44.1.auto.edges, a44.1.final, w87, ⟨rfl, rfl, rfl, rfl, rfl, rfl, rfl, rfl, trivial⟩, (hS.pick [3, 4, 5, 2, 1, 0, 6] rfl rfl), hF⟩
            · skip
              refine AWP.skip ?_
              refine QThen.nrm ?_
              exact ⟨y34, y35, y36, y37, y38, y41, w39, ⟨rfl, rfl, rfl, rfl, rfl, rfl, rfl, rfl, trivial⟩, (hS.pick [0, 1, 2, 3, 4, 5, 6] rfl rfl), hF⟩
      · skip
        refine AWP.exit ?_
        refine QThen.ext ?_
        refine QThen.ext ?_
        refine QBlock.hit ?_
        obtain rfl := (hx43 _ (someE hF).symm)
        have hF := hR46
        refine QThen.nrm ?_
        exact ⟨y35, y36, y37, y38, y41, w39, ⟨rfl, rfl, trivial⟩, (hS.pick [0, 1, 4, 5, 6] rfl rfl), hF⟩
  · skip
    refine AWP.seqR rfl ?_
    refine ASL.q (v := (.ptr b5 0)) rfl rfl (Light.quiet (opFieldAddr rfl fieldA_111_0 rfl rfl)) ?_
    refine ASL.q (v := (.bool a13.1.null)) rfl rfl (Light.quiet (kAt hS (j := 4) rfl rfl aggA_4 rfl rfl)) ?_
    refine ASL.done ?_
    refine AWP.ifB hF rfl (fun hc91 hF => ?_) (fun hc91 hF => ?_)
    · skip
      refine AWP.lastR rfl ?_
      refine ASL.q (v := (.ptr b7 4)) rfl rfl (Light.quiet (opFieldAddr rfl fieldA_40_1 rfl rfl)) ?_
      refine ASL.q (v := (.int .i64 a13.1.last)) rfl rfl (Light.quiet (kAt hS (j := 1) rfl rfl aggA_3 rfl rfl)) ?_
      refine ASL.q (v := (.int .i64 (bOr .i64 a13.1.last 1))) rfl rfl (Light.quiet (opInt rfl rfl rfl rfl)) ?_
      refine ASL.q (v := (.ptr b7 4)) rfl rfl (Light.quiet (opFieldAddr rfl fieldA_40_1 rfl rfl)) ?_
      refine ASL.n rfl rfl (hPut hS (j := 1) rfl rfl sizeA_3 rfl rfl rfl (nlt rfl) ?_); rintro G92 hS
      refine ASL.done ?_
      refine QThen.nrm ?_
      exact ⟨p1, (W (1 + ((a13.2.length : Int)))), 1, [], (bOr .i64 a13.1.last 1), .nil, ⟨rfl, rfl, rfl, rfl, trivial⟩, (hS.pick [6, 5, 4, 3, 0, 1, 7] rfl rfl), hF⟩
    · skip
      refine AWP.skip ?_
      refine QThen.nrm ?_
      exact ⟨p1, (W (1 + ((a13.2.length : Int)))), 1, [], a13.1.last, .nil, ⟨rfl, rfl, rfl, rfl, trivial⟩, (hS.pick [6, 5, 4, 3, 0, 1, 7] rfl rfl), hF⟩

set_option maxRecDepth 10000 in
theorem impl_SetOk_ok (p0 : Int) : PC Try.prog 68 [(.int .i64 p0)] fun v => v = (.bool (impl_SetOk p0)) := by
  generalize hF : impl_SetOk p0 = r
  refine PC.enter Try.func68 rfl Try.ntmps68 (by simp) ?_
  have hS := Sep.void; unfold impl_SetOk at hF
  refine AWP.seqR rfl ?_
  refine ASL.q (v := (.bool false)) rfl rfl (Light.quiet (opAssign rfl rfl)) ?_
  refine ASL.done ?_
  refine AWP.seqR rfl ?_
  refine ASL.q (v := (.int .i64 p0)) rfl rfl (Light.quiet (opMove rfl rfl)) ?_
  refine ASL.q (v := (.bool (impl_inRange p0 0 2147483647))) rfl rfl ((qCall rfl rfl call_78 (impl_inRange_ok p0 0 2147483647) rfl)) ?_
  refine ASL.q (v := (.bool (impl_inRange p0 0 2147483647))) rfl rfl (Light.quiet (opAssign rfl rfl)) ?_
  refine ASL.done ?_
  refine AWP.ret ?_
  obtain rfl := hF
  exact QRet.sole (v := (.bool (impl_inRange p0 0 2147483647))) ⟨rfl, trivial⟩ rfl

set_option maxRecDepth 10000 in
theorem impl_headOk_ok (p0 : Int) (p1 : Int) (p2 : Int) : PC Try.prog 104 [(.int .i64 p0), (.int .i64 p1), (.int .i64 p2)] fun v => v = (.bool (impl_headOk p0 p1 p2)) := by
  generalize hF : impl_headOk p0 p1 p2 = r
  refine PC.enter Try.func104 rfl Try.ntmps104 (by simp) ?_
  have hS := Sep.void; unfold impl_headOk at hF
  refine AWP.seqR rfl ?_
  refine ASL.q (v := (.bool false)) rfl rfl (Light.quiet (opAssign rfl rfl)) ?_
  refine ASL.done ?_
  refine AWP.seqR rfl ?_
  refine ASL.q (v := (.int .i64 p0)) rfl rfl (Light.quiet (opMove rfl rfl)) ?_
  refine ASL.q (v := (.bool (impl_isLetters p0))) rfl rfl ((qCall rfl rfl call_54 (impl_isLetters_ok p0) rfl)) ?_
  obtain ⟨c9, hc9, hF⟩ := bndE hF
  refine ASL.q (v := (.bool c9)) rfl rfl ((Quiet.cast (Light.quiet (opMove rfl rfl)) (congrArg AV.bool hc9.symm))) ?_
  refine ASL.g (v := (.int .i64 p1)) (.bool c9) true rfl (wT _) rfl (fun hG => by have q0 := hG; subst q0; exact Light.quiet (opMove rfl rfl)) ?_
  refine ASL.g (v := (.bool (impl_inRange p1 0 31))) (.bool c9) true rfl (wT _) rfl (fun hG => by have q0 := hG; subst q0; exact (qCall rfl rfl call_78 (impl_inRange_ok p1 0 31) rfl)) ?_
  refine ASL.q (v := (.bool (c9 && (impl_inRange p1 0 31)))) rfl rfl (Light.quiet (opPick (b := c9) rfl rfl (by cases c9 <;> rfl))) ?_
  obtain ⟨c13, hc13, hF⟩ := bndE hF
  refine ASL.q (v := (.bool c13)) rfl rfl ((Quiet.cast (Light.quiet (opMove rfl rfl)) (congrArg AV.bool hc13.symm))) ?_
  refine ASL.g (v := (.int .i64 p2)) (.bool c13) true rfl (wT _) rfl (fun hG => by have q0 := hG; subst q0; exact Light.quiet (opMove rfl rfl)) ?_
  refine ASL.g (v := (.bool (impl_SetOk p2))) (.bool c13) true rfl (wT _) rfl (fun hG => by have q0 := hG; subst q0; exact (qCall rfl rfl call_68 (impl_SetOk_ok p2) rfl)) ?_
  refine ASL.q (v := (.bool (c13 && (impl_SetOk p2)))) rfl rfl (Light.quiet (opPick (b := c13) rfl rfl (by cases c13 <;> rfl))) ?_
  obtain ⟨c17, hc17, hF⟩ := bndE hF
  refine ASL.q (v := (.bool c17)) rfl rfl ((Quiet.cast (Light.quiet (opMove rfl rfl)) (congrArg AV.bool hc17.symm))) ?_
  refine ASL.g (v := (.int .i64 p2)) (.bool c17) true rfl (wT _) rfl (fun hG => by have q0 := hG; subst q0; exact Light.quiet (opMove rfl rfl)) ?_
  refine ASL.g (v := (.int .i64 p1)) (.bool c17) true rfl (wT _) rfl (fun hG => by have q0 := hG; subst q0; exact Light.quiet (opMove rfl rfl)) ?_
  refine ASL.g (v := (.int .i64 (impl_only p1))) (.bool c17) true rfl (wT _) rfl (fun hG => by have q0 := hG; subst q0; exact (qCall rfl rfl call_39 (impl_only_ok p1) rfl)) ?_
  refine ASL.g (v := (.bool (decide (p2 < ((impl_only p1)))))) (.bool c17) true rfl (wT _) rfl (fun hG => by have q0 := hG; subst q0; exact Light.quiet (opInt rfl rfl rfl rfl)) ?_
  refine ASL.q (v := (.bool (c17 && (decide (p2 < ((impl_only p1))))))) rfl rfl (Light.quiet (opPick (b := c17) rfl rfl (by cases c17 <;> rfl))) ?_
  refine ASL.q (v := (.bool (c17 && (decide (p2 < ((impl_only p1))))))) rfl rfl (Light.quiet (opAssign rfl rfl)) ?_
  refine ASL.done ?_
  refine AWP.ret ?_
  obtain rfl := hF
  exact QRet.sole (v := (.bool (c17 && (decide (p2 < ((impl_only p1))))))) ⟨rfl, trivial⟩ rfl

set_option maxRecDepth 10000 in
theorem impl_AutoOk_ok {p0 : TAuto} {r : Bool} (hF : impl_AutoOk p0 = some r) : PC Try.prog 67 [(TAuto.av p0)] fun v => v = (.bool r) := by
  refine PC.enter Try.func67 rfl Try.ntmps67 (by simp) ?_
  have hS := Sep.void; unfold impl_AutoOk at hF
  refine AWP.seqR rfl ?_
  refine ASL.q (v := (.rptr [(.int .i64 p0.letters), (.int .i64 p0.states), (.int .i64 p0.start), (.list 4 (List.map TEdge.av p0.edges))])) rfl rfl ((qBoxI (v := (TAuto.av p0)) rfl rfl rfl rfl)) ?_
  refine ASL.q (v := (.bool false)) rfl rfl (Light.quiet (opAssign rfl rfl)) ?_
  refine ASL.done ?_
  refine AWP.seq ?_
  refine AWP.seqR rfl ?_
  refine ASL.q (v := (.rptr [(.int .i64 p0.letters), (.int .i64 p0.states), (.int .i64 p0.start), (.list 4 (List.map TEdge.av p0.edges))])) rfl rfl (Light.quiet (opFieldAddrR rfl fieldA_38_0 rfl rfl)) ?_
  refine ASL.q (v := (.int .i64 p0.letters)) rfl rfl (Light.quiet (opLoadR rfl aggA_3 rfl rfl)) ?_
  refine ASL.q (v := (.rptr [(.int .i64 p0.states), (.int .i64 p0.start), (.list 4 (List.map TEdge.av p0.edges))])) rfl rfl (Light.quiet (opFieldAddrR rfl fieldA_38_1 rfl rfl)) ?_
  refine ASL.q (v := (.int .i64 p0.states)) rfl rfl (Light.quiet (opLoadR rfl aggA_3 rfl rfl)) ?_
  refine ASL.q (v := (.rptr [(.int .i64 p0.start), (.list 4 (List.map TEdge.av p0.edges))])) rfl rfl (Light.quiet (opFieldAddrR rfl fieldA_38_2 rfl rfl)) ?_
  refine ASL.q (v := (.int .i64 p0.start)) rfl rfl (Light.quiet (opLoadR rfl aggA_3 rfl rfl)) ?_
  refine ASL.q (v := (.bool (impl_headOk p0.letters p0.states p0.start))) rfl rfl ((qCall rfl rfl call_104 (impl_headOk_ok p0.letters p0.states p0.start) rfl)) ?_
  refine ASL.q (v := (.bool (!(impl_headOk p0.letters p0.states p0.start)))) rfl rfl (Light.quiet (opNot rfl rfl)) ?_
  obtain ⟨c13, hc13, hF⟩ := bndE hF
  refine ASL.q (v := (.bool c13)) rfl rfl ((Quiet.cast (Light.quiet (opMove rfl rfl)) (congrArg AV.bool hc13.symm))) ?_
  refine ASL.g (v := (.rptr [(.list 4 (List.map TEdge.av p0.edges))])) (.bool c13) false rfl (wF _) rfl (fun hG => by have q0 := gN hG; subst q0; exact Light.quiet (opFieldAddrR rfl fieldA_38_3 rfl rfl)) ?_
  refine ASL.g (v := (.list 4 (List.map TEdge.av p0.edges))) (.bool c13) false rfl (wF _) rfl (fun hG => by have q0 := gN hG; subst q0; exact Light.quiet (opLoadR rfl aggA_36 rfl rfl)) ?_
  refine ASL.g (v := (.int .i64 (p0.edges.length : Int))) (.bool c13) false rfl (wF _) rfl (fun hG => by have q0 := gN hG; subst q0; exact Light.quiet (opLenMap (f := TEdge.av) rfl rfl rfl lenT_36 rfl)) ?_
  refine ASL.g (v := (.bool (decide (((p0.edges.length : Int)) > 2000)))) (.bool c13) false rfl (wF _) rfl (fun hG => by have q0 := gN hG; subst q0; exact Light.quiet (opInt rfl rfl rfl rfl)) ?_
  refine ASL.q (v := (.bool (c13 || (decide (((p0.edges.length : Int)) > 2000))))) rfl rfl (Light.quiet (opPick (b := c13) rfl rfl (by cases c13 <;> rfl))) ?_
  refine ASL.done ?_
  refine AWP.ifB hF rfl (fun hc1 hF => ?_) (fun hc1 hF => ?_)
  · skip
    refine AWP.seqR rfl ?_
    refine ASL.q (v := (.bool false)) rfl rfl (Light.quiet (opAssign rfl rfl)) ?_
    refine ASL.done ?_
    refine AWP.ret ?_
    refine QThen.rt ?_
    obtain rfl := someE hF
    exact QRet.sole (v := (.bool false)) ⟨rfl, trivial⟩ rfl
  · skip
    refine AWP.skip ?_
    refine QThen.nrm ?_
    refine AWP.seqM (fun e H => E.Told e [] ∧ E.Sep H [] ∧ impl_AutoOk.k0 = some r) ?_ ?_
    · rintro e0 G2 ⟨hT, hS, hF⟩; refine AWP.only _ hT ?_; unfold impl_AutoOk.k0 at hF
      refine AWP.seqR rfl ?_
      refine ASL.q (v := (.bool true)) rfl rfl (Light.quiet (opAssign rfl rfl)) ?_
      refine ASL.done ?_
      refine AWP.ret ?_
      obtain rfl := someE hF
      exact QRet.sole (v := (.bool true)) ⟨rfl, trivial⟩ rfl
    · skip
      refine AWP.seqR rfl ?_
      refine ASL.q (v := (.rptr [(.list 4 (List.map TEdge.av p0.edges))])) rfl rfl (Light.quiet (opFieldAddrR rfl fieldA_38_3 rfl rfl)) ?_
      refine ASL.q (v := (.list 4 (List.map TEdge.av p0.edges))) rfl rfl (Light.quiet (opLoadR rfl aggA_36 rfl rfl)) ?_
      refine ASL.q (v := (.int .i64 (p0.edges.length : Int))) rfl rfl (Light.quiet (opLenMap (f := TEdge.av) rfl rfl rfl lenT_36 rfl)) ?_
      refine ASL.q (v := (.int .i64 0)) rfl rfl (Light.quiet (opMove rfl rfl)) ?_
      refine ASL.done ?_
      refine AWP.block ?_
      obtain ⟨o6, hL5, hR7⟩ := bindE hF
      refine AWP.loopF (ω := Unit) hL5 (fun s w => [(1, (.rptr [(.int .i64 p0.letters), (.int .i64 p0.states), (.int .i64 p0.start), (.list 4 (List.map TEdge.av p0.edges))])), (20, (.list 4 (List.map TEdge.av p0.edges))), (21, (.int .i64 (p0.edges.length : Int))), (22, (.int .i64 s))]) (fun s w => []) () ⟨rfl, rfl, rfl, rfl, trivial⟩ (hS.pick [] rfl rfl) ?_
      rintro x22_l0 _ G8 hS x3 hF hx4
      try dsimp only at hS ⊢
      have hF : impl_AutoOk.b0 p0 x22_l0 = some x3 := hF; unfold impl_AutoOk.b0 at hF
      refine AWP.seqR rfl ?_
      refine ASL.q (v := (.bool (decide (x22_l0 < ((p0.edges.length : Int)))))) rfl rfl (Light.quiet (opInt rfl rfl rfl rfl)) ?_
      refine ASL.done ?_
      refine AWP.seq ?_
      refine AWP.ifP hF rfl (fun hc9 hF => ?_) (fun hc9 hF => ?_)
      · skip
        refine AWP.skip ?_
        refine QThen.nrm ?_
        refine AWP.seq ?_
        refine AWP.block ?_
        refine AWP.seqR rfl ?_
        refine ASL.q (v := (.int .i64 x22_l0)) rfl rfl (Light.quiet (opMove rfl rfl)) ?_
        obtain ⟨a25, ha25, hF⟩ := bindE hF
        refine ASL.q (v := (.rptr [(.int .i64 a25.from_), (.int .i64 a25.letter), (.int .i64 a25.to_), (.bool a25.good)])) rfl rfl (Light.quiet (kIx (f := TEdge.av) ha25 rfl rfl rfl elemA_36 sizeA_79 rfl)) ?_
        refine ASL.q (v := (TEdge.av a25)) rfl rfl (Light.quiet (opLoadRA rfl aggA_79 sizeA_79 rfl (nlt rfl) rfl)) ?_
        refine ASL.x rfl rfl (hNewZ hS [(.int .i64 0), (.int .i64 0), (.int .i64 0), (.bool false)] rfl zeroA_79 ⟨.inl rfl, .inl rfl, .inl rfl, .inl rfl, trivial⟩ ?_); rintro b4 G10 hK hS
        refine ASL.q (v := (.int .i64 x22_l0)) rfl rfl (Light.quiet (opAssign rfl rfl)) ?_
        refine ASL.n rfl rfl (hPutA hS (j := 0) rfl rfl sizeA_79 rfl rfl rfl rfl rfl (nlt rfl) ?_); rintro G12 hS
        refine ASL.done ?_
        refine AWP.seq ?_
        refine AWP.seqR rfl ?_
        refine ASL.q (v := (.ptr b4 0)) rfl rfl (Light.quiet (opFieldAddr rfl fieldA_79_0 rfl rfl)) ?_
        refine ASL.q (v := (.int .i64 a25.from_)) rfl rfl (Light.quiet (kAt hS (j := 0) rfl rfl aggA_3 rfl rfl)) ?_
        refine ASL.q (v := (.rptr [(.int .i64 p0.states), (.int .i64 p0.start), (.list 4 (List.map TEdge.av p0.edges))])) rfl rfl (Light.quiet (opFieldAddrR rfl fieldA_38_1 rfl rfl)) ?_
        refine ASL.q (v := (.int .i64 p0.states)) rfl rfl (Light.quiet (opLoadR rfl aggA_3 rfl rfl)) ?_
        refine ASL.q (v := (.int .i64 (W (p0.states - 1)))) rfl rfl (Light.quiet (opInt rfl rfl rfl rfl)) ?_
        refine ASL.q (v := (.bool (impl_inRange a25.from_ 0 ((W (p0.states - 1)))))) rfl rfl ((qCall rfl rfl call_78 (impl_inRange_ok a25.from_ 0 ((W (p0.states - 1)))) rfl)) ?_
        refine ASL.q (v := (.bool (!(impl_inRange a25.from_ 0 ((W (p0.states - 1))))))) rfl rfl (Light.quiet (opNot rfl rfl)) ?_
        obtain ⟨c34, hc34, hF⟩ := bndE hF
        refine ASL.q (v := (.bool c34)) rfl rfl ((Quiet.cast (Light.quiet (opMove rfl rfl)) (congrArg AV.bool hc34.symm))) ?_
        refine ASL.g (v := (.ptr b4 2)) (.bool c34) false rfl (wF _) rfl (fun hG => by have q0 := gN hG; subst q0; exact Light.quiet (opFieldAddr rfl fieldA_79_2 rfl rfl)) ?_
        refine ASL.g (v := (.int .i64 a25.to_)) (.bool c34) false rfl (wF _) rfl (fun hG => by have q0 := gN hG; subst q0; exact Light.quiet (kAt hS (j := 0) rfl rfl aggA_3 rfl rfl)) ?_
        refine ASL.g (v := (.rptr [(.int .i64 p0.states), (.int .i64 p0.start), (.list 4 (List.map TEdge.av p0.edges))])) (.bool c34) false rfl (wF _) rfl (fun hG => by have q0 := gN hG; subst q0; exact Light.quiet (opFieldAddrR rfl fieldA_38_1 rfl rfl)) ?_
        refine ASL.g (v := (.int .i64 p0.states)) (.bool c34) false rfl (wF _) rfl (fun hG => by have q0 := gN hG; subst q0; exact Light.quiet (opLoadR rfl aggA_3 rfl rfl)) ?_
        refine ASL.g (v := (.int .i64 (W (p0.states - 1)))) (.bool c34) false rfl (wF _) rfl (fun hG => by have q0 := gN hG; subst q0; exact Light.quiet (opInt rfl rfl rfl rfl)) ?_
        refine ASL.g (v := (.bool (impl_inRange a25.to_ 0 ((W (p0.states - 1)))))) (.bool c34) false rfl (wF _) rfl (fun hG => by have q0 := gN hG; subst q0; exact (qCall rfl rfl call_78 (impl_inRange_ok a25.to_ 0 ((W (p0.states - 1)))) rfl)) ?_
        refine ASL.g (v := (.bool (!(impl_inRange a25.to_ 0 ((W (p0.states - 1))))))) (.bool c34) false rfl (wF _) rfl (fun hG => by have q0 := gN hG; subst q0; exact Light.quiet (opNot rfl rfl)) ?_
        refine ASL.q (v := (.bool (c34 || (!(impl_inRange a25.to_ 0 ((W (p0.states - 1)))))))) rfl rfl (Light.quiet (opPick (b := c34) rfl rfl (by cases c34 <;> rfl))) ?_
        obtain ⟨c43, hc43, hF⟩ := bndE hF
        refine ASL.q (v := (.bool c43)) rfl rfl ((Quiet.cast (Light.quiet (opMove rfl rfl)) (congrArg AV.bool hc43.symm))) ?_
        refine ASL.g (v := (.ptr b4 1)) (.bool c43) false rfl (wF _) rfl (fun hG => by have q0 := gN hG; subst q0; exact Light.quiet (opFieldAddr rfl fieldA_79_1 rfl rfl)) ?_
        refine ASL.g (v := (.int .i64 a25.letter)) (.bool c43) false rfl (wF _) rfl (fun hG => by have q0 := gN hG; subst q0; exact Light.quiet (kAt hS (j := 0) rfl rfl aggA_3 rfl rfl)) ?_
        refine ASL.g (v := (.rptr [(.int .i64 p0.letters), (.int .i64 p0.states), (.int .i64 p0.start), (.list 4 (List.map TEdge.av p0.edges))])) (.bool c43) false rfl (wF _) rfl (fun hG => by have q0 := gN hG; subst q0; exact Light.quiet (opFieldAddrR rfl fieldA_38_0 rfl rfl)) ?_
        refine ASL.g (v := (.int .i64 p0.letters)) (.bool c43) false rfl (wF _) rfl (fun hG => by have q0 := gN hG; subst q0; exact Light.quiet (opLoadR rfl aggA_3 rfl rfl)) ?_
        refine ASL.g (v := (.int .i64 (W (p0.letters - 1)))) (.bool c43) false rfl (wF _) rfl (fun hG => by have q0 := gN hG; subst q0; exact Light.quiet (opInt rfl rfl rfl rfl)) ?_
        refine ASL.g (v := (.bool (impl_inRange a25.letter 0 ((W (p0.letters - 1)))))) (.bool c43) false rfl (wF _) rfl (fun hG => by have q0 := gN hG; subst q0; exact (qCall rfl rfl call_78 (impl_inRange_ok a25.letter 0 ((W (p0.letters - 1)))) rfl)) ?_
        refine ASL.g (v := (.bool (!(impl_inRange a25.letter 0 ((W (p0.letters - 1))))))) (.bool c43) false rfl (wF _) rfl (fun hG => by have q0 := gN hG; subst q0; exact Light.quiet (opNot rfl rfl)) ?_
        refine ASL.q (v := (.bool (c43 || (!(impl_inRange a25.letter 0 ((W (p0.letters - 1)))))))) rfl rfl (Light.quiet (opPick (b := c43) rfl rfl (by cases c43 <;> rfl))) ?_
        refine ASL.done ?_
        refine AWP.ifB hF rfl (fun hc13 hF => ?_) (fun hc13 hF => ?_)
        · skip
          refine AWP.seqR rfl ?_
          refine ASL.q (v := (.bool false)) rfl rfl (Light.quiet (opAssign rfl rfl)) ?_
          refine ASL.done ?_
          refine AWP.ret ?_
          refine QThen.rt ?_
          refine QBlock.ret ?_
          refine QThen.rt ?_
          refine QThen.rt ?_
          refine QBlock.ret ?_
          refine QThen.rt ?_
          obtain rfl := (hx4 _ (someE hF).symm)
          have hF := hR7
          have hF := sumR hF
          obtain rfl := someE hF
          exact QRet.sole (v := (.bool false)) ⟨rfl, trivial⟩ rfl
        · skip
          refine AWP.skip ?_
          refine QThen.nrm ?_
          refine AWP.seqD [(0, false), (1, false), (2, false), (3, false), (4, false), (5, false), (6, false), (7, false), (8, false), (9, false), (10, false), (11, false), (12, false)] mixed (by kernel_rfl) rfl ?_
          refine ARL.q0 (v := (.int .i64 x22_l0)) rfl rfl (Light.quiet (opMove rfl rfl)) ?_
          refine ARL.q0 (v := (.bool (decide (x22_l0 > 0)))) rfl rfl (Light.quiet (opInt rfl rfl rfl rfl)) ?_
          obtain ⟨c54, hc54, hF⟩ := bndE hF
          refine ARL.q0 (v := (.bool c54)) rfl rfl ((Quiet.cast (Light.quiet (opMove rfl rfl)) (congrArg AV.bool hc54.symm))) ?_
          refine ARL.g (v := (.rptr [(.list 4 (List.map TEdge.av p0.edges))])) (.bool c54) true rfl (wT _) rfl noneAlive (fun hG => by have q0 := hG; subst q0; exact Light.quiet (opFieldAddrR rfl fieldA_38_3 rfl rfl)) ?_
          refine ARL.g (v := (.list 4 (List.map TEdge.av p0.edges))) (.bool c54) true rfl (wT _) rfl noneAlive (fun hG => by have q0 := hG; subst q0; exact Light.quiet (opLoadR rfl aggA_36 rfl rfl)) ?_
          refine ARL.g (v := (.int .i64 x22_l0)) (.bool c54) true rfl (wT _) rfl noneAlive (fun hG => by have q0 := hG; subst q0; exact Light.quiet (opMove rfl rfl)) ?_
          refine ARL.g (v := (.int .i64 (W (x22_l0 - 1)))) (.bool c54) true rfl (wT _) rfl noneAlive (fun hG => by have q0 := hG; subst q0; exact Light.quiet (opInt rfl rfl rfl rfl)) ?_
          obtain ⟨a59, ha59, hF⟩ := bindE hF
          refine ARL.g (v := (.rptr [(.int .i64 a59.from_), (.int .i64 a59.letter), (.int .i64 a59.to_), (.bool a59.good)])) (.bool c54) true rfl (wT _) rfl noneAlive (fun hG => by have q0 := hG; subst q0; exact Light.quiet (kIx (f := TEdge.av) (whenE ha59) rfl rfl rfl elemA_36 sizeA_79 rfl)) ?_
          refine ARL.g (v := (TEdge.av a59)) (.bool c54) true rfl (wT _) rfl noneAlive (fun hG => by have q0 := hG; subst q0; exact Light.quiet (opLoadRA rfl aggA_79 sizeA_79 rfl (nlt rfl) rfl)) ?_
          refine ARL.g (v := (TEdge.av a25)) (.bool c54) true rfl (wT _) rfl (hS.aliveC (k := 0) rfl) (fun hG => by have q0 := hG; subst q0; exact Light.quiet (kAtA hS (j := 0) rfl rfl aggA_79 sizeA_79 rfl (nlt rfl) rfl)) ?_
          obtain ⟨a62, ha62, hF⟩ := bindE hF
          refine ARL.g (v := (.int .i64 a62)) (.bool c54) true rfl (wT _) rfl noneAlive (fun hG => by have q0 := hG; subst q0; exact (qCall rfl rfl call_105 (impl_compareEdges_ok (whenE ha62)) rfl)) ?_
          refine ARL.g (v := (.bool (decide (a62 ≥ 0)))) (.bool c54) true rfl (wT _) rfl noneAlive (fun hG => by have q0 := hG; subst q0; exact Light.quiet (opInt rfl rfl rfl rfl)) ?_
          refine ARL.q0 (v := (.bool (c54 && (decide (a62 ≥ 0))))) rfl rfl (Light.quiet (opPick (b := c54) rfl rfl (by cases c54 <;> rfl))) ?_
          refine ARL.done ?_
          refine AWP.ifB hF rfl (fun hc14 hF => ?_) (fun hc14 hF => ?_)
          · skip
            refine AWP.seqR rfl ?_
            refine ASL.q (v := (.bool false)) rfl rfl (Light.quiet (opAssign rfl rfl)) ?_
            refine ASL.done ?_
            refine AWP.ret ?_
            refine QBlock.ret ?_
            refine QThen.rt ?_
            refine QThen.rt ?_
            refine QBlock.ret ?_
            refine QThen.rt ?_
            obtain rfl := (hx4 _ (someE hF).symm)
            have hF := hR7
            have hF := sumR hF
            obtain rfl := someE hF
            exact QRet.sole (v := (.bool false)) ⟨rfl, trivial⟩ rfl
          · skip
            refine AWP.skip ?_
            refine QBlock.nrm ?_
            refine QThen.nrm ?_
            refine AWP.lastR rfl ?_
            refine ASL.q (v := (.int .i64 (W (x22_l0 + 1)))) rfl rfl (Light.quiet (opInt rfl rfl rfl rfl)) ?_
            refine ASL.q (v := (.int .i64 (W (x22_l0 + 1)))) rfl rfl (Light.quiet (opMove rfl rfl)) ?_
            refine ASL.done ?_
            refine QThen.nrm ?_
            exact ⟨(W (x22_l0 + 1)), (), (someE hF).symm, ⟨rfl, rfl, rfl, rfl, trivial⟩, (hS.pick [] rfl rfl)⟩
      · skip
        refine AWP.exit ?_
        refine QThen.ext ?_
        refine QThen.ext ?_
        refine QBlock.hit ?_
        obtain rfl := (hx4 _ (someE hF).symm)
        have hF := hR7
        have hF := sumL hF
        refine QThen.nrm ?_
        exact ⟨trivial, (hS.pick [] rfl rfl), hF⟩

set_option maxRecDepth 10000 in
theorem impl_NfaOk_ok {p0 : TNfa} {r : Bool} (hF : impl_NfaOk p0 = some r) : PC Try.prog 25 [(TNfa.av p0)] fun v => v = (.bool r) := by
  refine PC.enter Try.func25 rfl Try.ntmps25 (by simp) ?_
  have hS := Sep.void; unfold impl_NfaOk at hF
  refine AWP.seqR rfl ?_
  refine ASL.q (v := (.rptr [(.int .i64 p0.auto.letters), (.int .i64 p0.auto.states), (.int .i64 p0.auto.start), (.list 4 (List.map TEdge.av p0.auto.edges)), (.int .i64 p0.final)])) rfl rfl ((qBoxI (v := (TNfa.av p0)) rfl rfl rfl rfl)) ?_
  refine ASL.q (v := (.bool false)) rfl rfl (Light.quiet (opAssign rfl rfl)) ?_
  refine ASL.done ?_
  refine AWP.seqM (fun e H => E.Told e [(1, (.rptr [(.int .i64 p0.auto.letters), (.int .i64 p0.auto.states), (.int .i64 p0.auto.start), (.list 4 (List.map TEdge.av p0.auto.edges)), (.int .i64 p0.final)]))] ∧ E.Sep H [] ∧ impl_NfaOk.k0 p0 = some r) ?_ ?_
  · rintro e0 G1 ⟨hT, hS, hF⟩; refine AWP.only _ hT ?_; unfold impl_NfaOk.k0 at hF
    refine AWP.seqD [(0, false), (1, false), (2, false), (3, false), (4, false), (5, false), (6, false), (7, false), (8, false), (9, false), (10, false), (11, false), (12, false), (13, false), (14, false), (15, false), (16, false), (17, false)] mixed (by kernel_rfl) rfl ?_
    refine ARL.q0 (v := (.rptr [(.int .i64 p0.auto.letters), (.int .i64 p0.auto.states), (.int .i64 p0.auto.start), (.list 4 (List.map TEdge.av p0.auto.edges)), (.int .i64 p0.final)])) rfl rfl (Light.quiet (opFieldAddrR rfl fieldA_40_0 rfl rfl)) ?_
    refine ARL.q0 (v := (TAuto.av p0.auto)) rfl rfl (Light.quiet (opLoadRA rfl aggA_38 sizeA_38 rfl (nlt rfl) rfl)) ?_
    obtain ⟨a18, ha18, hF⟩ := bindE hF
    refine ARL.q0 (v := (.bool a18)) rfl rfl ((qCall rfl rfl call_67 (impl_AutoOk_ok ha18) rfl)) ?_
    refine ARL.q0 (v := (.bool a18)) rfl rfl (Light.quiet (opMove rfl rfl)) ?_
    refine ARL.g (v := (.rptr [(.int .i64 p0.final)])) (.bool a18) true rfl (wT _) rfl noneAlive (fun hG => by have q0 := hG; subst q0; exact Light.quiet (opFieldAddrR rfl fieldA_40_1 rfl rfl)) ?_
    refine ARL.g (v := (.int .i64 p0.final)) (.bool a18) true rfl (wT _) rfl noneAlive (fun hG => by have q0 := hG; subst q0; exact Light.quiet (opLoadR rfl aggA_3 rfl rfl)) ?_
    refine ARL.g (v := (.bool (impl_SetOk p0.final))) (.bool a18) true rfl (wT _) rfl noneAlive (fun hG => by have q0 := hG; subst q0; exact (qCall rfl rfl call_68 (impl_SetOk_ok p0.final) rfl)) ?_
    refine ARL.q0 (v := (.bool (a18 && (impl_SetOk p0.final)))) rfl rfl (Light.quiet (opPick (b := a18) rfl rfl (by cases a18 <;> rfl))) ?_
    obtain ⟨c24, hc24, hF⟩ := bndE hF
    refine ARL.q0 (v := (.bool c24)) rfl rfl ((Quiet.cast (Light.quiet (opMove rfl rfl)) (congrArg AV.bool hc24.symm))) ?_
    refine ARL.g (v := (.rptr [(.int .i64 p0.final)])) (.bool c24) true rfl (wT _) rfl noneAlive (fun hG => by have q0 := hG; subst q0; exact Light.quiet (opFieldAddrR rfl fieldA_40_1 rfl rfl)) ?_
    refine ARL.g (v := (.int .i64 p0.final)) (.bool c24) true rfl (wT _) rfl noneAlive (fun hG => by have q0 := hG; subst q0; exact Light.quiet (opLoadR rfl aggA_3 rfl rfl)) ?_
    refine ARL.g (v := (.rptr [(.int .i64 p0.auto.letters), (.int .i64 p0.auto.states), (.int .i64 p0.auto.start), (.list 4 (List.map TEdge.av p0.auto.edges)), (.int .i64 p0.final)])) (.bool c24) true rfl (wT _) rfl noneAlive (fun hG => by have q0 := hG; subst q0; exact Light.quiet (opFieldAddrR rfl fieldA_40_0 rfl rfl)) ?_
    refine ARL.g (v := (.rptr [(.int .i64 p0.auto.states), (.int .i64 p0.auto.start), (.list 4 (List.map TEdge.av p0.auto.edges)), (.int .i64 p0.final)])) (.bool c24) true rfl (wT _) rfl noneAlive (fun hG => by have q0 := hG; subst q0; exact Light.quiet (opFieldAddrR rfl fieldA_38_1 rfl rfl)) ?_
    refine ARL.g (v := (.int .i64 p0.auto.states)) (.bool c24) true rfl (wT _) rfl noneAlive (fun hG => by have q0 := hG; subst q0; exact Light.quiet (opLoadR rfl aggA_3 rfl rfl)) ?_
    refine ARL.g (v := (.int .i64 (impl_only p0.auto.states))) (.bool c24) true rfl (wT _) rfl noneAlive (fun hG => by have q0 := hG; subst q0; exact (qCall rfl rfl call_39 (impl_only_ok p0.auto.states) rfl)) ?_
    refine ARL.g (v := (.bool (decide (p0.final < ((impl_only p0.auto.states)))))) (.bool c24) true rfl (wT _) rfl noneAlive (fun hG => by have q0 := hG; subst q0; exact Light.quiet (opInt rfl rfl rfl rfl)) ?_
    refine ARL.q0 (v := (.bool (c24 && (decide (p0.final < ((impl_only p0.auto.states))))))) rfl rfl (Light.quiet (opPick (b := c24) rfl rfl (by cases c24 <;> rfl))) ?_
    refine ARL.q0 (v := (.bool (c24 && (decide (p0.final < ((impl_only p0.auto.states))))))) rfl rfl (Light.quiet (opAssign rfl rfl)) ?_
    refine ARL.done ?_
    refine AWP.ret ?_
    obtain rfl := someE hF
    exact QRet.sole (v := (.bool (c24 && (decide (p0.final < ((impl_only p0.auto.states))))))) ⟨rfl, trivial⟩ rfl
  · skip
    refine AWP.seqR rfl ?_
    refine ASL.q (v := (.rptr [(.int .i64 p0.auto.letters), (.int .i64 p0.auto.states), (.int .i64 p0.auto.start), (.list 4 (List.map TEdge.av p0.auto.edges)), (.int .i64 p0.final)])) rfl rfl (Light.quiet (opFieldAddrR rfl fieldA_40_0 rfl rfl)) ?_
    refine ASL.q (v := (.rptr [(.list 4 (List.map TEdge.av p0.auto.edges)), (.int .i64 p0.final)])) rfl rfl (Light.quiet (opFieldAddrR rfl fieldA_38_3 rfl rfl)) ?_
    refine ASL.q (v := (.list 4 (List.map TEdge.av p0.auto.edges))) rfl rfl (Light.quiet (opLoadR rfl aggA_36 rfl rfl)) ?_
    refine ASL.q (v := (.int .i64 (p0.auto.edges.length : Int))) rfl rfl (Light.quiet (opLenMap (f := TEdge.av) rfl rfl rfl lenT_36 rfl)) ?_
    refine ASL.q (v := (.int .i64 0)) rfl rfl (Light.quiet (opMove rfl rfl)) ?_
    refine ASL.done ?_
    refine AWP.block ?_
    obtain ⟨o5, hL4, hR6⟩ := bindE hF
    refine AWP.loopF (ω := Unit) hL4 (fun s w => [(1, (.rptr [(.int .i64 p0.auto.letters), (.int .i64 p0.auto.states), (.int .i64 p0.auto.start), (.list 4 (List.map TEdge.av p0.auto.edges)), (.int .i64 p0.final)])), (7, (.list 4 (List.map TEdge.av p0.auto.edges))), (8, (.int .i64 (p0.auto.edges.length : Int))), (9, (.int .i64 s))]) (fun s w => []) () ⟨rfl, rfl, rfl, rfl, trivial⟩ (hS.pick [] rfl rfl) ?_
    rintro x9_l0 _ G7 hS x2 hF hx3
    try dsimp only at hS ⊢
    have hF : impl_NfaOk.b0 p0 x9_l0 = some x2 := hF; unfold impl_NfaOk.b0 at hF
    refine AWP.seqR rfl ?_
    refine ASL.q (v := (.bool (decide (x9_l0 < ((p0.auto.edges.length : Int)))))) rfl rfl (Light.quiet (opInt rfl rfl rfl rfl)) ?_
    refine ASL.done ?_
    refine AWP.seq ?_
    refine AWP.ifP hF rfl (fun hc8 hF => ?_) (fun hc8 hF => ?_)
    · skip
      refine AWP.skip ?_
      refine QThen.nrm ?_
      refine AWP.seq ?_
      refine AWP.block ?_
      refine AWP.seqR rfl ?_
      obtain ⟨a11, ha11, hF⟩ := bindE hF
      refine ASL.q (v := (.rptr [(.int .i64 a11.from_), (.int .i64 a11.letter), (.int .i64 a11.to_), (.bool a11.good)])) rfl rfl (Light.quiet (kIx (f := TEdge.av) ha11 rfl rfl rfl elemA_36 sizeA_79 rfl)) ?_
      refine ASL.q (v := (TEdge.av a11)) rfl rfl (Light.quiet (opLoadRA rfl aggA_79 sizeA_79 rfl (nlt rfl) rfl)) ?_
      refine ASL.x rfl rfl (hNewZ hS [(.int .i64 0), (.int .i64 0), (.int .i64 0), (.bool false)] rfl zeroA_79 ⟨.inl rfl, .inl rfl, .inl rfl, .inl rfl, trivial⟩ ?_); rintro b4 G9 hK hS
      refine ASL.n rfl rfl (hPutA hS (j := 0) rfl rfl sizeA_79 rfl rfl rfl rfl rfl (nlt rfl) ?_); rintro G11 hS
      refine ASL.done ?_
      refine AWP.seqR rfl ?_
      refine ASL.q (v := (.ptr b4 3)) rfl rfl (Light.quiet (opFieldAddr rfl fieldA_79_3 rfl rfl)) ?_
      refine ASL.q (v := (.bool a11.good)) rfl rfl (Light.quiet (kAt hS (j := 0) rfl rfl aggA_4 rfl rfl)) ?_
      refine ASL.done ?_
      refine AWP.ifB hF rfl (fun hc12 hF => ?_) (fun hc12 hF => ?_)
      · skip
        refine AWP.seqR rfl ?_
        refine ASL.q (v := (.bool false)) rfl rfl (Light.quiet (opAssign rfl rfl)) ?_
        refine ASL.done ?_
        refine AWP.ret ?_
        refine QBlock.ret ?_
        refine QThen.rt ?_
        refine QThen.rt ?_
        refine QBlock.ret ?_
        refine QThen.rt ?_
        obtain rfl := (hx3 _ (someE hF).symm)
        have hF := hR6
        have hF := sumR hF
        obtain rfl := someE hF
        exact QRet.sole (v := (.bool false)) ⟨rfl, trivial⟩ rfl
      · skip
        refine AWP.skip ?_
        refine QBlock.nrm ?_
        refine QThen.nrm ?_
        refine AWP.lastR rfl ?_
        refine ASL.q (v := (.int .i64 (W (x9_l0 + 1)))) rfl rfl (Light.quiet (opInt rfl rfl rfl rfl)) ?_
        refine ASL.q (v := (.int .i64 (W (x9_l0 + 1)))) rfl rfl (Light.quiet (opMove rfl rfl)) ?_
        refine ASL.done ?_
        refine QThen.nrm ?_
        exact ⟨(W (x9_l0 + 1)), (), (someE hF).symm, ⟨rfl, rfl, rfl, rfl, trivial⟩, (hS.pick [] rfl rfl)⟩
    · skip
      refine AWP.exit ?_
      refine QThen.ext ?_
      refine QThen.ext ?_
      refine QBlock.hit ?_
      obtain rfl := (hx3 _ (someE hF).symm)
      have hF := hR6
      have hF := sumL hF
      refine QThen.nrm ?_
      exact ⟨⟨rfl, trivial⟩, (hS.pick [] rfl rfl), hF⟩

end Go.Proofs.Ythdoebgikbfndaa
