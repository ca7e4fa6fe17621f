/- BoxesOf: program and reference answer alike, and the program's answer is memory of its own. -/
import Derived.Test.YtcmbbpdepobnlaaH2
import Derived.Test.YtcmbbpdepobnlaaMBoxesOf
import Derived.Test.YtcmbbpdepobnlaaWf
namespace Go.Proofs.Ytcmbbpdepobnlaa
open Go Go.RowKit E
set_option linter.unusedVariables false
theorem laws_toAuto_pc {p0 : TAuto} {r : TAuto} (hF : laws_toAuto p0 = some r) : PC Try.prog 28 [(TAuto.av p0)] fun v => v = TAuto.av r :=
  HS.pc (laws_toAuto_ok hF) (by rintro _ _ ⟨o, rfl, rfl⟩; exact .aggL ⟨.same _, .same _, .same _, .row (k := 0) rfl, trivial⟩)
theorem impl_BoxesOf_pc {p0 : TAuto} {r : ((List TBoxed) × Bool)} (hF : impl_BoxesOf p0 = some r) : PC Try.prog 25 [(TAuto.av p0)] fun v => v = .tup [(.list 2 (List.map TBoxed.av r.1)), (.bool r.2)] := impl_BoxesOf_ok hF
theorem boxes_scal {r : List TBoxed × Bool} : ∀ v L' G, (∃ (o : AV) (es : List RBx), v = .tup [o, .bool r.2] ∧ es.map RBx.t = r.1 ∧ L' = [.row 2 o (es.map RBx.raw), .pool (es.flatMap RBx.rows)]) → Sep G L' → Scal v ∧ AllScal L' := by
  rintro _ _ G ⟨o, es, rfl, _, rfl⟩ hG
  refine ⟨Scal.tup (ScalC.cons (hG.scR (k := 0) rfl) (ScalC.cons (by constructor) ScalC.nil)), fun c hc => ?_, fun p hp c hc => ?_, trivial⟩
  · simp only [flat, List.mem_flatMap, List.mem_map] at hc
    obtain ⟨_, ⟨x, hx, rfl⟩, hc⟩ := hc
    simp only [RBx.raw, cells, List.mem_cons, List.not_mem_nil, or_false] at hc
    rcases hc with rfl | rfl
    · exact (hG.poolOwn (k := 1) rfl (RBx.mW hx)).scal
    · exact (hG.poolOwn (k := 1) rfl (RBx.mB hx)).scal
  · obtain ⟨x, hx, hp⟩ := List.mem_flatMap.mp hp
    simp only [RBx.rows, List.mem_cons, List.not_mem_nil, or_false] at hp
    rcases hp with rfl | rfl
    · exact Scal.ints _ _ c hc
    · exact Scal.ints _ _ c hc
theorem markR_t : ∀ (rs : List RBx) (c : Nat), (markR c rs).map RBx.t = markB c (rs.map RBx.t)
  | [], c => rfl
  | x :: r, c => by
    show RBx.t (mark1 c x) :: (markR (c + (x.qw.length + x.qb.length)) r).map RBx.t = _
    rw [markR_t r]; rfl
theorem totR_t : ∀ (rs : List RBx), totR rs = totB (rs.map RBx.t)
  | [] => rfl
  | x :: r => by
    show x.qw.length + x.qb.length + totR r = _
    rw [totR_t r]; rfl
theorem pureBoxesOf (p0 : TAuto) (w0 : TAuto.wf p0) : TAuto.wf p0 := w0
set_option maxRecDepth 10000 in
theorem laws_FnExactBoxesOf_ok {p0 : TAuto} (hw : TAuto.wf p0) : PC Try.prog 6 [(TAuto.av p0)] fun v => v = (.bool true) := by
  obtain ⟨_, _, _, wl, _⟩ := hw
  refine PC.enter Try.func6 rfl Try.ntmps6 (by simp) ?_
  have hS := Sep.void
  refine AWP.seqR rfl ?_
  refine ASL.q (v := (.rptr [(.int .i64 p0.letters), (.int .i64 p0.states), (.int .i64 p0.start), (.list 4 (List.map TEdge.av p0.edges))])) rfl rfl ((qBoxI (v := (TAuto.av p0)) rfl rfl rfl rfl)) ?_
  refine ASL.q (v := (.bool false)) rfl rfl (Light.quiet (opAssign rfl rfl)) ?_
  refine ASL.done ?_
  refine AWP.seqR rfl ?_
  refine ASL.q (v := (.int .i64 1048576)) rfl rfl (Light.quiet (opAssign rfl rfl)) ?_
  refine ASL.done ?_
  refine AWP.seqR rfl ?_
  have ag : aggA Try.prog 54 = some true := by kernel_rfl
  have az : sizeA Try.prog 54 = some 4 := by kernel_rfl
  refine ASL.q (v := (TAuto.av p0)) rfl rfl (Light.quiet (opLoadRA rfl ag az rfl (nlt rfl) rfl)) ?_
  refine ASL.q (v := (.int .i64 1048576)) rfl rfl (Light.quiet (opMove rfl rfl)) ?_
  refine ASL.q (v := (.int .i64 (laws_szAuto p0 1048576))) rfl rfl ((qCall rfl rfl (by kernel_rfl) (laws_szAuto_ok p0 1048576) rfl)) ?_
  refine ASL.q (v := (.int .i64 (laws_szAuto p0 1048576))) rfl rfl (Light.quiet (opAssign rfl rfl)) ?_
  refine ASL.done ?_
  refine AWP.seq ?_
  refine AWP.seqR rfl ?_
  refine ASL.q (v := (.int .i64 (laws_szAuto p0 1048576))) rfl rfl (Light.quiet (opMove rfl rfl)) ?_
  refine ASL.q (v := (.bool (decide (((laws_szAuto p0 1048576)) < 0)))) rfl rfl (Light.quiet (opInt rfl rfl rfl rfl)) ?_
  refine ASL.done ?_
  refine AWP.cond (b := decide (((laws_szAuto p0 1048576)) < 0)) rfl (fun hc => ?_) (fun hc => ?_)
  · skip
    refine AWP.seqR rfl ?_
    refine ASL.q (v := (.bool true)) rfl rfl (Light.quiet (opAssign rfl rfl)) ?_
    refine ASL.done ?_
    refine AWP.ret ?_
    refine QThen.rt ?_
    exact QRet.sole (v := (.bool true)) ⟨rfl, trivial⟩ rfl
  · skip
    have hl : p0.edges.length ≤ 1048576 := Classical.byContradiction fun g => of_decide_eq_false hc ((szAuto_eq p0 wl).mpr g)
    obtain ⟨hL1, hL2⟩ := boxesOf_small p0
    have hL3 : ∀ x ∈ (boxesOf p0).1, x.word.length ≤ 1000000 ∧ x.box.length ≤ 1000000 := fun x hx => by have := hL2 x hx; omega
    have hT := totB_le _ hL2
    have hi := implBoxesOf_eq p0
    have hsp := specBoxesOf_eq p0
    have heq := eqBoxedS_self (boxesOf p0).1 hL3 (by omega)
    generalize boxesOf p0 = B at hL1 hL2 hL3 hT hi hsp heq
    have hto := toAuto_eq p0 hl
    refine AWP.skip ?_
    refine QThen.nrm ?_
    refine AWP.seqR rfl ?_
    refine ASL.q (v := (TAuto.av p0)) rfl rfl (Light.quiet (opLoadRA rfl ag az rfl (nlt rfl) rfl)) ?_
    refine ASL.q (v := (TAuto.av p0)) rfl rfl ((qCall rfl rfl (by kernel_rfl) (laws_toAuto_pc hto) rfl)) ?_
    refine ASL.q (v := (.tup [(.list 2 (List.map TBoxed.av B.1)), (.bool B.2)])) rfl rfl ((qCall rfl rfl (by kernel_rfl) (spec_BoxesOf_ok hsp) rfl)) ?_
    refine ASL.q (v := (.tup [(.list 2 (List.map TBoxed.av B.1)), (.bool B.2)])) rfl rfl (Light.quiet (opMove rfl rfl)) ?_
    refine ASL.q (v := (.list 2 (List.map TBoxed.av B.1))) rfl rfl (Light.quiet (opExtract rfl rfl rfl)) ?_
    refine ASL.q (v := (.bool B.2)) rfl rfl (Light.quiet (opExtract rfl rfl rfl)) ?_
    refine ASL.q (v := (.list 2 (List.map TBoxed.av B.1))) rfl rfl (Light.quiet (opAssign rfl rfl)) ?_
    refine ASL.q (v := (.bool B.2)) rfl rfl (Light.quiet (opAssign rfl rfl)) ?_
    refine ASL.done ?_
    refine AWP.seqR rfl ?_
    refine ASL.q (v := (TAuto.av p0)) rfl rfl (Light.quiet (opLoadRA rfl ag az rfl (nlt rfl) rfl)) ?_
    refine ASL.x rfl rfl (hCallS hS [] (L := []) (F := []) rfl rfl rfl (by kernel_rfl) (laws_toAuto_ok hto) rfl rfl ?_); rintro _ _ G4 ⟨wE, rfl, rfl⟩ hS
    refine ASL.x rfl rfl (hNewZ hS [(.int .i64 0), (.int .i64 0), (.int .i64 0), .nil] rfl zeroA_26 ⟨.inl rfl, .inl rfl, .inl rfl, .inl rfl, trivial⟩ ?_); rintro b6 G5 hK hS
    refine ASL.n rfl rfl (hPutA hS (j := 0) rfl rfl sizeA_26 rfl rfl rfl rfl (allC rfl (allC rfl (allC rfl (allC (hS.one (k := 1) rfl) rfl)))) (nlt rfl) ?_); rintro G6 hS
    refine ASL.done ?_
    refine AWP.seqR rfl ?_
    refine ASL.q (v := (.agg [(.int .i64 p0.letters), (.int .i64 p0.states), (.int .i64 p0.start), wE])) rfl rfl (Light.quiet (kAtA hS (j := 0) rfl rfl aggA_26 sizeA_26 rfl (nlt rfl) rfl)) ?_
    refine ASL.x rfl rfl (hCallSR hS rfl rfl (by kernel_rfl) (impl_BoxesOf_own hi) ⟨.aggL ⟨.same _, .same _, .same _, .row (k := 1) rfl, trivial⟩, trivial⟩ boxes_scal ?_); rintro _ _ G7 ⟨o, es, rfl, hes, rfl⟩ hK hS
    refine ASL.q (v := (.tup [o, (.bool B.2)])) rfl rfl (Light.quiet (opMove rfl rfl)) ?_
    refine ASL.q (v := o) rfl rfl (Light.quiet (opExtract rfl rfl rfl)) ?_
    refine ASL.q (v := (.bool B.2)) rfl rfl (Light.quiet (opExtract rfl rfl rfl)) ?_
    refine ASL.q (v := o) rfl rfl (Light.quiet (opAssign rfl rfl)) ?_
    refine ASL.q (v := (.bool B.2)) rfl rfl (Light.quiet (opAssign rfl rfl)) ?_
    refine ASL.done ?_
    have hS : E.Sep G7 [.row 2 o (es.map RBx.raw), .pool (es.flatMap RBx.rows), .cell b6 [(.int .i64 p0.letters), (.int .i64 p0.states), (.int .i64 p0.start), wE], .row 4 wE (List.map TEdge.av p0.edges)] := hS
    have heq' : laws_eqBoxedS (es.map RBx.t) B.1 = some true := by rw [hes]; exact heq
    have hne : (!(B.2 == B.2)) = false := by simp
    refine AWP.seq ?_
    refine AWP.seqR rfl ?_
    refine ASL.q (v := o) rfl rfl (Light.quiet (opMove rfl rfl)) ?_
    refine ASL.q (v := (.list 2 (List.map TBoxed.av B.1))) rfl rfl (Light.quiet (opMove rfl rfl)) ?_
    refine ASL.q (v := (.bool true)) rfl rfl ((qCallR hS rfl rfl (by kernel_rfl) (laws_eqBoxedS_ok heq') ⟨RBx.ras (k := 0) (kp := 1) rfl rfl, .same _, trivial⟩ (by constructor))) ?_
    refine ASL.q (v := (.bool false)) rfl rfl (Light.quiet (opNot (b := true) rfl rfl)) ?_
    refine ASL.q (v := (.bool false)) rfl rfl (Light.quiet (opMove rfl rfl)) ?_
    refine ASL.q (v := (.bool B.2)) rfl rfl (Light.quiet (opMove rfl rfl)) ?_
    refine ASL.q (v := (.bool B.2)) rfl rfl (Light.quiet (opMove rfl rfl)) ?_
    refine ASL.q (v := (.bool false)) rfl rfl (Quiet.cast (Light.quiet (opBoolEq rfl rfl rfl Try.underlying4 rfl)) (congrArg AV.bool hne)) ?_
    refine ASL.q (v := (.bool false)) rfl rfl (Light.quiet (opPick (b := false) rfl rfl rfl)) ?_
    refine ASL.done ?_
    refine AWP.condF rfl ?_
    refine AWP.skip ?_
    refine QThen.nrm ?_
    refine AWP.seq ?_
    refine AWP.seqD [(0, false), (1, false), (2, false), (3, false), (4, false)] mixed (by kernel_rfl) rfl ?_
    refine ARL.q (v := (.agg [(.int .i64 p0.letters), (.int .i64 p0.states), (.int .i64 p0.start), wE])) rfl rfl (hS.aliveC (k := 2) rfl) (Light.quiet (kAtA hS (j := 2) rfl rfl aggA_26 sizeA_26 rfl (nlt rfl) rfl)) ?_
    refine ARL.q0 (v := (TAuto.av p0)) rfl rfl (Light.quiet (opLoadRA rfl ag az rfl (nlt rfl) rfl)) ?_
    refine ARL.q0 (v := (TAuto.av p0)) rfl rfl ((qCall rfl rfl (by kernel_rfl) (laws_toAuto_pc hto) rfl)) ?_
    refine ARL.q (v := (.bool true)) rfl rfl (hS.aliveAll) ((qCallR hS rfl rfl (by kernel_rfl) (laws_eqAuto_ok (eqAuto_eq p0 hl)) ⟨.aggL ⟨.same _, .same _, .same _, .row (k := 3) rfl, trivial⟩, .same _, trivial⟩ (by constructor))) ?_
    refine ARL.q0 (v := (.bool false)) rfl rfl (Light.quiet (opNot (b := true) rfl rfl)) ?_
    refine ARL.done ?_
    refine AWP.condF rfl ?_
    refine AWP.skip ?_
    refine QThen.nrm ?_
    refine AWP.seqR rfl ?_
    refine ASL.q (v := (.int .i64 1)) rfl rfl (Light.quiet (opAssign rfl rfl)) ?_
    refine ASL.done ?_
    refine AWP.seqR rfl ?_
    refine ASL.q (v := (.agg [(.int .i64 p0.letters), (.int .i64 p0.states), (.int .i64 p0.start), wE])) rfl rfl (Light.quiet (kAtA hS (j := 2) rfl rfl aggA_26 sizeA_26 rfl (nlt rfl) rfl)) ?_
    refine ASL.q (v := (.int .i64 1)) rfl rfl (Light.quiet (opMove rfl rfl)) ?_
    refine ASL.x rfl rfl (hCallS hS [3, 0, 1, 2] (F := [.row 2 o (es.map RBx.raw), .pool (es.flatMap RBx.rows), .cell b6 [(.int .i64 p0.letters), (.int .i64 p0.states), (.int .i64 p0.start), wE]]) rfl rfl rfl (by kernel_rfl) (laws_markAuto_ok (markAuto_eq p0 (by omega))) rfl rfl ?_); rintro _ _ G8 ⟨rfl, rfl⟩ hS
    refine ASL.q (v := (.int .i64 ((1 + 4 * p0.edges.length : Nat) : Int))) rfl rfl (Light.quiet (opAssign rfl rfl)) ?_
    refine ASL.done ?_
    have hS := hS.pick (L' := [.row 2 o (es.map RBx.raw), .pool (es.flatMap RBx.rows)]) [1, 2] rfl rfl
    have hk0 : decide (((1 + 4 * p0.edges.length : Nat) : Int) < 0) = false := decide_eq_false (by omega)
    refine AWP.seq ?_
    refine AWP.seqR rfl ?_
    refine ASL.q (v := (.int .i64 ((1 + 4 * p0.edges.length : Nat) : Int))) rfl rfl (Light.quiet (opMove rfl rfl)) ?_
    refine ASL.q (v := (.bool false)) rfl rfl (Quiet.cast (Light.quiet (opInt rfl rfl rfl rfl)) (congrArg AV.bool hk0)) ?_
    refine ASL.q (v := (.bool false)) rfl rfl (Light.quiet (opMove rfl rfl)) ?_
    refine ASL.q (v := o) rfl rfl (Light.quiet (opMove rfl rfl)) ?_
    refine ASL.q (v := (.list 2 (List.map TBoxed.av B.1))) rfl rfl (Light.quiet (opMove rfl rfl)) ?_
    refine ASL.q (v := (.bool true)) rfl rfl ((qCallR hS rfl rfl (by kernel_rfl) (laws_eqBoxedS_ok heq') ⟨RBx.ras (k := 0) (kp := 1) rfl rfl, .same _, trivial⟩ (by constructor))) ?_
    refine ASL.q (v := (.bool false)) rfl rfl (Light.quiet (opNot (b := true) rfl rfl)) ?_
    refine ASL.q (v := (.bool false)) rfl rfl (Light.quiet (opPick (b := false) rfl rfl rfl)) ?_
    refine ASL.q (v := (.bool false)) rfl rfl (Light.quiet (opMove rfl rfl)) ?_
    refine ASL.q (v := (.bool B.2)) rfl rfl (Light.quiet (opMove rfl rfl)) ?_
    refine ASL.q (v := (.bool B.2)) rfl rfl (Light.quiet (opMove rfl rfl)) ?_
    refine ASL.q (v := (.bool false)) rfl rfl (Quiet.cast (Light.quiet (opBoolEq rfl rfl rfl Try.underlying4 rfl)) (congrArg AV.bool hne)) ?_
    refine ASL.q (v := (.bool false)) rfl rfl (Light.quiet (opPick (b := false) rfl rfl rfl)) ?_
    refine ASL.done ?_
    refine AWP.condF rfl ?_
    refine AWP.skip ?_
    refine QThen.nrm ?_
    refine AWP.seqR rfl ?_
    refine ASL.q (v := (.int .i64 1)) rfl rfl (Light.quiet (opAssign rfl rfl)) ?_
    refine ASL.done ?_
    have htot : totR es = totB B.1 := by rw [totR_t, hes]
    have hlen : es.length = B.1.length := by rw [← hes, List.length_map]
    refine AWP.seqR rfl ?_
    refine ASL.q (v := o) rfl rfl (Light.quiet (opMove rfl rfl)) ?_
    refine ASL.q (v := (.int .i64 1)) rfl rfl (Light.quiet (opMove rfl rfl)) ?_
    refine ASL.x rfl rfl (hCallS hS [0, 1] (F := []) rfl rfl rfl (by kernel_rfl) (laws_markBoxedS_own (rs := es) (c0 := 1) (by omega) (by omega) (by omega)) rfl rfl ?_); rintro _ _ G9 ⟨rfl, rfl⟩ hS
    refine ASL.q (v := (.int .i64 ((1 + totR es : Nat) : Int))) rfl rfl (Light.quiet (opAssign rfl rfl)) ?_
    refine ASL.done ?_
    have hheld : laws_heldBoxedS ((markR 1 es).map RBx.t) 1 = some ((1 + totR es : Nat) : Int) := by rw [markR_t, hes, htot]; exact heldBoxedS_eq _ (by omega) (by omega)
    have hh0 : decide (((1 + totR es : Nat) : Int) < 0) = false := decide_eq_false (by omega)
    have hh1 : decide (((1 + totR es : Nat) : Int) ≠ ((1 + totR es : Nat) : Int)) = false := decide_eq_false (by simp)
    have hS : E.Sep G9 [.row 2 o ((markR 1 es).map RBx.raw), .pool ((markR 1 es).flatMap RBx.rows)] := hS
    generalize 1 + totR es = T at hheld hh0 hh1
    refine AWP.seqR rfl ?_
    refine ASL.q (v := (.int .i64 1)) rfl rfl (Light.quiet (opAssign rfl rfl)) ?_
    refine ASL.done ?_
    refine AWP.seqR rfl ?_
    refine ASL.q (v := o) rfl rfl (Light.quiet (opMove rfl rfl)) ?_
    refine ASL.q (v := (.int .i64 1)) rfl rfl (Light.quiet (opMove rfl rfl)) ?_
    refine ASL.q (v := (.int .i64 (T : Int))) rfl rfl ((qCallR hS rfl rfl (by kernel_rfl) (laws_heldBoxedS_ok hheld) ⟨RBx.ras (k := 0) (kp := 1) rfl rfl, .same _, trivial⟩ (by constructor))) ?_
    refine ASL.q (v := (.int .i64 (T : Int))) rfl rfl (Light.quiet (opAssign rfl rfl)) ?_
    refine ASL.done ?_
    refine AWP.seq ?_
    refine AWP.seqR rfl ?_
    refine ASL.q (v := (.int .i64 (T : Int))) rfl rfl (Light.quiet (opMove rfl rfl)) ?_
    refine ASL.q (v := (.bool false)) rfl rfl (Quiet.cast (Light.quiet (opInt rfl rfl rfl rfl)) (congrArg AV.bool hh0)) ?_
    refine ASL.done ?_
    refine AWP.condF rfl ?_
    refine AWP.skip ?_
    refine QThen.nrm ?_
    refine AWP.seq ?_
    refine AWP.seqR rfl ?_
    refine ASL.q (v := (.int .i64 (T : Int))) rfl rfl (Light.quiet (opMove rfl rfl)) ?_
    refine ASL.q (v := (.int .i64 (T : Int))) rfl rfl (Light.quiet (opMove rfl rfl)) ?_
    refine ASL.q (v := (.bool false)) rfl rfl (Quiet.cast (Light.quiet (opInt rfl rfl rfl rfl)) (congrArg AV.bool hh1)) ?_
    refine ASL.done ?_
    refine AWP.condF rfl ?_
    refine AWP.skip ?_
    refine QThen.nrm ?_
    refine AWP.seqR rfl ?_
    refine ASL.q (v := (TAuto.av p0)) rfl rfl (Light.quiet (opLoadRA rfl ag az rfl (nlt rfl) rfl)) ?_
    refine ASL.q (v := (TAuto.av p0)) rfl rfl ((qCall rfl rfl (by kernel_rfl) (laws_toAuto_pc hto) rfl)) ?_
    refine ASL.q (v := (.tup [(.list 2 (List.map TBoxed.av B.1)), (.bool B.2)])) rfl rfl ((qCall rfl rfl (by kernel_rfl) (impl_BoxesOf_ok hi) rfl)) ?_
    refine ASL.q (v := (.tup [(.list 2 (List.map TBoxed.av B.1)), (.bool B.2)])) rfl rfl (Light.quiet (opMove rfl rfl)) ?_
    refine ASL.q (v := (.list 2 (List.map TBoxed.av B.1))) rfl rfl (Light.quiet (opExtract rfl rfl rfl)) ?_
    refine ASL.q (v := (.bool B.2)) rfl rfl (Light.quiet (opExtract rfl rfl rfl)) ?_
    refine ASL.q (v := (.list 2 (List.map TBoxed.av B.1))) rfl rfl (Light.quiet (opAssign rfl rfl)) ?_
    refine ASL.q (v := (.bool B.2)) rfl rfl (Light.quiet (opAssign rfl rfl)) ?_
    refine ASL.done ?_
    refine AWP.seq ?_
    refine AWP.seqR rfl ?_
    refine ASL.q (v := (.list 2 (List.map TBoxed.av B.1))) rfl rfl (Light.quiet (opMove rfl rfl)) ?_
    refine ASL.q (v := (.list 2 (List.map TBoxed.av B.1))) rfl rfl (Light.quiet (opMove rfl rfl)) ?_
    refine ASL.q (v := (.bool true)) rfl rfl ((qCall rfl rfl (by kernel_rfl) (laws_eqBoxedS_ok heq) rfl)) ?_
    refine ASL.q (v := (.bool false)) rfl rfl (Light.quiet (opNot (b := true) rfl rfl)) ?_
    refine ASL.q (v := (.bool false)) rfl rfl (Light.quiet (opMove rfl rfl)) ?_
    refine ASL.q (v := (.bool B.2)) rfl rfl (Light.quiet (opMove rfl rfl)) ?_
    refine ASL.q (v := (.bool B.2)) rfl rfl (Light.quiet (opMove rfl rfl)) ?_
    refine ASL.q (v := (.bool false)) rfl rfl (Quiet.cast (Light.quiet (opBoolEq rfl rfl rfl Try.underlying4 rfl)) (congrArg AV.bool hne)) ?_
    refine ASL.q (v := (.bool false)) rfl rfl (Light.quiet (opPick (b := false) rfl rfl rfl)) ?_
    refine ASL.done ?_
    refine AWP.condF rfl ?_
    refine AWP.skip ?_
    refine QThen.nrm ?_
    refine AWP.seqR rfl ?_
    refine ASL.q (v := (.int .i64 1)) rfl rfl (Light.quiet (opAssign rfl rfl)) ?_
    refine ASL.done ?_
    refine AWP.seqR rfl ?_
    refine ASL.q (v := o) rfl rfl (Light.quiet (opMove rfl rfl)) ?_
    refine ASL.q (v := (.int .i64 1)) rfl rfl (Light.quiet (opMove rfl rfl)) ?_
    refine ASL.q (v := (.int .i64 (T : Int))) rfl rfl ((qCallR hS rfl rfl (by kernel_rfl) (laws_heldBoxedS_ok hheld) ⟨RBx.ras (k := 0) (kp := 1) rfl rfl, .same _, trivial⟩ (by constructor))) ?_
    refine ASL.q (v := (.int .i64 (T : Int))) rfl rfl (Light.quiet (opAssign rfl rfl)) ?_
    refine ASL.done ?_
    refine AWP.seq ?_
    refine AWP.seqR rfl ?_
    refine ASL.q (v := (.int .i64 (T : Int))) rfl rfl (Light.quiet (opMove rfl rfl)) ?_
    refine ASL.q (v := (.bool false)) rfl rfl (Quiet.cast (Light.quiet (opInt rfl rfl rfl rfl)) (congrArg AV.bool hh0)) ?_
    refine ASL.done ?_
    refine AWP.condF rfl ?_
    refine AWP.skip ?_
    refine QThen.nrm ?_
    refine AWP.seq ?_
    refine AWP.seqR rfl ?_
    refine ASL.q (v := (.int .i64 (T : Int))) rfl rfl (Light.quiet (opMove rfl rfl)) ?_
    refine ASL.q (v := (.int .i64 (T : Int))) rfl rfl (Light.quiet (opMove rfl rfl)) ?_
    refine ASL.q (v := (.bool false)) rfl rfl (Quiet.cast (Light.quiet (opInt rfl rfl rfl rfl)) (congrArg AV.bool hh1)) ?_
    refine ASL.done ?_
    refine AWP.condF rfl ?_
    refine AWP.skip ?_
    refine QThen.nrm ?_
    refine AWP.seqR rfl ?_
    refine ASL.q (v := (.bool true)) rfl rfl (Light.quiet (opAssign rfl rfl)) ?_
    refine ASL.done ?_
    refine AWP.ret ?_
    exact QRet.sole (v := (.bool true)) ⟨rfl, trivial⟩ rfl
end Go.Proofs.Ytcmbbpdepobnlaa
