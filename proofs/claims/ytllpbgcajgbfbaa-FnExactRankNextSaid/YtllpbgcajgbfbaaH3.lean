/- RankNext: program and reference answer alike, and the program's answer is memory of its own. -/
import Derived.Test.YtllpbgcajgbfbaaH2
import Derived.Test.YtllpbgcajgbfbaaMRankNext
import Derived.Test.YtllpbgcajgbfbaaWf
namespace Go.Proofs.Ytllpbgcajgbfbaa
open Go Go.RowKit E
set_option linter.unusedVariables false
theorem laws_toAuto_pc {p0 : TAuto} {r : TAuto} (hF : laws_toAuto p0 = some r) : PC Try.prog 8 [(TAuto.av p0)] fun v => v = TAuto.av r :=
  HS.pc (laws_toAuto_ok hF) (by rintro _ _ ⟨o, rfl, rfl⟩; exact .aggL ⟨.same _, .same _, .same _, .row (k := 0) rfl, trivial⟩)
theorem laws_toRankState_pc {p0 : TRankState} {r : TRankState} (hF : laws_toRankState p0 = some r) : PC Try.prog 24 [(TRankState.av p0)] fun v => v = TRankState.av r :=
  HS.pc (laws_toRankState_ok hF) (by rintro _ _ ⟨o, rfl, rfl⟩; exact .aggL ⟨.row (k := 0) rfl, .same _, trivial⟩)
theorem markR_t : ∀ (rs : List RRs) (c : Nat), (markR c rs).map RRs.t = markK c (rs.map RRs.t)
  | [], c => rfl
  | x :: r, c => by
    show RRs.t (mark1 c x) :: (markR (c + (x.q.length + 1)) r).map RRs.t = _
    rw [markR_t r]; rfl
theorem totR_t : ∀ (rs : List RRs), totR rs = totK (rs.map RRs.t)
  | [] => rfl
  | x :: r => by
    show x.q.length + 1 + totR r = _
    rw [totR_t r]; rfl
theorem pureRankNext (p0 : TAuto) (w0 : TAuto.wf p0) (p1 : TRankState) (w1 : TRankState.wf p1) (p2 : Int) (w2 : inI p2) : TAuto.wf p0 ∧ TRankState.wf p1 := ⟨w0, w1⟩
set_option maxRecDepth 10000 in
theorem laws_FnExactRankNext_ok {p0 : TAuto} {p1 : TRankState} {p2 : Int} (hw : TAuto.wf p0 ∧ TRankState.wf p1) : PC Try.prog 5 [(TAuto.av p0), (TRankState.av p1), (.int .i64 p2)] fun v => v = (.bool true) := by
  obtain ⟨_, _, _, wl, _⟩ := hw.1
  obtain ⟨⟨wr, _⟩, _⟩ := hw.2
  refine PC.enter Try.func5 rfl Try.ntmps5 (by simp) ?_
  have hS := Sep.void
  have ag : aggA Try.prog 24 = some true := by kernel_rfl
  have az : sizeA Try.prog 24 = some 4 := by kernel_rfl
  have sg : aggA Try.prog 50 = some true := by kernel_rfl
  have sz : sizeA Try.prog 50 = some 2 := by kernel_rfl
  refine AWP.seqR rfl ?_
  refine ASL.q (v := (.rptr [(.int .i64 p0.letters), (.int .i64 p0.states), (.int .i64 p0.start), (.list 4 (List.map TEdge.av p0.edges))])) rfl rfl ((qBoxI (v := (TAuto.av p0)) rfl rfl rfl rfl)) ?_
  refine ASL.q (v := (.rptr [(.list 1 (List.map (AV.int .i64) p1.ranks)), (.int .i64 p1.owing)])) rfl rfl ((qBoxI (v := (TRankState.av p1)) rfl rfl rfl rfl)) ?_
  refine ASL.q (v := (.bool false)) rfl rfl (Light.quiet (opAssign rfl rfl)) ?_
  refine ASL.done ?_
  refine AWP.seqR rfl ?_
  refine ASL.q (v := (.int .i64 1048576)) rfl rfl (Light.quiet (opAssign rfl rfl)) ?_
  refine ASL.done ?_
  refine AWP.seqR rfl ?_
  refine ASL.q (v := (TAuto.av p0)) rfl rfl (Light.quiet (opLoadRA rfl ag az rfl (nlt rfl) rfl)) ?_
  refine ASL.q (v := (.int .i64 1048576)) rfl rfl (Light.quiet (opMove rfl rfl)) ?_
  refine ASL.q (v := (.int .i64 (laws_szAuto p0 1048576))) rfl rfl ((qCall rfl rfl (by kernel_rfl) (laws_szAuto_ok p0 1048576) rfl)) ?_
  refine ASL.q (v := (.int .i64 (laws_szAuto p0 1048576))) rfl rfl (Light.quiet (opAssign rfl rfl)) ?_
  refine ASL.done ?_
  refine AWP.seq ?_
  refine AWP.seqR rfl ?_
  refine ASL.q (v := (.int .i64 (laws_szAuto p0 1048576))) rfl rfl (Light.quiet (opMove rfl rfl)) ?_
  refine ASL.q (v := (.bool (decide ((laws_szAuto p0 1048576) < 0)))) rfl rfl (Light.quiet (opInt rfl rfl rfl rfl)) ?_
  refine ASL.done ?_
  refine AWP.cond (b := decide ((laws_szAuto p0 1048576) < 0)) rfl (fun hc => ?_) (fun hc1 => ?_)
  · skip
    refine AWP.seqR rfl ?_
    refine ASL.q (v := (.bool true)) rfl rfl (Light.quiet (opAssign rfl rfl)) ?_
    refine ASL.done ?_
    refine AWP.ret ?_
    refine QThen.rt ?_
    exact QRet.sole (v := (.bool true)) ⟨rfl, trivial⟩ rfl
  refine AWP.skip ?_
  refine QThen.nrm ?_
  refine AWP.seqR rfl ?_
  refine ASL.q (v := (TRankState.av p1)) rfl rfl (Light.quiet (opLoadRA rfl sg sz rfl (nlt rfl) rfl)) ?_
  refine ASL.q (v := (.int .i64 (laws_szAuto p0 1048576))) rfl rfl (Light.quiet (opMove rfl rfl)) ?_
  refine ASL.q (v := (.int .i64 (laws_szRankState p1 (laws_szAuto p0 1048576)))) rfl rfl ((qCall rfl rfl (by kernel_rfl) (laws_szRankState_ok p1 (laws_szAuto p0 1048576)) rfl)) ?_
  refine ASL.q (v := (.int .i64 (laws_szRankState p1 (laws_szAuto p0 1048576)))) rfl rfl (Light.quiet (opAssign rfl rfl)) ?_
  refine ASL.done ?_
  refine AWP.seq ?_
  refine AWP.seqR rfl ?_
  refine ASL.q (v := (.int .i64 (laws_szRankState p1 (laws_szAuto p0 1048576)))) rfl rfl (Light.quiet (opMove rfl rfl)) ?_
  refine ASL.q (v := (.bool (decide ((laws_szRankState p1 (laws_szAuto p0 1048576)) < 0)))) rfl rfl (Light.quiet (opInt rfl rfl rfl rfl)) ?_
  refine ASL.done ?_
  refine AWP.cond (b := decide ((laws_szRankState p1 (laws_szAuto p0 1048576)) < 0)) rfl (fun hc => ?_) (fun hc2 => ?_)
  · skip
    refine AWP.seqR rfl ?_
    refine ASL.q (v := (.bool true)) rfl rfl (Light.quiet (opAssign rfl rfl)) ?_
    refine ASL.done ?_
    refine AWP.ret ?_
    refine QThen.rt ?_
    exact QRet.sole (v := (.bool true)) ⟨rfl, trivial⟩ rfl
  refine AWP.skip ?_
  refine QThen.nrm ?_
  obtain ⟨hl, hr⟩ := sz2 wl wr (of_decide_eq_false hc1) (of_decide_eq_false hc2)
  obtain ⟨hL1, hL2⟩ := rankN_small p0 p1 p2
  have hL3 : ∀ x ∈ rankN p0 p1 p2, x.ranks.length ≤ 1000000 := fun x hx => by have := hL2 x hx; omega
  have hT := totK_le _ hL2
  have hi := implRankNext_eq p0 p1 p2 (by omega)
  have hsp := specRankNext_eq p0 p1 p2
  have heq := eqRankStateS_self (rankN p0 p1 p2) hL3 (by omega)
  generalize rankN p0 p1 p2 = B at hL1 hL2 hL3 hT hi hsp heq
  have hto := toAuto_eq p0 hl
  have hts := toRankState_eq p1 hr
  refine AWP.seqD [(0, false), (1, false), (2, false), (3, false), (4, false), (5, false), (6, false)] mixed (by kernel_rfl) rfl ?_
  refine ARL.q0 (v := (TAuto.av p0)) rfl rfl (Light.quiet (opLoadRA rfl ag az rfl (nlt rfl) rfl)) ?_
  refine ARL.q0 (v := (TAuto.av p0)) rfl rfl ((qCall rfl rfl (by kernel_rfl) (laws_toAuto_pc hto) rfl)) ?_
  refine ARL.q0 (v := (TRankState.av p1)) rfl rfl (Light.quiet (opLoadRA rfl sg sz rfl (nlt rfl) rfl)) ?_
  refine ARL.q0 (v := (TRankState.av p1)) rfl rfl ((qCall rfl rfl (by kernel_rfl) (laws_toRankState_pc hts) rfl)) ?_
  refine ARL.q0 (v := (.int .i64 p2)) rfl rfl (Light.quiet (opMove rfl rfl)) ?_
  refine ARL.q0 (v := (.list 2 (List.map TRankState.av B))) rfl rfl ((qCall rfl rfl (by kernel_rfl) (PO.list (spec_RankNext_ok hsp)) rfl)) ?_
  refine ARL.q0 (v := (.list 2 (List.map TRankState.av B))) rfl rfl (Light.quiet (opAssign rfl rfl)) ?_
  refine ARL.done ?_
  refine AWP.seqR rfl ?_
  refine ASL.q (v := (TAuto.av p0)) rfl rfl (Light.quiet (opLoadRA rfl ag az rfl (nlt rfl) rfl)) ?_
  refine ASL.x rfl rfl (hCallS hS [] (L := []) (F := []) rfl rfl rfl (by kernel_rfl) (laws_toAuto_ok hto) rfl rfl ?_); rintro _ _ G4 ⟨wE, rfl, rfl⟩ hS
  refine ASL.x rfl rfl (hNewZ hS [(.int .i64 0), (.int .i64 0), (.int .i64 0), .nil] rfl (by kernel_rfl : zeroA Try.prog 33 = some (.agg #[(.int .i64 0), (.int .i64 0), (.int .i64 0), (.slice none 0 0)])) ⟨.inl rfl, .inl rfl, .inl rfl, .inl rfl, trivial⟩ ?_); rintro b9 G5 hK hS
  refine ASL.n rfl rfl (hPutA hS (j := 0) rfl rfl sizeA_33 rfl rfl rfl rfl (allC rfl (allC rfl (allC rfl (allC (hS.one (k := 1) rfl) rfl)))) (nlt rfl) ?_); rintro G6 hS
  refine ASL.done ?_
  refine AWP.seqR rfl ?_
  refine ASL.q (v := (TRankState.av p1)) rfl rfl (Light.quiet (opLoadRA rfl sg sz rfl (nlt rfl) rfl)) ?_
  refine ASL.x rfl rfl (hCallS hS [0, 1] (L := []) (F := [.cell b9 [(.int .i64 p0.letters), (.int .i64 p0.states), (.int .i64 p0.start), wE], .row 4 wE (List.map TEdge.av p0.edges)]) rfl rfl rfl (by kernel_rfl) (laws_toRankState_ok hts) rfl rfl ?_); rintro _ _ G7 ⟨wR, rfl, rfl⟩ hS
  refine ASL.x rfl rfl (hNewZ hS [.nil, (.int .i64 0)] rfl zeroA_28 ⟨.inl rfl, .inl rfl, trivial⟩ ?_); rintro b10 G8 hK hS
  refine ASL.n rfl rfl (hPutA hS (j := 0) rfl rfl sizeA_28 rfl rfl rfl rfl (allC (hS.one (k := 1) rfl) (allC rfl rfl)) (nlt rfl) ?_); rintro G9 hS
  refine ASL.done ?_
  refine AWP.seqR rfl ?_
  refine ASL.q (v := (.agg [(.int .i64 p0.letters), (.int .i64 p0.states), (.int .i64 p0.start), wE])) rfl rfl (Light.quiet (kAtA hS (j := 2) rfl rfl aggA_33 sizeA_33 rfl (nlt rfl) rfl)) ?_
  refine ASL.q (v := (.agg [wR, (.int .i64 p1.owing)])) rfl rfl (Light.quiet (kAtA hS (j := 0) rfl rfl aggA_28 sizeA_28 rfl (nlt rfl) rfl)) ?_
  refine ASL.q (v := (.int .i64 p2)) rfl rfl (Light.quiet (opMove rfl rfl)) ?_
  refine ASL.x rfl rfl (hCallSR hS rfl rfl (by kernel_rfl) (impl_RankNext_own hi) ⟨.aggL ⟨.same _, .same _, .same _, .row (k := 3) rfl, trivial⟩, .aggL ⟨.row (k := 1) rfl, .same _, trivial⟩, .same _, trivial⟩ ranks_scal ?_); rintro g0 _ G10 ⟨rs, hrs, rfl⟩ hK hS
  refine ASL.q (v := g0) rfl rfl (Light.quiet (opAssign rfl rfl)) ?_
  refine ASL.done ?_
  have hS : E.Sep G10 [.row 2 g0 (rs.map RRs.raw), .pool (rs.flatMap RRs.rows), .cell b10 [wR, (.int .i64 p1.owing)], .row 1 wR (List.map (AV.int .i64) p1.ranks), .cell b9 [(.int .i64 p0.letters), (.int .i64 p0.states), (.int .i64 p0.start), wE], .row 4 wE (List.map TEdge.av p0.edges)] := hS
  have heq' : laws_eqRankStateS (rs.map RRs.t) B = some true := by rw [hrs]; exact heq
  refine AWP.seq ?_
  refine AWP.seqR rfl ?_
  refine ASL.q (v := g0) rfl rfl (Light.quiet (opMove rfl rfl)) ?_
  refine ASL.q (v := (.list 2 (List.map TRankState.av B))) rfl rfl (Light.quiet (opMove rfl rfl)) ?_
  refine ASL.q (v := (.bool true)) rfl rfl ((qCallR hS rfl rfl (by kernel_rfl) (laws_eqRankStateS_ok heq') ⟨RRs.ras (k := 0) (kp := 1) rfl rfl, .same _, trivial⟩ (by constructor))) ?_
  refine ASL.q (v := (.bool false)) rfl rfl (Light.quiet (opNot (b := true) rfl rfl)) ?_
  refine ASL.done ?_
  refine AWP.condF rfl ?_
  refine AWP.skip ?_
  refine QThen.nrm ?_
  refine AWP.seq ?_
  refine AWP.seqD [(0, false), (1, false), (2, false), (3, false), (4, false)] mixed (by kernel_rfl) rfl ?_
  refine ARL.q (v := (.agg [(.int .i64 p0.letters), (.int .i64 p0.states), (.int .i64 p0.start), wE])) rfl rfl (hS.aliveC (k := 4) rfl) (Light.quiet (kAtA hS (j := 4) rfl rfl aggA_33 sizeA_33 rfl (nlt rfl) rfl)) ?_
  refine ARL.q0 (v := (TAuto.av p0)) rfl rfl (Light.quiet (opLoadRA rfl ag az rfl (nlt rfl) rfl)) ?_
  refine ARL.q0 (v := (TAuto.av p0)) rfl rfl ((qCall rfl rfl (by kernel_rfl) (laws_toAuto_pc hto) rfl)) ?_
  refine ARL.q (v := (.bool true)) rfl rfl (hS.aliveAll) ((qCallR hS rfl rfl (by kernel_rfl) (laws_eqAuto_ok (eqAuto_eq p0 hl)) ⟨.aggL ⟨.same _, .same _, .same _, .row (k := 5) rfl, trivial⟩, .same _, trivial⟩ (by constructor))) ?_
  refine ARL.q0 (v := (.bool false)) rfl rfl (Light.quiet (opNot (b := true) rfl rfl)) ?_
  refine ARL.done ?_
  refine AWP.condF rfl ?_
  refine AWP.skip ?_
  refine QThen.nrm ?_
  refine AWP.seq ?_
  refine AWP.seqD [(0, false), (1, false), (2, false), (3, false), (4, false)] mixed (by kernel_rfl) rfl ?_
  refine ARL.q (v := (.agg [wR, (.int .i64 p1.owing)])) rfl rfl (hS.aliveC (k := 2) rfl) (Light.quiet (kAtA hS (j := 2) rfl rfl aggA_28 sizeA_28 rfl (nlt rfl) rfl)) ?_
  refine ARL.q0 (v := (TRankState.av p1)) rfl rfl (Light.quiet (opLoadRA rfl sg sz rfl (nlt rfl) rfl)) ?_
  refine ARL.q0 (v := (TRankState.av p1)) rfl rfl ((qCall rfl rfl (by kernel_rfl) (laws_toRankState_pc hts) rfl)) ?_
  refine ARL.q (v := (.bool true)) rfl rfl (hS.aliveAll) ((qCallR hS rfl rfl (by kernel_rfl) (laws_eqRankState_ok (eqRankState_self2 p1 (by omega))) ⟨.aggL ⟨.row (k := 3) rfl, .same _, trivial⟩, .same _, trivial⟩ (by constructor))) ?_
  refine ARL.q0 (v := (.bool false)) rfl rfl (Light.quiet (opNot (b := true) rfl rfl)) ?_
  refine ARL.done ?_
  refine AWP.condF rfl ?_
  refine AWP.skip ?_
  refine QThen.nrm ?_
  refine AWP.seqR rfl ?_
  refine ASL.q (v := (.int .i64 1)) rfl rfl (Light.quiet (opAssign rfl rfl)) ?_
  refine ASL.done ?_
  refine AWP.seqR rfl ?_
  refine ASL.q (v := (.agg [(.int .i64 p0.letters), (.int .i64 p0.states), (.int .i64 p0.start), wE])) rfl rfl (Light.quiet (kAtA hS (j := 4) rfl rfl aggA_33 sizeA_33 rfl (nlt rfl) rfl)) ?_
  refine ASL.q (v := (.int .i64 1)) rfl rfl (Light.quiet (opMove rfl rfl)) ?_
  refine ASL.x rfl rfl (hCallS hS [5, 0, 1, 2, 3] (F := [.row 2 g0 (rs.map RRs.raw), .pool (rs.flatMap RRs.rows), .cell b10 [wR, (.int .i64 p1.owing)], .row 1 wR (List.map (AV.int .i64) p1.ranks)]) rfl rfl rfl (by kernel_rfl) (laws_markAuto_ok (markAuto_eq p0 (by omega))) rfl rfl ?_); rintro _ _ G11 ⟨rfl, rfl⟩ hS
  refine ASL.q (v := (.int .i64 ((1 + 4 * p0.edges.length : Nat) : Int))) rfl rfl (Light.quiet (opAssign rfl rfl)) ?_
  refine ASL.done ?_
  have hmk : laws_markRankState p1 ((1 + 4 * p0.edges.length : Nat) : Int) = some (((1 + 4 * p0.edges.length + p1.ranks.length : Nat) : Int), ⟨markIL (1 + 4 * p0.edges.length) p1.ranks, p1.owing⟩) := by unfold laws_markRankState; rw [markI_from _ _ (by omega) (by omega), Option.bind_some]
  refine AWP.seqR rfl ?_
  refine ASL.q (v := (.agg [wR, (.int .i64 p1.owing)])) rfl rfl (Light.quiet (kAtA hS (j := 3) rfl rfl aggA_28 sizeA_28 rfl (nlt rfl) rfl)) ?_
  refine ASL.q (v := (.int .i64 ((1 + 4 * p0.edges.length : Nat) : Int))) rfl rfl (Light.quiet (opMove rfl rfl)) ?_
  refine ASL.x rfl rfl (hCallS hS [4, 1, 2] (F := [.row 2 g0 (rs.map RRs.raw), .pool (rs.flatMap RRs.rows)]) rfl rfl rfl (by kernel_rfl) (laws_markRankState_ok hmk) rfl rfl ?_); rintro _ _ G12 ⟨rfl, rfl⟩ hS
  refine ASL.q (v := (.int .i64 ((1 + 4 * p0.edges.length + p1.ranks.length : Nat) : Int))) rfl rfl (Light.quiet (opAssign rfl rfl)) ?_
  refine ASL.done ?_
  have hS := hS.pick (L' := [.row 2 g0 (rs.map RRs.raw), .pool (rs.flatMap RRs.rows)]) [1, 2] rfl rfl
  have hk0 : decide (((1 + 4 * p0.edges.length + p1.ranks.length : Nat) : Int) < 0) = false := decide_eq_false (by omega)
  refine AWP.seq ?_
  refine AWP.seqR rfl ?_
  refine ASL.q (v := (.int .i64 ((1 + 4 * p0.edges.length + p1.ranks.length : Nat) : Int))) rfl rfl (Light.quiet (opMove rfl rfl)) ?_
  refine ASL.q (v := (.bool false)) rfl rfl (Quiet.cast (Light.quiet (opInt rfl rfl rfl rfl)) (congrArg AV.bool hk0)) ?_
  refine ASL.q (v := (.bool false)) rfl rfl (Light.quiet (opMove rfl rfl)) ?_
  refine ASL.q (v := g0) rfl rfl (Light.quiet (opMove rfl rfl)) ?_
  refine ASL.q (v := (.list 2 (List.map TRankState.av B))) rfl rfl (Light.quiet (opMove rfl rfl)) ?_
  refine ASL.q (v := (.bool true)) rfl rfl ((qCallR hS rfl rfl (by kernel_rfl) (laws_eqRankStateS_ok heq') ⟨RRs.ras (k := 0) (kp := 1) rfl rfl, .same _, trivial⟩ (by constructor))) ?_
  refine ASL.q (v := (.bool false)) rfl rfl (Light.quiet (opNot (b := true) rfl rfl)) ?_
  refine ASL.q (v := (.bool false)) rfl rfl (Light.quiet (opPick (b := false) rfl rfl rfl)) ?_
  refine ASL.done ?_
  refine AWP.condF rfl ?_
  refine AWP.skip ?_
  refine QThen.nrm ?_
  refine AWP.seqR rfl ?_
  refine ASL.q (v := (.int .i64 1)) rfl rfl (Light.quiet (opAssign rfl rfl)) ?_
  refine ASL.done ?_
  have htot : totR rs = totK B := by rw [totR_t, hrs]
  have hlen : rs.length = B.length := by rw [← hrs, List.length_map]
  refine AWP.seqR rfl ?_
  refine ASL.q (v := g0) rfl rfl (Light.quiet (opMove rfl rfl)) ?_
  refine ASL.q (v := (.int .i64 1)) rfl rfl (Light.quiet (opMove rfl rfl)) ?_
  refine ASL.x rfl rfl (hCallS hS [0, 1] (F := []) rfl rfl rfl (by kernel_rfl) (laws_markRankStateS_own (rs := rs) (c0 := 1) (by omega) (by omega) (by omega)) rfl rfl ?_); rintro _ _ G13 ⟨rfl, rfl⟩ hS
  refine ASL.q (v := (.int .i64 ((1 + totR rs : Nat) : Int))) rfl rfl (Light.quiet (opAssign rfl rfl)) ?_
  refine ASL.done ?_
  have hheld : laws_heldRankStateS ((markR 1 rs).map RRs.t) 1 = some ((1 + totR rs : Nat) : Int) := by rw [markR_t, hrs, htot]; exact heldRankStateS_eq _ (by omega) (by omega)
  have hh0 : decide (((1 + totR rs : Nat) : Int) < 0) = false := decide_eq_false (by omega)
  have hh1 : decide (((1 + totR rs : Nat) : Int) ≠ ((1 + totR rs : Nat) : Int)) = false := decide_eq_false (by simp)
  have hS : E.Sep G13 [.row 2 g0 ((markR 1 rs).map RRs.raw), .pool ((markR 1 rs).flatMap RRs.rows)] := hS
  generalize 1 + totR rs = T at hheld hh0 hh1
  refine AWP.seqR rfl ?_
  refine ASL.q (v := (.int .i64 1)) rfl rfl (Light.quiet (opAssign rfl rfl)) ?_
  refine ASL.done ?_
  refine AWP.seqR rfl ?_
  refine ASL.q (v := g0) rfl rfl (Light.quiet (opMove rfl rfl)) ?_
  refine ASL.q (v := (.int .i64 1)) rfl rfl (Light.quiet (opMove rfl rfl)) ?_
  refine ASL.q (v := (.int .i64 (T : Int))) rfl rfl ((qCallR hS rfl rfl (by kernel_rfl) (laws_heldRankStateS_ok hheld) ⟨RRs.ras (k := 0) (kp := 1) rfl rfl, .same _, trivial⟩ (by constructor))) ?_
  refine ASL.q (v := (.int .i64 (T : Int))) rfl rfl (Light.quiet (opAssign rfl rfl)) ?_
  refine ASL.done ?_
  refine AWP.seq ?_
  refine AWP.seqR rfl ?_
  refine ASL.q (v := (.int .i64 (T : Int))) rfl rfl (Light.quiet (opMove rfl rfl)) ?_
  refine ASL.q (v := (.bool false)) rfl rfl (Quiet.cast (Light.quiet (opInt rfl rfl rfl rfl)) (congrArg AV.bool hh0)) ?_
  refine ASL.done ?_
  refine AWP.condF rfl ?_
  refine AWP.skip ?_
  refine QThen.nrm ?_
  refine AWP.seq ?_
  refine AWP.seqR rfl ?_
  refine ASL.q (v := (.int .i64 (T : Int))) rfl rfl (Light.quiet (opMove rfl rfl)) ?_
  refine ASL.q (v := (.int .i64 (T : Int))) rfl rfl (Light.quiet (opMove rfl rfl)) ?_
  refine ASL.q (v := (.bool false)) rfl rfl (Quiet.cast (Light.quiet (opInt rfl rfl rfl rfl)) (congrArg AV.bool hh1)) ?_
  refine ASL.done ?_
  refine AWP.condF rfl ?_
  refine AWP.skip ?_
  refine QThen.nrm ?_
  refine AWP.seqD [(0, false), (1, false), (2, false), (3, false), (4, false), (5, false), (6, false)] mixed (by kernel_rfl) rfl ?_
  refine ARL.q0 (v := (TAuto.av p0)) rfl rfl (Light.quiet (opLoadRA rfl ag az rfl (nlt rfl) rfl)) ?_
  refine ARL.q0 (v := (TAuto.av p0)) rfl rfl ((qCall rfl rfl (by kernel_rfl) (laws_toAuto_pc hto) rfl)) ?_
  refine ARL.q0 (v := (TRankState.av p1)) rfl rfl (Light.quiet (opLoadRA rfl sg sz rfl (nlt rfl) rfl)) ?_
  refine ARL.q0 (v := (TRankState.av p1)) rfl rfl ((qCall rfl rfl (by kernel_rfl) (laws_toRankState_pc hts) rfl)) ?_
  refine ARL.q0 (v := (.int .i64 p2)) rfl rfl (Light.quiet (opMove rfl rfl)) ?_
  refine ARL.q0 (v := (.list 2 (List.map TRankState.av B))) rfl rfl ((qCall rfl rfl (by kernel_rfl) (PO.list (impl_RankNext_ok hi)) rfl)) ?_
  refine ARL.q0 (v := (.list 2 (List.map TRankState.av B))) rfl rfl (Light.quiet (opAssign rfl rfl)) ?_
  refine ARL.done ?_
  refine AWP.seq ?_
  refine AWP.seqR rfl ?_
  refine ASL.q (v := (.list 2 (List.map TRankState.av B))) rfl rfl (Light.quiet (opMove rfl rfl)) ?_
  refine ASL.q (v := (.list 2 (List.map TRankState.av B))) rfl rfl (Light.quiet (opMove rfl rfl)) ?_
  refine ASL.q (v := (.bool true)) rfl rfl ((qCall rfl rfl (by kernel_rfl) (laws_eqRankStateS_ok heq) rfl)) ?_
  refine ASL.q (v := (.bool false)) rfl rfl (Light.quiet (opNot (b := true) rfl rfl)) ?_
  refine ASL.done ?_
  refine AWP.condF rfl ?_
  refine AWP.skip ?_
  refine QThen.nrm ?_
  refine AWP.seqR rfl ?_
  refine ASL.q (v := (.int .i64 1)) rfl rfl (Light.quiet (opAssign rfl rfl)) ?_
  refine ASL.done ?_
  refine AWP.seqR rfl ?_
  refine ASL.q (v := g0) rfl rfl (Light.quiet (opMove rfl rfl)) ?_
  refine ASL.q (v := (.int .i64 1)) rfl rfl (Light.quiet (opMove rfl rfl)) ?_
  refine ASL.q (v := (.int .i64 (T : Int))) rfl rfl ((qCallR hS rfl rfl (by kernel_rfl) (laws_heldRankStateS_ok hheld) ⟨RRs.ras (k := 0) (kp := 1) rfl rfl, .same _, trivial⟩ (by constructor))) ?_
  refine ASL.q (v := (.int .i64 (T : Int))) rfl rfl (Light.quiet (opAssign rfl rfl)) ?_
  refine ASL.done ?_
  refine AWP.seq ?_
  refine AWP.seqR rfl ?_
  refine ASL.q (v := (.int .i64 (T : Int))) rfl rfl (Light.quiet (opMove rfl rfl)) ?_
  refine ASL.q (v := (.bool false)) rfl rfl (Quiet.cast (Light.quiet (opInt rfl rfl rfl rfl)) (congrArg AV.bool hh0)) ?_
  refine ASL.done ?_
  refine AWP.condF rfl ?_
  refine AWP.skip ?_
  refine QThen.nrm ?_
  refine AWP.seq ?_
  refine AWP.seqR rfl ?_
  refine ASL.q (v := (.int .i64 (T : Int))) rfl rfl (Light.quiet (opMove rfl rfl)) ?_
  refine ASL.q (v := (.int .i64 (T : Int))) rfl rfl (Light.quiet (opMove rfl rfl)) ?_
  refine ASL.q (v := (.bool false)) rfl rfl (Quiet.cast (Light.quiet (opInt rfl rfl rfl rfl)) (congrArg AV.bool hh1)) ?_
  refine ASL.done ?_
  refine AWP.condF rfl ?_
  refine AWP.skip ?_
  refine QThen.nrm ?_
  refine AWP.seqR rfl ?_
  refine ASL.q (v := (.bool true)) rfl rfl (Light.quiet (opAssign rfl rfl)) ?_
  refine ASL.done ?_
  refine AWP.ret ?_
  exact QRet.sole (v := (.bool true)) ⟨rfl, trivial⟩ rfl
end Go.Proofs.Ytllpbgcajgbfbaa
