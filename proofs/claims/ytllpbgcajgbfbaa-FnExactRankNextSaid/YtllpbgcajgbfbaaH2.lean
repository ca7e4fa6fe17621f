/- RankNext with rows of its own, its marks. -/
import Derived.Test.YtllpbgcajgbfbaaH1
import Derived.Test.YtllpbgcajgbfbaaMRankNext
namespace Go.Proofs.Ytllpbgcajgbfbaa
open Go Go.RowKit E
set_option linter.unusedVariables false
theorem ranks_scal {r : List TRankState} : ∀ v L' G, (∃ rs : List RRs, rs.map RRs.t = r ∧ L' = [.row 2 v (rs.map RRs.raw), .pool (rs.flatMap RRs.rows)]) → Sep G L' → Scal v ∧ AllScal L' := by
  rintro v _ G ⟨rs, _, rfl⟩ hG
  refine ⟨hG.scR (k := 0) rfl, fun c hc => ?_, fun p hp c hc => ?_, trivial⟩
  · simp only [flat, List.mem_flatMap, List.mem_map] at hc
    obtain ⟨_, ⟨x, hx, rfl⟩, hc⟩ := hc
    simp only [RRs.raw, cells, List.mem_cons, List.not_mem_nil, or_false] at hc
    rcases hc with rfl | rfl
    · exact (hG.poolOwn (k := 1) rfl (RRs.m hx)).scal
    · constructor
  · obtain ⟨x, hx, hp⟩ := List.mem_flatMap.mp hp
    simp only [RRs.rows, List.mem_cons, List.not_mem_nil, or_false] at hp
    rcases hp with rfl
    exact Scal.ints _ _ c hc
set_option maxRecDepth 10000 in
theorem impl_RankNext_own {p0 : TAuto} {p1 : TRankState} {p2 : Int} {r : (List TRankState)} (hF : impl_RankNext p0 p1 p2 = some r) : HS Try.prog 17 [(TAuto.av p0), (TRankState.av p1), (.int .i64 p2)] [] fun v L' => ∃ rs : List RRs, rs.map RRs.t = r ∧ L' = [.row 2 v (rs.map RRs.raw), .pool (rs.flatMap RRs.rows)] := by
  intro H S hS
  refine HC.enter Try.func17 rfl Try.ntmps17 (by simp) ?_
  simp only [List.nil_append] at hS
  unfold impl_RankNext at hF
  refine AWP.seqR rfl ?_
  refine ASL.q (v := (.rptr [(.int .i64 p0.letters), (.int .i64 p0.states), (.int .i64 p0.start), (.list 4 (List.map TEdge.av p0.edges))])) rfl rfl ((qBoxI (v := (TAuto.av p0)) rfl rfl rfl rfl)) ?_
  refine ASL.q (v := (.rptr [(.list 1 (List.map (AV.int .i64) p1.ranks)), (.int .i64 p1.owing)])) rfl rfl ((qBoxI (v := (TRankState.av p1)) rfl rfl rfl rfl)) ?_
  refine ASL.q (v := .nil) rfl rfl (Light.quiet (opAssign rfl rfl)) ?_
  refine ASL.done ?_
  refine AWP.seq ?_
  refine AWP.seqR rfl ?_
  refine ASL.q (v := (TAuto.av p0)) rfl rfl (Light.quiet (opLoadRA rfl aggA_33 sizeA_33 rfl (nlt rfl) rfl)) ?_
  refine ASL.q (v := (TRankState.av p1)) rfl rfl (Light.quiet (opLoadRA rfl aggA_28 sizeA_28 rfl (nlt rfl) rfl)) ?_
  obtain ⟨a9, ha9, hF⟩ := bindE hF
  refine ASL.q (v := (.bool a9)) rfl rfl ((qCall rfl rfl call_20 (impl_RankOk_ok ha9) rfl)) ?_
  refine ASL.q (v := (.bool (!a9))) rfl rfl (Light.quiet (opNot rfl rfl)) ?_
  obtain ⟨c11, hc11, hF⟩ := bndE hF
  refine ASL.q (v := (.bool c11)) rfl rfl ((Quiet.cast (Light.quiet (opMove rfl rfl)) (congrArg AV.bool hc11.symm))) ?_
  refine ASL.g (v := (.int .i64 p2)) (.bool c11) false rfl (wF _) rfl (fun hG => by have q0 := gN hG; subst q0; exact Light.quiet (opMove rfl rfl)) ?_
  refine ASL.g (v := (.rptr [(.int .i64 p0.letters), (.int .i64 p0.states), (.int .i64 p0.start), (.list 4 (List.map TEdge.av p0.edges))])) (.bool c11) false rfl (wF _) rfl (fun hG => by have q0 := gN hG; subst q0; exact Light.quiet (opFieldAddrR rfl fieldA_33_0 rfl rfl)) ?_
  refine ASL.g (v := (.int .i64 p0.letters)) (.bool c11) false rfl (wF _) rfl (fun hG => by have q0 := gN hG; subst q0; exact Light.quiet (opLoadR rfl aggA_3 rfl rfl)) ?_
  refine ASL.g (v := (.int .i64 (W (p0.letters - 1)))) (.bool c11) false rfl (wF _) rfl (fun hG => by have q0 := gN hG; subst q0; exact Light.quiet (opInt rfl rfl rfl rfl)) ?_
  refine ASL.g (v := (.bool (impl_inRange p2 0 ((W (p0.letters - 1)))))) (.bool c11) false rfl (wF _) rfl (fun hG => by have q0 := gN hG; subst q0; exact (qCall rfl rfl call_43 (impl_inRange_ok p2 0 ((W (p0.letters - 1)))) rfl)) ?_
  refine ASL.g (v := (.bool (!(impl_inRange p2 0 ((W (p0.letters - 1))))))) (.bool c11) false rfl (wF _) rfl (fun hG => by have q0 := gN hG; subst q0; exact Light.quiet (opNot rfl rfl)) ?_
  refine ASL.q (v := (.bool (c11 || (!(impl_inRange p2 0 ((W (p0.letters - 1)))))))) rfl rfl (Light.quiet (opPick (b := c11) rfl rfl (by cases c11 <;> rfl))) ?_
  refine ASL.done ?_
  refine AWP.ifB hF rfl (fun hc2 hF => ?_) (fun hc2 hF => ?_)
  · skip
    refine AWP.seqR rfl ?_
    refine ASL.q (v := .nil) rfl rfl (Light.quiet (opAssign rfl rfl)) ?_
    refine ASL.done ?_
    refine AWP.ret ?_
    refine QThen.rt ?_
    obtain rfl := someE hF
    exact QRet.sole (v := .nil) ⟨rfl, trivial⟩ ⟨_, ⟨[], rfl, rfl⟩, hNil (s := 2) (f := RRs.raw) hS.newPool⟩
  · skip
    refine AWP.skip ?_
    refine QThen.nrm ?_
    refine AWP.seqR rfl ?_
    refine ASL.q (v := (TAuto.av p0)) rfl rfl (Light.quiet (opLoadRA rfl aggA_33 sizeA_33 rfl (nlt rfl) rfl)) ?_
    refine ASL.q (v := (TRankState.av p1)) rfl rfl (Light.quiet (opLoadRA rfl aggA_28 sizeA_28 rfl (nlt rfl) rfl)) ?_
    refine ASL.q (v := (.int .i64 p2)) rfl rfl (Light.quiet (opMove rfl rfl)) ?_
    obtain ⟨a22, ha22, hF⟩ := bindE hF
    refine ASL.x rfl rfl (hCallS hS [0] (F := [.snap S]) rfl rfl rfl call_44 (impl_rankNext_own ha22) rfl rfl ?_); rintro v22 _ G4 ⟨rs, hrs, rfl⟩ hS
    refine ASL.q (v := v22) rfl rfl (Light.quiet (opAssign rfl rfl)) ?_
    refine ASL.done ?_
    refine AWP.ret ?_
    obtain rfl := someE hF
    exact QRet.sole (v := v22) ⟨rfl, trivial⟩ ⟨_, ⟨rs, hrs, rfl⟩, hS⟩
-- marks
noncomputable def totR : List RRs → Nat
  | [] => 0
  | x :: r => x.q.length + 1 + totR r
noncomputable def mark0 (c : Nat) (x : RRs) : RRs := ⟨x.w, markIL c x.q, x.o, x.h⟩
noncomputable def owedR (c : Int) (x : RRs) : RRs := ⟨x.w, x.q, c, x.h⟩
noncomputable def mark1 (c : Nat) (x : RRs) : RRs := ⟨x.w, markIL c x.q, ((c + x.q.length : Nat) : Int), x.h⟩
noncomputable def markR (c : Nat) : List RRs → List RRs
  | [] => []
  | x :: r => mark1 c x :: markR (c + (x.q.length + 1)) r
theorem mid_perm (pre r : List RRs) (x : RRs) : ((pre ++ x :: r).flatMap RRs.rows).Perm (x.rows ++ (pre ++ r).flatMap RRs.rows) := (List.perm_middle (l₁ := pre) (a := x) (l₂ := r)).flatMap_right RRs.rows
theorem mid_set (pre r : List RRs) (x y : RRs) : (pre ++ x :: r).set pre.length y = (pre ++ [y]) ++ r := by simp
set_option maxRecDepth 10000 in
theorem laws_markRankStateS_own {o : AV} {rs : List RRs} {c0 : Nat} (hr : rs.length ≤ 1000000) (ht : totR rs ≤ 1000000) (hc : c0 ≤ 1000000) : HS Try.prog 26 [o, (.int .i64 (c0 : Int))] [.row 2 o (rs.map RRs.raw), .pool (rs.flatMap RRs.rows)] fun v L' => v = (.int .i64 ((c0 + totR rs : Nat) : Int)) ∧ L' = [.row 2 o ((markR c0 rs).map RRs.raw), .pool ((markR c0 rs).flatMap RRs.rows)] := by
  intro H S hS
  refine HC.enter Try.func26 rfl Try.ntmps26 (by simp) ?_
  simp only [List.cons_append, List.nil_append] at hS
  refine AWP.seqR rfl ?_
  refine ASL.q (v := (.int .i64 0)) rfl rfl (Light.quiet (opAssign rfl rfl)) ?_
  refine ASL.done ?_
  refine AWP.seqM (fun e H => E.Told e [(1, (.int .i64 ((c0 + totR rs : Nat) : Int)))] ∧ E.Sep H [.row 2 o ((markR c0 rs).map RRs.raw), .pool ((markR c0 rs).flatMap RRs.rows), .snap S]) ?_ ?_
  · rintro e0 G1 ⟨hT, hS⟩; refine AWP.only _ hT ?_
    refine AWP.seqR rfl ?_
    refine ASL.q (v := (.int .i64 ((c0 + totR rs : Nat) : Int))) rfl rfl (Light.quiet (opMove rfl rfl)) ?_
    refine ASL.q (v := (.int .i64 ((c0 + totR rs : Nat) : Int))) rfl rfl (Light.quiet (opAssign rfl rfl)) ?_
    refine ASL.done ?_
    refine AWP.ret ?_
    exact QRet.sole (v := (.int .i64 ((c0 + totR rs : Nat) : Int))) ⟨rfl, trivial⟩ ⟨_, ⟨rfl, rfl⟩, hS⟩
  · skip
    refine AWP.seqR rfl ?_
    refine ASL.q (v := (.int .i64 0)) rfl rfl (Light.quiet (opAssign rfl rfl)) ?_
    refine ASL.done ?_
    refine AWP.block ?_
    refine AWP.loopL (α := List RRs × List RRs × Nat) (fun a => [(0, o), (1, (.int .i64 (a.2.2 : Int))), (5, (.int .i64 (a.1.length : Int)))]) (fun a H => E.Sep H [.row 2 o ((a.1 ++ a.2.1).map RRs.raw), .pool ((a.1 ++ a.2.1).flatMap RRs.rows), .snap S]) (fun a => a.2.1.length)
      (fun a => a.1.length + a.2.1.length ≤ 1000000 ∧ a.2.2 + totR a.2.1 ≤ 2000000 ∧ totR a.2.1 ≤ 1000000 ∧ a.1 ++ markR a.2.2 a.2.1 = markR c0 rs ∧ a.2.2 + totR a.2.1 = c0 + totR rs) ([], rs, c0) ⟨by simp; omega, by dsimp only; omega, ht, rfl, rfl⟩ ⟨rfl, rfl, rfl, trivial⟩ hS ?_
    rintro ⟨pre, suf, c⟩ G2 ⟨hl, hcb, htb, hm, hcc⟩ hS
    dsimp only at hl hcb htb hm hcc hS ⊢
    refine AWP.seq ?_
    refine AWP.seqR rfl ?_
    refine ASL.q (v := (.int .i64 (pre.length : Int))) rfl rfl (Light.quiet (opMove rfl rfl)) ?_
    refine ASL.q (v := o) rfl rfl (Light.quiet (opMove rfl rfl)) ?_
    refine ASL.q (v := (.int .i64 ((pre ++ suf).length : Int))) rfl rfl (Light.quiet (kLen hS (j := 0) rfl rfl rfl rfl lenT_44 rfl)) ?_
    refine ASL.q (v := (.bool (decide ((pre.length : Int) < ((pre ++ suf).length : Int))))) rfl rfl (Light.quiet (opInt rfl rfl rfl rfl)) ?_
    refine ASL.done ?_
    cases suf with
    | nil =>
      refine AWP.condF (by show AV.bool _ = _; rw [decide_eq_false (by simp)]) ?_
      refine AWP.exit ?_
      refine QThen.ext ?_
      refine QThen.ext ?_
      refine QBlock.hit ?_
      refine QThen.nrm ?_
      rw [List.append_nil] at hS
      have hm : pre = markR c0 rs := by rw [← hm]; simp [markR]
      have hcc : c = c0 + totR rs := by rw [← hcc]; simp [totR]
      rw [← hm, ← hcc]
      exact ⟨⟨rfl, trivial⟩, hS⟩
    | cons x r =>
      have hx : ix (pre ++ x :: r) (pre.length : Int) = some x := by
        unfold ix; rw [if_pos ⟨by omega, by simp; omega⟩, Int.toNat_natCast]; simp
      have hck : ck (pre.length : Int) (pre ++ x :: r).length = some pre.length := ck_nat (by simp)
      have htx : totR (x :: r) = x.q.length + 1 + totR r := rfl
      rw [htx] at hcb htb hcc
      rw [List.length_cons] at hl
      refine AWP.condT (by show AV.bool _ = _; rw [decide_eq_true (by simp; omega)]) ?_
      refine AWP.skip ?_
      refine QThen.nrm ?_
      refine AWP.seq ?_
      refine AWP.block ?_
      refine AWP.seqR rfl ?_
      refine ASL.q (v := o) rfl rfl (Light.quiet (opMove rfl rfl)) ?_
      refine ASL.q (v := (.int .i64 (pre.length : Int))) rfl rfl (Light.quiet (opMove rfl rfl)) ?_
      refine ASL.q (v := (ptrTo o (pre.length : Int).toNat 2)) rfl rfl (Light.quiet (kIxOx (f := RRs.raw) hS (j := 0) rfl hx rfl rfl rfl elemA_44 sizeA_28)) ?_
      refine ASL.q (v := (ptrOff o (pre.length : Int).toNat 2 0)) rfl rfl (Light.quiet (kFldO (g := RRs.raw) (p := 0) hS (j := 0) rfl hx rfl (by kernel_rfl) rfl)) ?_
      refine ASL.q (v := x.w) rfl rfl (Light.quiet (kLdP (f := RRs.raw) hS (j := 0) rfl hx rfl aggA_26 rfl rfl)) ?_
      refine ASL.q (v := (.int .i64 (c : Int))) rfl rfl (Light.quiet (opMove rfl rfl)) ?_
      have hS := ((hS.pick (L' := [.pool ((pre ++ x :: r).flatMap RRs.rows), .row 2 o ((pre ++ x :: r).map RRs.raw), .snap S]) [1, 0, 2] rfl rfl).permPool (mid_perm pre r x)).ofPool
      refine ASL.x rfl rfl (hCallS hS [0, 1, 2, 3] (F := [.pool ((pre ++ r).flatMap RRs.rows), .row 2 o ((pre ++ x :: r).map RRs.raw), .snap S]) rfl rfl rfl (by kernel_rfl) (laws_markIntS_ok (markI_from x.q c (by omega) (by omega))) rfl rfl ?_); rintro _ _ G3 ⟨rfl, rfl⟩ hS
      refine ASL.q (v := (.int .i64 ((c + x.q.length : Nat) : Int))) rfl rfl (Light.quiet (opAssign rfl rfl)) ?_
      refine ASL.done ?_
      refine AWP.seqR rfl ?_
      refine ASL.q (v := o) rfl rfl (Light.quiet (opMove rfl rfl)) ?_
      refine ASL.q (v := (.int .i64 (pre.length : Int))) rfl rfl (Light.quiet (opMove rfl rfl)) ?_
      refine ASL.q (v := (.int .i64 ((c + x.q.length : Nat) : Int))) rfl rfl (Light.quiet (opMove rfl rfl)) ?_
      refine ASL.q (v := (ptrTo o pre.length 2)) rfl rfl (Light.quiet (kIxO (f := RRs.raw) hS (j := 2) rfl hck rfl rfl rfl elemA_44 sizeA_28)) ?_
      refine ASL.q (v := (ptrOff o pre.length 2 1)) rfl rfl (Light.quiet (kFldC (g := RRs.raw) (p := 1) hS (j := 2) rfl hck rfl fieldA_28_1 rfl)) ?_
      refine ASL.n rfl rfl (hStF (f := RRs.raw) (g := owedR ((c + x.q.length : Nat) : Int)) (p := 1) hS (j := 2) rfl hck rfl sizeA_3 rfl rfl (fun _ => ⟨_, rfl, nlt rfl, rfl⟩) rfl ?_); rintro G4 hS
      refine ASL.done ?_
      have hget : (pre ++ x :: r).getD pre.length default = x := by simp
      rw [hget, mid_set] at hS
      have hS := hS.pick (L' := [.pool ((pre ++ r).flatMap RRs.rows), .row 1 x.w ((markIL c x.q).map (AV.int .i64)), .row 2 o ((pre ++ [owedR ((c + x.q.length : Nat) : Int) x] ++ r).map RRs.raw), .snap S]) [1, 0, 2, 3] rfl rfl
      have hS := (hS.poolIn (k := 0) rfl).permPool (qs := ((pre ++ [mark1 c x]) ++ r).flatMap RRs.rows) (by rw [List.append_assoc]; exact (mid_perm pre r (mark1 c x)).symm)
      have hraw : (pre ++ [owedR ((c + x.q.length : Nat) : Int) x] ++ r).map RRs.raw = ((pre ++ [mark1 c x]) ++ r).map RRs.raw := by simp [owedR, mark1, RRs.raw]
      have hW : IntKind.i64.wrap ((pre.length : Int) + 1) = ((pre ++ [mark1 c x]).length : Int) := by rw [W_eq (by omega) (by omega), List.length_append, List.length_singleton]; rfl
      have hW2 : IntKind.i64.wrap (((c + x.q.length : Nat) : Int) + 1) = ((c + (x.q.length + 1) : Nat) : Int) := by rw [W_eq (by omega) (by omega)]; omega
      refine AWP.lastR rfl ?_
      refine ASL.q (v := (.int .i64 ((c + x.q.length : Nat) : Int))) rfl rfl (Light.quiet (opMove rfl rfl)) ?_
      refine ASL.q (v := (.int .i64 ((c + (x.q.length + 1) : Nat) : Int))) rfl rfl (Quiet.cast (Light.quiet (opInt rfl rfl rfl rfl)) (congrArg (AV.int .i64) hW2)) ?_
      refine ASL.q (v := (.int .i64 ((c + (x.q.length + 1) : Nat) : Int))) rfl rfl (Light.quiet (opAssign rfl rfl)) ?_
      refine ASL.done ?_
      refine QBlock.nrm ?_
      refine QThen.nrm ?_
      refine AWP.lastR rfl ?_
      refine ASL.q (v := (.int .i64 (pre.length : Int))) rfl rfl (Light.quiet (opMove rfl rfl)) ?_
      refine ASL.q (v := (.int .i64 ((pre ++ [mark1 c x]).length : Int))) rfl rfl (Quiet.cast (Light.quiet (opInt rfl rfl rfl rfl)) (congrArg (AV.int .i64) hW)) ?_
      refine ASL.q (v := (.int .i64 ((pre ++ [mark1 c x]).length : Int))) rfl rfl (Light.quiet (opAssign rfl rfl)) ?_
      refine ASL.done ?_
      refine QThen.nrm ?_
      refine ⟨(pre ++ [mark1 c x], r, c + (x.q.length + 1)), ⟨by simp only [List.length_append, List.length_singleton]; omega, by dsimp only; omega, by dsimp only; omega, ?_, by dsimp only; omega⟩, by simp, ⟨rfl, rfl, rfl, trivial⟩, ?_⟩
      · dsimp only; rw [← hm, List.append_assoc]; rfl
      · dsimp only; rw [← hraw]; exact hS.pick [1, 0, 2] rfl rfl
end Go.Proofs.Ytllpbgcajgbfbaa
