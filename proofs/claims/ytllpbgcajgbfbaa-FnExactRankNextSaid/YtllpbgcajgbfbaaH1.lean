/- The program's ranks that follow, with rows of their own. -/
import Derived.Test.YtllpbgcajgbfbaaG1
import Derived.Test.YtllpbgcajgbfbaaKRankNext
namespace Go.Proofs.Ytllpbgcajgbfbaa
open Go Go.RowKit E
set_option linter.unusedVariables false
theorem told_one {w : AV} (h : w.one = true) : w.told = true := by cases w <;> first | rfl | (simp [AV.one] at h)
theorem ix_take {α : Type} [Inhabited α] {es : List α} {i : Int} {x : α} (h : ix es i = some x) : es.take (i.toNat + 1) = es.take i.toNat ++ [x] := by
  obtain ⟨h0, h1, h2⟩ := ixE h
  have hi : i.toNat < es.length := by omega
  rw [List.take_succ_eq_append_getElem hi]
  congr 2
  rw [← h2, List.getD_eq_getElem?_getD, List.getElem?_eq_getElem hi]; rfl
/-- A row of its own within a row of rows. -/
structure RIn where
  w : AV
  q : List Int
  h : w.one = true ∧ cells w = [w]
noncomputable def RIn.none : RIn := ⟨.nil, [], ⟨rfl, rfl⟩⟩
noncomputable instance : Inhabited RIn := ⟨RIn.none⟩
noncomputable def RIn.raw (e : RIn) : AV := e.w
noncomputable def RIn.t (e : RIn) : List Int := e.q
noncomputable def RIn.rows (e : RIn) : List (AV × List AV) := [(e.w, e.q.map (AV.int .i64))]
theorem RIn.cell (e : RIn) : cells e.raw = [e.raw] := e.h.2
theorem RIn.ones (e : RIn) : (cells e.raw).all AV.one = true := by rw [e.cell]; exact allC e.h.1 rfl
theorem RIn.m {es : List RIn} {x : RIn} (h : x ∈ es) : (x.w, x.q.map (AV.int .i64)) ∈ es.flatMap RIn.rows := List.mem_flatMap.mpr ⟨x, h, by simp [RIn.rows]⟩
/-- A state of ranks, its ranks of its own. -/
structure RRs where
  w : AV
  q : List Int
  o : Int
  h : w.one = true
noncomputable instance : Inhabited RRs := ⟨⟨.nil, [], 0, rfl⟩⟩
noncomputable def RRs.raw (e : RRs) : AV := .agg [e.w, .int .i64 e.o]
noncomputable def RRs.t (e : RRs) : TRankState := ⟨e.q, e.o⟩
noncomputable def RRs.rows (e : RRs) : List (AV × List AV) := [(e.w, e.q.map (AV.int .i64))]
noncomputable def RRs.of (x : RIn) (o : Int) : RRs := ⟨x.w, x.q, o, x.h.1⟩
theorem RRs.ones (e : RRs) : (cells e.raw).all AV.one = true := allC e.h (allC rfl rfl)
theorem RRs.m {es : List RRs} {x : RRs} (h : x ∈ es) : (x.w, x.q.map (AV.int .i64)) ∈ es.flatMap RRs.rows := List.mem_flatMap.mpr ⟨x, h, by simp [RRs.rows]⟩
theorem RRs.ras {L : List Res} {k kp : Nat} {w : AV} {es : List RRs} (hk : L[k]? = some (.row 2 w (es.map RRs.raw))) (hp : L[kp]? = some (.pool (es.flatMap RRs.rows))) : RAS L w (.list 2 ((es.map RRs.t).map TRankState.av)) := by
  refine RAS.rowL hk (by simp) (fun y hy => by simp only [List.mem_map] at hy; obtain ⟨_, ⟨x, _, rfl⟩, rfl⟩ := hy; rfl) ?_
  have key : ∀ l : List RRs, (∀ x ∈ l, x ∈ es) → RASs L (flat (l.map RRs.raw)) (flat ((l.map RRs.t).map TRankState.av)) := by
    intro l
    induction l with
    | nil => intro _; exact trivial
    | cons x l ih =>
      intro h
      exact ⟨.pool hp (RRs.m (h x List.mem_cons_self)), .same _, ih fun y hy => h y (List.mem_cons_of_mem _ hy)⟩
  exact key es fun x h => h
set_option maxRecDepth 10000 in
theorem impl_rankNext_own {p0 : TAuto} {p1 : TRankState} {p2 : Int} {r : (List TRankState)} (hF : impl_rankNext p0 p1 p2 = some r) : HS Try.prog 44 [(TAuto.av p0), (TRankState.av p1), (.int .i64 p2)] [] fun v L' => ∃ rs : List RRs, rs.map RRs.t = r ∧ L' = [.row 2 v (rs.map RRs.raw), .pool (rs.flatMap RRs.rows)] := by
  intro H S hS
  refine HC.enter Try.func44 rfl Try.ntmps44 (by simp) ?_
  simp only [List.nil_append] at hS
  unfold impl_rankNext at hF
  refine AWP.seqR rfl ?_
  refine ASL.q (v := (.rptr [(.int .i64 p0.letters), (.int .i64 p0.states), (.int .i64 p0.start), (.list 4 (List.map TEdge.av p0.edges))])) rfl rfl ((qBoxI (v := (TAuto.av p0)) rfl rfl rfl rfl)) ?_
  refine ASL.q (v := (.rptr [(.list 1 (List.map (AV.int .i64) p1.ranks)), (.int .i64 p1.owing)])) rfl rfl ((qBoxI (v := (TRankState.av p1)) rfl rfl rfl rfl)) ?_
  refine ASL.q (v := .nil) rfl rfl (Light.quiet (opAssign rfl rfl)) ?_
  refine ASL.done ?_
  refine AWP.seqR rfl ?_
  refine ASL.x rfl rfl (hLit (f := RIn.raw) (zs := [RIn.none]) hS rfl rfl elemA_85 sizeA_26 zeroA_26 rfl rfl rfl rfl (by simp [cells, RIn.raw, RIn.none]) (nlt rfl) ?_); rintro v21 G0 hK hS
  refine ASL.q (v := v21) rfl rfl (Light.quiet (opAssign rfl rfl)) ?_
  refine ASL.done ?_
  have hS := ((hNil (s := 1) (f := (AV.int .i64)) hS.newPool).toPool).pick (L' := [.row 1 v21 ([RIn.none].map RIn.raw), .pool ([RIn.none].flatMap RIn.rows), .snap S]) [1, 0, 2] rfl rfl
  refine AWP.seqM (fun e H => ∃ x7_1 : (List (List Int)), ∃ w7 : AV, ∃ es : List RIn, es.map RIn.t = x7_1 ∧ E.Told e [(2, (.int .i64 p2)), (3, (.rptr [(.int .i64 p0.letters), (.int .i64 p0.states), (.int .i64 p0.start), (.list 4 (List.map TEdge.av p0.edges))])), (4, (.rptr [(.list 1 (List.map (AV.int .i64) p1.ranks)), (.int .i64 p1.owing)])), (7, w7)] ∧ E.Sep H [.row 1 w7 (es.map RIn.raw), .pool (es.flatMap RIn.rows), .snap S] ∧ impl_rankNext.k0 p1 p0 p2 x7_1 = some r) ?_ ?_
  · rintro e0 G42 ⟨x7_1, w7, es, hes, hT, hS, hF⟩; refine AWP.only _ hT ?_; unfold impl_rankNext.k0 at hF
    have hlen : es.length = x7_1.length := by rw [← hes, List.length_map]
    refine AWP.seqR rfl ?_
    refine ASL.q (v := (.rptr [(.int .i64 p0.states), (.int .i64 p0.start), (.list 4 (List.map TEdge.av p0.edges))])) rfl rfl (Light.quiet (opFieldAddrR rfl fieldA_33_1 rfl rfl)) ?_
    refine ASL.q (v := (.int .i64 p0.states)) rfl rfl (Light.quiet (opLoadR rfl aggA_3 rfl rfl)) ?_
    refine ASL.q (v := (.int .i64 (impl_only p0.states))) rfl rfl ((qCall rfl rfl call_49 (impl_only_ok p0.states) rfl)) ?_
    refine ASL.q (v := (.int .i64 (W (((impl_only p0.states)) - 1)))) rfl rfl (Light.quiet (opInt rfl rfl rfl rfl)) ?_
    refine ASL.q (v := (.int .i64 (W (((impl_only p0.states)) - 1)))) rfl rfl (Light.quiet (opAssign rfl rfl)) ?_
    refine ASL.done ?_
    refine AWP.seqM (fun e H => ∃ x14_2 : Int, E.Told e [(7, w7), (14, (.int .i64 x14_2))] ∧ E.Sep H [.row 1 w7 (es.map RIn.raw), .pool (es.flatMap RIn.rows), .snap S] ∧ impl_rankNext.k1 x7_1 x14_2 = some r) ?_ ?_
    · rintro e0 G40 ⟨x14_2, hT, hS, hF⟩; refine AWP.only _ hT ?_; unfold impl_rankNext.k1 at hF
      refine AWP.seqR rfl ?_
      have hS := hNil (s := 2) (f := RRs.raw) hS
      refine ASL.q (v := .nil) rfl rfl (Light.quiet (opAssign rfl rfl)) ?_
      refine ASL.done ?_
      refine AWP.seqM (fun e H => ∃ y3 : (List TRankState), ∃ w4 : AV, ∃ rs : List RRs, rs.map RRs.t = y3 ∧ rs.flatMap RRs.rows = es.flatMap RIn.rows ∧ E.Told e [(15, w4)] ∧ E.Sep H [.row 2 w4 (rs.map RRs.raw), .row 1 w7 (es.map RIn.raw), .pool (es.flatMap RIn.rows), .snap S] ∧ impl_rankNext.k2 y3 = some r) ?_ ?_
      · rintro e0 G6 ⟨y3, w4, rs, hrs, hrr, hT, hS, hF⟩; refine AWP.only _ hT ?_; unfold impl_rankNext.k2 at hF
        refine AWP.seqR rfl ?_
        refine ASL.q (v := w4) rfl rfl (Light.quiet (opMove rfl rfl)) ?_
        refine ASL.q (v := w4) rfl rfl (Light.quiet (opAssign rfl rfl)) ?_
        refine ASL.done ?_
        refine AWP.ret ?_
        obtain rfl := someE hF
        exact QRet.sole (v := w4) ⟨rfl, trivial⟩ ⟨_, ⟨rs, hrs, rfl⟩, by rw [hrr]; exact hS.pick [0, 2, 3] rfl rfl⟩
      · skip
        refine AWP.seqR rfl ?_
        refine ASL.q (v := w7) rfl rfl (Light.quiet (opMove rfl rfl)) ?_
        refine ASL.q (v := (.int .i64 (x7_1.length : Int))) rfl rfl (Quiet.cast (Light.quiet (kLen hS (j := 1) rfl rfl rfl rfl lenT_85 rfl)) (by rw [hlen])) ?_
        refine ASL.q (v := (.int .i64 0)) rfl rfl (Light.quiet (opMove rfl rfl)) ?_
        refine ASL.done ?_
        refine AWP.block ?_
        obtain ⟨o13, hL12, hR14⟩ := bindE hF
        refine AWP.loopI (ω := AV × List RRs) hL12 (fun s w => s.2 = (w.2.length : Int) ∧ w.2.length ≤ es.length ∧ w.2.map RRs.t = s.1 ∧ w.2.flatMap RRs.rows = (es.take w.2.length).flatMap RIn.rows) (fun s w => [(14, (.int .i64 x14_2)), (15, w.1), (66, w7), (67, (.int .i64 (x7_1.length : Int))), (68, (.int .i64 s.2))]) (fun s w => [.row 2 w.1 (w.2.map RRs.raw), .row 1 w7 (es.map RIn.raw), .pool (es.flatMap RIn.rows), .snap S]) (.nil, []) ⟨rfl, Nat.zero_le _, rfl, rfl⟩ ⟨rfl, rfl, rfl, rfl, rfl, trivial⟩ hS ?_
        rintro ⟨y7, x68_l0⟩ ⟨w8, rs⟩ G15 ⟨hi0, hi1, hrs, hrr⟩ hS x10 hF hx11
        dsimp only at hi0 hi1 hrs hrr hS ⊢
        have hF : impl_rankNext.b0 x7_1 x14_2 y7 x68_l0 = some x10 := hF; unfold impl_rankNext.b0 at hF
        refine AWP.seqR rfl ?_
        refine ASL.q (v := (.bool (decide (x68_l0 < ((x7_1.length : Int)))))) rfl rfl (Light.quiet (opInt rfl rfl rfl rfl)) ?_
        refine ASL.done ?_
        refine AWP.seq ?_
        refine AWP.ifP hF rfl (fun hc16 hF => ?_) (fun hc16 hF => ?_)
        · skip
          refine AWP.skip ?_
          refine QThen.nrm ?_
          refine AWP.seqM (fun e H => ∃ y17 : (List TRankState), ∃ w18 : AV, ∃ rs2 : List RRs, rs2.length = rs.length + 1 ∧ rs2.length ≤ 4611686018427387904 ∧ rs2.length ≤ es.length ∧ rs2.map RRs.t = y17 ∧ rs2.flatMap RRs.rows = (es.take rs2.length).flatMap RIn.rows ∧ E.Told e [(14, (.int .i64 x14_2)), (15, w18), (66, w7), (67, (.int .i64 (x7_1.length : Int))), (68, (.int .i64 x68_l0))] ∧ E.Sep H [.row 2 w18 (rs2.map RRs.raw), .row 1 w7 (es.map RIn.raw), .pool (es.flatMap RIn.rows), .snap S] ∧ impl_rankNext.k3 x68_l0 y17 = some x10) ?_ ?_
          · rintro e0 G20 ⟨y17, w18, rs2, g1, g2, g3, g4, g5, hT, hS, hF⟩; refine AWP.only _ hT ?_; unfold impl_rankNext.k3 at hF
            refine AWP.lastR rfl ?_
            refine ASL.q (v := (.int .i64 (W (x68_l0 + 1)))) rfl rfl (Light.quiet (opInt rfl rfl rfl rfl)) ?_
            refine ASL.q (v := (.int .i64 (W (x68_l0 + 1)))) rfl rfl (Light.quiet (opMove rfl rfl)) ?_
            refine ASL.done ?_
            refine QThen.nrm ?_
            exact ⟨(y17, (W (x68_l0 + 1))), (w18, rs2), (someE hF).symm, ⟨by show IntKind.i64.wrap (x68_l0 + 1) = _; rw [W_eq (by omega) (by omega)]; dsimp only; omega, g3, g4, g5⟩, ⟨rfl, rfl, rfl, rfl, rfl, trivial⟩, hS⟩
          · skip
            refine AWP.block ?_
            refine AWP.seqR rfl ?_
            obtain ⟨a70, ha70, hF⟩ := bindE hF
            rw [← hes] at ha70
            obtain ⟨x, hx, hxa, hxm⟩ := ix_map ha70
            have hxa : x.q = a70 := hxa
            subst hxa
            have hm := RIn.m hxm
            refine ASL.q (v := (ptrTo w7 x68_l0.toNat 1)) rfl rfl (Light.quiet (kIxOx (f := RIn.raw) hS (j := 1) rfl hx rfl rfl rfl elemA_85 sizeA_26)) ?_
            refine ASL.q (v := x.w) rfl rfl (Light.quiet (kLd (f := RIn.raw) hS (j := 1) rfl hx rfl aggA_26 rfl RIn.cell)) ?_
            refine ASL.q (v := x.w) rfl rfl (Light.quiet (opAssign rfl rfl)) ?_
            refine ASL.done ?_
            refine AWP.seqR rfl ?_
            refine ASL.q (v := x.w) rfl rfl (Light.quiet (opMove rfl rfl)) ?_
            refine ASL.q (v := (.agg [x.w, (.int .i64 0)])) rfl rfl (Light.quiet (opBuildZ (zs := [.nil, (.int .i64 0)]) rfl plan_28 zeroA_28 ⟨.inl rfl, .inl rfl, trivial⟩ (putO x.h.1 rfl rfl rfl))) ?_
            refine ASL.x rfl rfl (hNewZ hS [.nil, (.int .i64 0)] rfl zeroA_28 ⟨.inl rfl, .inl rfl, trivial⟩ ?_); rintro b18 G21 hK hS
            refine ASL.n rfl rfl (hPutA hS (j := 0) rfl rfl sizeA_28 rfl rfl rfl rfl (allC x.h.1 (allC rfl rfl)) (nlt rfl) ?_); rintro G23 hS
            refine ASL.done ?_
            refine AWP.seqM (fun e H => ∃ y25 : Int, E.Told e [(14, (.int .i64 x14_2)), (15, w8), (18, (.ptr b18 0)), (66, w7), (67, (.int .i64 (x7_1.length : Int))), (68, (.int .i64 x68_l0))] ∧ E.Sep H [.row 2 w8 (rs.map RRs.raw), .cell b18 [x.w, (.int .i64 y25)], .row 1 w7 (es.map RIn.raw), .pool (es.flatMap RIn.rows), .snap S] ∧ impl_rankNext.k4 y7 x68_l0 x.q y25 = some x10) ?_ ?_
            · rintro e0 G28 ⟨y25, hT, hS, hF⟩; refine AWP.only _ hT ?_; unfold impl_rankNext.k4 at hF
              refine AWP.lastR rfl ?_
              refine ASL.q (v := w8) rfl rfl (Light.quiet (opMove rfl rfl)) ?_
              refine ASL.q (v := (.agg [x.w, (.int .i64 y25)])) rfl rfl (Light.quiet (kAtA hS (j := 1) rfl rfl aggA_28 sizeA_28 rfl (nlt rfl) rfl)) ?_
              refine ASL.q (v := (.list 2 (List.map RRs.raw [RRs.of x y25]))) rfl rfl ((qLit (xs := [(.agg [x.w, (.int .i64 y25)])]) rfl elemA_44 sizeA_28 zeroA_28 rfl rfl rfl rfl (by simp [cells]) (nlt rfl))) ?_
              obtain ⟨z103, hz103, hF⟩ := bindE hF
              rw [← hrs] at hz103
              obtain ⟨happ, rfl⟩ := app_map (xs := [RRs.of x y25]) (g := RRs.t) hz103
              refine ASL.x rfl rfl (hApp (f := RRs.raw) (ws := [RRs.of x y25]) hS (j := 0) rfl happ rfl elemA_44 rfl sizeA_28 bytesA_28 zeroA_28 rfl rfl rfl RRs.ones ?_); rintro v103 G26 hS
              refine ASL.q (v := v103) rfl rfl (Light.quiet (opAssign rfl rfl)) ?_
              refine ASL.done ?_
              refine QBlock.nrm ?_
              refine QThen.nrm ?_
              obtain ⟨_, hb2, _⟩ := appE happ
              have hit : x68_l0.toNat = rs.length := by omega
              have htk := ix_take hx
              obtain ⟨_, hxl, _⟩ := ixE hx
              rw [hit] at htk
              exact ⟨_, v103, rs ++ [RRs.of x y25], by simp, by simpa using hb2, by simp only [List.length_append, List.length_singleton]; omega, rfl, by rw [List.flatMap_append, hrr, List.length_append, List.length_singleton, htk, List.flatMap_append]; rfl, ⟨rfl, rfl, rfl, rfl, rfl, trivial⟩, (hS.pick [0, 2, 3, 4] rfl rfl), hF⟩
            · skip
              refine AWP.seqR rfl ?_
              refine ASL.q (v := x.w) rfl rfl (Light.quiet (opMove rfl rfl)) ?_
              refine ASL.q (v := (.int .i64 (x.q.length : Int))) rfl rfl (Light.quiet (kLenP hS (j := 3) rfl hm rfl rfl rfl lenT_26 rfl)) ?_
              refine ASL.q (v := (.int .i64 0)) rfl rfl (Light.quiet (opMove rfl rfl)) ?_
              refine ASL.done ?_
              refine AWP.block ?_
              obtain ⟨o34, hL33, hR35⟩ := bindE hF
              refine AWP.loopI (ω := Unit) hL33 (fun s _ => s.1 = x.q) (fun s w => [(14, (.int .i64 x14_2)), (15, w8), (18, (.ptr b18 0)), (66, w7), (67, (.int .i64 (x7_1.length : Int))), (68, (.int .i64 x68_l0)), (74, x.w), (75, (.int .i64 (x.q.length : Int))), (76, (.int .i64 s.2.2))]) (fun s w => [.row 2 w8 (rs.map RRs.raw), .cell b18 [x.w, (.int .i64 s.2.1)], .row 1 w7 (es.map RIn.raw), .pool (es.flatMap RIn.rows), .snap S]) () rfl ⟨rfl, rfl, rfl, rfl, rfl, rfl, rfl, rfl, rfl, trivial⟩ (hS.pick [1, 0, 2, 3, 4] rfl rfl) ?_
              rintro ⟨y29, y30, x76_l1⟩ _ G36 hy29 hS x31 hF hx32
              dsimp only at hy29 hS ⊢
              have hF : impl_rankNext.b1 x.q x14_2 y29 y30 x76_l1 = some x31 := hF; unfold impl_rankNext.b1 at hF
              refine AWP.seqR rfl ?_
              refine ASL.q (v := (.bool (decide (x76_l1 < ((x.q.length : Int)))))) rfl rfl (Light.quiet (opInt rfl rfl rfl rfl)) ?_
              refine ASL.done ?_
              refine AWP.seq ?_
              refine AWP.ifP hF rfl (fun hc37 hF => ?_) (fun hc37 hF => ?_)
              · skip
                refine AWP.skip ?_
                refine QThen.nrm ?_
                refine AWP.seq ?_
                refine AWP.block ?_
                refine AWP.seqR rfl ?_
                refine ASL.q (v := (.int .i64 x76_l1)) rfl rfl (Light.quiet (opMove rfl rfl)) ?_
                obtain ⟨a79, ha79, hF⟩ := bindE hF
                refine ASL.q (v := (ptrTo x.w x76_l1.toNat 1)) rfl rfl (Light.quiet (kIxP hS (j := 3) rfl hm ha79 rfl rfl rfl elemA_26 sizeA_3)) ?_
                refine ASL.q (v := (.int .i64 a79)) rfl rfl (Light.quiet (kLdPo (f := (AV.int .i64)) hS (j := 3) rfl hm ha79 rfl aggA_3 rfl (fun _ => rfl))) ?_
                refine ASL.q (v := (.int .i64 x76_l1)) rfl rfl (Light.quiet (opAssign rfl rfl)) ?_
                refine ASL.q (v := (.int .i64 a79)) rfl rfl (Light.quiet (opAssign rfl rfl)) ?_
                refine ASL.done ?_
                refine AWP.seqR rfl ?_
                refine ASL.q (v := (.int .i64 a79)) rfl rfl (Light.quiet (opMove rfl rfl)) ?_
                refine ASL.q (v := (.bool (decide (a79 ≥ 0)))) rfl rfl (Light.quiet (opInt rfl rfl rfl rfl)) ?_
                obtain ⟨c83, hc83, hF⟩ := bndE hF
                refine ASL.q (v := (.bool c83)) rfl rfl ((Quiet.cast (Light.quiet (opMove rfl rfl)) (congrArg AV.bool hc83.symm))) ?_
                refine ASL.g (v := (.int .i64 a79)) (.bool c83) true rfl (wT _) rfl (fun hG => by have q0 := hG; subst q0; exact Light.quiet (opMove rfl rfl)) ?_
                refine ASL.g (v := (.int .i64 (Int.tmod a79 2))) (.bool c83) true rfl (wT _) rfl (fun hG => by have q0 := hG; subst q0; exact Light.quiet (opRem rfl rfl rfl (by decide) rfl)) ?_
                refine ASL.g (v := (.bool (decide (((Int.tmod a79 2)) = 0)))) (.bool c83) true rfl (wT _) rfl (fun hG => by have q0 := hG; subst q0; exact Light.quiet (opInt rfl rfl rfl rfl)) ?_
                refine ASL.q (v := (.bool (c83 && (decide (((Int.tmod a79 2)) = 0))))) rfl rfl (Light.quiet (opPick (b := c83) rfl rfl (by cases c83 <;> rfl))) ?_
                obtain ⟨c88, hc88, hF⟩ := bndE hF
                refine ASL.q (v := (.bool c88)) rfl rfl ((Quiet.cast (Light.quiet (opMove rfl rfl)) (congrArg AV.bool hc88.symm))) ?_
                refine ASL.g (v := (.int .i64 x14_2)) (.bool c88) true rfl (wT _) rfl (fun hG => by have q0 := hG; subst q0; exact Light.quiet (opMove rfl rfl)) ?_
                refine ASL.g (v := (.int .i64 x76_l1)) (.bool c88) true rfl (wT _) rfl (fun hG => by have q0 := hG; subst q0; exact Light.quiet (opMove rfl rfl)) ?_
                refine ASL.g (v := (.bool (impl_has x14_2 x76_l1))) (.bool c88) true rfl (wT _) rfl (fun hG => by have q0 := hG; subst q0; exact (qCall rfl rfl call_50 (impl_has_ok x14_2 x76_l1) rfl)) ?_
                refine ASL.q (v := (.bool (c88 && (impl_has x14_2 x76_l1)))) rfl rfl (Light.quiet (opPick (b := c88) rfl rfl (by cases c88 <;> rfl))) ?_
                refine ASL.done ?_
                refine AWP.ifB hF rfl (fun hc38 hF => ?_) (fun hc38 hF => ?_)
                · skip
                  refine AWP.lastD [(0, false), (1, false), (2, false), (3, false), (4, false), (5, false), (6, true)] mixed (by kernel_rfl) rfl ?_
                  refine ARL.q0 (v := (.ptr b18 1)) rfl rfl (Light.quiet (opFieldAddr rfl fieldA_28_1 rfl rfl)) ?_
                  refine ARL.q (v := (.int .i64 y30)) rfl rfl (hS.aliveC (k := 1) rfl) (Light.quiet (kAt hS (j := 1) rfl rfl aggA_3 rfl rfl)) ?_
                  refine ARL.q0 (v := (.int .i64 x76_l1)) rfl rfl (Light.quiet (opMove rfl rfl)) ?_
                  refine ARL.q0 (v := (.int .i64 (impl_only x76_l1))) rfl rfl ((qCall rfl rfl call_49 (impl_only_ok x76_l1) rfl)) ?_
                  refine ARL.q0 (v := (.int .i64 (bOr .i64 y30 ((impl_only x76_l1))))) rfl rfl (Light.quiet (opInt rfl rfl rfl rfl)) ?_
                  refine ARL.q0 (v := (.ptr b18 1)) rfl rfl (Light.quiet (opFieldAddr rfl fieldA_28_1 rfl rfl)) ?_
                  refine ARL.n rfl rfl rfl rfl (hPut hS (j := 1) rfl rfl sizeA_3 rfl rfl rfl (nlt rfl) ?_); rintro G39 hS
                  refine ARL.done ?_
                  refine QBlock.nrm ?_
                  refine QThen.nrm ?_
                  refine AWP.lastR rfl ?_
                  refine ASL.q (v := (.int .i64 (W (x76_l1 + 1)))) rfl rfl (Light.quiet (opInt rfl rfl rfl rfl)) ?_
                  refine ASL.q (v := (.int .i64 (W (x76_l1 + 1)))) rfl rfl (Light.quiet (opMove rfl rfl)) ?_
                  refine ASL.done ?_
                  refine QThen.nrm ?_
                  exact ⟨(y29, (bOr .i64 y30 ((impl_only x76_l1))), (W (x76_l1 + 1))), (), (someE hF).symm, hy29, ⟨rfl, rfl, rfl, rfl, rfl, rfl, rfl, rfl, rfl, trivial⟩, hS⟩
                · skip
                  refine AWP.skip ?_
                  refine QBlock.nrm ?_
                  refine QThen.nrm ?_
                  refine AWP.lastR rfl ?_
                  refine ASL.q (v := (.int .i64 (W (x76_l1 + 1)))) rfl rfl (Light.quiet (opInt rfl rfl rfl rfl)) ?_
                  refine ASL.q (v := (.int .i64 (W (x76_l1 + 1)))) rfl rfl (Light.quiet (opMove rfl rfl)) ?_
                  refine ASL.done ?_
                  refine QThen.nrm ?_
                  exact ⟨(y29, y30, (W (x76_l1 + 1))), (), (someE hF).symm, hy29, ⟨rfl, rfl, rfl, rfl, rfl, rfl, rfl, rfl, rfl, trivial⟩, hS⟩
              · skip
                refine AWP.exit ?_
                refine QThen.ext ?_
                refine QThen.ext ?_
                refine QBlock.hit ?_
                obtain rfl := (hx32 _ (someE hF).symm)
                have hF := hR35
                refine QThen.nrm ?_
                rw [hy29] at hF
                exact ⟨y30, ⟨rfl, rfl, rfl, rfl, rfl, rfl, trivial⟩, hS, hF⟩
        · skip
          refine AWP.exit ?_
          refine QThen.ext ?_
          refine QThen.ext ?_
          refine QBlock.hit ?_
          obtain rfl := (hx11 _ (someE hF).symm)
          have hF := hR14
          refine QThen.nrm ?_
          have hall : rs.length = es.length := by omega
          exact ⟨y7, w8, rs, hrs, by rw [hrr, hall, List.take_length], ⟨rfl, trivial⟩, hS, hF⟩
    · skip
      refine AWP.seqR rfl ?_
      refine ASL.q (v := (.rptr [(.int .i64 p1.owing)])) rfl rfl (Light.quiet (opFieldAddrR rfl fieldA_28_1 rfl rfl)) ?_
      refine ASL.q (v := (.int .i64 p1.owing)) rfl rfl (Light.quiet (opLoadR rfl aggA_3 rfl rfl)) ?_
      refine ASL.q (v := (.bool (decide (p1.owing ≠ 0)))) rfl rfl (Light.quiet (opInt rfl rfl rfl rfl)) ?_
      refine ASL.done ?_
      refine AWP.ifP hF rfl (fun hc41 hF => ?_) (fun hc41 hF => ?_)
      · skip
        refine AWP.lastR rfl ?_
        refine ASL.q (v := (.rptr [(.int .i64 p1.owing)])) rfl rfl (Light.quiet (opFieldAddrR rfl fieldA_28_1 rfl rfl)) ?_
        refine ASL.q (v := (.int .i64 p1.owing)) rfl rfl (Light.quiet (opLoadR rfl aggA_3 rfl rfl)) ?_
        refine ASL.q (v := (.int .i64 p2)) rfl rfl (Light.quiet (opMove rfl rfl)) ?_
        obtain ⟨a65, ha65, hF⟩ := bindE hF
        refine ASL.q (v := (.int .i64 a65)) rfl rfl ((qCall rfl rfl call_65 (impl_Auto_step_ok ha65) rfl)) ?_
        refine ASL.q (v := (.int .i64 a65)) rfl rfl (Light.quiet (opAssign rfl rfl)) ?_
        refine ASL.done ?_
        refine QThen.nrm ?_
        exact ⟨a65, ⟨rfl, rfl, trivial⟩, hS, hF⟩
      · skip
        refine AWP.skip ?_
        refine QThen.nrm ?_
        exact ⟨(W (((impl_only p0.states)) - 1)), ⟨rfl, rfl, trivial⟩, hS, hF⟩
  · skip
    refine AWP.seqR rfl ?_
    refine ASL.q (v := (TAuto.av p0)) rfl rfl (Light.quiet (opLoadRA rfl aggA_33 sizeA_33 rfl (nlt rfl) rfl)) ?_
    refine ASL.q (v := (TRankState.av p1)) rfl rfl (Light.quiet (opLoadRA rfl aggA_28 sizeA_28 rfl (nlt rfl) rfl)) ?_
    refine ASL.q (v := (.int .i64 p2)) rfl rfl (Light.quiet (opMove rfl rfl)) ?_
    obtain ⟨a25, ha25, hF⟩ := bindE hF
    refine ASL.q (v := (.list 1 (List.map (AV.int .i64) a25))) rfl rfl ((qCall rfl rfl call_63 (PO.list (impl_bounds_ok ha25)) rfl)) ?_
    refine ASL.q (v := (.int .i64 (a25.length : Int))) rfl rfl (Light.quiet (opLenMap (f := (AV.int .i64)) rfl rfl rfl lenT_26 rfl)) ?_
    refine ASL.q (v := (.int .i64 0)) rfl rfl (Light.quiet (opMove rfl rfl)) ?_
    refine ASL.done ?_
    refine AWP.block ?_
    obtain ⟨o46, hL45, hR47⟩ := bindE hF
    refine AWP.loopI (ω := AV × List RIn) hL45 (fun s w => w.2.map RIn.t = s.1) (fun s w => [(2, (.int .i64 p2)), (3, (.rptr [(.int .i64 p0.letters), (.int .i64 p0.states), (.int .i64 p0.start), (.list 4 (List.map TEdge.av p0.edges))])), (4, (.rptr [(.list 1 (List.map (AV.int .i64) p1.ranks)), (.int .i64 p1.owing)])), (7, w.1), (25, (.list 1 (List.map (AV.int .i64) a25))), (26, (.int .i64 (a25.length : Int))), (27, (.int .i64 s.2))]) (fun s w => [.row 1 w.1 (w.2.map RIn.raw), .pool (w.2.flatMap RIn.rows), .snap S]) (v21, [RIn.none]) rfl ⟨rfl, rfl, rfl, rfl, rfl, rfl, rfl, trivial⟩ hS ?_
    rintro ⟨x7_l2, x27_l2⟩ ⟨w7, es⟩ G48 hes hS x43 hF hx44
    dsimp only at hes hS ⊢
    have hlen : es.length = x7_l2.length := by rw [← hes, List.length_map]
    have hF : impl_rankNext.b2 a25 x7_l2 x27_l2 = some x43 := hF; unfold impl_rankNext.b2 at hF
    refine AWP.seqR rfl ?_
    refine ASL.q (v := (.bool (decide (x27_l2 < ((a25.length : Int)))))) rfl rfl (Light.quiet (opInt rfl rfl rfl rfl)) ?_
    refine ASL.done ?_
    refine AWP.seq ?_
    refine AWP.ifP hF rfl (fun hc49 hF => ?_) (fun hc49 hF => ?_)
    · skip
      refine AWP.skip ?_
      refine QThen.nrm ?_
      refine AWP.seqM (fun e H => ∃ x7_6 : (List (List Int)), ∃ w7 : AV, ∃ es : List RIn, es.map RIn.t = x7_6 ∧ E.Told e [(2, (.int .i64 p2)), (3, (.rptr [(.int .i64 p0.letters), (.int .i64 p0.states), (.int .i64 p0.start), (.list 4 (List.map TEdge.av p0.edges))])), (4, (.rptr [(.list 1 (List.map (AV.int .i64) p1.ranks)), (.int .i64 p1.owing)])), (7, w7), (25, (.list 1 (List.map (AV.int .i64) a25))), (26, (.int .i64 (a25.length : Int))), (27, (.int .i64 x27_l2))] ∧ E.Sep H [.row 1 w7 (es.map RIn.raw), .pool (es.flatMap RIn.rows), .snap S] ∧ impl_rankNext.k5 x27_l2 x7_6 = some x43) ?_ ?_
      · rintro e0 G50 ⟨x7_6, w7, es, hes, hT, hS, hF⟩; refine AWP.only _ hT ?_; unfold impl_rankNext.k5 at hF
        refine AWP.lastR rfl ?_
        refine ASL.q (v := (.int .i64 (W (x27_l2 + 1)))) rfl rfl (Light.quiet (opInt rfl rfl rfl rfl)) ?_
        refine ASL.q (v := (.int .i64 (W (x27_l2 + 1)))) rfl rfl (Light.quiet (opMove rfl rfl)) ?_
        refine ASL.done ?_
        refine QThen.nrm ?_
        exact ⟨(x7_6, (W (x27_l2 + 1))), (w7, es), (someE hF).symm, hes, ⟨rfl, rfl, rfl, rfl, rfl, rfl, rfl, trivial⟩, hS⟩
      · skip
        refine AWP.block ?_
        refine AWP.seqR rfl ?_
        obtain ⟨a29, ha29, hF⟩ := bindE hF
        refine ASL.q (v := (.rptr [(.int .i64 a29)])) rfl rfl (Light.quiet (kIx (f := (AV.int .i64)) ha29 rfl rfl rfl elemA_26 sizeA_3 rfl)) ?_
        refine ASL.q (v := (.int .i64 a29)) rfl rfl (Light.quiet (opLoadR rfl aggA_3 rfl rfl)) ?_
        refine ASL.q (v := (.int .i64 a29)) rfl rfl (Light.quiet (opAssign rfl rfl)) ?_
        refine ASL.done ?_
        refine AWP.seqR rfl ?_
        have hS := (hNil (s := 1) (f := RIn.raw) hS.newPool)
        refine ASL.q (v := .nil) rfl rfl (Light.quiet (opAssign rfl rfl)) ?_
        refine ASL.done ?_
        refine AWP.seqM (fun e H => ∃ y52 : (List (List Int)), ∃ w53 : AV, ∃ es2 : List RIn, es2.map RIn.t = y52 ∧ E.Told e [(2, (.int .i64 p2)), (3, (.rptr [(.int .i64 p0.letters), (.int .i64 p0.states), (.int .i64 p0.start), (.list 4 (List.map TEdge.av p0.edges))])), (4, (.rptr [(.list 1 (List.map (AV.int .i64) p1.ranks)), (.int .i64 p1.owing)])), (10, w53), (25, (.list 1 (List.map (AV.int .i64) a25))), (26, (.int .i64 (a25.length : Int))), (27, (.int .i64 x27_l2))] ∧ E.Sep H [.row 1 w53 (es2.map RIn.raw), .pool (es2.flatMap RIn.rows), .row 1 w7 (es.map RIn.raw), .pool (es.flatMap RIn.rows), .snap S] ∧ impl_rankNext.k6 x27_l2 y52 = some x43) ?_ ?_
        · rintro e0 G56 ⟨y52, w53, es2, hes2, hT, hS, hF⟩; refine AWP.only _ hT ?_; unfold impl_rankNext.k6 at hF
          refine AWP.lastR rfl ?_
          refine ASL.q (v := w53) rfl rfl (Light.quiet (opMove rfl rfl)) ?_
          refine ASL.q (v := w53) rfl rfl (Light.quiet (opAssign rfl rfl)) ?_
          refine ASL.done ?_
          refine QBlock.nrm ?_
          refine QThen.nrm ?_
          exact ⟨y52, w53, es2, hes2, ⟨rfl, rfl, rfl, rfl, rfl, rfl, rfl, trivial⟩, (hS.pick [0, 1, 4] rfl rfl), hF⟩
        · skip
          refine AWP.seqR rfl ?_
          refine ASL.q (v := w7) rfl rfl (Light.quiet (opMove rfl rfl)) ?_
          refine ASL.q (v := (.int .i64 (x7_l2.length : Int))) rfl rfl (Quiet.cast (Light.quiet (kLen hS (j := 2) rfl rfl rfl rfl lenT_85 rfl)) (by rw [hlen])) ?_
          refine ASL.q (v := (.int .i64 0)) rfl rfl (Light.quiet (opMove rfl rfl)) ?_
          refine ASL.done ?_
          refine AWP.block ?_
          obtain ⟨o63, hL62, hR64⟩ := bindE hF
          refine AWP.loopI (ω := AV × List RIn) hL62 (fun s w => w.2.map RIn.t = s.1) (fun s w => [(2, (.int .i64 p2)), (3, (.rptr [(.int .i64 p0.letters), (.int .i64 p0.states), (.int .i64 p0.start), (.list 4 (List.map TEdge.av p0.edges))])), (4, (.rptr [(.list 1 (List.map (AV.int .i64) p1.ranks)), (.int .i64 p1.owing)])), (9, (.int .i64 a29)), (10, w.1), (25, (.list 1 (List.map (AV.int .i64) a25))), (26, (.int .i64 (a25.length : Int))), (27, (.int .i64 x27_l2)), (31, w7), (32, (.int .i64 (x7_l2.length : Int))), (33, (.int .i64 s.2))]) (fun s w => [.row 1 w.1 (w.2.map RIn.raw), .pool (w.2.flatMap RIn.rows), .row 1 w7 (es.map RIn.raw), .pool (es.flatMap RIn.rows), .snap S]) (.nil, []) rfl ⟨rfl, rfl, rfl, rfl, rfl, rfl, rfl, rfl, rfl, rfl, rfl, trivial⟩ hS ?_
          rintro ⟨y57, x33_l3⟩ ⟨w58, es3⟩ G65 hes3 hS x60 hF hx61
          dsimp only at hes3 hS ⊢
          have hF : impl_rankNext.b3 x7_l2 a29 y57 x33_l3 = some x60 := hF; unfold impl_rankNext.b3 at hF
          refine AWP.seqR rfl ?_
          refine ASL.q (v := (.bool (decide (x33_l3 < ((x7_l2.length : Int)))))) rfl rfl (Light.quiet (opInt rfl rfl rfl rfl)) ?_
          refine ASL.done ?_
          refine AWP.seq ?_
          refine AWP.ifP hF rfl (fun hc66 hF => ?_) (fun hc66 hF => ?_)
          · skip
            refine AWP.skip ?_
            refine QThen.nrm ?_
            refine AWP.seqM (fun e H => ∃ y67 : (List (List Int)), ∃ w68 : AV, ∃ es4 : List RIn, es4.map RIn.t = y67 ∧ E.Told e [(2, (.int .i64 p2)), (3, (.rptr [(.int .i64 p0.letters), (.int .i64 p0.states), (.int .i64 p0.start), (.list 4 (List.map TEdge.av p0.edges))])), (4, (.rptr [(.list 1 (List.map (AV.int .i64) p1.ranks)), (.int .i64 p1.owing)])), (9, (.int .i64 a29)), (10, w68), (25, (.list 1 (List.map (AV.int .i64) a25))), (26, (.int .i64 (a25.length : Int))), (27, (.int .i64 x27_l2)), (31, w7), (32, (.int .i64 (x7_l2.length : Int))), (33, (.int .i64 x33_l3))] ∧ E.Sep H [.row 1 w68 (es4.map RIn.raw), .pool (es4.flatMap RIn.rows), .row 1 w7 (es.map RIn.raw), .pool (es.flatMap RIn.rows), .snap S] ∧ impl_rankNext.k7 x33_l3 y67 = some x60) ?_ ?_
            · rintro e0 G70 ⟨y67, w68, es4, hes4, hT, hS, hF⟩; refine AWP.only _ hT ?_; unfold impl_rankNext.k7 at hF
              refine AWP.lastR rfl ?_
              refine ASL.q (v := (.int .i64 (W (x33_l3 + 1)))) rfl rfl (Light.quiet (opInt rfl rfl rfl rfl)) ?_
              refine ASL.q (v := (.int .i64 (W (x33_l3 + 1)))) rfl rfl (Light.quiet (opMove rfl rfl)) ?_
              refine ASL.done ?_
              refine QThen.nrm ?_
              exact ⟨(y67, (W (x33_l3 + 1))), (w68, es4), (someE hF).symm, hes4, ⟨rfl, rfl, rfl, rfl, rfl, rfl, rfl, rfl, rfl, rfl, rfl, trivial⟩, hS⟩
            · skip
              refine AWP.block ?_
              refine AWP.seqR rfl ?_
              obtain ⟨a35, ha35, hF⟩ := bindE hF
              rw [← hes] at ha35
              obtain ⟨x, hx, hxa, hxm⟩ := ix_map ha35
              have hxa : x.q = a35 := hxa
              subst hxa
              have hm := RIn.m hxm
              refine ASL.q (v := (ptrTo w7 x33_l3.toNat 1)) rfl rfl (Light.quiet (kIxOx (f := RIn.raw) hS (j := 2) rfl hx rfl rfl rfl elemA_85 sizeA_26)) ?_
              refine ASL.q (v := x.w) rfl rfl (Light.quiet (kLd (f := RIn.raw) hS (j := 2) rfl hx rfl aggA_26 rfl RIn.cell)) ?_
              refine ASL.q (v := x.w) rfl rfl (Light.quiet (opAssign rfl rfl)) ?_
              refine ASL.done ?_
              refine AWP.seqR rfl ?_
              refine ASL.q (v := (.int .i64 a29)) rfl rfl (Light.quiet (opMove rfl rfl)) ?_
              refine ASL.q (v := (.int .i64 (mn a29 0))) rfl rfl (Light.quiet (opMin (ns := [a29, 0]) rfl rfl rfl rfl)) ?_
              refine ASL.q (v := (.int .i64 (mn a29 0))) rfl rfl (Light.quiet (opAssign rfl rfl)) ?_
              refine ASL.done ?_
              refine AWP.block ?_
              obtain ⟨o77, hL76, hR78⟩ := bindE hF
              refine AWP.loopI (ω := AV × List RIn) hL76 (fun s w => w.2.map RIn.t = s.1) (fun s w => [(2, (.int .i64 p2)), (3, (.rptr [(.int .i64 p0.letters), (.int .i64 p0.states), (.int .i64 p0.start), (.list 4 (List.map TEdge.av p0.edges))])), (4, (.rptr [(.list 1 (List.map (AV.int .i64) p1.ranks)), (.int .i64 p1.owing)])), (9, (.int .i64 a29)), (10, w.1), (12, x.w), (13, (.int .i64 s.2)), (25, (.list 1 (List.map (AV.int .i64) a25))), (26, (.int .i64 (a25.length : Int))), (27, (.int .i64 x27_l2)), (31, w7), (32, (.int .i64 (x7_l2.length : Int))), (33, (.int .i64 x33_l3))]) (fun s w => [.row 1 w.1 (w.2.map RIn.raw), .pool (w.2.flatMap RIn.rows), .row 1 w7 (es.map RIn.raw), .pool (es.flatMap RIn.rows), .snap S]) (w58, es3) hes3 ⟨rfl, rfl, rfl, rfl, rfl, rfl, rfl, rfl, rfl, rfl, rfl, rfl, rfl, trivial⟩ hS ?_
              rintro ⟨y71, x13_l4⟩ ⟨w72, es5⟩ G79 hes5 hS x74 hF hx75
              dsimp only at hes5 hS ⊢
              have hF : impl_rankNext.b4 a29 x.q y71 x13_l4 = some x74 := hF; unfold impl_rankNext.b4 at hF
              refine AWP.seq ?_
              refine AWP.seqR rfl ?_
              refine ASL.q (v := (.int .i64 x13_l4)) rfl rfl (Light.quiet (opMove rfl rfl)) ?_
              refine ASL.q (v := (.int .i64 a29)) rfl rfl (Light.quiet (opMove rfl rfl)) ?_
              refine ASL.q (v := (.bool (decide (x13_l4 ≤ a29)))) rfl rfl (Light.quiet (opInt rfl rfl rfl rfl)) ?_
              refine ASL.done ?_
              refine AWP.ifP hF rfl (fun hc80 hF => ?_) (fun hc80 hF => ?_)
              · skip
                refine AWP.skip ?_
                refine QThen.nrm ?_
                refine AWP.seq ?_
                refine AWP.block ?_
                refine AWP.lastR rfl ?_
                refine ASL.q (v := w72) rfl rfl (Light.quiet (opMove rfl rfl)) ?_
                refine ASL.q (v := x.w) rfl rfl (Light.quiet (opMove rfl rfl)) ?_
                obtain ⟨a46, ha46, hF⟩ := bindE hF
                refine ASL.x rfl rfl (hCallOR hS rfl rfl call_64 (slices_Clone_int_int_ok ha46) ⟨.pool (k := 3) rfl hm, trivial⟩ (Scal.ints _ _) ?_); rintro v46 G81 hK hS
                refine ASL.q (v := (.int .i64 x13_l4)) rfl rfl (Light.quiet (opMove rfl rfl)) ?_
                refine ASL.q (v := (.list 1 (List.map (AV.int .i64) [x13_l4]))) rfl rfl ((qLit (xs := [(.int .i64 x13_l4)]) rfl elemA_26 sizeA_3 zeroA_3 rfl rfl rfl rfl (by simp [cells]) (nlt rfl))) ?_
                obtain ⟨z49, hz49, hF⟩ := bindE hF
                refine ASL.x rfl rfl (hApp (f := (AV.int .i64)) (ws := [x13_l4]) hS (j := 0) rfl hz49 rfl elemA_26 rfl sizeA_3 bytesA_3 zeroA_3 rfl rfl rfl (fun _ => rfl) ?_); rintro v49 G83 hS
                have h49 := hS.one (k := 0) rfl
                have c49 : cells v49 = [v49] := (hS.get (k := 0) rfl : Own _ _ _ _).cells
                refine ASL.q (v := (.list 1 (List.map RIn.raw [RIn.mk v49 z49 ⟨h49, c49⟩]))) rfl rfl ((qLit (xs := [v49]) rfl elemA_85 sizeA_26 zeroA_26 rfl rfl rfl (by simp [told_one h49]) (by simp [c49]) (nlt rfl))) ?_
                obtain ⟨z51, hz51, hF⟩ := bindE hF
                rw [← hes5] at hz51
                obtain ⟨happ, rfl⟩ := app_map (xs := [RIn.mk v49 z49 ⟨h49, c49⟩]) (g := RIn.t) hz51
                refine ASL.x rfl rfl (hApp (f := RIn.raw) (ws := [RIn.mk v49 z49 ⟨h49, c49⟩]) hS (j := 1) rfl happ rfl elemA_85 rfl sizeA_26 bytesA_26 zeroA_26 rfl rfl rfl RIn.ones ?_); rintro v51 G84 hS
                have hS := (((hS.pick (L' := [.pool (es5.flatMap RIn.rows), .row 1 v49 (z49.map (AV.int .i64)), .row 1 v51 ((es5 ++ [RIn.mk v49 z49 ⟨h49, c49⟩]).map RIn.raw), .row 1 w7 (es.map RIn.raw), .pool (es.flatMap RIn.rows), .snap S]) [2, 0, 1, 3, 4, 5] rfl rfl).poolIn (k := 0) rfl).permPool (qs := (es5 ++ [RIn.mk v49 z49 ⟨h49, c49⟩]).flatMap RIn.rows) (by rw [List.flatMap_append]; exact List.perm_append_comm (l₁ := RIn.rows (RIn.mk v49 z49 ⟨h49, c49⟩)))).pick (L' := [.row 1 v51 ((es5 ++ [RIn.mk v49 z49 ⟨h49, c49⟩]).map RIn.raw), .pool ((es5 ++ [RIn.mk v49 z49 ⟨h49, c49⟩]).flatMap RIn.rows), .row 1 w7 (es.map RIn.raw), .pool (es.flatMap RIn.rows), .snap S]) [1, 0, 2, 3, 4] rfl rfl
                refine ASL.q (v := v51) rfl rfl (Light.quiet (opAssign rfl rfl)) ?_
                refine ASL.done ?_
                refine QBlock.nrm ?_
                refine QThen.nrm ?_
                refine AWP.lastR rfl ?_
                refine ASL.q (v := (.int .i64 x13_l4)) rfl rfl (Light.quiet (opMove rfl rfl)) ?_
                refine ASL.q (v := (.int .i64 (W (x13_l4 + 1)))) rfl rfl (Light.quiet (opInt rfl rfl rfl rfl)) ?_
                refine ASL.q (v := (.int .i64 (W (x13_l4 + 1)))) rfl rfl (Light.quiet (opAssign rfl rfl)) ?_
                refine ASL.done ?_
                refine QThen.nrm ?_
                exact ⟨(_, (W (x13_l4 + 1))), (v51, es5 ++ [RIn.mk v49 z49 ⟨h49, c49⟩]), (someE hF).symm, rfl, ⟨rfl, rfl, rfl, rfl, rfl, rfl, rfl, rfl, rfl, rfl, rfl, rfl, rfl, trivial⟩, hS⟩
              · skip
                refine AWP.exit ?_
                refine QThen.ext ?_
                refine QThen.ext ?_
                refine QBlock.hit ?_
                obtain rfl := (hx75 _ (someE hF).symm)
                have hF := hR78
                refine QBlock.nrm ?_
                refine QThen.nrm ?_
                exact ⟨y71, w72, es5, hes5, ⟨rfl, rfl, rfl, rfl, rfl, rfl, rfl, rfl, rfl, rfl, rfl, trivial⟩, hS, hF⟩
          · skip
            refine AWP.exit ?_
            refine QThen.ext ?_
            refine QThen.ext ?_
            refine QBlock.hit ?_
            obtain rfl := (hx61 _ (someE hF).symm)
            have hF := hR64
            refine QThen.nrm ?_
            exact ⟨y57, w58, es3, hes3, ⟨rfl, rfl, rfl, rfl, rfl, rfl, rfl, trivial⟩, hS, hF⟩
    · skip
      refine AWP.exit ?_
      refine QThen.ext ?_
      refine QThen.ext ?_
      refine QBlock.hit ?_
      obtain rfl := (hx44 _ (someE hF).symm)
      have hF := hR47
      refine QThen.nrm ?_
      exact ⟨x7_l2, w7, es, hes, ⟨rfl, rfl, rfl, rfl, trivial⟩, hS, hF⟩

end Go.Proofs.Ytllpbgcajgbfbaa
